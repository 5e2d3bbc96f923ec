/- Plain: texts in another order, and one of them once more: the same beginnings, the same bytes that lead on. No condition. -/
import Derived.Test.YtifbcboefopioaaTriApp
import Derived.Test.YtifbcboefopioaaTriCount
set_option linter.unusedVariables false
namespace Go.Proofs.Ytifbcboefopioaa.Tri
open Go.RowKit

theorem mem_paths {L : List Txt} {x : Txt} : x ∈ pathsL L ↔ x = [] ∨ ∃ s ∈ L, ∃ n, x = s.take n := by
  constructor
  · exact fun h => pathsFrom_all (p := fun x => x = [] ∨ ∃ s ∈ L, ∃ n, x = s.take n) L [[]] (fun x hx => by simp at hx; exact .inl hx) (fun s hs n _ => .inr ⟨s, hs, n, rfl⟩) x h
  · rintro (rfl | ⟨s, hs, n, rfl⟩)
    · exact (pathsL_good L).nil_mem
    · exact (pathsL_good L).prefix (pathsL_mem L s hs) n
theorem paths_same {L O : List Txt} (h : ∀ x, x ∈ L ↔ x ∈ O) (x : Txt) : x ∈ pathsL L ↔ x ∈ pathsL O := by
  rw [mem_paths, mem_paths]
  constructor
  · rintro (h0 | ⟨s, hs, n, hn⟩)
    · exact .inl h0
    · exact .inr ⟨s, (h s).1 hs, n, hn⟩
  · rintro (h0 | ⟨s, hs, n, hn⟩)
    · exact .inl h0
    · exact .inr ⟨s, (h s).2 hs, n, hn⟩
theorem paths_len_same {L O : List Txt} (h : ∀ x, x ∈ L ↔ x ∈ O) : (pathsL L).length = (pathsL O).length :=
  Nat.le_antisymm (nodup_le _ _ (pathsL_good L).nodup (fun x hx => (paths_same h x).1 hx)) (nodup_le _ _ (pathsL_good O).nodup (fun x hx => (paths_same h x).2 hx))
theorem kids_same {P Q : List Txt} (h : ∀ x, x ∈ P ↔ x ∈ Q) (s : Txt) : ∀ n, kidsN P s n = kidsN Q s n
  | 0 => rfl
  | n + 1 => by
    rw [kidsN, kidsN, kids_same h s n]
    congr 1
    by_cases hm : s ++ [(n : Int)] ∈ P
    · rw [if_pos hm, if_pos ((h _).1 hm)]
    · rw [if_neg hm, if_neg (fun hq => hm ((h _).2 hq))]
theorem place_same {P Q : List Txt} (h : ∀ x, x ∈ P ↔ x ∈ Q) (s : Txt) : (0 ≤ place P s ↔ 0 ≤ place Q s) := by
  rw [place_pos, place_pos, h]
/-- The first n of the texts in another order. -/
def turned (L : List Txt) (t n : Nat) : List Txt := (List.range n).map fun i => L.getD ((i + t) % L.length) []
theorem turned_len (L : List Txt) (t n : Nat) : (turned L t n).length = n := by simp [turned]
theorem turned_next (L : List Txt) (t n : Nat) {s : Txt} (h : L[(n + t) % L.length]? = some s) : turned L t (n + 1) = turned L t n ++ [s] := by
  rw [turned, List.range_succ, List.map_append, List.map_singleton, List.getD_eq_getElem?_getD, h]
  rfl
theorem turned_mem {L : List Txt} (hL : 0 < L.length) (t : Nat) (x : Txt) : x ∈ L ↔ x ∈ turned L t L.length := by
  unfold turned
  rw [List.mem_map]
  constructor
  · intro h
    obtain ⟨j, hj⟩ := List.mem_iff_getElem?.1 h
    have hjl := (List.getElem?_eq_some_iff.1 hj).1
    refine ⟨(j + (L.length - t % L.length)) % L.length, List.mem_range.2 (Nat.mod_lt _ hL), ?_⟩
    have hm := Nat.mod_lt t hL
    have e : ((j + (L.length - t % L.length)) % L.length + t) % L.length = j := by
      rw [Nat.mod_add_mod]
      have h2 : j + (L.length - t % L.length) + t = j + L.length * (t / L.length + 1) := by
        have h3 := Nat.div_add_mod t L.length
        rw [Nat.mul_add, Nat.mul_one]
        omega
      rw [h2, Nat.add_mul_mod_self_left, Nat.mod_eq_of_lt hjl]
    rw [e, List.getD_eq_getElem?_getD, hj]
    rfl
  · rintro ⟨i, _, rfl⟩
    have hi := Nat.mod_lt (i + t) hL
    rw [List.getD_eq_getElem?_getD, List.getElem?_eq_getElem hi]
    exact List.getElem_mem hi
theorem order_mem {L : List Txt} (t : Nat) {s : Txt} (h0 : L[0]? = some s) (x : Txt) : x ∈ L ↔ x ∈ turned L t L.length ++ [s] := by
  have hL := (List.getElem?_eq_some_iff.1 h0).1
  rw [List.mem_append, ← turned_mem hL]
  constructor
  · exact .inl
  · rintro (h | h)
    · exact h
    · simp at h
      subst h
      exact List.mem_of_getElem? h0
end Go.Proofs.Ytifbcboefopioaa.Tri
