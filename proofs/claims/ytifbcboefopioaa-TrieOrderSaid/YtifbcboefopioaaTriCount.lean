/- Plain: how many unlike texts there are. No condition. -/
import Derived.Test.YtifbcboefopioaaTriL
set_option linter.unusedVariables false
namespace Go.Proofs.Ytifbcboefopioaa.Tri
open Go.RowKit

theorem nodup_le {α : Type} [DecidableEq α] : ∀ (l m : List α), l.Nodup → (∀ x ∈ l, x ∈ m) → l.length ≤ m.length
  | [], m, _, _ => Nat.zero_le _
  | x :: l, m, hn, hm => by
    have hx := hm x (by simp)
    have h1 := List.nodup_cons.1 hn
    have := nodup_le l (m.erase x) h1.2 (fun y hy => (List.mem_erase_of_ne (fun e : y = x => h1.1 (by rw [← e]; exact hy))).2 (hm y (by simp [hy])))
    have h2 := List.length_erase_of_mem hx
    have h3 := List.length_pos_of_mem hx
    rw [List.length_cons]
    omega
/-- The texts among the first n that stand nowhere before. -/
def firsts (L : List Txt) : Nat → List Txt
  | 0 => []
  | n + 1 => firsts L n ++ (if place L (L.getD n []) = (n : Int) then [L.getD n []] else [])
/-- The beginnings among the first n that are texts. -/
def wordsP (L P : List Txt) : Nat → List Txt
  | 0 => []
  | n + 1 => wordsP L P n ++ (if 0 ≤ place L (P.getD n []) then [P.getD n []] else [])
theorem firsts_len (L : List Txt) : ∀ n, (firsts L n).length ≤ n
  | 0 => Nat.le_refl _
  | n + 1 => by
    have := firsts_len L n
    rw [firsts, List.length_append]
    split <;> simp <;> omega
theorem wordsP_len (L P : List Txt) : ∀ n, (wordsP L P n).length ≤ n
  | 0 => Nat.le_refl _
  | n + 1 => by
    have := wordsP_len L P n
    rw [wordsP, List.length_append]
    split <;> simp <;> omega
theorem firsts_next {L : List Txt} {n : Nat} {s : Txt} (h : L[n]? = some s) : firsts L (n + 1) = firsts L n ++ (if place L s = (n : Int) then [s] else []) := by
  rw [firsts, List.getD_eq_getElem?_getD, h]
  rfl
theorem wordsP_next {L P : List Txt} {n : Nat} {s : Txt} (h : P[n]? = some s) : wordsP L P (n + 1) = wordsP L P n ++ (if 0 ≤ place L s then [s] else []) := by
  rw [wordsP, List.getD_eq_getElem?_getD, h]
  rfl
theorem firsts_mem (L : List Txt) : ∀ n, n ≤ L.length → ∀ x, x ∈ firsts L n ↔ x ∈ L ∧ place L x < (n : Int)
  | 0, _, x => by
    refine ⟨fun h => (by cases h), fun h => ?_⟩
    have := place_pos.2 h.1
    have := h.2
    omega
  | n + 1, hn, x => by
    obtain ⟨s, hs⟩ : ∃ s, L[n]? = some s := ⟨_, List.getElem?_eq_getElem (by omega)⟩
    have ih := firsts_mem L n (by omega) x
    rw [firsts_next hs, List.mem_append, ih]
    constructor
    · rintro (⟨h1, h2⟩ | h)
      · exact ⟨h1, by omega⟩
      · split at h
        · rename_i hp
          simp at h
          subst h
          exact ⟨List.mem_of_getElem? hs, by omega⟩
        · cases h
    · rintro ⟨h1, h2⟩
      by_cases h3 : place L x < (n : Int)
      · exact .inl ⟨h1, h3⟩
      · right
        have h4 : place L x = (n : Int) := by omega
        have h5 := place_get h4
        rw [hs] at h5
        cases h5
        rw [if_pos h4]
        simp
theorem firsts_nodup (L : List Txt) : ∀ n, n ≤ L.length → (firsts L n).Nodup
  | 0, _ => by simp [firsts]
  | n + 1, hn => by
    obtain ⟨s, hs⟩ : ∃ s, L[n]? = some s := ⟨_, List.getElem?_eq_getElem (by omega)⟩
    have ih := firsts_nodup L n (by omega)
    rw [firsts_next hs]
    split
    · rename_i hp
      rw [List.nodup_append]
      refine ⟨ih, by simp, fun a ha b hb => ?_⟩
      simp at hb
      subst hb
      rintro rfl
      have := ((firsts_mem L n (by omega) a).1 ha).2
      omega
    · simpa using ih
theorem wordsP_mem (L P : List Txt) : ∀ n, n ≤ P.length → ∀ x, x ∈ wordsP L P n ↔ x ∈ L ∧ x ∈ P.take n
  | 0, _, x => by simp [wordsP]
  | n + 1, hn, x => by
    have hi : n < P.length := by omega
    have hs : P[n]? = some P[n] := List.getElem?_eq_getElem hi
    have ih := wordsP_mem L P n (by omega) x
    rw [wordsP_next hs, List.mem_append, ih, List.take_succ_eq_append_getElem hi, List.mem_append]
    constructor
    · rintro (⟨h1, h2⟩ | h)
      · exact ⟨h1, .inl h2⟩
      · split at h
        · rename_i hp
          simp at h
          subst h
          exact ⟨place_pos.1 hp, .inr (by simp)⟩
        · cases h
    · rintro ⟨h1, h2 | h2⟩
      · exact .inl ⟨h1, h2⟩
      · right
        simp at h2
        subst h2
        rw [if_pos (place_pos.2 h1)]
        simp
theorem wordsP_nodup {L P : List Txt} (hP : P.Nodup) : ∀ n, n ≤ P.length → (wordsP L P n).Nodup
  | 0, _ => by simp [wordsP]
  | n + 1, hn => by
    have hi : n < P.length := by omega
    have hs : P[n]? = some P[n] := List.getElem?_eq_getElem hi
    have ih := wordsP_nodup (L := L) hP n (by omega)
    rw [wordsP_next hs]
    split
    · rw [List.nodup_append]
      refine ⟨ih, by simp, fun a ha b hb => ?_⟩
      simp at hb
      subst hb
      rintro rfl
      have h1 := ((wordsP_mem L P n (by omega) _).1 ha).2
      obtain ⟨k, hk⟩ := List.mem_iff_getElem?.1 h1
      have hk2 : k < n := by
        have := (List.getElem?_eq_some_iff.1 hk).1
        rw [List.length_take] at this
        omega
      rw [List.getElem?_take, if_pos hk2] at hk
      have := place_at hP hk
      rw [place_at hP hs] at this
      omega
    · simpa using ih
theorem count_same {L P : List Txt} (hP : P.Nodup) (hL : ∀ x ∈ L, x ∈ P) : (wordsP L P P.length).length = (firsts L L.length).length := by
  have h1 := firsts_nodup L L.length (Nat.le_refl _)
  have h2 := wordsP_nodup (L := L) hP P.length (Nat.le_refl _)
  have e1 : ∀ x, x ∈ firsts L L.length ↔ x ∈ L := fun x => by
    rw [firsts_mem L _ (Nat.le_refl _)]
    exact ⟨fun h => h.1, fun h => ⟨h, place_lt L x⟩⟩
  have e2 : ∀ x, x ∈ wordsP L P P.length ↔ x ∈ L := fun x => by
    rw [wordsP_mem L P _ (Nat.le_refl _), List.take_length]
    exact ⟨fun h => h.1, fun h => ⟨h, hL x h⟩⟩
  have a := nodup_le _ _ h1 (fun x hx => (e2 x).2 ((e1 x).1 hx))
  have b := nodup_le _ _ h2 (fun x hx => (e1 x).2 ((e2 x).1 hx))
  omega
end Go.Proofs.Ytifbcboefopioaa.Tri
