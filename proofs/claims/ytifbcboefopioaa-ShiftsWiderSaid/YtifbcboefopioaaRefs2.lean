/- Plain: the reference's paths and kids, and what a law's texts come to. No condition but sizes. -/
import Derived.Test.YtifbcboefopioaaRefs
set_option linter.unusedVariables false
namespace Go.Proofs.Ytifbcboefopioaa.Tri
open Go.RowKit Go.Proofs.YtifbcboefopioaaW.PrintWords Go.Proofs.YtifbcboefopioaaW.PrintLast Go.Proofs.YtifbcboefopioaaW.PrintMore Go.Proofs.Ytifbcboefopioaa.Kit Go.Proofs.Ytifbcboefopioaa.All

theorem Bytes.take {s : Txt} (h : Bytes s) (n : Nat) : Bytes (s.take n) := fun x hx => h x (List.mem_of_mem_take hx)
theorem pathsL_bytes {L : List Txt} (hB : ∀ s ∈ L, Bytes s) : ∀ x ∈ pathsL L, Bytes x :=
  pathsFrom_all L [[]] (fun x hx => by simp at hx; subst hx; intro y hy; cases hy) (fun s hs n _ => Bytes.take (hB s hs) n)
theorem addAll_bytes {P : List Txt} (hP : ∀ x ∈ P, Bytes x) {s : Txt} (hs : Bytes s) (n : Nat) (hn : n ≤ s.length) : ∀ x ∈ addAll P s n, Bytes x :=
  addAll_all hP s (fun n _ => Bytes.take hs n) n hn
theorem path_in (L : List Txt) (hl : L.length ≤ 4611686018427387904) (i : Nat) (s : Txt) (hi : L[i]? = some s) (hs : Bytes s) (hsl : s.length ≤ 1099511627776) (P : List Txt) (hP : ∀ x ∈ P, Bytes x) (hPl : P.length ≤ 1099511627776)
    (r : List ByteArray) (hx : Ev (fun k => seineref06_Paths.l0 k (L.map strOfNums) ((addAll P s s.length).map strOfNums) ((i + 1 : Nat) : Int)) r) :
    ∀ (d n : Nat), n + d = s.length → Ev (fun k => seineref06_Paths.l1 k (L.map strOfNums) ((addAll P s n).map strOfNums) (i : Int) ((n + 1 : Nat) : Int)) r
  | 0, n, h => by
    have hil := (List.getElem?_eq_some_iff.1 hi).1
    refine Ev.step (fun k => by rw [seineref06_Paths.l1]) ?_
    refine Ev.pos (by omega) (Ev.pos (by rw [List.length_map]; omega) ?_)
    rw [rd_map L hi, size_str]
    refine Ev.neg (by omega) ?_
    rw [wrap_id (by omega) (by omega), show (i : Int) + 1 = ((i + 1 : Nat) : Int) by omega]
    obtain rfl : n = s.length := by omega
    exact hx
  | d + 1, n, h => by
    have hil := (List.getElem?_eq_some_iff.1 hi).1
    refine Ev.step (fun k => by rw [seineref06_Paths.l1]) ?_
    refine Ev.pos (by omega) (Ev.pos (by rw [List.length_map]; omega) ?_)
    rw [rd_map L hi, size_str]
    refine Ev.pos (by omega) (Ev.pos (by omega) ?_)
    rw [Int.toNat_natCast, extract0]
    have hl2 := addAll_len P s n
    refine Ev.bind (place_ev _ _ (addAll_bytes hP hs n (by omega)) (Bytes.take hs _) (by omega)) ?_
    have nx := path_in L hl i s hi hs hsl P hP hPl r hx d (n + 1) (by omega)
    rw [wrap_id (by omega) (by omega), show ((n + 1 : Nat) : Int) + 1 = ((n + 1 + 1 : Nat) : Int) by omega]
    rw [addAll, addP] at nx
    by_cases hm : s.take (n + 1) ∈ addAll P s n
    · rw [if_pos hm] at nx
      exact Ev.neg (by have := place_pos.2 hm; omega) nx
    · rw [if_neg hm, List.map_append] at nx
      exact Ev.pos (place_neg.2 hm) (Ev.pos (by rw [List.length_map]; omega) nx)
theorem paths_out (L : List Txt) (hB : ∀ s ∈ L, Bytes s) (hl : L.length ≤ 1000) (h2 : ∀ s ∈ L, s.length ≤ 1000) : ∀ (d i : Nat), i + d = L.length → Ev (fun k => seineref06_Paths.l0 k (L.map strOfNums) ((pathsL (L.take i)).map strOfNums) (i : Int)) ((pathsL L).map strOfNums)
  | 0, i, h => by
    refine Ev.step (fun k => by rw [seineref06_Paths.l0]) ?_
    refine Ev.neg (by rw [List.length_map]; omega) ?_
    refine Ev.ret ?_
    rw [List.take_of_length_le (by omega)]
  | d + 1, i, h => by
    have hi : i < L.length := by omega
    have hx : L[i]? = some L[i] := List.getElem?_eq_getElem hi
    have hm := List.getElem_mem hi
    refine Ev.step (fun k => by rw [seineref06_Paths.l0]) ?_
    refine Ev.pos (by rw [List.length_map]; omega) ?_
    have nx := paths_out L hB hl h2 d (i + 1) (by omega)
    rw [List.take_succ_eq_append_getElem hi] at nx
    have e : pathsL (L.take i ++ [L[i]]) = addAll (pathsL (L.take i)) L[i] L[i].length := pathsFrom_snoc _ _ _
    rw [e] at nx
    have hlen : (pathsL (L.take i)).length ≤ 1 + i * 1000 := by
      have := pathsFrom_len (L.take i) [[]] 1000 (fun s hs => h2 s (List.mem_of_mem_take hs))
      rw [List.length_take, List.length_singleton, Nat.min_eq_left (by omega)] at this
      exact this
    have h3 := h2 _ hm
    have hb := pathsL_bytes (L := L.take i) (fun s hs => hB s (List.mem_of_mem_take hs))
    exact path_in L (by omega) i L[i] hx (hB _ hm) (by omega) _ hb (by omega) _ nx L[i].length 0 (by omega)
theorem paths_ev (L : List Txt) (hB : ∀ s ∈ L, Bytes s) (hl : L.length ≤ 1000) (h2 : ∀ s ∈ L, s.length ≤ 1000) : Ev (fun k => seineref06_Paths.f k (L.map strOfNums)) ((pathsL L).map strOfNums) :=
  paths_out L hB hl h2 L.length 0 (by omega)

theorem kids_runs (P : List Txt) (s : Txt) (hP : ∀ x ∈ P, Bytes x) (hs : Bytes s) (hl : P.length ≤ 4611686018427387904) (hsl : s.length ≤ 1099511627776) : ∀ (d n : Nat), n + d = 256 → Ev (fun k => seineref06_Kids.l0 k (P.map strOfNums) (strOfNums s) (strOfNums (kidsN P s n)) (n : Int)) (strOfNums (kidsN P s 256))
  | 0, n, h => by
    refine Ev.step (fun k => by rw [seineref06_Kids.l0]) ?_
    refine Ev.neg (by omega) ?_
    refine Ev.ret ?_
    rw [show n = 256 by omega]
  | d + 1, n, h => by
    refine Ev.step (fun k => by rw [seineref06_Kids.l0]) ?_
    refine Ev.pos (by omega) (Ev.bindc rfl ?_)
    have hkl := kidsN_len P s n
    rw [show (n : Int) % 256 = (n : Int) by omega]
    refine Ev.pos (by rw [size_str, size_str, List.length_singleton]; omega) ?_
    rw [append_str]
    refine Ev.bind (place_ev _ _ hP ?_ hl) ?_
    · intro x hx
      rcases List.mem_append.1 hx with h0 | h0
      · exact hs x h0
      · simp at h0; subst h0; omega
    rw [wrap_id (by omega) (by omega), show (n : Int) + 1 = ((n + 1 : Nat) : Int) by omega]
    have nx := kids_runs P s hP hs hl hsl d (n + 1) (by omega)
    rw [kidsN] at nx
    by_cases hm : s ++ [(n : Int)] ∈ P
    · rw [if_pos hm] at nx
      refine Ev.pos (place_pos.2 hm) (Ev.bindc rfl (Ev.pos (by rw [size_str, size_str, List.length_singleton]; omega) ?_))
      rw [append_str]
      exact nx
    · rw [if_neg hm, List.append_nil] at nx
      exact Ev.neg (by have := place_neg.2 hm; omega) nx
theorem kids_ev (P : List Txt) (s : Txt) (hP : ∀ x ∈ P, Bytes x) (hs : Bytes s) (hl : P.length ≤ 4611686018427387904) (hsl : s.length ≤ 1099511627776) : Ev (fun k => seineref06_Kids.f k (P.map strOfNums) (strOfNums s)) (strOfNums (kidsN P s 256)) :=
  kids_runs P s hP hs hl hsl 256 0 (by omega)
theorem texts06_ev (L : List Txt) (hl : L.length ≤ 8796093022208) : ((∀ s ∈ L, s.length ≤ 40) ∧ Ev (fun k => seinelaw06_texts.f k L) (L.map strOfNums, decide ((L.length : Int) ≤ 12))) ∨ Ev (fun k => seinelaw06_texts.f k L) ([], false) := by
  by_cases h : ∀ s ∈ L, s.length ≤ 40
  · exact .inl ⟨h, seinelaw06_texts_good L hl h L.length 0 (by omega)⟩
  · have h' : ∃ s, s ∈ L ∧ 40 < s.length := by
      refine Classical.byContradiction fun hn => h fun s hs => ?_
      exact Classical.byContradiction fun h4 => hn ⟨s, hs, by omega⟩
    obtain ⟨s, hs, h4⟩ := h'
    exact .inr (seinelaw06_texts_bad L hl s h4 L.length 0 (by omega) (by simpa using hs))
theorem texts14_ev (L : List Txt) (hl : L.length ≤ 8796093022208) : ((∀ s ∈ L, s.length ≤ 40) ∧ Ev (fun k => seinelaw14_texts.f k L) (L.map strOfNums, decide ((L.length : Int) ≤ 12))) ∨ Ev (fun k => seinelaw14_texts.f k L) ([], false) := by
  by_cases h : ∀ s ∈ L, s.length ≤ 40
  · exact .inl ⟨h, seinelaw14_texts_good L hl h L.length 0 (by omega)⟩
  · have h' : ∃ s, s ∈ L ∧ 40 < s.length := by
      refine Classical.byContradiction fun hn => h fun s hs => ?_
      exact Classical.byContradiction fun h4 => hn ⟨s, hs, by omega⟩
    obtain ⟨s, hs, h4⟩ := h'
    exact .inr (seinelaw14_texts_bad L hl s h4 L.length 0 (by omega) (by simpa using hs))
/-- What a call of texts comes to: the texts, and whether they are few and short; or none. -/
theorem texts06_two (L : List Txt) (hl : L.length ≤ 8796093022208) : ∃ (k : Nat) (r : List ByteArray) (b : Bool), seinelaw06_texts.f k L = some (r, b) ∧ (b = true → r = L.map strOfNums ∧ L.length ≤ 12 ∧ ∀ s ∈ L, s.length ≤ 40) := by
  rcases texts06_ev L hl with ⟨h, K, hK⟩ | ⟨K, hK⟩
  · exact ⟨K, _, _, hK K (Nat.le_refl _), fun hb => ⟨rfl, by have := of_decide_eq_true hb; omega, h⟩⟩
  · exact ⟨K, _, _, hK K (Nat.le_refl _), fun hb => by cases hb⟩
theorem texts14_two (L : List Txt) (hl : L.length ≤ 8796093022208) : ∃ (k : Nat) (r : List ByteArray) (b : Bool), seinelaw14_texts.f k L = some (r, b) ∧ (b = true → r = L.map strOfNums ∧ L.length ≤ 12 ∧ ∀ s ∈ L, s.length ≤ 40) := by
  rcases texts14_ev L hl with ⟨h, K, hK⟩ | ⟨K, hK⟩
  · exact ⟨K, _, _, hK K (Nat.le_refl _), fun hb => ⟨rfl, by have := of_decide_eq_true hb; omega, h⟩⟩
  · exact ⟨K, _, _, hK K (Nat.le_refl _), fun hb => by cases hb⟩
theorem paths_two (L : List Txt) (hB : ∀ s ∈ L, Bytes s) (hl : L.length ≤ 1000) (h2 : ∀ s ∈ L, s.length ≤ 1000) : ∃ k, seineref06_Paths.f k (L.map strOfNums) = some ((pathsL L).map strOfNums) := by
  obtain ⟨K, hK⟩ := paths_ev L hB hl h2
  exact ⟨K, hK K (Nat.le_refl _)⟩
theorem place_two (L : List Txt) (s : Txt) (hL : ∀ x ∈ L, Bytes x) (hs : Bytes s) (hl : L.length ≤ 4611686018427387904) : ∃ k, seineref06_Place.f k (L.map strOfNums) (strOfNums s) = some (place L s) := by
  obtain ⟨K, hK⟩ := place_ev L s hL hs hl
  exact ⟨K, hK K (Nat.le_refl _)⟩
theorem kids_two (P : List Txt) (s : Txt) (hP : ∀ x ∈ P, Bytes x) (hs : Bytes s) (hl : P.length ≤ 4611686018427387904) (hsl : s.length ≤ 1099511627776) : ∃ k, seineref06_Kids.f k (P.map strOfNums) (strOfNums s) = some (strOfNums (kidsN P s 256)) := by
  obtain ⟨K, hK⟩ := kids_ev P s hP hs hl hsl
  exact ⟨K, hK K (Nat.le_refl _)⟩
end Go.Proofs.Ytifbcboefopioaa.Tri
