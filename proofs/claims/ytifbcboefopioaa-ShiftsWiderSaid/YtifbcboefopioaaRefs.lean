/- Plain: what the references of layer 6 and the laws' texts come to. No condition but sizes. -/
import Derived.Test.YtifbcboefopioaaTriK
import Derived.Test.YtifbcboefopioaaAllx2
set_option linter.unusedVariables false
namespace Go.Proofs.Ytifbcboefopioaa.Tri
open Go.RowKit Go.Proofs.YtifbcboefopioaaW.PrintWords Go.Proofs.YtifbcboefopioaaW.PrintLast Go.Proofs.YtifbcboefopioaaW.PrintMore Go.Proofs.Ytifbcboefopioaa.Kit Go.Proofs.Ytifbcboefopioaa.All

theorem seinelaw06_texts_good (L : List Txt) (hl : L.length ≤ 8796093022208) (h40 : ∀ s ∈ L, s.length ≤ 40) : ∀ (d i : Nat), i + d = L.length → Ev (fun k => seinelaw06_texts.l0 k L ((L.take i).map strOfNums) (i : Int)) (L.map strOfNums, decide ((L.length : Int) ≤ 12))
  | 0, i, h => by
    refine Ev.step (fun k => by rw [seinelaw06_texts.l0]) ?_
    refine Ev.neg (by omega) ?_
    refine Ev.ret ?_
    rw [List.take_of_length_le (by omega)]
  | d + 1, i, h => by
    have hi : i < L.length := by omega
    have hs : rd_L1 L (i : Int) = L[i] := by simp [rd_L1, List.getD_eq_getElem?_getD, hi]
    refine Ev.step (fun k => by rw [seinelaw06_texts.l0]) ?_
    refine Ev.pos (by omega) (Ev.pos (by omega) (Ev.neg ?_ (Ev.pos ?_ ?_)))
    · rw [hs]; have := h40 _ (List.getElem_mem hi); omega
    · rw [List.length_map, List.length_take]; omega
    · rw [wrap_id (by omega) (by omega), show (i : Int) + 1 = ((i + 1 : Nat) : Int) by omega, hs]
      have := seinelaw06_texts_good L hl h40 d (i + 1) (by omega)
      rw [List.take_succ_eq_append_getElem hi, List.map_append] at this
      exact this
theorem seinelaw06_texts_bad (L : List Txt) (hl : L.length ≤ 8796093022208) (s : Txt) (hs40 : 40 < s.length) : ∀ (d i : Nat), i + d = L.length → s ∈ L.drop i → Ev (fun k => seinelaw06_texts.l0 k L ((L.take i).map strOfNums) (i : Int)) ([], false)
  | 0, i, h, hm => by
    rw [List.drop_eq_nil_of_le (by omega)] at hm
    cases hm
  | d + 1, i, h, hm => by
    have hi : i < L.length := by omega
    have hs : rd_L1 L (i : Int) = L[i] := by simp [rd_L1, List.getD_eq_getElem?_getD, hi]
    rw [List.drop_eq_getElem_cons hi] at hm
    refine Ev.step (fun k => by rw [seinelaw06_texts.l0]) ?_
    refine Ev.pos (by omega) (Ev.pos (by omega) ?_)
    by_cases h4 : 40 < L[i].length
    · refine Ev.pos (by rw [hs]; omega) (Ev.now _)
    · refine Ev.neg (by rw [hs]; omega) (Ev.pos ?_ ?_)
      · rw [List.length_map, List.length_take]; omega
      · rw [wrap_id (by omega) (by omega), show (i : Int) + 1 = ((i + 1 : Nat) : Int) by omega, hs]
        have hm2 : s ∈ L.drop (i + 1) := by
          rcases List.mem_cons.1 hm with h0 | h0
          · subst h0; exact absurd hs40 h4
          · exact h0
        have := seinelaw06_texts_bad L hl s hs40 d (i + 1) (by omega) hm2
        rw [List.take_succ_eq_append_getElem hi, List.map_append] at this
        exact this
theorem seinelaw14_texts_good (L : List Txt) (hl : L.length ≤ 8796093022208) (h40 : ∀ s ∈ L, s.length ≤ 40) : ∀ (d i : Nat), i + d = L.length → Ev (fun k => seinelaw14_texts.l0 k L ((L.take i).map strOfNums) (i : Int)) (L.map strOfNums, decide ((L.length : Int) ≤ 12))
  | 0, i, h => by
    refine Ev.step (fun k => by rw [seinelaw14_texts.l0]) ?_
    refine Ev.neg (by omega) ?_
    refine Ev.ret ?_
    rw [List.take_of_length_le (by omega)]
  | d + 1, i, h => by
    have hi : i < L.length := by omega
    have hs : rd_L1 L (i : Int) = L[i] := by simp [rd_L1, List.getD_eq_getElem?_getD, hi]
    refine Ev.step (fun k => by rw [seinelaw14_texts.l0]) ?_
    refine Ev.pos (by omega) (Ev.pos (by omega) (Ev.neg ?_ (Ev.pos ?_ ?_)))
    · rw [hs]; have := h40 _ (List.getElem_mem hi); omega
    · rw [List.length_map, List.length_take]; omega
    · rw [wrap_id (by omega) (by omega), show (i : Int) + 1 = ((i + 1 : Nat) : Int) by omega, hs]
      have := seinelaw14_texts_good L hl h40 d (i + 1) (by omega)
      rw [List.take_succ_eq_append_getElem hi, List.map_append] at this
      exact this
theorem seinelaw14_texts_bad (L : List Txt) (hl : L.length ≤ 8796093022208) (s : Txt) (hs40 : 40 < s.length) : ∀ (d i : Nat), i + d = L.length → s ∈ L.drop i → Ev (fun k => seinelaw14_texts.l0 k L ((L.take i).map strOfNums) (i : Int)) ([], false)
  | 0, i, h, hm => by
    rw [List.drop_eq_nil_of_le (by omega)] at hm
    cases hm
  | d + 1, i, h, hm => by
    have hi : i < L.length := by omega
    have hs : rd_L1 L (i : Int) = L[i] := by simp [rd_L1, List.getD_eq_getElem?_getD, hi]
    rw [List.drop_eq_getElem_cons hi] at hm
    refine Ev.step (fun k => by rw [seinelaw14_texts.l0]) ?_
    refine Ev.pos (by omega) (Ev.pos (by omega) ?_)
    by_cases h4 : 40 < L[i].length
    · refine Ev.pos (by rw [hs]; omega) (Ev.now _)
    · refine Ev.neg (by rw [hs]; omega) (Ev.pos ?_ ?_)
      · rw [List.length_map, List.length_take]; omega
      · rw [wrap_id (by omega) (by omega), show (i : Int) + 1 = ((i + 1 : Nat) : Int) by omega, hs]
        have hm2 : s ∈ L.drop (i + 1) := by
          rcases List.mem_cons.1 hm with h0 | h0
          · subst h0; exact absurd hs40 h4
          · exact h0
        have := seinelaw14_texts_bad L hl s hs40 d (i + 1) (by omega) hm2
        rw [List.take_succ_eq_append_getElem hi, List.map_append] at this
        exact this

theorem str_inj {a b : Txt} (ha : Bytes a) (hb : Bytes b) : (strOfNums a).toList = (strOfNums b).toList ↔ a = b := toList_str_inj ha hb
theorem rd_map (L : List Txt) {i : Nat} {s : Txt} (h : L[i]? = some s) : rdOf ByteArray.empty (L.map strOfNums) (i : Int) = strOfNums s := by
  simp [rdOf, List.getD_eq_getElem?_getD, h]
theorem place_runs (L : List Txt) (s : Txt) (hL : ∀ x ∈ L, Bytes x) (hs : Bytes s) (hl : L.length ≤ 4611686018427387904) : ∀ (d i : Nat), i + d = L.length → s ∉ L.take i → Ev (fun k => seineref06_Place.l0 k (L.map strOfNums) (strOfNums s) (i : Int)) (place L s)
  | 0, i, h, hn => by
    rw [List.take_of_length_le (by omega)] at hn
    refine Ev.step (fun k => by rw [seineref06_Place.l0]) ?_
    refine Ev.neg (by rw [List.length_map]; omega) ?_
    exact Ev.ret (place_no hn).symm
  | d + 1, i, h, hn => by
    have hi : i < L.length := by omega
    have hx : L[i]? = some L[i] := List.getElem?_eq_getElem hi
    refine Ev.step (fun k => by rw [seineref06_Place.l0]) ?_
    refine Ev.pos (by rw [List.length_map]; omega) (Ev.pos (by omega) ?_)
    rw [rd_map L hx]
    by_cases e : L[i] = s
    · refine Ev.pos (by rw [e]) ?_
      refine Ev.ret ?_
      rw [place_mem (by rw [← e]; exact List.getElem_mem hi)]
      have h1 := place_first (l := L) (s := s) (i := i) (by rw [hx, e])
      have hm : s ∈ L := by rw [← e]; exact List.getElem_mem hi
      rw [place_mem hm] at h1
      have h2 : ¬ L.idxOf s < i := by
        intro h2
        apply hn
        have h3 := List.idxOf_lt_length_iff.2 hm
        have h4 := List.getElem_idxOf h3
        rw [List.mem_iff_getElem?]
        exact ⟨L.idxOf s, by rw [List.getElem?_take, if_pos h2, List.getElem?_eq_getElem h3, h4]⟩
      omega
    · refine Ev.neg (by rw [str_inj (hL _ (List.getElem_mem hi)) hs]; exact e) ?_
      rw [wrap_id (by omega) (by omega), show (i : Int) + 1 = ((i + 1 : Nat) : Int) by omega]
      refine place_runs L s hL hs hl d (i + 1) (by omega) ?_
      rw [List.take_succ_eq_append_getElem hi]
      intro hm
      rcases List.mem_append.1 hm with h0 | h0
      · exact hn h0
      · simp at h0; exact e h0.symm
theorem place_ev (L : List Txt) (s : Txt) (hL : ∀ x ∈ L, Bytes x) (hs : Bytes s) (hl : L.length ≤ 4611686018427387904) : Ev (fun k => seineref06_Place.f k (L.map strOfNums) (strOfNums s)) (place L s) :=
  place_runs L s hL hs hl L.length 0 (by omega) (by simp)
theorem extract0 (s : Txt) (n : Nat) : (strOfNums s).extract 0 n = strOfNums (s.take n) := by
  rw [extract_str]
  simp
end Go.Proofs.Ytifbcboefopioaa.Tri
