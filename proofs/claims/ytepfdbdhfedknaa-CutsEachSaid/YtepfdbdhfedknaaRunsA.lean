/- What the printed words of layer 19 answer, with rounds enough: the reference's places and pieces are the program's. No condition but on lengths. -/
import Derived.Test.YtepfdbdhfedknaaAllx2
import Derived.Test.YtepfdbdhfedknaaHand
import Derived.Test.YtepfdbdhfedknaaHandE
import Derived.Test.YtepfdbdhfedknaaKit
set_option linter.unusedVariables false
namespace Go.Proofs.Ytepfdbdhfedknaa.Runs
open Go.RowKit Go.Proofs.YtepfdbdhfedknaaW.PrintWords Go.Proofs.YtepfdbdhfedknaaW.PrintMore Go.Proofs.Ytepfdbdhfedknaa.Kit Go.Proofs.Ytepfdbdhfedknaa.All
theorem awake19 : Ev (fun k => seinelaw19_awake.f k) true := Ev.of (fun k => seinelaw19_awake.mono k) (k := 60) (by decide +kernel)
theorem places_ev (n : Int) (l : List Int) (hl : l.length < 1099511627776) : Ev (fun k => cuts_Places.f k n l) (placesL n 0 l) := ⟨l.length + 1, fun k hk => places_f n l hl (by omega)⟩
theorem next_nat (i : Nat) (h : i < 1099511627776) : wrap64 ((i : Int) + 1) = ((i + 1 : Nat) : Int) := by rw [wrap_id (by omega) (by omega)]; omega
theorem rplaces_l0 (n : Int) (l : List Int) (hl : l.length < 1099511627776) : ∀ (m i : Nat) (out : List Int) (last : Int), m = l.length - i → out.length = i → i ≤ l.length →
    Ev (fun k => seineref19_Places.l0 k (mx n 0) l out last (i : Int)) (out ++ placesL n last (l.drop i)) := by
  intro m
  induction m with
  | zero =>
    intro i out last hm h1 h2
    refine Ev.step (fun k => by rw [seineref19_Places.l0]) ?_
    refine Ev.neg (by omega) ?_
    rw [List.drop_of_length_le (by omega), placesL, List.append_nil]
    exact Ev.now _
  | succ m ih =>
    intro i out last hm h1 h2
    refine Ev.step (fun k => by rw [seineref19_Places.l0]) ?_
    refine Ev.pos (by omega) ?_
    refine Ev.pos (by omega) ?_
    rw [rd_drop (show i < l.length by omega), placesL, next_nat i (by omega)]
    have go : ∀ q : Int, q = mn (mx (rd l i) last) (mx n 0) → Ev (fun k => if out.length < 17592186044416 then seineref19_Places.l0 k (mx n 0) l (out ++ [q]) q ((i + 1 : Nat) : Int) else none) (out ++ mn (mx (rd l i) last) (mx n 0) :: placesL n (mn (mx (rd l i) last) (mx n 0)) (l.drop (i + 1))) := by
      intro q hq
      rw [← hq]
      refine Ev.pos (by omega) ?_
      have := ih (i + 1) (out ++ [q]) q (by omega) (by simp [h1]) (by omega)
      simpa using this
    by_cases c1 : rd l i < last
    · refine Ev.pos c1 ?_
      by_cases c2 : last > mx n 0
      · exact Ev.pos c2 (go _ (by unfold mn; rw [show mx (rd l i) last = last by unfold mx; rw [if_pos c1]]; rw [if_pos c2]))
      · exact Ev.neg c2 (go _ (by unfold mn; rw [show mx (rd l i) last = last by unfold mx; rw [if_pos c1]]; rw [if_neg (by omega)]))
    · refine Ev.neg c1 ?_
      by_cases c2 : rd l i > mx n 0
      · exact Ev.pos c2 (go _ (by unfold mn; rw [show mx (rd l i) last = rd l i by unfold mx; rw [if_neg c1]]; rw [if_pos c2]))
      · exact Ev.neg c2 (go _ (by unfold mn; rw [show mx (rd l i) last = rd l i by unfold mx; rw [if_neg c1]]; rw [if_neg (by omega)]))
theorem rplaces_ev (n : Int) (l : List Int) (hl : l.length < 1099511627776) : Ev (fun k => seineref19_Places.f k n l) (placesL n 0 l) := by
  have key := rplaces_l0 n l hl _ 0 [] 0 rfl rfl (Nat.zero_le _)
  simp only [List.nil_append, List.drop_zero] at key
  unfold seineref19_Places.f
  by_cases h : n < 0
  · refine Ev.pos h ?_
    refine Ev.step (fun k => by rw [seineref19_Places.j0]) ?_
    rw [show mx n 0 = 0 by unfold mx; rw [if_pos h]] at key
    exact key
  · refine Ev.neg h ?_
    refine Ev.step (fun k => by rw [seineref19_Places.j0]) ?_
    rw [show mx n 0 = n by unfold mx; rw [if_neg h]] at key
    exact key
theorem rpieces_l0 (l ps : List Int) (hl : l.length < 1099511627776) (hp : ps.length < 1099511627776) : ∀ (m i : Nat) (out : List ByteArray) (last : Int), m = ps.length - i → out.length = i → i ≤ ps.length → 0 ≤ last → Up l.length last (ps.drop i ++ [(l.length : Int)]) →
    Ev (fun k => seineref19_Pieces.l0 k (strOfNums l) ps out last (i : Int)) (out ++ (piecesP l last (ps.drop i ++ [(l.length : Int)])).map strOfNums) := by
  intro m
  induction m with
  | zero =>
    intro i out last hm h1 h2 h3 hu
    refine Ev.step (fun k => by rw [seineref19_Pieces.l0]) ?_
    refine Ev.neg (by omega) ?_
    rw [List.drop_of_length_le (by omega), List.nil_append] at hu ⊢
    obtain ⟨u1, _, _⟩ := hu
    refine Ev.pos h3 ?_
    rw [size_str]
    refine Ev.pos u1 ?_
    refine Ev.pos (by omega) ?_
    refine Ev.ret ?_
    rw [extract_str]
    simp [piecesP]
  | succ m ih =>
    intro i out last hm h1 h2 h3 hu
    refine Ev.step (fun k => by rw [seineref19_Pieces.l0]) ?_
    refine Ev.pos (by omega) ?_
    refine Ev.pos (by omega) ?_
    rw [rd_drop (show i < ps.length by omega), List.cons_append] at hu ⊢
    obtain ⟨u1, u2, u3⟩ := hu
    refine Ev.pos h3 ?_
    refine Ev.pos u1 ?_
    rw [size_str]
    refine Ev.pos u2 ?_
    refine Ev.pos (by omega) ?_
    rw [extract_str, next_nat i (by omega)]
    have := ih (i + 1) (out ++ [strOfNums ((l.take (rd ps i).toNat).drop last.toNat)]) (rd ps i) (by omega) (by simp [h1]) (by omega) (by omega) u3
    simpa [piecesP] using this
theorem rpieces_ev (l cs : List Int) (hl : l.length < 1099511627776) (hc : cs.length < 1099511627776) : Ev (fun k => seineref19_Pieces.f k (strOfNums l) cs) ((piecesP l 0 (placesL l.length 0 cs ++ [(l.length : Int)])).map strOfNums) := by
  unfold seineref19_Pieces.f
  rw [size_str]
  refine Ev.bind (rplaces_ev _ cs hc) ?_
  have := rpieces_l0 l (placesL l.length 0 cs) hl (by rw [placesL_length]; exact hc) _ 0 [] 0 rfl rfl (Nat.zero_le _) (Int.le_refl _) (up_places _ cs 0 (by omega) (by omega) (by omega))
  simpa using this
theorem same_l0 (xs : List (List Int)) (hl : xs.length < 1099511627776) : ∀ (m i : Nat), m = xs.length - i → i ≤ xs.length → Ev (fun k => seinelaw19_same.l0 k xs (xs.map strOfNums) (i : Int)) true := by
  intro m
  induction m with
  | zero =>
    intro i hm h
    refine Ev.step (fun k => by rw [seinelaw19_same.l0]) ?_
    exact Ev.neg (by omega) (Ev.now _)
  | succ m ih =>
    intro i hm h
    refine Ev.step (fun k => by rw [seinelaw19_same.l0]) ?_
    have hi : i < xs.length := by omega
    refine Ev.pos (by omega) ?_
    refine Ev.pos (by omega) ?_
    refine Ev.pos (by rw [List.length_map]; omega) ?_
    refine Ev.pos (by simp [rd_L1, rdOf, List.getD_eq_getElem?_getD, hi]) ?_
    rw [next_nat i (by omega)]
    exact ih (i + 1) (by omega) (by omega)
theorem same_ev (xs : List (List Int)) (hl : xs.length < 1099511627776) : Ev (fun k => seinelaw19_same.f k xs (xs.map strOfNums)) true := by
  unfold seinelaw19_same.f
  refine Ev.pos (by rw [List.length_map]) ?_
  exact same_l0 xs hl _ 0 rfl (Nat.zero_le _)
theorem same7_l0 (l : List Int) (hl : l.length < 1099511627776) : ∀ (m i : Nat), m = l.length - i → i ≤ l.length → Ev (fun k => seineref07_Same.l0 k l l (i : Int)) true := by
  intro m
  induction m with
  | zero =>
    intro i hm h
    refine Ev.step (fun k => by rw [seineref07_Same.l0]) ?_
    exact Ev.neg (by omega) (Ev.now _)
  | succ m ih =>
    intro i hm h
    refine Ev.step (fun k => by rw [seineref07_Same.l0]) ?_
    refine Ev.pos (by omega) ?_
    refine Ev.pos (by omega) ?_
    refine Ev.pos (by omega) ?_
    refine Ev.pos rfl ?_
    rw [next_nat i (by omega)]
    exact ih (i + 1) (by omega) (by omega)
theorem same7_ev (l : List Int) (hl : l.length < 1099511627776) : Ev (fun k => seineref07_Same.f k l l) true := by
  unfold seineref07_Same.f
  refine Ev.pos rfl ?_
  exact same7_l0 l hl _ 0 rfl (Nat.zero_le _)
end Go.Proofs.Ytepfdbdhfedknaa.Runs
