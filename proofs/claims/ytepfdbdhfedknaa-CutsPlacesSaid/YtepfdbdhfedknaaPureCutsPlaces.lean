/- 'CutsPlaces': whatever the length and the cuts: places never fall and stay within; a cut that is a place already stays; places cut again are the same. No condition. -/
import Derived.Test.YtepfdbdhfedknaaRunsA
import Derived.Test.YtepfdbdhfedknaaAllx4
namespace Go.Proofs.Ytepfdbdhfedknaa.Pure
open Go.RowKit Go.Proofs.YtepfdbdhfedknaaW.PrintWords Go.Proofs.YtepfdbdhfedknaaW.PrintMore Go.Proofs.Ytepfdbdhfedknaa.Kit Go.Proofs.Ytepfdbdhfedknaa.All Go.Proofs.Ytepfdbdhfedknaa.Runs
theorem mx_ge (c last : Int) : last ≤ mx c last := by unfold mx; split <;> omega
theorem places_idem (n : Int) : ∀ (cs : List Int) (last : Int), last ≤ mx n 0 → placesL n last (placesL n last cs) = placesL n last cs
  | [], _, _ => rfl
  | c :: cs, last, h => by
    have k1 : last ≤ mn (mx c last) (mx n 0) := by have := mx_ge c last; unfold mn; split <;> omega
    have k2 : mn (mx c last) (mx n 0) ≤ mx n 0 := by unfold mn; split <;> omega
    have e1 : mx (mn (mx c last) (mx n 0)) last = mn (mx c last) (mx n 0) := by generalize mn (mx c last) (mx n 0) = q at *; unfold mx at *; split <;> omega
    have e2 : mn (mn (mx c last) (mx n 0)) (mx n 0) = mn (mx c last) (mx n 0) := by generalize mn (mx c last) (mx n 0) = q at *; generalize mx n 0 = m at *; unfold mn; split <;> omega
    simp only [placesL, e1, e2]
    rw [places_idem n cs _ k2]
theorem rounds (n : Int) (l : List Int) (hl : l.length < 1099511627776) : ∀ (m i : Nat) (last : Int), m = l.length - i → i ≤ l.length → 0 ≤ last → last ≤ mx n 0 → (placesL n 0 l).drop i = placesL n last (l.drop i) →
    Ev (fun k => seinelaw19_CutsPlaces.l0 k n l (placesL n 0 l) last (i : Int)) true := by
  intro m
  induction m with
  | zero =>
    intro i last hm hi h0 h1 hd
    refine Ev.step (fun k => by rw [seinelaw19_CutsPlaces.l0]) ?_
    refine Ev.neg (by rw [placesL_length]; omega) ?_
    refine Ev.bind (places_ev n _ (by rw [placesL_length]; exact hl)) ?_
    rw [places_idem n l 0 (mx_ge n 0)]
    refine Ev.bind (same7_ev _ (by rw [placesL_length]; exact hl)) ?_
    exact Ev.now _
  | succ m ih =>
    intro i last hm hi h0 h1 hd
    have hlt : i < l.length := by omega
    refine Ev.step (fun k => by rw [seinelaw19_CutsPlaces.l0]) ?_
    have hlt' : i < (placesL n 0 l).length := by rw [placesL_length]; exact hlt
    refine Ev.pos (by omega) ?_
    refine Ev.pos (by omega) ?_
    rw [rd_drop hlt', rd_drop hlt, placesL] at hd
    obtain ⟨e, hd'⟩ := List.cons.inj hd
    have k1 : last ≤ mn (mx (rd l i) last) (mx n 0) := by have := mx_ge (rd l i) last; unfold mn; split <;> omega
    have k2 : mn (mx (rd l i) last) (mx n 0) ≤ mx n 0 := by unfold mn; split <;> omega
    have k3 : last ≤ rd l i → rd l i ≤ n → mn (mx (rd l i) last) (mx n 0) = rd l i := by
      intro a b
      have : n ≤ mx n 0 := by unfold mx; split <;> omega
      have e1 : mx (rd l i) last = rd l i := by unfold mx; split <;> omega
      rw [e1]
      generalize mx n 0 = q at *
      unfold mn; split <;> omega
    rw [e]
    have nx := ih (i + 1) (mn (mx (rd l i) last) (mx n 0)) (by omega) (by omega) (by omega) k2 hd'
    refine Ev.neg (by omega) ?_
    refine Ev.neg (by omega) ?_
    refine Ev.pos (by omega) ?_
    rw [next_nat i (by omega)]
    by_cases c1 : rd l i ≥ last
    · refine Ev.pos c1 ?_
      by_cases c2 : rd l i ≤ n
      · refine Ev.pos c2 ?_
        exact Ev.pos (k3 c1 c2) nx
      · exact Ev.neg c2 nx
    · exact Ev.neg c1 nx
theorem CutsPlaces : seinelaw19_CutsPlaces.Pure := by
  intro n l hwn hm hs hwf
  refine Ev.rounds (?_ : Ev (fun k => seinelaw19_CutsPlaces.f k n l) true)
  unfold seinelaw19_CutsPlaces.f
  refine Ev.bind awake19 ?_
  refine Ev.pos rfl ?_
  by_cases hl : (l.length : Int) > 100
  · exact Ev.pos hl (Ev.now _)
  · refine Ev.neg hl ?_
    refine Ev.bind (places_ev n l (by omega)) ?_
    refine Ev.pos (by rw [placesL_length]) ?_
    exact rounds n l (by omega) _ 0 0 rfl (Nat.zero_le _) (Int.le_refl _) (mx_ge n 0) rfl
end Go.Proofs.Ytepfdbdhfedknaa.Pure
