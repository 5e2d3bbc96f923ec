/- 'CriticalFactor': whatever the text: where it is cut, how far it may be moved, and whether that is its period, are the reference's. No condition. -/
import Derived.Test.YtkoahbhiffahdaaRunsD
import Derived.Test.YtkoahbhiffahdaaAllx9
namespace Go.Proofs.Ytkoahbhiffahdaa.Pure
open Go.RowKit Go.Proofs.YtkoahbhiffahdaaW.PrintWords Go.Proofs.Ytkoahbhiffahdaa.Kit Go.Proofs.Ytkoahbhiffahdaa.Plain Go.Proofs.Ytkoahbhiffahdaa.All Go.Proofs.Ytkoahbhiffahdaa.Runs
theorem CriticalFactor : seinelaw12_CriticalFactor.Pure := by
  intro l hm hs hwf
  have hb := bytes_of_wf hwf
  refine Ev.rounds (?_ : Ev (fun k => seinelaw12_CriticalFactor.f k l) true)
  unfold seinelaw12_CriticalFactor.f
  refine Ev.bind awake12 ?_
  refine Ev.pos rfl ?_
  by_cases hl : (l.length : Int) > 120
  · exact Ev.pos hl (Ev.now _)
  · refine Ev.neg hl ?_
    by_cases h0 : l.length = 0
    · refine Ev.bindc (factor_nil h0) ?_
      refine Ev.bind (show Ev (fun k => seineref12_Factor.f k (strOfNums l)) (0, 0, false) from ?_) ?_
      · unfold seineref12_Factor.f
        refine Ev.pos ?_ (Ev.now _)
        rw [toList_str_nil]
        exact List.eq_nil_of_length_eq_zero h0
      · refine Ev.pos rfl ?_
        refine Ev.pos rfl ?_
        exact Ev.ret (by simp)
    · obtain ⟨A0, P0, m0, t0, p0⟩ := max_ok false (show 1 ≤ l.length by omega)
      obtain ⟨A1, P1, m1, t1, p1⟩ := max_ok true (show 1 ≤ l.length by omega)
      have hc := cut_ok (by omega) m0 m1
      have bound : ∀ {t : Bool} {A P : Nat}, Top t l A → LeastPer (l.drop A) P → A < l.length ∧ 1 ≤ P ∧ P ≤ l.length - A := by
        intro t A P hT hP
        have hA := hT.1
        exact ⟨hA, hP.pos, by have := hP.le (by simp; omega); simpa using this⟩
      -- the cut that both take
      have main : ∀ (A P : Nat), A < l.length → 1 ≤ P → P ≤ l.length - A → critical_cut.f l = some ((A : Int), (P : Int), false) →
          Ev (fun k => seineref12_Factor.f k (strOfNums l)) (((A : Nat) : Int), if ∀ i, i < A → g l (0 + i) = g l (P + i) then ((P : Int), true) else (((max A (l.length - A) + 1 : Nat) : Int), false)) →
          Ev (fun k => (critical_Factor.f l).bind fun bt268 => ((seineref12_Factor.f k (strOfNums l)).bind fun bt272 => (if bt268.1 = bt272.1 then (if bt268.2.1 = bt272.2.1 then (some (bt268.2.2 == bt272.2.2)) else (some false)) else (some false)))) true := by
        intro A P h1 h2 h3 hcut hr
        rcases factor_of hb (by omega) hcut h2 h3 h1 with ⟨hsm, hf⟩ | ⟨hsm, hf⟩
        · rw [if_pos (show ∀ i, i < A → g l (0 + i) = g l (P + i) from hsm)] at hr
          refine Ev.bindc hf ?_
          refine Ev.bind hr ?_
          refine Ev.pos rfl ?_
          refine Ev.pos rfl ?_
          exact Ev.ret (by simp)
        · rw [if_neg (show ¬ ∀ i, i < A → g l (0 + i) = g l (P + i) from hsm)] at hr
          refine Ev.bindc hf ?_
          refine Ev.bind hr ?_
          refine Ev.pos rfl ?_
          refine Ev.pos rfl ?_
          exact Ev.ret (by simp)
      have hne : ¬ (strOfNums l).toList = ([] : List UInt8) := by
        rw [toList_str_nil]
        intro h
        exact h0 (by rw [h]; rfl)
      obtain ⟨a0, a1, a2⟩ := bound t0 p0
      obtain ⟨b0, b1, b2⟩ := bound t1 p1
      by_cases hgt : A1 > A0
      · rw [if_pos hgt] at hc
        refine main A1 P1 b0 b1 b2 hc ?_
        unfold seineref12_Factor.f
        refine Ev.neg hne ?_
        refine Ev.bind (rmax hb (by omega) t0 p0) ?_
        refine Ev.bind (rmax hb (by omega) t1 p1) ?_
        refine Ev.pos (show (A1 : Int) > (A0 : Int) by omega) ?_
        exact rfactor_cut hb (by omega) b1 b2 b0
      · rw [if_neg hgt] at hc
        refine main A0 P0 a0 a1 a2 hc ?_
        unfold seineref12_Factor.f
        refine Ev.neg hne ?_
        refine Ev.bind (rmax hb (by omega) t0 p0) ?_
        refine Ev.bind (rmax hb (by omega) t1 p1) ?_
        refine Ev.neg (show ¬ (A1 : Int) > (A0 : Int) by omega) ?_
        exact rfactor_cut hb (by omega) a1 a2 a0
end Go.Proofs.Ytkoahbhiffahdaa.Pure
