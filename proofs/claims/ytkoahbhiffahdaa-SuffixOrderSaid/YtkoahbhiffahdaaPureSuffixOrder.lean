/- 'SuffixOrder': whatever two texts and the order: how they stand is the reference's; just one is ahead, or they are the same. No condition. -/
import Derived.Test.YtkoahbhiffahdaaAwakeA
namespace Go.Proofs.Ytkoahbhiffahdaa.Pure
open Go.RowKit Go.Proofs.YtkoahbhiffahdaaW.PrintWords Go.Proofs.Ytkoahbhiffahdaa.Kit Go.Proofs.Ytkoahbhiffahdaa.Plain Go.Proofs.Ytkoahbhiffahdaa.All Go.Proofs.Ytkoahbhiffahdaa.Runs
theorem SuffixOrder : seinelaw11_SuffixOrder.Pure := by
  intro a b t hm hs hwf hm1 hs1 hwf1
  have ha := bytes_of_wf hwf
  have hb := bytes_of_wf hwf1
  refine Ev.rounds (?_ : Ev (fun k => seinelaw11_SuffixOrder.f k a b t) true)
  unfold seinelaw11_SuffixOrder.f
  refine Ev.bind awake11 ?_
  refine Ev.pos rfl ?_
  by_cases hl : (a.length : Int) > 200
  · refine Ev.pos hl ?_
    refine Ev.step (fun k => by rw [seinelaw11_SuffixOrder.j0]) ?_
    exact Ev.pos rfl (Ev.now _)
  · refine Ev.neg hl ?_
    refine Ev.step (fun k => by rw [seinelaw11_SuffixOrder.j0]) ?_
    by_cases hl2 : (b.length : Int) > 200
    · exact Ev.pos (decide_eq_true hl2) (Ev.now _)
    · refine Ev.neg (by simpa using hl2) ?_
      refine Ev.bindc (less_f a b t) ?_
      refine Ev.bindc (less_f b a t) ?_
      refine Ev.bind (rless ha hb t (by omega)) ?_
      refine Ev.pos (by simp) ?_
      cases h1 : lessL t a b with
      | true =>
        refine Ev.pos rfl ?_
        have h2 := lessL_asymm t a b h1
        refine Ev.neg (by rw [h2]; simp) ?_
        refine Ev.ret ?_
        have hne : ¬ (strOfNums a).toList = (strOfNums b).toList := by
          rw [toList_str_inj ha hb]
          rintro rfl
          rw [lessL_irrefl] at h1
          exact absurd h1 (by simp)
        simp [hne]
      | false =>
        refine Ev.neg (by simp) ?_
        refine Ev.ret ?_
        cases h2 : lessL t b a with
        | true =>
          have hne : ¬ (strOfNums a).toList = (strOfNums b).toList := by
            rw [toList_str_inj ha hb]
            rintro rfl
            rw [lessL_irrefl] at h2
            exact absurd h2 (by simp)
          simp [hne]
        | false =>
          obtain rfl := lessL_total t a b h1 h2
          simp
end Go.Proofs.Ytkoahbhiffahdaa.Pure
