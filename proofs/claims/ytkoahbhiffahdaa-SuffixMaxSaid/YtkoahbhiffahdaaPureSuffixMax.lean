/- 'SuffixMax': whatever the text and the order: where the greatest end begins, and its period, are the reference's. No condition. -/
import Derived.Test.YtkoahbhiffahdaaAwakeA
namespace Go.Proofs.Ytkoahbhiffahdaa.Pure
open Go.RowKit Go.Proofs.YtkoahbhiffahdaaW.PrintWords Go.Proofs.Ytkoahbhiffahdaa.Kit Go.Proofs.Ytkoahbhiffahdaa.Plain Go.Proofs.Ytkoahbhiffahdaa.All Go.Proofs.Ytkoahbhiffahdaa.Runs
theorem SuffixMax : seinelaw11_SuffixMax.Pure := by
  intro l t hm hs hwf
  have hb := bytes_of_wf hwf
  refine Ev.rounds (?_ : Ev (fun k => seinelaw11_SuffixMax.f k l t) true)
  unfold seinelaw11_SuffixMax.f
  refine Ev.bind awake11 ?_
  refine Ev.pos rfl ?_
  by_cases hl : (l.length : Int) > 120
  · exact Ev.pos hl (Ev.now _)
  · refine Ev.neg hl ?_
    by_cases h0 : l.length = 0
    · refine Ev.bindc (max_nil t h0) ?_
      refine Ev.bind (rmax_nil h0) ?_
      exact Ev.pos rfl (Ev.now _)
    · obtain ⟨A, P, h1, h2, h3⟩ := max_ok t (show 1 ≤ l.length by omega)
      refine Ev.bindc h1 ?_
      refine Ev.bind (rmax hb (by omega) h2 h3) ?_
      refine Ev.pos rfl ?_
      exact Ev.ret (by simp)
end Go.Proofs.Ytkoahbhiffahdaa.Pure
