/- 'CriticalLocal': whatever the text and the place: the least period there is the reference's. No condition. -/
import Derived.Test.YtkoahbhiffahdaaRunsD
import Derived.Test.YtkoahbhiffahdaaAllx11
namespace Go.Proofs.Ytkoahbhiffahdaa.Pure
open Go.RowKit Go.Proofs.YtkoahbhiffahdaaW.PrintWords Go.Proofs.Ytkoahbhiffahdaa.Kit Go.Proofs.Ytkoahbhiffahdaa.Plain Go.Proofs.Ytkoahbhiffahdaa.All Go.Proofs.Ytkoahbhiffahdaa.Runs
theorem CriticalLocal : seinelaw12_CriticalLocal.Pure := by
  intro l at_ hm hs hwf hw2
  have hb := bytes_of_wf hwf
  refine Ev.rounds (?_ : Ev (fun k => seinelaw12_CriticalLocal.f k l at_) true)
  unfold seinelaw12_CriticalLocal.f
  refine Ev.bind awake12 ?_
  refine Ev.pos rfl ?_
  by_cases hl : (l.length : Int) > 200
  · exact Ev.pos hl (Ev.now _)
  · refine Ev.neg hl ?_
    by_cases ho : at_ < 0 ∨ at_ > (l.length : Int)
    · refine Ev.bind (local_out ho) ?_
      refine Ev.bind (rlocal_out ho) ?_
      exact Ev.ret (by simp)
    · obtain ⟨a, rfl⟩ : ∃ a : Nat, at_ = (a : Int) := ⟨at_.toNat, by omega⟩
      obtain ⟨q, hq, _⟩ := leastLoc_any l a
      refine Ev.bind (local_ok hb (by omega) (by omega) hq) ?_
      refine Ev.bind (rlocal_ok hb (by omega) (by omega) hq) ?_
      exact Ev.ret (by simp)
end Go.Proofs.Ytkoahbhiffahdaa.Pure
