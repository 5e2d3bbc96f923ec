/- 'SuffixPeriod': whatever the text: its least period and its borders are the reference's. No condition. -/
import Derived.Test.YtkoahbhiffahdaaAwakeA
import Derived.Test.YtkoahbhiffahdaaAllx6
namespace Go.Proofs.Ytkoahbhiffahdaa.Pure
open Go.RowKit Go.Proofs.YtkoahbhiffahdaaW.PrintWords Go.Proofs.Ytkoahbhiffahdaa.Kit Go.Proofs.Ytkoahbhiffahdaa.Plain Go.Proofs.Ytkoahbhiffahdaa.All Go.Proofs.Ytkoahbhiffahdaa.Runs
theorem SuffixPeriod : seinelaw11_SuffixPeriod.Pure := by
  intro l hm hs hwf
  have hb := bytes_of_wf hwf
  refine Ev.rounds (?_ : Ev (fun k => seinelaw11_SuffixPeriod.f k l) true)
  unfold seinelaw11_SuffixPeriod.f
  refine Ev.bind awake11 ?_
  refine Ev.pos rfl ?_
  by_cases hl : (l.length : Int) > 200
  · exact Ev.pos hl (Ev.now _)
  · refine Ev.neg hl ?_
    have rest : Ev (fun k => (suffix_Borders.f k l).bind fun a => (seineref11_Borders.f k (strOfNums l)).bind fun b => (seineref07_Same.f k a b).bind fun c => some c) true := by
      refine Ev.bind (borders (by omega)) ?_
      refine Ev.bind (rborders hb (by omega)) ?_
      refine Ev.bind (same (by have := bl_length l (l.length - 1); omega)) ?_
      exact Ev.ret (by simp)
    by_cases h0 : l.length = 0
    · refine Ev.bind (period_nil h0) ?_
      refine Ev.bind (rper_nil h0) ?_
      exact Ev.pos rfl rest
    · obtain ⟨P, hP⟩ := leastPer_exists (show 1 ≤ l.length by omega)
      refine Ev.bind (period (by omega) (by omega) hP) ?_
      refine Ev.bind (rper hb (by omega) (by omega) hP) ?_
      exact Ev.pos rfl rest
end Go.Proofs.Ytkoahbhiffahdaa.Pure
