/- 'CriticalTheorem': whatever the text that isn't empty: where it is cut the least period is that of the whole text, and the cut stands ahead of it. No condition. -/
import Derived.Test.YtkoahbhiffahdaaRunsC
import Derived.Test.YtkoahbhiffahdaaAllx11
namespace Go.Proofs.Ytkoahbhiffahdaa.Pure
open Go.RowKit Go.Proofs.YtkoahbhiffahdaaW.PrintWords Go.Proofs.Ytkoahbhiffahdaa.Kit Go.Proofs.Ytkoahbhiffahdaa.Plain Go.Proofs.Ytkoahbhiffahdaa.All Go.Proofs.Ytkoahbhiffahdaa.Runs
theorem CriticalTheorem : seinelaw12_CriticalTheorem.Pure := by
  intro l hm hs hwf
  have hb := bytes_of_wf hwf
  refine Ev.rounds (?_ : Ev (fun k => seinelaw12_CriticalTheorem.f k l) true)
  unfold seinelaw12_CriticalTheorem.f
  refine Ev.bind awake12 ?_
  refine Ev.pos rfl ?_
  by_cases hl : (l.length : Int) > 200
  · refine Ev.pos hl ?_
    refine Ev.step (fun k => by rw [seinelaw12_CriticalTheorem.j0]) ?_
    exact Ev.pos rfl (Ev.now _)
  · refine Ev.neg hl ?_
    refine Ev.step (fun k => by rw [seinelaw12_CriticalTheorem.j0]) ?_
    by_cases h0 : l.length = 0
    · exact Ev.pos (by simp [h0]) (Ev.now _)
    · refine Ev.neg (by rw [beq_iff_eq]; omega) ?_
      obtain ⟨A, P, ⟨C⟩, hA, hP1, hPl, _, hf⟩ := factor hb (by omega) (show 1 ≤ l.length by omega)
      obtain ⟨Q, hQ⟩ := leastPer_exists (show 1 ≤ l.length by omega)
      obtain ⟨q, hq⟩ := leastLoc_exists A (show 1 ≤ l.length by omega)
      obtain ⟨e, hlt⟩ := cut_local C.top C.other C.le hQ hq
      subst e
      have rest : ∀ (x : Int) (S : Bool), (S = true → x = (q : Int)) → Ev (fun k => (suffix_Period.f k l).bind fun t300 => (if ((A : Int), x, S).1 ≥ 0 then (if ((A : Int), x, S).1 < t300 then ((critical_Local.f k l ((A : Int), x, S).1).bind fun t301 => (if t301 = t300 then (if ((A : Int), x, S).2.2 = true then (some (((A : Int), x, S).2.1 == t300)) else (some true)) else (some false))) else (some false)) else (some false))) true := by
        intro x S hS
        refine Ev.bind (period (by omega) (by omega) hQ) ?_
        refine Ev.pos (show (A : Int) ≥ 0 by omega) ?_
        refine Ev.pos (show (A : Int) < (q : Int) by omega) ?_
        refine Ev.bind (local_ok hb (by omega) (by omega) hq) ?_
        refine Ev.pos rfl ?_
        cases S with
        | true => exact Ev.pos rfl (Ev.ret (by simpa using hS rfl))
        | false => exact Ev.neg (by simp) (Ev.now _)
      rcases hf with ⟨hsm, hf⟩ | ⟨hsm, hf⟩
      · refine Ev.bindc hf ?_
        exact rest _ _ (fun _ => by
          have := (small_per C.per (fun i hi => by have := hsm i hi; rwa [Nat.zero_add] at this)).unique hQ
          omega)
      · refine Ev.bindc hf ?_
        exact rest _ _ (fun h => by simp at h)
end Go.Proofs.Ytkoahbhiffahdaa.Pure
