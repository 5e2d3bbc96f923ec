/- 'SuffixTwice': whatever the text: twice it has no greater period than it has bytes, and no lesser one than the text. No condition. -/
import Derived.Test.YtkoahbhiffahdaaAwakeA
import Derived.Test.YtkoahbhiffahdaaAllx8
namespace Go.Proofs.Ytkoahbhiffahdaa.Pure
open Go.RowKit Go.Proofs.YtkoahbhiffahdaaW.PrintWords Go.Proofs.Ytkoahbhiffahdaa.Kit Go.Proofs.Ytkoahbhiffahdaa.Plain Go.Proofs.Ytkoahbhiffahdaa.All Go.Proofs.Ytkoahbhiffahdaa.Runs
theorem SuffixTwice : seinelaw11_SuffixTwice.Pure := by
  intro l hm hs hwf
  refine Ev.rounds (?_ : Ev (fun k => seinelaw11_SuffixTwice.f k l) true)
  unfold seinelaw11_SuffixTwice.f
  refine Ev.bind awake11 ?_
  refine Ev.pos rfl ?_
  by_cases hl : (l.length : Int) > 150
  · refine Ev.pos hl ?_
    refine Ev.step (fun k => by rw [seinelaw11_SuffixTwice.j0]) ?_
    exact Ev.pos rfl (Ev.now _)
  · refine Ev.neg hl ?_
    refine Ev.step (fun k => by rw [seinelaw11_SuffixTwice.j0]) ?_
    by_cases h0 : l.length = 0
    · exact Ev.pos (by simp [h0]) (Ev.now _)
    · refine Ev.neg (by rw [beq_iff_eq]; omega) ?_
      refine Ev.pos (by simp; omega) ?_
      refine Ev.bindc rfl ?_
      refine Ev.pos (by simp; omega) ?_
      refine Ev.bindc rfl ?_
      rw [List.nil_append]
      have hc : (l ++ l).length = l.length + l.length := by simp
      obtain ⟨P, hP⟩ := leastPer_exists (show 1 ≤ (l ++ l).length by omega)
      obtain ⟨P1, hP1⟩ := leastPer_exists (show 1 ≤ l.length by omega)
      have h2 : P ≤ l.length := hP.2 _ (per_twice (by omega))
      have h3 : P1 ≤ P := hP1.2 _ (per_left hP.1)
      have h4 := hP.pos
      refine Ev.bind (period (by omega) (by omega) hP) ?_
      refine Ev.bind (borders (by omega)) ?_
      refine Ev.pos (by omega) ?_
      refine Ev.bind (period (by omega) (by omega) hP1) ?_
      refine Ev.pos (by omega) ?_
      -- the longest border is there
      have hb : PB (l ++ l) (l ++ l).length ((l ++ l).length - P) := bord_of_per hP.1 (by omega)
      have he : bl (l ++ l) ((l ++ l).length - 1) = (((l ++ l).length - P : Nat) : Int) :: bl (l ++ l) ((l ++ l).length - P - 1) := by
        rw [bl_skip (n' := (l ++ l).length - P) _ (by omega) (fun k h5 h6 hk => by
          have := hP.2 _ (per_of_bord hk)
          omega)]
        obtain ⟨q, hq⟩ : ∃ q, (l ++ l).length - P = q + 1 := ⟨(l ++ l).length - P - 1, by omega⟩
        rw [hq] at hb ⊢
        rw [bl_hit hb]
        rfl
      rw [he]
      refine Ev.pos (by simp) ?_
      refine Ev.pos (by simp) ?_
      refine Ev.pos ?_ ?_
      · rw [wrap_sub (by omega) (by omega)]
        simp [rd]
      · refine Ev.ret ?_
        simp [rd]
        omega
end Go.Proofs.Ytkoahbhiffahdaa.Pure
