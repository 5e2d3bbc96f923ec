/- 'CriticalFar': whatever the text: if the cut is small it repeats itself so far on; else it may be moved by more than each of its two parts has. No condition. -/
import Derived.Test.YtkoahbhiffahdaaRunsC
import Derived.Test.YtkoahbhiffahdaaAllx10
namespace Go.Proofs.Ytkoahbhiffahdaa.Pure
open Go.RowKit Go.Proofs.YtkoahbhiffahdaaW.PrintWords Go.Proofs.YtkoahbhiffahdaaW.PrintMore Go.Proofs.Ytkoahbhiffahdaa.Kit Go.Proofs.Ytkoahbhiffahdaa.Plain Go.Proofs.Ytkoahbhiffahdaa.All Go.Proofs.Ytkoahbhiffahdaa.Runs
theorem far_loop {l : List Int} (hl : l.length ≤ 200) {P : Nat} (hP : IsPer l P) (x : Int) (b : Bool) : ∀ d i, l.length - i = d → P ≤ i → i ≤ l.length →
    Ev (fun k => seinelaw12_CriticalFar.l0 k l (i : Int) x (P : Int) b) true := by
  intro d
  induction d with
  | zero =>
    intro i hd h1 h2
    refine Ev.step (fun k => by rw [seinelaw12_CriticalFar.l0]) ?_
    exact Ev.neg (by omega) (Ev.now _)
  | succ d ih =>
    intro i hd h1 h2
    refine Ev.step (fun k => by rw [seinelaw12_CriticalFar.l0]) ?_
    rw [wrap_sub (by omega) h1, wrap_succ (by omega)]
    refine Ev.pos (by omega) ?_
    refine Ev.pos (by omega) ?_
    refine Ev.pos (by omega) ?_
    refine Ev.pos (by omega) ?_
    refine Ev.pos ?_ (ih (i + 1) (by omega) (by omega) (by omega))
    have := hP.2 (i - P) (by omega)
    rw [rd_nat, rd_nat]
    have e : i - P + P = i := by omega
    rw [e] at this
    exact this.symm
theorem CriticalFar : seinelaw12_CriticalFar.Pure := by
  intro l hm hs hwf
  have hb := bytes_of_wf hwf
  refine Ev.rounds (?_ : Ev (fun k => seinelaw12_CriticalFar.f k l) true)
  unfold seinelaw12_CriticalFar.f
  refine Ev.bind awake12 ?_
  refine Ev.pos rfl ?_
  by_cases hl : (l.length : Int) > 200
  · refine Ev.pos hl ?_
    refine Ev.step (fun k => by rw [seinelaw12_CriticalFar.j0]) ?_
    exact Ev.pos rfl (Ev.now _)
  · refine Ev.neg hl ?_
    refine Ev.step (fun k => by rw [seinelaw12_CriticalFar.j0]) ?_
    by_cases h0 : l.length = 0
    · exact Ev.pos (by simp [h0]) (Ev.now _)
    · refine Ev.neg (by rw [beq_iff_eq]; omega) ?_
      obtain ⟨A, P, ⟨C⟩, hA, hP1, hPl, _, hf⟩ := factor hb (by omega) (show 1 ≤ l.length by omega)
      rcases hf with ⟨hsm, hf⟩ | ⟨hsm, hf⟩
      · refine Ev.bindc hf ?_
        refine Ev.pos rfl ?_
        refine Ev.neg (show ¬ ((P : Int) < 1) by omega) ?_
        refine Ev.step (fun k => by rw [seinelaw12_CriticalFar.j1]) ?_
        refine Ev.neg (show ¬ (decide ((P : Int) > (l.length : Int)) = true) by simp; omega) ?_
        exact far_loop (by omega) (small_per C.per (fun i hi => by have := hsm i hi; rwa [Nat.zero_add] at this)).1 _ _ _ P rfl (Nat.le_refl _) (by omega)
      · refine Ev.bindc hf ?_
        refine Ev.neg (show ¬ (false = true) by simp) ?_
        have em : mx (A : Int) ((l.length - A : Nat) : Int) = ((max A (l.length - A) : Nat) : Int) := by
          unfold mx
          by_cases h : (A : Int) < ((l.length - A : Nat) : Int)
          · rw [if_pos h, Nat.max_eq_right (by omega)]
          · rw [if_neg h, Nat.max_eq_left (by omega)]
        refine Ev.pos ?_ ?_
        · rw [wrap_sub (by omega) (by omega), em, wrap_succ (by omega)]
        · refine Ev.ret ?_
          rw [wrap_succ (by omega)]
          have := Nat.max_le.2 (show A ≤ l.length ∧ l.length - A ≤ l.length by omega)
          simp
          omega
end Go.Proofs.Ytkoahbhiffahdaa.Pure
