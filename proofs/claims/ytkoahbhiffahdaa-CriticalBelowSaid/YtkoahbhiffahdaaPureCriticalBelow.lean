/- 'CriticalBelow': whatever the text that isn't empty, and the place: no place has a greater period than the whole text. No condition. -/
import Derived.Test.YtkoahbhiffahdaaRunsC
import Derived.Test.YtkoahbhiffahdaaAllx9
namespace Go.Proofs.Ytkoahbhiffahdaa.Pure
open Go.RowKit Go.Proofs.YtkoahbhiffahdaaW.PrintWords Go.Proofs.Ytkoahbhiffahdaa.Kit Go.Proofs.Ytkoahbhiffahdaa.Plain Go.Proofs.Ytkoahbhiffahdaa.All Go.Proofs.Ytkoahbhiffahdaa.Runs
theorem CriticalBelow : seinelaw12_CriticalBelow.Pure := by
  intro l a2 hm hs hwf hw2
  have hb := bytes_of_wf hwf
  obtain ⟨m, rfl, hm2⟩ : ∃ m : Nat, a2 = (m : Int) ∧ m ≤ 65535 := by
    simp [Lit.wf, IntKind.min, IntKind.max, IntKind.signed, IntKind.bits] at hw2
    exact ⟨a2.toNat, by omega, by omega⟩
  refine Ev.rounds (?_ : Ev (fun k => seinelaw12_CriticalBelow.f k l (m : Int)) true)
  unfold seinelaw12_CriticalBelow.f
  refine Ev.bind awake12 ?_
  refine Ev.pos rfl ?_
  by_cases hl : (l.length : Int) > 200
  · refine Ev.pos hl ?_
    refine Ev.step (fun k => by rw [seinelaw12_CriticalBelow.j0]) ?_
    exact Ev.pos rfl (Ev.now _)
  · refine Ev.neg hl ?_
    refine Ev.step (fun k => by rw [seinelaw12_CriticalBelow.j0]) ?_
    by_cases h0 : l.length = 0
    · exact Ev.pos (by simp [h0]) (Ev.now _)
    · refine Ev.neg (by rw [beq_iff_eq]; omega) ?_
      have e1 : wrap64 (m : Int) = (m : Int) := by unfold wrap64; omega
      have e2 : Int.tmod (m : Int) ((l.length + 1 : Nat) : Int) = ((m % (l.length + 1) : Nat) : Int) := by rw [Int.tmod_eq_emod_of_nonneg (by omega)]; simp
      rw [e1, wrap_succ (by omega), e2]
      have hlt : m % (l.length + 1) < l.length + 1 := Nat.mod_lt _ (by omega)
      refine Ev.neg (by omega) ?_
      obtain ⟨Q, hQ⟩ := leastPer_exists (show 1 ≤ l.length by omega)
      obtain ⟨q, hq⟩ := leastLoc_exists (m % (l.length + 1)) (show 1 ≤ l.length by omega)
      have h1 := hq.1.1
      have h2 := hq.below hQ
      refine Ev.bind (local_ok hb (by omega) (by omega) hq) ?_
      refine Ev.pos (by omega) ?_
      refine Ev.bind (period (by omega) (by omega) hQ) ?_
      exact Ev.ret (by simp; omega)
end Go.Proofs.Ytkoahbhiffahdaa.Pure
