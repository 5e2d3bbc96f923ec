/- 'SuffixGreatest': whatever the text and the order: no end is greater than the one that is told, and its period is told. No condition. -/
import Derived.Test.YtkoahbhiffahdaaAwakeA
namespace Go.Proofs.Ytkoahbhiffahdaa.Pure
open Go.RowKit Go.Proofs.YtkoahbhiffahdaaW.PrintWords Go.Proofs.Ytkoahbhiffahdaa.Kit Go.Proofs.Ytkoahbhiffahdaa.Plain Go.Proofs.Ytkoahbhiffahdaa.All Go.Proofs.Ytkoahbhiffahdaa.Runs
theorem greatest_loop {l : List Int} (hl : l.length ≤ 400) {A P : Nat} (hA : A < l.length) (hP : LeastPer (l.drop A) P) (hPl : P ≤ l.length - A) : ∀ d i, l.length - i = d → A ≤ i → i ≤ l.length →
    Ev (fun k => seinelaw11_SuffixGreatest.l0 k l (A : Int) (P : Int) (i : Int)) true := by
  have last : Ev (fun k => if 0 ≤ (A : Int) then (if (A : Int) ≤ (l.length : Int) then ((suffix_Period.f k (l.drop ((A : Int)).toNat)).bind fun t => some (t == (P : Int))) else none) else none) true := by
    refine Ev.pos (by omega) ?_
    refine Ev.pos (by omega) ?_
    rw [Int.toNat_natCast]
    refine Ev.bind (period (by simp; omega) (by simp; omega) hP) ?_
    exact Ev.ret (by simp)
  have h1 := hP.pos
  intro d
  induction d with
  | zero =>
    intro i hd h2 h3
    refine Ev.step (fun k => by rw [seinelaw11_SuffixGreatest.l0]) ?_
    refine Ev.neg (by rw [wrap_sub (by omega) (by omega)]; omega) ?_
    exact last
  | succ d ih =>
    intro i hd h2 h3
    refine Ev.step (fun k => by rw [seinelaw11_SuffixGreatest.l0]) ?_
    rw [wrap_sub (by omega) (by omega), wrap_add (by omega) (by omega), wrap_succ (by omega)]
    by_cases hi : i < l.length - P
    · refine Ev.pos (by omega) ?_
      refine Ev.pos (by omega) ?_
      refine Ev.pos (by omega) ?_
      refine Ev.pos (by omega) ?_
      refine Ev.pos (by omega) ?_
      refine Ev.pos ?_ ?_
      · have := hP.1.2 (i - A) (by simp; omega)
        rw [g_drop, g_drop] at this
        rw [rd_nat, rd_nat]
        have e1 : A + (i - A) = i := by omega
        have e2 : A + (i - A + P) = i + P := by omega
        rwa [e1, e2] at this
      · exact ih (i + 1) (by omega) (by omega) (by omega)
    · refine Ev.neg (by omega) ?_
      exact last
theorem SuffixGreatest : seinelaw11_SuffixGreatest.Pure := by
  intro l t a2 hm hs hwf hw2
  have hb := bytes_of_wf hwf
  obtain ⟨m, rfl, hm2⟩ : ∃ m : Nat, a2 = (m : Int) ∧ m ≤ 65535 := by
    simp [Lit.wf, IntKind.min, IntKind.max, IntKind.signed, IntKind.bits] at hw2
    exact ⟨a2.toNat, by omega, by omega⟩
  refine Ev.rounds (?_ : Ev (fun k => seinelaw11_SuffixGreatest.f k l t (m : Int)) true)
  unfold seinelaw11_SuffixGreatest.f
  refine Ev.bind awake11 ?_
  refine Ev.pos rfl ?_
  by_cases hl : (l.length : Int) > 400
  · refine Ev.pos hl ?_
    refine Ev.step (fun k => by rw [seinelaw11_SuffixGreatest.j0]) ?_
    exact Ev.pos rfl (Ev.now _)
  · refine Ev.neg hl ?_
    refine Ev.step (fun k => by rw [seinelaw11_SuffixGreatest.j0]) ?_
    by_cases h0 : l.length = 0
    · exact Ev.pos (by simp [h0]) (Ev.now _)
    · refine Ev.neg (by rw [beq_iff_eq]; omega) ?_
      obtain ⟨A, P, h1, h2, h3⟩ := max_ok t (show 1 ≤ l.length by omega)
      have hA := h2.1
      have hP1 := h3.pos
      have hPl : P ≤ l.length - A := by have := h3.le (by simp; omega); simpa using this
      refine Ev.bindc h1 ?_
      refine Ev.neg (show ¬ ((A : Int) < 0) by omega) ?_
      refine Ev.neg (show ¬ ((A : Int) ≥ (l.length : Int)) by omega) ?_
      refine Ev.neg (show ¬ ((P : Int) < 1) by omega) ?_
      refine Ev.step (fun k => by rw [seinelaw11_SuffixGreatest.j1]) ?_
      refine Ev.neg (show ¬ (decide ((P : Int) > wrap64 ((l.length : Int) - (A : Int))) = true) by rw [wrap_sub (by omega) (by omega)]; simp; omega) ?_
      refine Ev.neg (by omega) ?_
      have e1 : wrap64 (m : Int) = (m : Int) := by unfold wrap64; omega
      have e2 : Int.tmod (m : Int) (l.length : Int) = ((m % l.length : Nat) : Int) := by rw [Int.tmod_eq_emod_of_nonneg (by omega)]; simp
      rw [e1, e2]
      have hlt : m % l.length < l.length := Nat.mod_lt _ (by omega)
      obtain ⟨s, hs'⟩ : ∃ s, s = m % l.length := ⟨_, rfl⟩
      rw [← hs'] at hlt ⊢
      have j2 : ∀ b, b = false → Ev (fun k => seinelaw11_SuffixGreatest.j2 k l (A : Int) (P : Int) b) true := by
        rintro b rfl
        refine Ev.step (fun k => by rw [seinelaw11_SuffixGreatest.j2]) ?_
        refine Ev.neg (by simp) ?_
        exact greatest_loop (by omega) hA h3 hPl _ A rfl (Nat.le_refl _) (by omega)
      by_cases hsA : s = A
      · exact Ev.pos (by rw [hsA]) (j2 false rfl)
      · refine Ev.neg (show ¬ ((s : Int) = (A : Int)) by omega) ?_
        refine Ev.pos (by omega) ?_
        refine Ev.pos (by omega) ?_
        refine Ev.pos (show 0 ≤ (A : Int) by omega) ?_
        refine Ev.pos (show (A : Int) ≤ (l.length : Int) by omega) ?_
        refine Ev.bind (show Ev (fun k => seineref11_Less.f k (strOfNums (l.drop ((s : Int)).toNat)) (strOfNums (l.drop ((A : Int)).toNat)) t) _ from by
          rw [Int.toNat_natCast, Int.toNat_natCast]
          exact rless (hb.drop s) (hb.drop A) t (by simp; omega)) ?_
        exact j2 _ (by rw [(less_of_LT hlt (h2.2 s hlt hsA)).1]; rfl)
end Go.Proofs.Ytkoahbhiffahdaa.Pure
