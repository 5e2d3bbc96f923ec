/- What the printed functions of layer 12 answer, in plain words. -/
import Derived.Test.YtkoahbhiffahdaaRunsB
import Derived.Test.YtkoahbhiffahdaaAllx9
set_option linter.unusedVariables false
set_option linter.unusedSimpArgs false
namespace Go.Proofs.Ytkoahbhiffahdaa.Runs
open Go.RowKit Go.Proofs.YtkoahbhiffahdaaW.PrintWords Go.Proofs.YtkoahbhiffahdaaW.PrintMore Go.Proofs.Ytkoahbhiffahdaa.Kit Go.Proofs.Ytkoahbhiffahdaa.Plain Go.Proofs.Ytkoahbhiffahdaa.All

theorem awake12 : Ev (fun k => seinelaw12_awake.f k) true := Ev.of (fun k => seinelaw12_awake.mono k) (k := 60) (by decide +kernel)

theorem alike {l : List Int} (hb : Bytes l) (hl : l.length ≤ 1000000) (a b n : Nat) (ha : a + n ≤ l.length) (hb' : b + n ≤ l.length) :
    critical_text_alike.f l (a : Int) (b : Int) (n : Int) = some (decide (∀ i, i < n → g l (a + i) = g l (b + i))) := by
  unfold critical_text_alike.f
  rw [wrap_add (by omega) (by omega), wrap_add (by omega) (by omega), if_pos (by omega), if_pos (by omega), if_pos (by omega), if_pos (by omega), if_pos (by omega), if_pos (by omega)]
  simp only [Int.toNat_natCast]
  congr 1
  rw [Bool.eq_iff_iff, beq_iff_eq, decide_eq_true_iff, toList_str_inj ((hb.take _).drop _) ((hb.take _).drop _)]
  constructor
  · intro h i hi
    have := congrArg (fun x : List Int => x.getD i 0) h
    simp only [getD_drop] at this
    rwa [getD_take (by omega), getD_take (by omega)] at this
  · intro h
    refine list_ext (by simp; omega) (fun i hi => ?_)
    simp at hi
    rw [getD_drop, getD_drop, getD_take (by omega), getD_take (by omega)]
    exact h i (by omega)

/-- Where a text is cut: the greatest end that begins later. -/
structure Cut (l : List Int) (A P : Nat) where
  t : Bool
  B : Nat
  top : Top t l A
  per : LeastPer (l.drop A) P
  other : Top (!t) l B
  le : B ≤ A
theorem cut_ok {l : List Int} (h : 1 ≤ l.length) {A0 P0 A1 P1 : Nat} (h0 : suffix_Max.f l false = some ((A0 : Int), (P0 : Int))) (h1 : suffix_Max.f l true = some ((A1 : Int), (P1 : Int))) :
    critical_cut.f l = some (if A1 > A0 then ((A1 : Int), (P1 : Int), false) else ((A0 : Int), (P0 : Int), false)) := by
  unfold critical_cut.f
  rw [h0, h1]
  simp only [Option.bind_some]
  by_cases hc : A1 > A0
  · rw [if_pos (by omega), if_pos hc]
  · rw [if_neg (by omega), if_neg hc]
theorem cut_some {l : List Int} (h : 1 ≤ l.length) : ∃ A P : Nat, critical_cut.f l = some ((A : Int), (P : Int), false) ∧ Nonempty (Cut l A P) := by
  obtain ⟨A0, P0, h0, t0, p0⟩ := max_ok false h
  obtain ⟨A1, P1, h1, t1, p1⟩ := max_ok true h
  rw [cut_ok h h0 h1]
  by_cases hc : A1 > A0
  · exact ⟨A1, P1, by rw [if_pos hc], ⟨⟨true, A0, t1, p1, t0, by omega⟩⟩⟩
  · exact ⟨A0, P0, by rw [if_neg hc], ⟨⟨false, A1, t0, p0, t1, by omega⟩⟩⟩
/-- The first bytes are the same as those one period on. -/
def Small (l : List Int) (A P : Nat) : Prop := ∀ i, i < A → g l (0 + i) = g l (P + i)
theorem factor_of {l : List Int} (hb : Bytes l) (hl : l.length ≤ 1000000) {A P : Nat} (hc : critical_cut.f l = some ((A : Int), (P : Int), false)) (h1 : 1 ≤ P) (h2 : P ≤ l.length - A) (h3 : A < l.length) :
    (Small l A P ∧ critical_Factor.f l = some ((A : Int), (P : Int), true)) ∨ (¬ Small l A P ∧ critical_Factor.f l = some ((A : Int), ((max A (l.length - A) + 1 : Nat) : Int), false)) := by
  unfold critical_Factor.f
  rw [hc]
  simp only [Option.bind_some]
  have e : ¬ (((A : Int) == 0 && ((P : Int) == 0 && !false)) = true) := by simp; omega
  rw [if_neg e]
  have := alike hb hl 0 P A (by omega) (by omega)
  rw [show (0 : Int) = ((0 : Nat) : Int) from rfl, this]
  simp only [Option.bind_some]
  by_cases hs : Small l A P
  · left
    refine ⟨hs, ?_⟩
    have hd : decide (∀ i, i < A → g l (0 + i) = g l (P + i)) = true := decide_eq_true hs
    rw [hd, if_pos rfl]
  · right
    refine ⟨hs, ?_⟩
    have hd : decide (∀ i, i < A → g l (0 + i) = g l (P + i)) = false := decide_eq_false hs
    rw [hd, if_neg (by simp), wrap_sub hl (by omega)]
    have em : mx (A : Int) ((l.length - A : Nat) : Int) = ((max A (l.length - A) : Nat) : Int) := by
      unfold mx
      by_cases h : (A : Int) < ((l.length - A : Nat) : Int)
      · rw [if_pos h, Nat.max_eq_right (by omega)]
      · rw [if_neg h, Nat.max_eq_left (by omega)]
    rw [em, wrap_succ (by omega)]
theorem factor {l : List Int} (hb : Bytes l) (hl : l.length ≤ 1000000) (h : 1 ≤ l.length) : ∃ A P : Nat, Nonempty (Cut l A P) ∧ A < l.length ∧ 1 ≤ P ∧ P ≤ l.length - A ∧ critical_cut.f l = some ((A : Int), (P : Int), false) ∧
    ((Small l A P ∧ critical_Factor.f l = some ((A : Int), (P : Int), true)) ∨ (¬ Small l A P ∧ critical_Factor.f l = some ((A : Int), ((max A (l.length - A) + 1 : Nat) : Int), false))) := by
  obtain ⟨A, P, hc, ⟨C⟩⟩ := cut_some h
  have hA := C.top.1
  have hP1 := C.per.pos
  have hPl : P ≤ l.length - A := by have := C.per.le (by simp; omega); simpa using this
  exact ⟨A, P, ⟨C⟩, hA, hP1, hPl, hc, factor_of hb hl hc hP1 hPl hA⟩
theorem factor_nil {l : List Int} (h : l.length = 0) : critical_Factor.f l = some (0, 0, false) := by
  have hc : critical_cut.f l = some (0, 0, false) := by
    unfold critical_cut.f
    rw [max_nil _ h, max_nil _ h]
    simp
  unfold critical_Factor.f
  rw [hc]
  simp only [Option.bind_some]
  rw [if_pos (by simp)]

/-! ### the least period at a place -/
theorem leastLoc_any (l : List Int) (a : Nat) : ∃ q, LeastLoc l a q ∧ (q ≤ l.length ∨ q = 1) := by
  obtain ⟨q, hq⟩ := least_exists (fun q => IsLoc l a q) (l.length + 1) ⟨by omega, fun i _ _ hi => by omega⟩
  refine ⟨q, hq, ?_⟩
  by_cases h : l.length = 0
  · right
    have h1 := hq.2 1 ⟨by omega, fun i _ _ hi => by omega⟩
    have := hq.1.1
    omega
  · left
    exact hq.2 l.length ⟨by omega, fun i _ _ hi => by omega⟩
theorem local0 {l : List Int} (hb : Bytes l) (hl : l.length ≤ 1000000) {a q : Nat} (ha : a ≤ l.length) (hq : LeastLoc l a q) (hql : q ≤ 1000000) : ∀ d p, q - p = d → 1 ≤ p → p ≤ q →
    Ev (fun k => critical_Local.l0 k l (a : Int) (p : Int)) ((q : Nat) : Int) := by
  intro d
  induction d with
  | zero =>
    intro p hd h1 h2
    obtain rfl : p = q := by omega
    refine Ev.step (fun k => by rw [critical_Local.l0]) ?_
    have e1 : wrap64 ((l.length : Int) - (p : Int)) = (l.length : Int) - (p : Int) := wrap_id (by omega) (by omega)
    have e2 : wrap64 ((a : Int) - (p : Int)) = (a : Int) - (p : Int) := wrap_id (by omega) (by omega)
    rw [e1, e2]
    have e3 : mx ((a : Int) - (p : Int)) 0 = ((a - p : Nat) : Int) := by unfold mx; split <;> omega
    rw [e3]
    by_cases hle : mn (a : Int) ((l.length : Int) - (p : Int)) ≤ ((a - p : Nat) : Int)
    · exact Ev.pos hle (Ev.now _)
    · refine Ev.neg hle ?_
      obtain ⟨b, hb1⟩ : ∃ b : Nat, mn (a : Int) ((l.length : Int) - (p : Int)) = (b : Int) := ⟨(mn (a : Int) ((l.length : Int) - (p : Int))).toNat, by omega⟩
      have hb2 : b ≤ a ∧ b + p ≤ l.length := by unfold mn at hb1; split at hb1 <;> omega
      rw [hb1] at hle ⊢
      rw [wrap_add (by omega) (by omega), wrap_sub (by omega) (by omega)]
      have := alike hb hl (a - p) (a - p + p) (b - (a - p)) (by omega) (by omega)
      refine Ev.bindc this ?_
      refine Ev.pos ?_ (Ev.now _)
      rw [decide_eq_true_iff]
      intro i hi
      rw [hq.1.2 (a - p + i) (by omega) (by omega) (by omega)]
      congr 1
      omega
  | succ d ih =>
    intro p hd h1 h2
    have hn : ¬ IsLoc l a p := fun h => by have := hq.2 p h; omega
    refine Ev.step (fun k => by rw [critical_Local.l0]) ?_
    have e1 : wrap64 ((l.length : Int) - (p : Int)) = (l.length : Int) - (p : Int) := wrap_id (by omega) (by omega)
    have e2 : wrap64 ((a : Int) - (p : Int)) = (a : Int) - (p : Int) := wrap_id (by omega) (by omega)
    rw [e1, e2]
    have e3 : mx ((a : Int) - (p : Int)) 0 = ((a - p : Nat) : Int) := by unfold mx; split <;> omega
    rw [e3]
    obtain ⟨i, hi⟩ : ∃ i, ¬ (i < a → a ≤ i + p → i + p < l.length → g l i = g l (i + p)) := Classical.byContradiction fun hc => hn ⟨h1, fun i => Classical.byContradiction fun he => hc ⟨i, he⟩⟩
    have hi1 : i < a ∧ a ≤ i + p ∧ i + p < l.length ∧ ¬ g l i = g l (i + p) := by
      refine ⟨Classical.byContradiction fun h => hi (fun h' => absurd h' h), Classical.byContradiction fun h => hi (fun _ h' => absurd h' h), Classical.byContradiction fun h => hi (fun _ _ h' => absurd h' h), fun h => hi (fun _ _ _ => h)⟩
    obtain ⟨i1, i2, i3, i4⟩ := hi1
    have hle : ¬ mn (a : Int) ((l.length : Int) - (p : Int)) ≤ ((a - p : Nat) : Int) := by unfold mn; split <;> omega
    refine Ev.neg hle ?_
    obtain ⟨b, hb1⟩ : ∃ b : Nat, mn (a : Int) ((l.length : Int) - (p : Int)) = (b : Int) := ⟨(mn (a : Int) ((l.length : Int) - (p : Int))).toNat, by omega⟩
    have hb2 : b ≤ a ∧ b + p ≤ l.length ∧ i < b := by unfold mn at hb1; split at hb1 <;> omega
    rw [hb1] at hle ⊢
    rw [wrap_add (by omega) (by omega), wrap_sub (by omega) (by omega)]
    have := alike hb hl (a - p) (a - p + p) (b - (a - p)) (by omega) (by omega)
    refine Ev.bindc this ?_
    refine Ev.neg ?_ ?_
    · rw [decide_eq_true_iff]
      intro hall
      have := hall (i - (a - p)) (by omega)
      have e4 : a - p + (i - (a - p)) = i := by omega
      have e5 : a - p + p + (i - (a - p)) = i + p := by omega
      rw [e4, e5] at this
      exact i4 this
    · rw [wrap_succ (by omega)]
      exact ih (p + 1) (by omega) (by omega) (by omega)
theorem local_ok {l : List Int} (hb : Bytes l) (hl : l.length ≤ 1000) {a q : Nat} (ha : a ≤ l.length) (hq : LeastLoc l a q) : Ev (fun k => critical_Local.f k l (a : Int)) ((q : Nat) : Int) := by
  have hql : q ≤ 1000000 := by
    obtain ⟨q', h', h⟩ := leastLoc_any l a
    obtain rfl := hq.unique h'
    omega
  unfold critical_Local.f
  refine Ev.neg (by omega) ?_
  refine Ev.step (fun k => by rw [critical_Local.j0]) ?_
  refine Ev.neg (by simp; omega) ?_
  exact local0 hb (by omega) ha hq hql _ 1 rfl (by omega) hq.1.1
theorem local_out {l : List Int} {a : Int} (h : a < 0 ∨ a > (l.length : Int)) : Ev (fun k => critical_Local.f k l a) 0 := by
  unfold critical_Local.f
  by_cases h0 : a < 0
  · refine Ev.pos h0 ?_
    refine Ev.step (fun k => by rw [critical_Local.j0]) ?_
    exact Ev.pos rfl (Ev.now _)
  · refine Ev.neg h0 ?_
    refine Ev.step (fun k => by rw [critical_Local.j0]) ?_
    exact Ev.pos (decide_eq_true (h.resolve_left h0)) (Ev.now _)
end Go.Proofs.Ytkoahbhiffahdaa.Runs
