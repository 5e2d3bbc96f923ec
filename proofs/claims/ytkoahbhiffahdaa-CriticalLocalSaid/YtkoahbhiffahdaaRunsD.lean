/- What the references of layer 12 answer, in plain words. -/
import Derived.Test.YtkoahbhiffahdaaRunsC
import Derived.Test.YtkoahbhiffahdaaAllx9
import Derived.Test.YtkoahbhiffahdaaAllx10
set_option linter.unusedVariables false
set_option linter.unusedSimpArgs false
namespace Go.Proofs.Ytkoahbhiffahdaa.Runs
open Go.RowKit Go.Proofs.YtkoahbhiffahdaaW.PrintWords Go.Proofs.YtkoahbhiffahdaaW.PrintMore Go.Proofs.Ytkoahbhiffahdaa.Kit Go.Proofs.Ytkoahbhiffahdaa.Plain Go.Proofs.Ytkoahbhiffahdaa.All

theorem rlocal_yes {l : List Int} (hb : Bytes l) (hl : l.length ≤ 1000) {a p : Nat} (ha : a ≤ l.length) (hp : IsLoc l a p) (hp' : p ≤ l.length) : ∀ d (i : Int), ((a : Int) - i).toNat = d → (a : Int) - p ≤ i → i ≤ a →
    Ev (fun k => seineref12_Local.l1 k (strOfNums l) (a : Int) (p : Int) true i) ((p : Nat) : Int) := by
  intro d
  induction d with
  | zero =>
    intro i hd h1 h2
    refine Ev.step (fun k => by rw [seineref12_Local.l1]) ?_
    refine Ev.neg (by omega) ?_
    exact Ev.pos rfl (Ev.now _)
  | succ d ih =>
    intro i hd h1 h2
    have e1 : wrap64 (i + 1) = i + 1 := wrap_id (by omega) (by omega)
    have e2 : wrap64 (i + (p : Int)) = i + (p : Int) := wrap_id (by omega) (by omega)
    refine Ev.step (fun k => by rw [seineref12_Local.l1]) ?_
    rw [e1, e2]
    refine Ev.pos (by omega) ?_
    refine Ev.pos rfl ?_
    by_cases h0 : i < 0
    · exact Ev.pos h0 (ih (i + 1) (by omega) (by omega) (by omega))
    · refine Ev.neg h0 ?_
      by_cases hi : i + (p : Int) ≥ ((strOfNums l).size : Int)
      · exact Ev.pos hi (ih (i + 1) (by omega) (by omega) (by omega))
      · refine Ev.neg hi ?_
        rw [size_str] at hi
        refine Ev.pos (by omega) ?_
        refine Ev.pos (by rw [size_str]; omega) ?_
        refine Ev.pos (by omega) ?_
        refine Ev.pos (by rw [size_str]; omega) ?_
        obtain ⟨j, rfl⟩ : ∃ j : Nat, i = (j : Int) := ⟨i.toNat, by omega⟩
        have he := hp.2 j (by omega) (by omega) (by omega)
        rw [bt_str hb, bt_str hb, rd_nat, rd_of (show (j : Int) + (p : Int) = ((j + p : Nat) : Int) by omega)]
        have : (l.getD j 0 == l.getD (j + p) 0) = true := by simpa using he
        rw [this]
        exact ih _ (by omega) (by omega) (by omega)
theorem rlocal_no {l : List Int} (hb : Bytes l) (hl : l.length ≤ 1000) {a p : Nat} (ha : a ≤ l.length) (hp' : p ≤ l.length) (h1p : 1 ≤ p) {r : Int} (hr : Ev (fun k => seineref12_Local.l0 k (strOfNums l) (a : Int) ((p + 1 : Nat) : Int)) r) : ∀ d (i : Int) (b : Bool), ((a : Int) - i).toNat = d → (a : Int) - p ≤ i → i ≤ a →
    (b = false ∨ ∃ j : Nat, i ≤ (j : Int) ∧ j < a ∧ j + p < l.length ∧ ¬ g l j = g l (j + p)) →
    Ev (fun k => seineref12_Local.l1 k (strOfNums l) (a : Int) (p : Int) b i) r := by
  intro d
  induction d with
  | zero =>
    intro i b hd h1 h2 h
    have hbf : b = false := by
      rcases h with h | ⟨j, h3, h4, _⟩
      · exact h
      · omega
    subst hbf
    refine Ev.step (fun k => by rw [seineref12_Local.l1]) ?_
    refine Ev.neg (by omega) ?_
    refine Ev.neg (by simp) ?_
    rw [wrap_succ (by omega)]
    exact hr
  | succ d ih =>
    intro i b hd h1 h2 h
    have e1 : wrap64 (i + 1) = i + 1 := wrap_id (by omega) (by omega)
    have e2 : wrap64 (i + (p : Int)) = i + (p : Int) := wrap_id (by omega) (by omega)
    refine Ev.step (fun k => by rw [seineref12_Local.l1]) ?_
    rw [e1, e2]
    refine Ev.pos (by omega) ?_
    cases b with
    | false => exact Ev.neg (by simp) (ih (i + 1) false (by omega) (by omega) (by omega) (.inl rfl))
    | true =>
      obtain ⟨j, j1, j2, j3, j4⟩ := h.resolve_left (by simp)
      refine Ev.pos rfl ?_
      by_cases h0 : i < 0
      · exact Ev.pos h0 (ih (i + 1) true (by omega) (by omega) (by omega) (.inr ⟨j, by omega, j2, j3, j4⟩))
      · refine Ev.neg h0 ?_
        by_cases hi : i + (p : Int) ≥ ((strOfNums l).size : Int)
        · refine Ev.pos hi (ih (i + 1) true (by omega) (by omega) (by omega) (.inr ⟨j, ?_, j2, j3, j4⟩))
          rw [size_str] at hi
          omega
        · refine Ev.neg hi ?_
          rw [size_str] at hi
          refine Ev.pos (by omega) ?_
          refine Ev.pos (by rw [size_str]; omega) ?_
          refine Ev.pos (by omega) ?_
          refine Ev.pos (by rw [size_str]; omega) ?_
          obtain ⟨m, rfl⟩ : ∃ m : Nat, i = (m : Int) := ⟨i.toNat, by omega⟩
          rw [bt_str hb, bt_str hb, rd_nat, rd_of (show (m : Int) + (p : Int) = ((m + p : Nat) : Int) by omega)]
          refine ih _ _ (by omega) (by omega) (by omega) ?_
          by_cases hmj : m = j
          · subst hmj
            left
            simpa using j4
          · exact .inr ⟨j, by omega, j2, j3, j4⟩
theorem rlocal0 {l : List Int} (hb : Bytes l) (hl : l.length ≤ 1000) {a q : Nat} (ha : a ≤ l.length) (hq : LeastLoc l a q) (hql : q ≤ l.length) : ∀ d p, q - p = d → 1 ≤ p → p ≤ q →
    Ev (fun k => seineref12_Local.l0 k (strOfNums l) (a : Int) (p : Int)) ((q : Nat) : Int) := by
  intro d
  induction d with
  | zero =>
    intro p hd h1 h2
    obtain rfl : p = q := by omega
    refine Ev.step (fun k => by rw [seineref12_Local.l0]) ?_
    refine Ev.pos (by rw [size_str]; omega) ?_
    rw [wrap_id (show (-9223372036854775808 : Int) ≤ (a : Int) - (p : Int) by omega) (by omega)]
    exact rlocal_yes hb hl ha hq.1 hql _ _ rfl (by omega) (by omega)
  | succ d ih =>
    intro p hd h1 h2
    have hn : ¬ IsLoc l a p := fun h => by have := hq.2 p h; omega
    refine Ev.step (fun k => by rw [seineref12_Local.l0]) ?_
    refine Ev.pos (by rw [size_str]; omega) ?_
    rw [wrap_id (show (-9223372036854775808 : Int) ≤ (a : Int) - (p : Int) by omega) (by omega)]
    refine rlocal_no hb hl ha (by omega) h1 (ih (p + 1) (by omega) (by omega) (by omega)) _ _ true rfl (by omega) (by omega) (.inr ?_)
    obtain ⟨i, hi⟩ : ∃ i, ¬ (i < a → a ≤ i + p → i + p < l.length → g l i = g l (i + p)) := Classical.byContradiction fun hc => hn ⟨h1, fun i => Classical.byContradiction fun he => hc ⟨i, he⟩⟩
    refine ⟨i, ?_, Classical.byContradiction fun h => hi (fun h' => absurd h' h), Classical.byContradiction fun h => hi (fun _ _ h' => absurd h' h), fun h => hi (fun _ _ _ => h)⟩
    have : a ≤ i + p := Classical.byContradiction fun h => hi (fun _ h' => absurd h' h)
    omega
theorem rlocal_ok {l : List Int} (hb : Bytes l) (hl : l.length ≤ 1000) {a q : Nat} (ha : a ≤ l.length) (hq : LeastLoc l a q) : Ev (fun k => seineref12_Local.f k (strOfNums l) (a : Int)) ((q : Nat) : Int) := by
  unfold seineref12_Local.f
  refine Ev.neg (by omega) ?_
  refine Ev.step (fun k => by rw [seineref12_Local.j0]) ?_
  refine Ev.neg (by rw [size_str]; simp; omega) ?_
  obtain ⟨q', h', h⟩ := leastLoc_any l a
  obtain rfl := hq.unique h'
  by_cases h0 : l.length = 0
  · have hq1 : q = 1 := by
      have := hq.1.1
      omega
    subst hq1
    show Ev (fun k => seineref12_Local.l0 k (strOfNums l) (a : Int) 1) 1
    refine Ev.step (fun k => by rw [seineref12_Local.l0]) ?_
    exact Ev.neg (by rw [size_str]; omega) (Ev.now _)
  · exact rlocal0 hb hl ha hq (by omega) _ 1 rfl (by omega) hq.1.1
theorem rlocal_out {l : List Int} {a : Int} (h : a < 0 ∨ a > (l.length : Int)) : Ev (fun k => seineref12_Local.f k (strOfNums l) a) 0 := by
  unfold seineref12_Local.f
  by_cases h0 : a < 0
  · refine Ev.pos h0 ?_
    refine Ev.step (fun k => by rw [seineref12_Local.j0]) ?_
    exact Ev.pos rfl (Ev.now _)
  · refine Ev.neg h0 ?_
    refine Ev.step (fun k => by rw [seineref12_Local.j0]) ?_
    exact Ev.pos (by rw [size_str]; exact decide_eq_true (h.resolve_left h0)) (Ev.now _)
theorem rfactor_cut {l : List Int} (hb : Bytes l) (hl : l.length ≤ 1000) {A P : Nat} (h1 : 1 ≤ P) (h2 : P ≤ l.length - A) (h3 : A < l.length) :
    Ev (fun k => seineref12_Factor.j0 k (strOfNums l) (A : Int) (P : Int)) (((A : Nat) : Int), if ∀ i, i < A → g l (0 + i) = g l (P + i) then ((P : Int), true) else (((max A (l.length - A) + 1 : Nat) : Int), false)) := by
  refine Ev.step (fun k => by rw [seineref12_Factor.j0]) ?_
  rw [wrap_add (by omega) (by omega), size_str]
  refine Ev.pos (by omega) ?_
  refine Ev.pos (by omega) ?_
  refine Ev.pos (by omega) ?_
  refine Ev.pos (by omega) ?_
  refine Ev.pos (by omega) ?_
  simp only [Int.toNat_natCast]
  have key : ((strOfNums l).extract 0 A).toList = ((strOfNums l).extract P (P + A)).toList ↔ ∀ i, i < A → g l (0 + i) = g l (P + i) := by
    rw [extract_str, extract_str, List.drop_zero, toList_str_inj (hb.take _) ((hb.take _).drop _)]
    constructor
    · intro h i hi
      have := congrArg (fun x : List Int => x.getD i 0) h
      simp only [getD_drop] at this
      rw [getD_take hi, getD_take (by omega)] at this
      rw [Nat.zero_add]
      exact this
    · intro h
      refine list_ext (by simp; omega) (fun i hi => ?_)
      simp at hi
      have := h i (by omega)
      rw [Nat.zero_add] at this
      rw [getD_take (by omega), getD_drop, getD_take (by omega)]
      exact this
  by_cases hs : ∀ i, i < A → g l (0 + i) = g l (P + i)
  · rw [if_pos hs]
    exact Ev.pos (key.2 hs) (Ev.now _)
  · rw [if_neg hs]
    refine Ev.neg (fun h => hs (key.1 h)) ?_
    rw [wrap_sub (by omega) (by omega), wrap_succ (by omega), wrap_succ (by omega)]
    by_cases hc : l.length - A > A
    · refine Ev.pos (by omega) ?_
      exact Ev.ret (by rw [Nat.max_eq_right (by omega)])
    · refine Ev.neg (by omega) ?_
      exact Ev.ret (by rw [Nat.max_eq_left (by omega)])
end Go.Proofs.Ytkoahbhiffahdaa.Runs
