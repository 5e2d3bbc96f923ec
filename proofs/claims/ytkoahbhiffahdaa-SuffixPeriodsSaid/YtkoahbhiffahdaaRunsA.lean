/- What the printed functions of layer 11 answer, in plain words: the order, the greatest end, the failure table. -/
import Derived.Test.YtkoahbhiffahdaaMaxM
import Derived.Test.YtkoahbhiffahdaaHand
set_option linter.unusedVariables false
namespace Go.Proofs.Ytkoahbhiffahdaa.Runs
open Go.RowKit Go.Proofs.YtkoahbhiffahdaaW.PrintWords Go.Proofs.Ytkoahbhiffahdaa.Kit Go.Proofs.Ytkoahbhiffahdaa.Plain Go.Proofs.Ytkoahbhiffahdaa.All

theorem ltT_iff {t : Bool} {x y : Int} : ltT t x y = true ↔ lt t x y := by
  unfold ltT lt
  cases t <;> simp <;> omega
theorem lessL_go {t : Bool} {a b : List Int} : ∀ j, j ≤ a.length → j ≤ b.length → (∀ i, i < j → g a i = g b i) → lessL t a b = lessL t (a.drop j) (b.drop j) := by
  intro j
  induction j with
  | zero => intro _ _ _; simp
  | succ j ih =>
    intro ha hb h
    rw [ih (by omega) (by omega) (fun i hi => h i (by omega))]
    exact lessL_step (by omega) (by omega) (by rw [rd_nat, rd_nat]; exact h j (by omega))
theorem less_of_SL {t : Bool} {l : List Int} {a b j : Nat} (h : SL t l a b j) : lessL t (l.drop a) (l.drop b) = true ∧ lessL t (l.drop b) (l.drop a) = false := by
  obtain ⟨h1, h2, h3, h4⟩ := h
  have e : ∀ i, i < j → g (l.drop a) i = g (l.drop b) i := fun i hi => by rw [g_drop, g_drop]; exact h3 i hi
  have hne : ¬ rd (l.drop a) (j : Int) = rd (l.drop b) (j : Int) := by
    rw [rd_nat, rd_nat, getD_drop, getD_drop]
    intro he
    have : g l (a + j) = g l (b + j) := he
    rw [this] at h4
    exact lt_irrefl h4
  have l1 : j < (l.drop a).length := by simp; omega
  have l2 : j < (l.drop b).length := by simp; omega
  constructor
  · rw [lessL_go j (by omega) (by omega) e, lessL_stop l1 l2 hne, ltT_iff, rd_nat, rd_nat, getD_drop, getD_drop]
    exact h4
  · rw [lessL_go j (by omega) (by omega) (fun i hi => (e i hi).symm), lessL_stop l2 l1 (fun he => hne he.symm), Bool.eq_false_iff]
    intro he
    rw [ltT_iff, rd_nat, rd_nat, getD_drop, getD_drop] at he
    exact lt_asymm h4 he
theorem less_of_LT {t : Bool} {l : List Int} {a b : Nat} (ha : a < l.length) (h : LT t l a b) : lessL t (l.drop a) (l.drop b) = true ∧ lessL t (l.drop b) (l.drop a) = false := by
  rcases h with ⟨j, hj⟩ | ⟨hlt, he⟩
  · exact less_of_SL hj
  · have la : (l.drop a).length = l.length - a := by simp
    have lb : (l.drop b).length = l.length - b := by simp
    have e : ∀ i, i < (l.drop a).length → g (l.drop a) i = g (l.drop b) i := fun i hi => by rw [g_drop, g_drop]; exact he i (by omega)
    constructor
    · rw [lessL_go (l.drop a).length (by omega) (by omega) e, lessL_end (.inl (Nat.le_refl _)) (by omega) (by omega)]
      simp; omega
    · rw [lessL_go (l.drop a).length (by omega) (by omega) (fun i hi => (e i hi).symm), lessL_end (.inr (Nat.le_refl _)) (by omega) (by omega)]
      simp; omega

/-! ### the program's Max -/
theorem maxL_ok {t : Bool} {l : List Int} : ∀ f a n k p, Inv t l a n k p → 2 * l.length < f + (a + n + k) → ∃ A P : Nat, maxL t l f a n k p = some ((A : Int), (P : Int)) ∧ Top t l A ∧ LeastPer (l.drop A) P := by
  intro f
  induction f with
  | zero =>
    intro a n k p I hf
    have h1 := I.h1
    have h2 := I.h2
    omega
  | succ f ih =>
    intro a n k p I hf
    have h1 := I.h1
    have h2 := I.h2
    have h3 := I.h3
    obtain ⟨m, hm, hn⟩ := I.h4
    have hp : p ≤ m * p := Nat.le_mul_of_pos_left p hm
    by_cases hlt : n + k < l.length
    · by_cases c1 : ltT t (rd l ((n + k : Nat) : Int)) (rd l ((a + k : Nat) : Int)) = true
      · have c := ltT_iff.1 c1
        rw [rd_nat, rd_nat] at c
        obtain ⟨A, P, h⟩ := ih _ _ _ _ (I.down hlt c) (by omega)
        refine ⟨A, P, ?_, h.2⟩
        rw [maxL, if_pos hlt, if_pos c1]
        exact h.1
      · by_cases c2 : rd l ((a + k : Nat) : Int) = rd l ((n + k : Nat) : Int)
        · have c := c2
          rw [rd_nat, rd_nat] at c
          by_cases c3 : k + 1 < p
          · obtain ⟨A, P, h⟩ := ih _ _ _ _ (I.on hlt c c3) (by omega)
            refine ⟨A, P, ?_, h.2⟩
            rw [maxL, if_pos hlt, if_neg c1, if_pos c2, if_pos c3]
            exact h.1
          · obtain ⟨A, P, h⟩ := ih _ _ _ _ (I.next hlt c c3) (by omega)
            refine ⟨A, P, ?_, h.2⟩
            rw [maxL, if_pos hlt, if_neg c1, if_pos c2, if_neg c3]
            exact h.1
        · have c : lt t (g l (a + k)) (g l (n + k)) := by
            refine lt_total (fun hc => c1 (ltT_iff.2 ?_)) (fun he => c2 ?_)
            · rw [rd_nat, rd_nat]; exact hc
            · rw [rd_nat, rd_nat]; exact he.symm
          obtain ⟨A, P, h⟩ := ih _ _ _ _ (I.up hlt c) (by omega)
          refine ⟨A, P, ?_, h.2⟩
          rw [maxL, if_pos hlt, if_neg c1, if_neg c2]
          exact h.1
    · refine ⟨a, p, ?_, I.top (by omega), I.period (by omega)⟩
      rw [maxL, if_neg hlt]
theorem max_ok {l : List Int} (t : Bool) (h : 1 ≤ l.length) : ∃ A P : Nat, suffix_Max.f l t = some ((A : Int), (P : Int)) ∧ Top t l A ∧ LeastPer (l.drop A) P := by
  unfold suffix_Max.f
  rw [if_neg (by omega)]
  exact maxL_ok _ _ _ _ _ (Inv.first h) (by omega)
theorem max_nil {l : List Int} (t : Bool) (h : l.length = 0) : suffix_Max.f l t = some (0, 0) := by
  unfold suffix_Max.f
  rw [if_pos h]
theorem less_f (a b : List Int) (t : Bool) : suffix_Less.f a b t = some (lessL t a b) := rfl
theorem lessL_irrefl (t : Bool) : ∀ a, lessL t a a = false
  | [] => rfl
  | x :: a => by simp [lessL, lessL_irrefl t a]
theorem lessL_asymm (t : Bool) : ∀ a b, lessL t a b = true → lessL t b a = false
  | [], [], h => by simp [lessL] at h
  | [], y :: b, _ => by simp [lessL]
  | x :: a, [], h => by simp [lessL] at h
  | x :: a, y :: b, h => by
    by_cases e : x = y
    · subst e
      simp [lessL] at h ⊢
      exact lessL_asymm t a b h
    · have e' : ¬ y = x := fun h => e h.symm
      simp only [lessL, if_neg e, if_neg e'] at h ⊢
      cases t <;> simp at * <;> omega
theorem lessL_total (t : Bool) : ∀ a b, lessL t a b = false → lessL t b a = false → a = b
  | [], [], _, _ => rfl
  | [], y :: b, h, _ => by simp [lessL] at h
  | x :: a, [], _, h => by simp [lessL] at h
  | x :: a, y :: b, h, h' => by
    by_cases e : x = y
    · subst e
      simp [lessL] at h h'
      rw [lessL_total t a b h h']
    · have e' : ¬ y = x := fun h => e h.symm
      simp only [lessL, if_neg e, if_neg e'] at h h'
      cases t <;> simp at * <;> omega
end Go.Proofs.Ytkoahbhiffahdaa.Runs
