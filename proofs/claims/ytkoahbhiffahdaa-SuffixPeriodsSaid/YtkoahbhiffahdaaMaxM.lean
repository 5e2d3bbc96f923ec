/- Plain words on the greatest end of a text: the search that finds it, and where a text is cut (the theorem of the cut). No program in sight. -/
import Derived.Test.YtkoahbhiffahdaaPer
set_option linter.unusedVariables false
namespace Go.Proofs.Ytkoahbhiffahdaa.Plain
open Go.Proofs.Ytkoahbhiffahdaa.Kit

/-- The order of bytes, or the turned one. -/
def lt (t : Bool) (x y : Int) : Prop := if t then y < x else x < y
theorem lt_irrefl {t : Bool} {x : Int} (h : lt t x x) : False := by cases t <;> simp [lt] at h
theorem lt_trans {t : Bool} {x y z : Int} (h : lt t x y) (h' : lt t y z) : lt t x z := by cases t <;> simp [lt] at * <;> omega
theorem lt_asymm {t : Bool} {x y : Int} (h : lt t x y) (h' : lt t y x) : False := lt_irrefl (lt_trans h h')
theorem lt_total {t : Bool} {x y : Int} (h : ¬ lt t x y) (hne : ¬ x = y) : lt t y x := by cases t <;> simp [lt] at * <;> omega
theorem lt_turn {t : Bool} {x y : Int} (h : lt t x y) : lt (!t) y x := by cases t <;> simp [lt] at * <;> omega

/-- The end from a on is below the one from b on: at their j-th bytes. -/
def SL (t : Bool) (l : List Int) (a b j : Nat) : Prop :=
  a + j < l.length ∧ b + j < l.length ∧ (∀ i, i < j → g l (a + i) = g l (b + i)) ∧ lt t (g l (a + j)) (g l (b + j))
theorem SL.trans {t : Bool} {l : List Int} {a b c j k : Nat} (h : SL t l a b j) (h' : SL t l b c k) : SL t l a c (min j k) := by
  obtain ⟨h1, h2, h3, h4⟩ := h
  obtain ⟨k1, k2, k3, k4⟩ := h'
  rcases Nat.lt_trichotomy j k with e | e | e
  · rw [Nat.min_eq_left (by omega)]
    refine ⟨h1, by omega, fun i hi => (h3 i hi).trans (k3 i (by omega)), ?_⟩
    rw [← k3 j e]; exact h4
  · subst e
    rw [Nat.min_self]
    exact ⟨h1, k2, fun i hi => (h3 i hi).trans (k3 i hi), lt_trans h4 k4⟩
  · rw [Nat.min_eq_right (by omega)]
    refine ⟨by omega, k2, fun i hi => (h3 i (by omega)).trans (k3 i hi), ?_⟩
    rw [h3 k e]; exact k4
/-- .. or it is shorter, and the other one begins with it. -/
def LT (t : Bool) (l : List Int) (a b : Nat) : Prop := (∃ j, SL t l a b j) ∨ (b < a ∧ ∀ i, a + i < l.length → g l (a + i) = g l (b + i))
theorem SL.not_LT {t : Bool} {l : List Int} {a b j : Nat} (h : SL t l a b j) (h' : LT t l b a) : False := by
  rcases h' with ⟨k, hk⟩ | ⟨hlt, he⟩
  · have := h.trans hk
    exact lt_irrefl this.2.2.2
  · have := he j h.2.1
    have h4 := h.2.2.2
    rw [← this] at h4
    exact lt_irrefl h4

structure Inv (t : Bool) (l : List Int) (a n k p : Nat) : Prop where
  h1 : a < n
  h2 : n + k ≤ l.length
  h3 : k < p
  h4 : ∃ m, 1 ≤ m ∧ n = a + m * p
  per : ∀ i, a ≤ i → i + p < n + k → g l i = g l (i + p)
  inn : ∀ s, 0 < s → s < p → ∃ j, s + j < p ∧ SL t l (a + s) a j
  low : ∀ s, s < a → ∃ j, SL t l s a j

theorem Inv.first {t : Bool} {l : List Int} (h : 1 ≤ l.length) : Inv t l 0 1 0 1 :=
  ⟨by omega, by omega, by omega, ⟨1, by omega, by omega⟩, fun i _ hi => by omega, fun s h0 h1 => by omega, fun s hs => by omega⟩

section
variable {t : Bool} {l : List Int} {a n k p : Nat}
theorem Inv.perm (I : Inv t l a n k p) : ∀ c i, a ≤ i → i + c * p < n + k → g l i = g l (i + c * p) := by
  intro c
  induction c with
  | zero => intro i _ _; simp
  | succ c ih =>
    intro i hi hc
    have e : (c + 1) * p = c * p + p := Nat.succ_mul c p
    rw [e] at hc ⊢
    rw [ih i hi (by omega), I.per (i + c * p) (by omega) (by omega)]
    congr 1
    omega
/-- An end that begins within the whole periods: it is a whole number of these on, or below. -/
theorem Inv.within (I : Inv t l a n k p) (s : Nat) (h : a ≤ s) (h' : s < n) : (∃ q, s = a + q * p) ∨ ∃ j, s + j < n ∧ SL t l s a j := by
  obtain ⟨m, hm, hn⟩ := I.h4
  have hp : 0 < p := by have := I.h3; omega
  have hd := Nat.div_add_mod (s - a) p
  obtain ⟨q, hq⟩ : ∃ q, q = (s - a) / p := ⟨_, rfl⟩
  obtain ⟨r, hr⟩ : ∃ r, r = (s - a) % p := ⟨_, rfl⟩
  have hrp : r < p := by rw [hr]; exact Nat.mod_lt _ hp
  rw [← hq, ← hr, Nat.mul_comm] at hd
  by_cases h0 : r = 0
  · exact .inl ⟨q, by omega⟩
  · right
    obtain ⟨j, hj, hs1, hs2, hs3, hs4⟩ := I.inn r (by omega) hrp
    have hqm : q < m := by
      apply Nat.lt_of_not_le
      intro hle
      have := Nat.mul_le_mul_right p hle
      omega
    have hq1 : (q + 1) * p ≤ m * p := Nat.mul_le_mul_right p hqm
    rw [Nat.succ_mul] at hq1
    have hk := I.h2
    have hsj : s + j < n := by omega
    have ge : ∀ i, i ≤ j → g l (s + i) = g l (a + r + i) := by
      intro i hi
      rw [I.perm q (a + r + i) (by omega) (by omega)]
      congr 1
      omega
    refine ⟨j, hsj, by omega, by omega, fun i hi => ?_, ?_⟩
    · rw [ge i (by omega), hs3 i hi]
    · rw [ge j (by omega)]; exact hs4

theorem Inv.up (I : Inv t l a n k p) (hlt : n + k < l.length) (h : lt t (g l (a + k)) (g l (n + k))) : Inv t l n (n + 1) 0 1 := by
  obtain ⟨m, hm, hn⟩ := I.h4
  have i1 := I.h1
  have hs : SL t l a n k := by
    refine ⟨by omega, hlt, fun i hi => ?_, h⟩
    rw [I.perm m (a + i) (by omega) (by omega)]
    congr 1
    omega
  refine ⟨by omega, by omega, by omega, ⟨1, by omega, by omega⟩, fun i _ hi => by omega, fun s h0 h1 => by omega, fun s hsn => ?_⟩
  by_cases hsa : s < a
  · obtain ⟨j, hj⟩ := I.low s hsa
    exact ⟨_, hj.trans hs⟩
  · rcases I.within s (by omega) hsn with ⟨q, hq⟩ | ⟨j, _, hj⟩
    · have hqm : q ≤ m := by
        apply Nat.le_of_not_lt
        intro hle
        have := Nat.mul_le_mul_right p (Nat.le_of_lt hle)
        have h3 := I.h3
        omega
      have e : (m - q) * p = m * p - q * p := Nat.sub_mul m q p
      have hqp : q * p ≤ m * p := Nat.mul_le_mul_right p hqm
      refine ⟨k, by omega, hlt, fun i hi => ?_, ?_⟩
      · rw [I.perm (m - q) (s + i) (by omega) (by omega)]
        congr 1
        omega
      · have : g l (a + k) = g l (s + k) := by
          rw [I.perm q (a + k) (by omega) (by omega)]
          congr 1
          omega
        rw [← this]
        exact h
    · exact ⟨_, hj.trans hs⟩

theorem Inv.down (I : Inv t l a n k p) (hlt : n + k < l.length) (h : lt t (g l (n + k)) (g l (a + k))) : Inv t l a (n + (k + 1)) 0 (n + (k + 1) - a) := by
  obtain ⟨m, hm, hn⟩ := I.h4
  have i1 := I.h1
  have i3 := I.h3
  refine ⟨by omega, by omega, by omega, ⟨1, by omega, by omega⟩, fun i hi hi' => by omega, fun s h0 hs => ?_, I.low⟩
  by_cases hsn : a + s ≤ n
  · have hq : (∃ q, a + s = a + q * p) ∨ ∃ j, a + s + j < n ∧ SL t l (a + s) a j := by
      by_cases e : a + s = n
      · exact .inl ⟨m, by omega⟩
      · exact I.within (a + s) (by omega) (by omega)
    rcases hq with ⟨q, hq⟩ | ⟨j, hj, hsl⟩
    · have hqm : q ≤ m := by
        apply Nat.le_of_not_lt
        intro hle
        have := Nat.mul_le_mul_right p (Nat.succ_le_of_lt hle)
        rw [Nat.succ_mul] at this
        omega
      have e : (m - q) * p = m * p - q * p := Nat.sub_mul m q p
      have hqp : q * p ≤ m * p := Nat.mul_le_mul_right p hqm
      refine ⟨n + k - (a + s), by omega, by omega, by omega, fun i hi => ?_, ?_⟩
      · rw [I.perm q (a + i) (by omega) (by omega)]
        congr 1
        omega
      · have e1 : a + s + (n + k - (a + s)) = n + k := by omega
        have e2 : g l (a + k) = g l (a + (n + k - (a + s))) := by
          rw [I.perm (m - q) (a + k) (by omega) (by omega)]
          congr 1
          omega
        rw [e1, ← e2]
        exact h
    · exact ⟨j, by omega, hsl⟩
  · obtain ⟨r, hr⟩ : ∃ r, a + s = n + r := ⟨a + s - n, by omega⟩
    obtain ⟨j, hj, hsl⟩ := I.inn r (by omega) (by omega)
    have h2 : SL t l (n + r) (a + r) (k - r) := by
      refine ⟨by omega, by omega, fun i hi => ?_, ?_⟩
      · rw [I.perm m (a + r + i) (by omega) (by omega)]
        congr 1
        omega
      · have e1 : n + r + (k - r) = n + k := by omega
        have e2 : a + r + (k - r) = a + k := by omega
        rw [e1, e2]
        exact h
    have h3 := h2.trans hsl
    rw [hr]
    exact ⟨_, by have := Nat.min_le_left (k - r) j; omega, h3⟩

theorem Inv.same (I : Inv t l a n k p) (hlt : n + k < l.length) (h : g l (a + k) = g l (n + k)) : ∀ i, a ≤ i → i + p < n + k + 1 → g l i = g l (i + p) := by
  intro i hi hip
  by_cases e : i + p = n + k
  · obtain ⟨m, hm, hn⟩ := I.h4
    obtain ⟨m', rfl⟩ : ∃ m', m = m' + 1 := ⟨m - 1, by omega⟩
    rw [Nat.succ_mul] at hn
    rw [e, ← h]
    have h3 := I.h3
    rw [I.perm m' (a + k) (by omega) (by omega)]
    congr 1
    omega
  · exact I.per i hi (by omega)
theorem Inv.on (I : Inv t l a n k p) (hlt : n + k < l.length) (h : g l (a + k) = g l (n + k)) (hk : k + 1 < p) : Inv t l a n (k + 1) p :=
  ⟨I.h1, by omega, hk, I.h4, fun i hi hp => I.same hlt h i hi (by omega), I.inn, I.low⟩
theorem Inv.next (I : Inv t l a n k p) (hlt : n + k < l.length) (h : g l (a + k) = g l (n + k)) (hk : ¬ k + 1 < p) : Inv t l a (n + p) 0 p := by
  obtain ⟨m, hm, hn⟩ := I.h4
  have h3 := I.h3
  have h1 := I.h1
  exact ⟨by omega, by omega, by omega, ⟨m + 1, by omega, by rw [Nat.succ_mul]; omega⟩, fun i hi hp => I.same hlt h i hi (by omega), I.inn, I.low⟩

/-- The end from a on is the greatest one. -/
def Top (t : Bool) (l : List Int) (a : Nat) : Prop := a < l.length ∧ ∀ s, s < l.length → s ≠ a → LT t l s a
theorem Inv.top (I : Inv t l a n k p) (h : n + k = l.length) : Top t l a := by
  obtain ⟨m, hm, hn⟩ := I.h4
  have h1 := I.h1
  have h3 := I.h3
  have pre : ∀ q s, s = a + q * p → a < s → s ≤ n → LT t l s a := by
    intro q s hq h1 h2
    refine .inr ⟨h1, fun i hi => ?_⟩
    rw [I.perm q (a + i) (by omega) (by omega)]
    congr 1
    omega
  refine ⟨by omega, fun s hs hne => ?_⟩
  by_cases hsa : s < a
  · exact .inl (I.low s hsa)
  · by_cases hsn : s < n
    · rcases I.within s (by omega) hsn with ⟨q, hq⟩ | ⟨j, _, hj⟩
      · exact pre q s hq (by omega) (by omega)
      · exact .inl ⟨j, hj⟩
    · obtain ⟨r, hr⟩ : ∃ r, s = n + r := ⟨s - n, by omega⟩
      by_cases h0 : r = 0
      · exact pre m s (by omega) (by omega) (by omega)
      · obtain ⟨j, hj, hs1, hs2, hs3, hs4⟩ := I.inn r (by omega) (by omega)
        have ge : ∀ i, r + i < k → g l (s + i) = g l (a + r + i) := by
          intro i hi
          rw [I.perm m (a + r + i) (by omega) (by omega)]
          congr 1
          omega
        by_cases hk : r + j < k
        · refine .inl ⟨j, by omega, by omega, fun i hi => ?_, ?_⟩
          · rw [ge i (by omega), hs3 i hi]
          · rw [ge j hk]; exact hs4
        · refine .inr ⟨by omega, fun i hi => ?_⟩
          rw [ge i (by omega), hs3 i (by omega)]
theorem Inv.period (I : Inv t l a n k p) (h : n + k = l.length) : LeastPer (l.drop a) p := by
  have h1 := I.h1
  have h3 := I.h3
  refine ⟨⟨by omega, fun i hi => ?_⟩, fun q hq => ?_⟩
  · rw [g_drop, g_drop, I.per (a + i) (by omega) (by simp at hi; omega)]
    congr 1
    omega
  · apply Nat.le_of_not_lt
    intro hlt
    obtain ⟨j, _, hs1, hs2, hs3, hs4⟩ := I.inn q hq.1 hlt
    have := hq.2 j (by simp; omega)
    rw [g_drop, g_drop] at this
    have e : a + (j + q) = a + q + j := by omega
    rw [e] at this
    rw [this] at hs4
    exact lt_irrefl hs4
end

theorem Top.unique {t : Bool} {l : List Int} {a b : Nat} (h : Top t l a) (h' : Top t l b) : a = b := by
  apply Classical.byContradiction
  intro hne
  have h1 := h.2 b h'.1 (fun e => hne e.symm)
  have h2 := h'.2 a h.1 hne
  rcases h1 with ⟨j, hj⟩ | ⟨hlt, he⟩
  · exact hj.not_LT h2
  · rcases h2 with ⟨j, hj⟩ | ⟨hlt', he'⟩
    · exact hj.not_LT (.inr ⟨hlt, he⟩)
    · omega

/-! ### the theorem of the cut -/
/-- A period at a place. -/
def IsLoc (l : List Int) (a q : Nat) : Prop := 1 ≤ q ∧ ∀ i, i < a → a ≤ i + q → i + q < l.length → g l i = g l (i + q)
def LeastLoc (l : List Int) (a q : Nat) : Prop := IsLoc l a q ∧ ∀ r, IsLoc l a r → q ≤ r
theorem IsPer.loc {l : List Int} {q : Nat} (h : IsPer l q) (a : Nat) : IsLoc l a q := ⟨h.1, fun i _ _ hi => h.2 i hi⟩
theorem leastLoc_exists {l : List Int} (a : Nat) (h : 1 ≤ l.length) : ∃ q, LeastLoc l a q := least_exists _ _ ((IsPer.whole h).loc a)
theorem LeastLoc.unique {l : List Int} {a p q : Nat} (h : LeastLoc l a p) (h' : LeastLoc l a q) : p = q := Nat.le_antisymm (h.2 _ h'.1) (h'.2 _ h.1)
theorem LeastLoc.below {l : List Int} {a p q : Nat} (h : LeastLoc l a q) (h' : LeastPer l p) : q ≤ p := h.2 _ (h'.1.loc a)
theorem cut_far {t : Bool} {l : List Int} {a q : Nat} (h : Top t l a) (hq : IsLoc l a q) : a < q := by
  apply Nat.lt_of_not_le
  intro hle
  obtain ⟨q1, hq2⟩ := hq
  have hs := h.2 (a - q) (by have := h.1; omega) (by omega)
  rcases hs with ⟨j, s1, s2, s3, s4⟩ | ⟨hlt, _⟩
  · have hj : q ≤ j := by
      apply Nat.le_of_not_lt
      intro hlt
      have := hq2 (a - q + j) (by omega) (by omega) (by omega)
      have e : a - q + j + q = a + j := by omega
      rw [e] at this
      rw [this] at s4
      exact lt_irrefl s4
    obtain ⟨j', rfl⟩ : ∃ j', j = q + j' := ⟨j - q, by omega⟩
    have sl : SL t l a (a + q) j' := by
      refine ⟨by omega, by omega, fun i hi => ?_, ?_⟩
      · have := s3 (q + i) (by omega)
        have e : a - q + (q + i) = a + i := by omega
        rw [e] at this
        rw [this]; congr 1; omega
      · have e : a - q + (q + j') = a + j' := by omega
        have e2 : a + (q + j') = a + q + j' := by omega
        rw [e, e2] at s4
        exact s4
    exact sl.not_LT (h.2 (a + q) (by omega) (by omega))
  · omega
theorem cut_per {t : Bool} {l : List Int} {a b q : Nat} (h : Top t l a) (h' : Top (!t) l b) (hba : b ≤ a) (hq : IsLoc l a q) : IsPer l q := by
  have hfar := cut_far h hq
  refine ⟨hq.1, fun i hi => ?_⟩
  by_cases hia : i < a
  · exact hq.2 i hia (by omega) hi
  · have hc : a + q < l.length := by omega
    rcases h.2 (a + q) hc (by omega) with ⟨j, s1, s2, s3, s4⟩ | ⟨_, he⟩
    · exfalso
      have hs := h'.2 (b + q) (by omega) (by have := hq.1; omega)
      have ge : ∀ i, i < a - b → g l (b + i) = g l (b + q + i) := by
        intro i hi
        rw [hq.2 (b + i) (by omega) (by omega) (by omega)]
        congr 1
        omega
      have sl : SL (!t) l b (b + q) (a - b + j) := by
        refine ⟨by omega, by omega, fun i hi => ?_, ?_⟩
        · by_cases hib : i < a - b
          · exact ge i hib
          · have := s3 (i - (a - b)) (by omega)
            have e1 : a + q + (i - (a - b)) = b + q + i := by omega
            have e2 : a + (i - (a - b)) = b + i := by omega
            rw [e1, e2] at this
            exact this.symm
        · have e1 : b + (a - b + j) = a + j := by omega
          have e2 : b + q + (a - b + j) = a + q + j := by omega
          rw [e1, e2]
          exact lt_turn s4
      exact sl.not_LT hs
    · have := he (i - a) (by omega)
      have e1 : a + q + (i - a) = i + q := by omega
      have e2 : a + (i - a) = i := by omega
      rw [e1, e2] at this
      exact this.symm
/-- Where a text is cut, the least period is the whole text's. -/
theorem cut_local {t : Bool} {l : List Int} {a b p q : Nat} (h : Top t l a) (h' : Top (!t) l b) (hba : b ≤ a) (hp : LeastPer l p) (hq : LeastLoc l a q) : q = p ∧ a < p := by
  have h1 := cut_per h h' hba hq.1
  have e : q = p := Nat.le_antisymm (hq.below hp) (hp.2 _ h1)
  exact ⟨e, e ▸ cut_far h hq.1⟩
/-- If the first bytes repeat themselves by the greatest end's period, it is the text's. -/
theorem small_per {l : List Int} {a p : Nat} (hp : LeastPer (l.drop a) p) (hs : ∀ i, i < a → g l i = g l (p + i)) : LeastPer l p := by
  refine ⟨⟨hp.1.1, fun i hi => ?_⟩, fun q hq => ?_⟩
  · by_cases hia : i < a
    · rw [hs i hia]; congr 1; omega
    · have := hp.1.2 (i - a) (by simp; omega)
      rw [g_drop, g_drop] at this
      have e1 : a + (i - a) = i := by omega
      have e2 : a + (i - a + p) = i + p := by omega
      rwa [e1, e2] at this
  · refine hp.2 q ⟨hq.1, fun i hi => ?_⟩
    rw [g_drop, g_drop, hq.2 (a + i) (by simp at hi; omega)]
    congr 1
    omega
end Go.Proofs.Ytkoahbhiffahdaa.Plain
