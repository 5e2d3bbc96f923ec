/- Plain words on periods and borders of texts, as lists of whole numbers. No program in sight. -/
import Derived.Test.YtkoahbhiffahdaaKit
set_option linter.unusedVariables false
namespace Go.Proofs.Ytkoahbhiffahdaa.Plain
open Go.Proofs.Ytkoahbhiffahdaa.Kit

abbrev g (l : List Int) (i : Nat) : Int := l.getD i 0
theorem g_take {l : List Int} {n j : Nat} (h : j < n) : g (l.take n) j = g l j := getD_take h
theorem g_drop (l : List Int) (i j : Nat) : g (l.drop i) j = g l (i + j) := getD_drop l i j
theorem g_left {a b : List Int} {i : Nat} (h : i < a.length) : g (a ++ b) i = g a i := by simp [g, List.getD_eq_getElem?_getD, List.getElem?_append, h]
theorem g_right {a b : List Int} {i : Nat} (h : a.length ≤ i) : g (a ++ b) i = g b (i - a.length) := by simp [g, List.getD_eq_getElem?_getD, List.getElem?_append, Nat.not_lt.2 h]

/-- A period: each byte is the one so many on. -/
def IsPer (l : List Int) (p : Nat) : Prop := 1 ≤ p ∧ ∀ i, i + p < l.length → g l i = g l (i + p)
def LeastPer (l : List Int) (p : Nat) : Prop := IsPer l p ∧ ∀ q, IsPer l q → p ≤ q
/-- So many first bytes of the first i ones are their last ones, too, and fewer. -/
def PB (l : List Int) (i k : Nat) : Prop := k < i ∧ ∀ j, j < k → g l j = g l (i - k + j)
/-- The most such. -/
def MB (l : List Int) (i k : Nat) : Prop := PB l i k ∧ ∀ k', PB l i k' → k' ≤ k

theorem least_exists (P : Nat → Prop) : ∀ n, P n → ∃ m, P m ∧ ∀ q, P q → m ≤ q := by
  intro n
  induction n using Nat.strongRecOn with
  | _ n ih =>
    intro h
    by_cases hm : ∃ m, m < n ∧ P m
    · obtain ⟨m, hm, hp⟩ := hm
      exact ih m hm hp
    · exact ⟨n, h, fun q hq => Nat.le_of_not_lt fun hlt => hm ⟨q, hlt, hq⟩⟩
theorem IsPer.whole {l : List Int} (h : 1 ≤ l.length) : IsPer l l.length := ⟨h, fun i hi => by omega⟩
theorem leastPer_exists {l : List Int} (h : 1 ≤ l.length) : ∃ p, LeastPer l p := least_exists _ _ (IsPer.whole h)
theorem LeastPer.le {l : List Int} {p : Nat} (hl : 1 ≤ l.length) (h : LeastPer l p) : p ≤ l.length := h.2 _ (IsPer.whole hl)
theorem LeastPer.unique {l : List Int} {p q : Nat} (h : LeastPer l p) (h' : LeastPer l q) : p = q := Nat.le_antisymm (h.2 _ h'.1) (h'.2 _ h.1)
theorem LeastPer.pos {l : List Int} {p : Nat} (h : LeastPer l p) : 1 ≤ p := h.1.1

theorem PB.zero {l : List Int} {i : Nat} (h : 1 ≤ i) : PB l i 0 := ⟨h, fun j hj => absurd hj (by omega)⟩
theorem PB.inner {l : List Int} {i k k' : Nat} (h : PB l i k) (h' : PB l i k') (hk : k' < k) : PB l k k' := by
  refine ⟨hk, fun j hj => ?_⟩
  rw [h'.2 j hj, h.2 (k - k' + j) (by omega)]
  congr 1
  have := h.1
  omega
theorem PB.outer {l : List Int} {i k k' : Nat} (h : PB l i k) (h' : PB l k k') : PB l i k' := by
  have h1 := h.1
  have h2 := h'.1
  refine ⟨by omega, fun j hj => ?_⟩
  rw [h'.2 j hj, h.2 (k - k' + j) (by omega)]
  congr 1
  omega
theorem PB.succ {l : List Int} {i k : Nat} : PB l (i + 1) (k + 1) ↔ PB l i k ∧ g l k = g l i := by
  constructor
  · rintro ⟨h1, h2⟩
    refine ⟨⟨by omega, fun j hj => ?_⟩, ?_⟩
    · rw [h2 j (by omega)]; congr 1; omega
    · rw [h2 k (by omega)]; congr 1; omega
  · rintro ⟨⟨h1, h2⟩, h3⟩
    refine ⟨by omega, fun j hj => ?_⟩
    by_cases e : j = k
    · subst e; rw [h3]; congr 1; omega
    · rw [h2 j (by omega)]; congr 1; omega
theorem MB.unique {l : List Int} {i k k' : Nat} (h : MB l i k) (h' : MB l i k') : k = k' := Nat.le_antisymm (h'.2 _ h.1) (h.2 _ h'.1)
/-- One more byte fits behind a border, or none does. -/
theorem MB.grow {l : List Int} {i k : Nat} (h : PB l i k) (hm : ∀ k', PB l i k' → g l k' = g l i → k' ≤ k) (hc : g l k = g l i) : MB l (i + 1) (k + 1) := by
  refine ⟨PB.succ.2 ⟨h, hc⟩, fun k' hk => ?_⟩
  cases k' with
  | zero => omega
  | succ k' =>
    have := PB.succ.1 hk
    have := hm k' this.1 this.2
    omega
theorem MB.none {l : List Int} {i : Nat} (hm : ∀ k', PB l i k' → ¬ g l k' = g l i) : MB l (i + 1) 0 := by
  refine ⟨PB.zero (by omega), fun k' hk => ?_⟩
  cases k' with
  | zero => omega
  | succ k' =>
    have := PB.succ.1 hk
    exact absurd this.2 (hm k' this.1)

theorem per_of_bord {l : List Int} {k : Nat} (h : PB l l.length k) : IsPer l (l.length - k) := by
  have h1 := h.1
  refine ⟨by omega, fun i hi => ?_⟩
  rw [h.2 i (by omega)]
  congr 1
  omega
theorem bord_of_per {l : List Int} {p : Nat} (h : IsPer l p) (hp : p ≤ l.length) : PB l l.length (l.length - p) := by
  have h1 := h.1
  refine ⟨by omega, fun j hj => ?_⟩
  rw [h.2 j (by omega)]
  congr 1
  omega
theorem MB.per {l : List Int} {k : Nat} (h : MB l l.length k) : LeastPer l (l.length - k) := by
  refine ⟨per_of_bord h.1, fun q hq => ?_⟩
  have h1 := h.1.1
  by_cases hle : q ≤ l.length
  · have := h.2 _ (bord_of_per hq hle)
    omega
  · omega

/-! ### the borders, falling -/
open Classical in
noncomputable def bl (l : List Int) : Nat → List Int
  | 0 => []
  | m + 1 => if PB l l.length (m + 1) then ((m + 1 : Nat) : Int) :: bl l m else bl l m
theorem bl_hit {l : List Int} {m : Nat} (h : PB l l.length (m + 1)) : bl l (m + 1) = ((m + 1 : Nat) : Int) :: bl l m := by simp [bl, h]
theorem bl_miss {l : List Int} {m : Nat} (h : ¬ PB l l.length (m + 1)) : bl l (m + 1) = bl l m := by simp [bl, h]
theorem bl_skip {l : List Int} {n' : Nat} : ∀ m, n' ≤ m → (∀ k, n' < k → k ≤ m → ¬ PB l l.length k) → bl l m = bl l n' := by
  intro m
  induction m with
  | zero => intro h _; rw [Nat.le_zero.1 h]
  | succ m ih =>
    intro h hn
    by_cases e : n' = m + 1
    · rw [e]
    · rw [bl_miss (hn (m + 1) (by omega) (by omega))]
      exact ih (by omega) (fun k h1 h2 => hn k h1 (by omega))
theorem bl_length (l : List Int) : ∀ m, (bl l m).length ≤ m
  | 0 => by simp [bl]
  | m + 1 => by
    have := bl_length l m
    by_cases h : PB l l.length (m + 1)
    · rw [bl_hit h]; simp; omega
    · rw [bl_miss h]; omega
theorem bl_mem (l : List Int) : ∀ m (x : Int), x ∈ bl l m → ∃ k : Nat, x = k ∧ 1 ≤ k ∧ k ≤ m ∧ PB l l.length k
  | 0, x, h => by simp [bl] at h
  | m + 1, x, h => by
    by_cases hp : PB l l.length (m + 1)
    · rw [bl_hit hp] at h
      rcases List.mem_cons.1 h with rfl | h
      · exact ⟨m + 1, rfl, by omega, by omega, hp⟩
      · obtain ⟨k, h1, h2, h3, h4⟩ := bl_mem l m x h
        exact ⟨k, h1, h2, by omega, h4⟩
    · rw [bl_miss hp] at h
      obtain ⟨k, h1, h2, h3, h4⟩ := bl_mem l m x h
      exact ⟨k, h1, h2, by omega, h4⟩
theorem bl_falls (l : List Int) : ∀ m (i : Nat) (x y : Int), (bl l m)[i]? = some x → (bl l m)[i + 1]? = some y → y < x
  | 0, i, x, y, h, _ => by simp [bl] at h
  | m + 1, i, x, y, h, h' => by
    by_cases hp : PB l l.length (m + 1)
    · rw [bl_hit hp] at h h'
      cases i with
      | zero =>
        simp at h h'
        have hy : y ∈ bl l m := List.mem_of_getElem? (by simpa using h')
        obtain ⟨k, rfl, _, hk, _⟩ := bl_mem l m y hy
        omega
      | succ i => exact bl_falls l m i x y (by simpa using h) (by simpa using h')
    · rw [bl_miss hp] at h h'
      exact bl_falls l m i x y h h'
/-- Behind the longest border come the borders of that. -/
theorem bl_of_MB {l : List Int} {n n' : Nat} (hn : PB l l.length n ∨ n = l.length) (hm : MB l n n') : bl l (n - 1) = bl l n' := by
  have h1 := hm.1.1
  refine bl_skip _ (by omega) (fun k h2 h3 hk => ?_)
  rcases hn with hn | hn
  · have := hm.2 k (hn.inner hk (by omega)); omega
  · subst hn; have := hm.2 k hk; omega
theorem PB_take {l : List Int} {n k : Nat} (hn : n ≤ l.length) : PB (l.take n) n k ↔ PB l n k := by
  constructor
  · rintro ⟨h1, h2⟩
    refine ⟨h1, fun j hj => ?_⟩
    have := h2 j hj
    rwa [g_take (by omega), g_take (by omega)] at this
  · rintro ⟨h1, h2⟩
    refine ⟨h1, fun j hj => ?_⟩
    rw [g_take (by omega), g_take (by omega)]
    exact h2 j hj
theorem bl_take {l : List Int} {n : Nat} (hn : PB l l.length n) : ∀ m, m < n → bl (l.take n) m = bl l m := by
  have h1 := hn.1
  have hl : (l.take n).length = n := by simp; omega
  intro m
  induction m with
  | zero => intro _; rfl
  | succ m ih =>
    intro hm
    have he : PB (l.take n) (l.take n).length (m + 1) ↔ PB l l.length (m + 1) := by
      rw [hl, PB_take (by omega)]
      exact ⟨fun h => hn.outer h, fun h => hn.inner h hm⟩
    by_cases hp : PB l l.length (m + 1)
    · rw [bl_hit hp, bl_hit (he.2 hp), ih (by omega)]
    · rw [bl_miss hp, bl_miss (fun h => hp (he.1 h)), ih (by omega)]

/-! ### a text twice -/
theorem per_left {a b : List Int} {p : Nat} (h : IsPer (a ++ b) p) : IsPer a p := by
  refine ⟨h.1, fun i hi => ?_⟩
  have := h.2 i (by simp; omega)
  rwa [g_left (by omega), g_left (by omega)] at this
theorem per_twice {b : List Int} (h : 1 ≤ b.length) : IsPer (b ++ b) b.length := by
  refine ⟨h, fun i hi => ?_⟩
  simp at hi
  rw [g_left (by omega), g_right (by omega)]
  congr 1
  omega
end Go.Proofs.Ytkoahbhiffahdaa.Plain
