/- What the printed functions of layer 11 answer, in plain words: the references, the failure table, periods, borders. -/
import Derived.Test.YtkoahbhiffahdaaRunsA
import Derived.Test.YtkoahbhiffahdaaAllx2
import Derived.Test.YtkoahbhiffahdaaAllx3
import Derived.Test.YtkoahbhiffahdaaAllx4
import Derived.Test.YtkoahbhiffahdaaAllx5
set_option linter.unusedVariables false
set_option linter.unusedSimpArgs false
namespace Go.Proofs.Ytkoahbhiffahdaa.Runs
open Go.RowKit Go.Proofs.YtkoahbhiffahdaaW.PrintWords Go.Proofs.Ytkoahbhiffahdaa.Kit Go.Proofs.Ytkoahbhiffahdaa.Plain Go.Proofs.Ytkoahbhiffahdaa.All

theorem wrap_succ {i : Nat} (h : i ≤ 1000000) : wrap64 ((i : Int) + 1) = ((i + 1 : Nat) : Int) := by unfold wrap64; omega
theorem wrap_add {i j : Nat} (h : i ≤ 1000000) (h' : j ≤ 1000000) : wrap64 ((i : Int) + (j : Int)) = ((i + j : Nat) : Int) := by unfold wrap64; omega
theorem wrap_sub {i j : Nat} (h : i ≤ 1000000) (h' : j ≤ i) : wrap64 ((i : Int) - (j : Int)) = ((i - j : Nat) : Int) := by unfold wrap64; omega
theorem wrap_pred {i : Nat} (h : i ≤ 1000000) (h' : 1 ≤ i) : wrap64 ((i : Int) - 1) = ((i - 1 : Nat) : Int) := by unfold wrap64; omega
theorem ltT_true {x y : Int} (h : ¬ x = y) : ltT true x y = decide (x > y) := by
  unfold ltT
  by_cases h2 : x < y
  · have : ¬ x > y := by omega
    simp [h, h2, this]
  · have : x > y := by omega
    simp [h, h2, this]
theorem ltT_false {x y : Int} (h : ¬ x = y) : ltT false x y = decide (x < y) := by
  unfold ltT
  simp [h]

/-! ### the reference's order -/
theorem rless0 {A B : List Int} (ha : Bytes A) (hb : Bytes B) (t : Bool) (hA : A.length ≤ 1000000) : ∀ d i, A.length - i = d → i ≤ A.length → i ≤ B.length →
    Ev (fun k => seineref11_Less.l0 k (strOfNums A) (strOfNums B) t (i : Int)) (lessL t (A.drop i) (B.drop i)) := by
  intro d
  induction d with
  | zero =>
    intro i hd h1 h2
    refine Ev.step (fun k => by rw [seineref11_Less.l0]) ?_
    refine Ev.neg (by rw [size_str]; omega) ?_
    refine Ev.step (fun k => by rw [seineref11_Less.j1]) ?_
    refine Ev.neg (by simp) ?_
    refine Ev.ret ?_
    rw [lessL_end (.inl (by omega)) h1 h2, size_str, size_str]
    simp
  | succ d ih =>
    intro i hd h1 h2
    refine Ev.step (fun k => by rw [seineref11_Less.l0]) ?_
    refine Ev.pos (by rw [size_str]; omega) ?_
    refine Ev.step (fun k => by rw [seineref11_Less.j1]) ?_
    by_cases hB : i < B.length
    · refine Ev.pos (by rw [size_str]; simp; omega) ?_
      refine Ev.pos (by omega) ?_
      refine Ev.pos (by rw [size_str]; omega) ?_
      refine Ev.pos (by rw [size_str]; omega) ?_
      by_cases he : rd A (i : Int) = rd B (i : Int)
      · refine Ev.pos (by rw [bt_str ha, bt_str hb]; exact he) ?_
        rw [wrap_succ (by omega), lessL_step (by omega) hB he]
        exact ih (i + 1) (by omega) (by omega) (by omega)
      · refine Ev.neg (by rw [bt_str ha, bt_str hb]; exact he) ?_
        rw [lessL_stop (by omega) hB he]
        cases t with
        | true =>
          refine Ev.pos rfl ?_
          refine Ev.ret ?_
          rw [bt_str ha, bt_str hb, ltT_true he]
        | false =>
          refine Ev.neg (by simp) ?_
          refine Ev.ret ?_
          rw [bt_str ha, bt_str hb, ltT_false he]
    · refine Ev.neg (by rw [size_str]; simp; omega) ?_
      refine Ev.ret ?_
      rw [lessL_end (.inr (by omega)) h1 h2, size_str, size_str]
      simp
theorem rless {A B : List Int} (ha : Bytes A) (hb : Bytes B) (t : Bool) (hA : A.length ≤ 1000000) :
    Ev (fun k => seineref11_Less.f k (strOfNums A) (strOfNums B) t) (lessL t A B) := by
  have := rless0 ha hb t hA A.length 0 (by omega) (by omega) (by omega)
  simpa [seineref11_Less.f] using this

/-! ### the reference's period -/
theorem rper_yes {l : List Int} (hb : Bytes l) (hl : l.length ≤ 1000000) {p : Nat} (hp : p ≤ 1000000) : ∀ d i, l.length - i = d → i ≤ l.length → (∀ j, i ≤ j → j + p < l.length → g l j = g l (j + p)) →
    Ev (fun k => seineref11_Period.l1 k (strOfNums l) (p : Int) true (i : Int)) ((p : Nat) : Int) := by
  intro d
  induction d with
  | zero =>
    intro i hd hi h
    refine Ev.step (fun k => by rw [seineref11_Period.l1]) ?_
    rw [wrap_add (by omega) hp]
    refine Ev.neg (by rw [size_str]; omega) ?_
    exact Ev.pos rfl (Ev.now _)
  | succ d ih =>
    intro i hd hi h
    refine Ev.step (fun k => by rw [seineref11_Period.l1]) ?_
    rw [wrap_add (by omega) hp]
    by_cases hip : i + p < l.length
    · refine Ev.pos (by rw [size_str]; omega) ?_
      refine Ev.pos rfl ?_
      refine Ev.pos (by omega) ?_
      refine Ev.pos (by rw [size_str]; omega) ?_
      refine Ev.pos (by omega) ?_
      rw [wrap_succ (by omega), bt_str hb, bt_str hb, rd_nat, rd_nat]
      have e := h i (Nat.le_refl _) hip
      have e' : (l.getD i 0 == l.getD (i + p) 0) = true := by simpa using e
      rw [e']
      exact ih (i + 1) (by omega) (by omega) (fun j h1 h2 => h j (by omega) h2)
    · refine Ev.neg (by rw [size_str]; omega) ?_
      exact Ev.pos rfl (Ev.now _)
theorem rper_no {l : List Int} (hb : Bytes l) (hl : l.length ≤ 1000000) {p : Nat} (hp1 : 1 ≤ p) (hp : p ≤ 1000000) {r : Int} (hr : Ev (fun k => seineref11_Period.l0 k (strOfNums l) (((p + 1 : Nat)) : Int)) r) : ∀ d i (b : Bool), l.length - i = d → i ≤ l.length → (b = false ∨ ∃ j, i ≤ j ∧ j + p < l.length ∧ ¬ g l j = g l (j + p)) →
    Ev (fun k => seineref11_Period.l1 k (strOfNums l) (p : Int) b (i : Int)) r := by
  intro d
  induction d with
  | zero =>
    intro i b hd hi h
    have hbf : b = false := by
      rcases h with h | ⟨j, h1, h2, _⟩
      · exact h
      · omega
    subst hbf
    refine Ev.step (fun k => by rw [seineref11_Period.l1]) ?_
    rw [wrap_add (by omega) hp]
    refine Ev.neg (by rw [size_str]; omega) ?_
    refine Ev.neg (by simp) ?_
    rw [wrap_succ hp]
    exact hr
  | succ d ih =>
    intro i b hd hi h
    refine Ev.step (fun k => by rw [seineref11_Period.l1]) ?_
    rw [wrap_add (by omega) hp]
    by_cases hip : i + p < l.length
    · refine Ev.pos (by rw [size_str]; omega) ?_
      cases b with
      | false =>
        refine Ev.neg (by simp) ?_
        rw [wrap_succ (by omega)]
        exact ih (i + 1) false (by omega) (by omega) (.inl rfl)
      | true =>
        obtain ⟨j, h1, h2, h3⟩ := h.resolve_left (by simp)
        refine Ev.pos rfl ?_
        refine Ev.pos (by omega) ?_
        refine Ev.pos (by rw [size_str]; omega) ?_
        refine Ev.pos (by omega) ?_
        rw [wrap_succ (by omega), bt_str hb, bt_str hb, rd_nat, rd_nat]
        refine ih (i + 1) _ (by omega) (by omega) ?_
        by_cases hij : i = j
        · subst hij
          left
          simpa using h3
        · exact .inr ⟨j, by omega, h2, h3⟩
    · refine Ev.neg (by rw [size_str]; omega) ?_
      have hbf : b = false := by
        rcases h with h | ⟨j, h1, h2, _⟩
        · exact h
        · omega
      subst hbf
      refine Ev.neg (by simp) ?_
      rw [wrap_succ hp]
      exact hr
theorem rper0 {l : List Int} (hb : Bytes l) (hl : l.length ≤ 1000000) {P : Nat} (hP : LeastPer l P) (hPl : P ≤ l.length) : ∀ d p, P - p = d → 1 ≤ p → p ≤ P →
    Ev (fun k => seineref11_Period.l0 k (strOfNums l) (p : Int)) ((P : Nat) : Int) := by
  intro d
  induction d with
  | zero =>
    intro p hd h1 h2
    obtain rfl : p = P := by omega
    refine Ev.step (fun k => by rw [seineref11_Period.l0]) ?_
    refine Ev.pos (by rw [size_str]; omega) ?_
    exact rper_yes hb hl (by omega) _ 0 rfl (by omega) (fun j _ hj => hP.1.2 j hj)
  | succ d ih =>
    intro p hd h1 h2
    refine Ev.step (fun k => by rw [seineref11_Period.l0]) ?_
    refine Ev.pos (by rw [size_str]; omega) ?_
    have hn : ¬ IsPer l p := fun h => by have := hP.2 p h; omega
    refine rper_no hb hl h1 (by omega) (ih (p + 1) (by omega) (by omega) (by omega)) _ 0 true rfl (by omega) (.inr ?_)
    apply Classical.byContradiction
    intro hc
    refine hn ⟨h1, fun i hi => Classical.byContradiction fun he => hc ⟨i, by omega, hi, he⟩⟩
theorem rper {l : List Int} (hb : Bytes l) (hl : l.length ≤ 1000000) (h1 : 1 ≤ l.length) {P : Nat} (hP : LeastPer l P) : Ev (fun k => seineref11_Period.f k (strOfNums l)) ((P : Nat) : Int) := by
  have := rper0 hb hl hP (hP.le h1) _ 1 rfl (by omega) hP.pos
  exact this
theorem rper_nil {l : List Int} (h : l.length = 0) : Ev (fun k => seineref11_Period.f k (strOfNums l)) 0 := by
  show Ev (fun k => seineref11_Period.l0 k (strOfNums l) 1) 0
  refine Ev.step (fun k => by rw [seineref11_Period.l0]) ?_
  exact Ev.neg (by rw [size_str]; omega) (Ev.now _)

/-! ### the reference's greatest end -/
theorem rmax0 {t : Bool} {l : List Int} (hb : Bytes l) (hl : l.length ≤ 1000000) {A P : Nat} (hT : Top t l A) (hP : LeastPer (l.drop A) P) : ∀ d i a, l.length - i = d → 1 ≤ i → i ≤ l.length → a < i → (A < i → a = A) →
    Ev (fun k => seineref11_Max.l0 k (strOfNums l) t (a : Int) (i : Int)) (((A : Nat) : Int), ((P : Nat) : Int)) := by
  have ex : ∀ j, j ≤ l.length → (strOfNums l).extract ((j : Int)).toNat (strOfNums l).size = strOfNums (l.drop j) := by
    intro j hj
    rw [Int.toNat_natCast, size_str, extract_str, List.take_length]
  intro d
  induction d with
  | zero =>
    intro i a hd h1 h2 h3 h4
    obtain rfl : a = A := h4 (by have := hT.1; omega)
    refine Ev.step (fun k => by rw [seineref11_Max.l0]) ?_
    refine Ev.neg (by rw [size_str]; omega) ?_
    refine Ev.pos (by omega) ?_
    refine Ev.pos (by rw [size_str]; omega) ?_
    rw [ex a (by omega)]
    exact Ev.bind (rper (hb.drop a) (by simp; omega) (by simp; omega) hP) (Ev.now _)
  | succ d ih =>
    intro i a hd h1 h2 h3 h4
    refine Ev.step (fun k => by rw [seineref11_Max.l0]) ?_
    refine Ev.pos (by rw [size_str]; omega) ?_
    refine Ev.pos (by omega) ?_
    refine Ev.pos (by rw [size_str]; omega) ?_
    refine Ev.pos (by omega) ?_
    refine Ev.pos (by rw [size_str]; omega) ?_
    rw [ex a (by omega), ex i (by omega), wrap_succ (by omega)]
    refine Ev.bind (rless (hb.drop a) (hb.drop i) t (by simp; omega)) ?_
    by_cases hiA : i = A
    · subst hiA
      have := (less_of_LT (by omega) (hT.2 a (by omega) (by omega))).1
      refine Ev.pos this ?_
      exact ih (i + 1) i (by omega) (by omega) (by omega) (by omega) (fun _ => rfl)
    · by_cases hAi : A < i
      · obtain rfl : a = A := h4 hAi
        have := (less_of_LT (by omega) (hT.2 i (by omega) hiA)).2
        refine Ev.neg (by rw [this]; simp) ?_
        exact ih (i + 1) a (by omega) (by omega) (by omega) (by omega) (fun _ => rfl)
      · cases hc : lessL t (l.drop a) (l.drop i) with
        | true =>
          refine Ev.pos rfl ?_
          exact ih (i + 1) i (by omega) (by omega) (by omega) (by omega) (fun h => by omega)
        | false =>
          refine Ev.neg (by simp) ?_
          exact ih (i + 1) a (by omega) (by omega) (by omega) (by omega) (fun h => by omega)
theorem rmax {t : Bool} {l : List Int} (hb : Bytes l) (hl : l.length ≤ 1000000) {A P : Nat} (hT : Top t l A) (hP : LeastPer (l.drop A) P) :
    Ev (fun k => seineref11_Max.f k (strOfNums l) t) (((A : Nat) : Int), ((P : Nat) : Int)) := by
  have := rmax0 hb hl hT hP _ 1 0 rfl (by omega) (by have := hT.1; omega) (by omega) (fun h => by omega)
  exact this
theorem rmax_nil {t : Bool} {l : List Int} (h : l.length = 0) : Ev (fun k => seineref11_Max.f k (strOfNums l) t) (0, 0) := by
  show Ev (fun k => seineref11_Max.l0 k (strOfNums l) t 0 1) (0, 0)
  refine Ev.step (fun k => by rw [seineref11_Max.l0]) ?_
  refine Ev.neg (by rw [size_str]; omega) ?_
  refine Ev.pos (by omega) ?_
  refine Ev.pos (by rw [size_str]; omega) ?_
  have : (strOfNums l).extract ((0 : Int)).toNat (strOfNums l).size = strOfNums (l.drop 0) := by
    rw [size_str, extract_str, List.take_length]; rfl
  rw [this]
  exact Ev.bind (rper_nil (by simpa using h)) (Ev.now _)

/-! ### are two lists the same -/
theorem same0 {a b : List Int} (hl : a.length = b.length) (hm : a.length ≤ 1000000) : ∀ d i, a.length - i = d → i ≤ a.length → (∀ j, j < i → a.getD j 0 = b.getD j 0) →
    Ev (fun k => seineref07_Same.l0 k a b (i : Int)) (decide (a = b)) := by
  intro d
  induction d with
  | zero =>
    intro i hd h1 h2
    refine Ev.step (fun k => by rw [seineref07_Same.l0]) ?_
    refine Ev.neg (by omega) ?_
    refine Ev.ret ?_
    have : a = b := list_ext hl (fun j hj => h2 j (by omega))
    simp [this]
  | succ d ih =>
    intro i hd h1 h2
    refine Ev.step (fun k => by rw [seineref07_Same.l0]) ?_
    refine Ev.pos (by omega) ?_
    refine Ev.pos (by omega) ?_
    refine Ev.pos (by omega) ?_
    by_cases he : rd a (i : Int) = rd b (i : Int)
    · refine Ev.pos he ?_
      rw [wrap_succ (by omega)]
      refine ih (i + 1) (by omega) (by omega) (fun j hj => ?_)
      by_cases e : j = i
      · subst e; rwa [rd_nat, rd_nat] at he
      · exact h2 j (by omega)
    · refine Ev.neg he ?_
      refine Ev.ret ?_
      have : ¬ a = b := fun e => he (by rw [e])
      simp [this]
theorem same {a b : List Int} (hm : a.length ≤ 1000000) : Ev (fun k => seineref07_Same.f k a b) (decide (a = b)) := by
  unfold seineref07_Same.f
  by_cases hl : a.length = b.length
  · refine Ev.pos (by omega) ?_
    exact same0 hl hm _ 0 rfl (by omega) (fun j hj => by omega)
  · refine Ev.neg (by omega) ?_
    refine Ev.ret ?_
    have : ¬ a = b := fun e => hl (by rw [e])
    simp [this]

/-! ### the table of longest borders -/
/-- Right up to place n. -/
def Tab (l t : List Int) (n : Nat) : Prop := t.length = l.length + 1 ∧ rd t 0 = -1 ∧ ∀ i, 1 ≤ i → i ≤ n → ∃ k : Nat, rd t (i : Int) = (k : Int) ∧ MB l i k
theorem Tab.set {l t : List Int} {i m : Nat} (h : Tab l t i) (hi : i < l.length) (hm : MB l (i + 1) m) : Tab l (t.set (i + 1) (m : Int)) (i + 1) := by
  obtain ⟨h1, h2, h3⟩ := h
  refine ⟨by simp [h1], ?_, fun j hj hj' => ?_⟩
  · rw [← h2]; simp [rd, List.getD_eq_getElem?_getD, List.getElem?_set]
  · by_cases e : j = i + 1
    · subst e
      refine ⟨m, ?_, hm⟩
      simp [rd, List.getD_eq_getElem?_getD, List.getElem?_set, h1, hi]
    · obtain ⟨k, hk, hmb⟩ := h3 j hj (by omega)
      refine ⟨k, ?_, hmb⟩
      rw [← hk, rd_nat, rd_nat]
      have : ¬ i + 1 = j := fun h => e h.symm
      simp [List.getD_eq_getElem?_getD, List.getElem?_set, this]
theorem tab0 {l : List Int} (hl : l.length ≤ 1000000) : ∀ d i t, l.length - i = d → i ≤ l.length → Tab l t i →
    ∃ T, Ev (fun k => suffix_borders.l0 k l t l (l.length : Int) (i : Int)) T ∧ Tab l T l.length := by
  intro d
  induction d with
  | zero =>
    intro i t hd hi ht
    refine ⟨t, ?_, by rwa [show i = l.length by omega] at ht⟩
    refine Ev.step (fun k => by rw [suffix_borders.l0]) ?_
    exact Ev.neg (by omega) (Ev.now _)
  | succ d ih =>
    intro i t hd hi ht
    have hti : ((i + 1 : Nat) : Int) < (t.length : Int) := by rw [ht.1]; omega
    -- the inner loop, from a border that may grow
    have fin : ∀ m : Nat, MB l (i + 1) m → ∃ T, Ev (fun k => suffix_borders.l0 k l (t.set ((wrap64 ((i : Int) + 1)) : Int).toNat ((m : Nat) : Int)) l (l.length : Int) (wrap64 ((i : Int) + 1))) T ∧ Tab l T l.length := by
      intro m hm
      rw [wrap_succ (by omega), Int.toNat_natCast]
      exact ih (i + 1) _ (by omega) (by omega) (ht.set (by omega) hm)
    have none_ : (∀ k', PB l i k' → ¬ g l k' = g l i) → ∃ T, Ev (fun k => suffix_borders.l1 k l t (i : Int) (rd l (i : Int)) (-1) l (l.length : Int) (i : Int)) T ∧ Tab l T l.length := by
      intro hn
      obtain ⟨T, hT, hTab⟩ := fin 0 (MB.none hn)
      refine ⟨T, ?_, hTab⟩
      refine Ev.step (fun k => by rw [suffix_borders.l1]) ?_
      refine Ev.neg (by omega) ?_
      refine Ev.pos (by rw [wrap_succ (by omega)]; omega) ?_
      refine Ev.pos (by rw [wrap_succ (by omega)]; exact hti) ?_
      have e0 : wrap64 (-1 + 1) = ((0 : Nat) : Int) := by unfold wrap64; omega
      rw [e0]
      exact hT
    have inner : ∀ m : Nat, PB l i m → (∀ k', PB l i k' → g l k' = g l i → k' ≤ m) → ∃ T, Ev (fun k => suffix_borders.l1 k l t (i : Int) (rd l (i : Int)) (m : Int) l (l.length : Int) (i : Int)) T ∧ Tab l T l.length := by
      intro m
      induction m using Nat.strongRecOn with
      | _ m ihm =>
        intro hm hmax
        have hmi := hm.1
        by_cases hc : rd l (m : Int) = rd l (i : Int)
        · obtain ⟨T, hT, hTab⟩ := fin (m + 1) (MB.grow hm hmax (by rwa [rd_nat, rd_nat] at hc))
          refine ⟨T, ?_, hTab⟩
          refine Ev.step (fun k => by rw [suffix_borders.l1]) ?_
          refine Ev.pos (by omega) ?_
          refine Ev.pos (by omega) ?_
          refine Ev.pos (by omega) ?_
          refine Ev.pos hc ?_
          refine Ev.pos (by rw [wrap_succ (by omega)]; omega) ?_
          refine Ev.pos (by rw [wrap_succ (by omega)]; exact hti) ?_
          rw [wrap_succ (show m ≤ 1000000 by omega)]
          exact hT
        · have hc' : ¬ g l m = g l i := by rwa [rd_nat, rd_nat] at hc
          have step : ∀ {T}, Ev (fun k => suffix_borders.l1 k l t (i : Int) (rd l (i : Int)) (rd t (m : Int)) l (l.length : Int) (i : Int)) T → Ev (fun k => suffix_borders.l1 k l t (i : Int) (rd l (i : Int)) (m : Int) l (l.length : Int) (i : Int)) T := by
            intro T hT
            refine Ev.step (fun k => by rw [suffix_borders.l1]) ?_
            refine Ev.pos (by omega) ?_
            refine Ev.pos (by omega) ?_
            refine Ev.pos (by omega) ?_
            refine Ev.neg hc ?_
            refine Ev.pos (by rw [ht.1]; omega) ?_
            exact hT
          by_cases h0 : m = 0
          · subst h0
            obtain ⟨T, hT, hTab⟩ := none_ (fun k' hk he => by
              have := hmax k' hk he
              obtain rfl : k' = 0 := by omega
              exact hc' he)
            refine ⟨T, step ?_, hTab⟩
            have : rd t ((0 : Nat) : Int) = -1 := ht.2.1
            rw [this]
            exact hT
          · obtain ⟨m', e, hmb⟩ := ht.2.2 m (by omega) (by omega)
            have h1 := hmb.1.1
            obtain ⟨T, hT, hTab⟩ := ihm m' (by omega) (hm.outer hmb.1) (fun k' hk he => by
              have h2 := hmax k' hk he
              have h3 : k' ≠ m := fun e2 => hc' (e2 ▸ he)
              exact hmb.2 k' (hm.inner hk (by omega)))
            refine ⟨T, step ?_, hTab⟩
            rw [e]
            exact hT
    have body : ∃ T, Ev (fun k => suffix_borders.l1 k l t (i : Int) (rd l (i : Int)) (rd t (i : Int)) l (l.length : Int) (i : Int)) T ∧ Tab l T l.length := by
      by_cases h0 : i = 0
      · subst h0
        have : rd t ((0 : Nat) : Int) = -1 := ht.2.1
        rw [this]
        exact none_ (fun k' hk => by have := hk.1; omega)
      · obtain ⟨m, e, hmb⟩ := ht.2.2 i (by omega) (by omega)
        rw [e]
        exact inner m hmb.1 (fun k' hk _ => hmb.2 k' hk)
    obtain ⟨T, hT, hTab⟩ := body
    refine ⟨T, ?_, hTab⟩
    refine Ev.step (fun k => by rw [suffix_borders.l0]) ?_
    refine Ev.pos (by omega) ?_
    refine Ev.pos (by omega) ?_
    refine Ev.pos (by omega) ?_
    refine Ev.pos (by rw [ht.1]; omega) ?_
    exact hT
theorem tab {l : List Int} (hl : l.length ≤ 1000000) : ∃ T, Ev (fun k => suffix_borders.f k l) T ∧ Tab l T l.length := by
  have e : wrap64 ((l.length : Int) + 1) = ((l.length + 1 : Nat) : Int) := wrap_succ hl
  obtain ⟨T, hT, hTab⟩ := tab0 hl _ 0 ((List.replicate (l.length + 1) (0 : Int)).set 0 (-1)) rfl (by omega) ⟨by simp, by simp [rd, List.getD_eq_getElem?_getD], fun i h1 h2 => by omega⟩
  refine ⟨T, ?_, hTab⟩
  unfold suffix_borders.f
  rw [e, Int.toNat_natCast]
  refine Ev.pos (by omega) ?_
  refine Ev.pos (by omega) ?_
  refine Ev.bindc rfl ?_
  refine Ev.pos (by simp) ?_
  exact hT
theorem period {l : List Int} (hl : l.length ≤ 1000000) (h1 : 1 ≤ l.length) {P : Nat} (hP : LeastPer l P) : Ev (fun k => suffix_Period.f k l) ((P : Nat) : Int) := by
  obtain ⟨T, hT, hTab⟩ := tab hl
  unfold suffix_Period.f
  refine Ev.neg (by omega) ?_
  refine Ev.bind hT ?_
  refine Ev.pos (by omega) ?_
  refine Ev.pos (by rw [hTab.1]; omega) ?_
  obtain ⟨k, e, hmb⟩ := hTab.2.2 l.length h1 (Nat.le_refl _)
  have h2 := hmb.1.1
  refine Ev.ret ?_
  rw [e, wrap_sub hl (by omega), hP.unique hmb.per]
theorem period_nil {l : List Int} (h : l.length = 0) : Ev (fun k => suffix_Period.f k l) 0 := by
  unfold suffix_Period.f
  exact Ev.pos (by omega) (Ev.now _)
theorem chain {l T : List Int} (hl : l.length ≤ 1000000) (hT : Tab l T l.length) : ∀ (n : Nat) out, (n = 0 ∨ PB l l.length n) → out.length + n ≤ 1000000 →
    Ev (fun k => suffix_Borders.l0 k out T (n : Int)) (out ++ bl l n) := by
  intro n
  induction n using Nat.strongRecOn with
  | _ n ih =>
    intro out hn ho
    refine Ev.step (fun k => by rw [suffix_Borders.l0]) ?_
    by_cases h0 : n = 0
    · subst h0
      refine Ev.neg (by omega) ?_
      exact Ev.ret (by simp [bl])
    · have hp := hn.resolve_left h0
      have h1 := hp.1
      refine Ev.pos (by omega) ?_
      refine Ev.pos (by omega) ?_
      refine Ev.pos (by omega) ?_
      refine Ev.pos (by rw [hT.1]; omega) ?_
      obtain ⟨m, e, hmb⟩ := hT.2.2 n (by omega) (by omega)
      have h2 := hmb.1.1
      rw [e]
      have hb : bl l n = (n : Int) :: bl l m := by
        obtain ⟨n', rfl⟩ : ∃ n', n = n' + 1 := ⟨n - 1, by omega⟩
        rw [bl_hit hp, ← bl_of_MB (.inl hp) hmb]
        rfl
      rw [hb, show out ++ ((n : Int) :: bl l m) = (out ++ [(n : Int)]) ++ bl l m by simp]
      refine ih m h2 _ ?_ (by simp; omega)
      by_cases hm0 : m = 0
      · exact .inl hm0
      · exact .inr (hp.outer hmb.1)
theorem borders {l : List Int} (hl : l.length ≤ 1000000) : Ev (fun k => suffix_Borders.f k l) (bl l (l.length - 1)) := by
  obtain ⟨T, hT, hTab⟩ := tab hl
  unfold suffix_Borders.f
  refine Ev.bind hT ?_
  refine Ev.pos (by omega) ?_
  refine Ev.pos (by rw [hTab.1]; omega) ?_
  by_cases h0 : l.length = 0
  · have : rd T (l.length : Int) = -1 := by rw [h0]; exact hTab.2.1
    rw [this, h0]
    refine Ev.step (fun k => by rw [suffix_Borders.l0]) ?_
    refine Ev.neg (by omega) ?_
    exact Ev.ret (by simp [bl])
  · obtain ⟨m, e, hmb⟩ := hTab.2.2 l.length (by omega) (Nat.le_refl _)
    have h2 := hmb.1.1
    rw [e, bl_of_MB (.inr rfl) hmb]
    have := chain hl hTab m [] (by by_cases h : m = 0; exact .inl h; exact .inr hmb.1) (by simp; omega)
    simpa using this

/-! ### the reference's borders -/
theorem bord_texts {l : List Int} (hb : Bytes l) {n : Nat} (h1 : 1 ≤ n) (hn : n < l.length) : ((strOfNums l).extract 0 n).toList = ((strOfNums l).extract (l.length - n) l.length).toList ↔ PB l l.length n := by
  rw [extract_str, extract_str, List.take_length, List.drop_zero, toList_str_inj (hb.take _) (hb.drop _)]
  constructor
  · intro h
    refine ⟨hn, fun j hj => ?_⟩
    have := congrArg (fun x : List Int => x.getD j 0) h
    simp only [getD_drop] at this
    rw [getD_take hj] at this
    exact this
  · rintro ⟨_, h⟩
    refine list_ext (by simp; omega) (fun j hj => ?_)
    simp at hj
    rw [getD_take (by omega), getD_drop]
    exact h j (by omega)
theorem rborders0 {l : List Int} (hb : Bytes l) (hl : l.length ≤ 1000000) : ∀ (n : Nat) out, n < l.length → out.length + n ≤ 1000000 →
    Ev (fun k => seineref11_Borders.l0 k (strOfNums l) out (n : Int)) (out ++ bl l n) := by
  intro n
  induction n with
  | zero =>
    intro out _ _
    refine Ev.step (fun k => by rw [seineref11_Borders.l0]) ?_
    refine Ev.neg (by omega) ?_
    exact Ev.ret (by simp [bl])
  | succ n ih =>
    intro out hn ho
    refine Ev.step (fun k => by rw [seineref11_Borders.l0]) ?_
    refine Ev.pos (by omega) ?_
    refine Ev.pos (by omega) ?_
    refine Ev.pos (by rw [size_str]; omega) ?_
    refine Ev.pos (by rw [size_str, wrap_sub hl (by omega)]; omega) ?_
    refine Ev.pos (by rw [size_str, wrap_sub hl (by omega)]; omega) ?_
    rw [size_str, wrap_sub hl (by omega), Int.toNat_natCast, Int.toNat_natCast, wrap_pred (by omega) (by omega), show n + 1 - 1 = n by omega]
    by_cases hp : PB l l.length (n + 1)
    · refine Ev.pos ((bord_texts hb (by omega) hn).2 hp) ?_
      refine Ev.pos (by omega) ?_
      rw [bl_hit hp, show out ++ (((n + 1 : Nat) : Int) :: bl l n) = (out ++ [((n + 1 : Nat) : Int)]) ++ bl l n by simp]
      exact ih _ (by omega) (by simp; omega)
    · refine Ev.neg (fun h => hp ((bord_texts hb (by omega) hn).1 h)) ?_
      rw [bl_miss hp]
      exact ih _ (by omega) (by omega)
theorem rborders {l : List Int} (hb : Bytes l) (hl : l.length ≤ 1000000) : Ev (fun k => seineref11_Borders.f k (strOfNums l)) (bl l (l.length - 1)) := by
  unfold seineref11_Borders.f
  rw [size_str]
  by_cases h0 : l.length = 0
  · rw [h0]
    have : wrap64 (((0 : Nat) : Int) - 1) = -1 := by unfold wrap64; omega
    rw [this]
    refine Ev.step (fun k => by rw [seineref11_Borders.l0]) ?_
    refine Ev.neg (by omega) ?_
    exact Ev.ret (by simp [bl])
  · rw [wrap_pred hl (by omega)]
    have := rborders0 hb hl (l.length - 1) [] (by omega) (by simp; omega)
    simpa using this
end Go.Proofs.Ytkoahbhiffahdaa.Runs
