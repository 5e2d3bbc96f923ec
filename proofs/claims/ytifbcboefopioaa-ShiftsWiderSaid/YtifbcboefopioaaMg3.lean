/- Several texts in one (Refs4, Refs5, ShA), none of them changed. No condition. -/
import Derived.Test.YtifbcboefopioaaMg1
import Derived.Test.YtifbcboefopioaaMg2
import Derived.Test.YtifbcboefopioaaAllx4
/-! Plain: the references of layer 15: how far by what fits, by what ends within, by a byte; what stands in a line. No condition but sizes. -/
set_option linter.unusedVariables false
namespace Go.Proofs.Ytifbcboefopioaa.Tri
open Go.RowKit Go.Proofs.YtifbcboefopioaaW.PrintWords Go.Proofs.YtifbcboefopioaaW.PrintLast Go.Proofs.YtifbcboefopioaaW.PrintMore Go.Proofs.Ytifbcboefopioaa.Kit Go.Proofs.Ytifbcboefopioaa.All

theorem texts15_good (L : List Txt) (hl : L.length ≤ 8796093022208) (h40 : ∀ s ∈ L, s.length ≤ 40) : ∀ (d i : Nat), i + d = L.length → Ev (fun k => seinelaw15_texts.l0 k L ((L.take i).map strOfNums) (i : Int)) (L.map strOfNums, decide ((L.length : Int) ≤ 12)) := by
  have e : ∀ k a b c, seinelaw15_texts.l0 k a b c = seinelaw14_texts.l0 k a b c := by
    intro k
    induction k with
    | zero => intro a b c; rfl
    | succ k ih =>
      intro a b c
      rw [seinelaw15_texts.l0, seinelaw14_texts.l0]
      simp only [ih]
  intro d i h
  exact Ev.congr (fun k => e k _ _ _) (seinelaw14_texts_good L hl h40 d i h)
theorem texts15_same (k : Nat) (L : List Txt) : seinelaw15_texts.f k L = seinelaw14_texts.f k L := by
  have e : ∀ k a b c, seinelaw15_texts.l0 k a b c = seinelaw14_texts.l0 k a b c := by
    intro k
    induction k with
    | zero => intro a b c; rfl
    | succ k ih =>
      intro a b c
      rw [seinelaw15_texts.l0, seinelaw14_texts.l0]
      simp only [ih]
  exact e k _ _ _
theorem texts15_two (L : List Txt) (hl : L.length ≤ 8796093022208) : ∃ (k : Nat) (r : List ByteArray) (b : Bool), seinelaw15_texts.f k L = some (r, b) ∧ (b = true → r = L.map strOfNums ∧ L.length ≤ 12 ∧ ∀ s ∈ L, s.length ≤ 40) := by
  obtain ⟨k, r, b, h, h2⟩ := texts14_two L hl
  exact ⟨k, r, b, by rw [texts15_same]; exact h, h2⟩
/-- By how many bytes x goes on s. -/
def aheadN (x s : Txt) : Int := if s.length < x.length ∧ x.drop (x.length - s.length) = s then (x.length : Int) - s.length else 0
theorem ahead_eq (x s : Txt) (hx : Bytes x) (hs : Bytes s) (hl : x.length ≤ 1000) (hl2 : s.length ≤ 1000) : seineref15_ahead.f (strOfNums x.reverse) (strOfNums s.reverse) = some (aheadN x s) := by
  unfold seineref15_ahead.f aheadN
  rw [size_str, size_str, List.length_reverse, List.length_reverse]
  by_cases h : s.length < x.length
  · rw [if_pos (by omega), if_pos (by omega), if_pos (by omega), Int.toNat_natCast, extract_str, List.drop_zero]
    have e : (strOfNums (x.reverse.take s.length)).toList = (strOfNums s.reverse).toList ↔ x.drop (x.length - s.length) = s := by
      rw [toList_str_inj (Bytes.take (Bytes.rev hx) _) (Bytes.rev hs), List.take_reverse]
      constructor
      · intro h
        have := congrArg List.reverse h
        simpa using this
      · intro h
        rw [h]
    by_cases h2 : x.drop (x.length - s.length) = s
    · rw [if_pos (e.2 h2), if_pos ⟨h, h2⟩, wrap_id (by omega) (by omega)]
    · rw [if_neg (fun h3 => h2 (e.1 h3)), if_neg (fun h3 => h2 h3.2)]
  · rw [if_neg (by omega), if_neg (fun h3 => h h3.1)]
/-- One more number. -/
theorem mn_ahead {a v : Int} {O : Nat → Prop} (h : Mn a O v) (x s : Txt) : Mn a (fun k => O k ∨ (1 ≤ k ∧ k ≤ x.length ∧ x.drop k = s)) (if aheadN x s > 0 then (if aheadN x s < v then aheadN x s else v) else v) := by
  unfold aheadN
  by_cases c : s.length < x.length ∧ x.drop (x.length - s.length) = s
  · rw [if_pos c, if_pos (by omega)]
    obtain ⟨c1, c2⟩ := c
    have key : Mn a (fun k => O k ∨ k = x.length - s.length) (min v ((x.length - s.length : Nat) : Int)) := h.step _
    have e : (if (x.length : Int) - s.length < v then (x.length : Int) - s.length else v) = min v ((x.length - s.length : Nat) : Int) := by
      rw [Int.min_def]
      split <;> split <;> omega
    rw [e]
    refine key.congr (fun k => ⟨fun h => h.imp id (fun h => ?_), fun h => h.imp id (fun h => ?_)⟩)
    · subst h
      exact ⟨by omega, by omega, c2⟩
    · obtain ⟨h1, h2, h3⟩ := h
      have := congrArg List.length h3
      rw [List.length_drop] at this
      omega
  · rw [if_neg c, if_neg (by omega)]
    refine h.congr (fun k => ⟨fun h => .inl h, fun h => ?_⟩)
    rcases h with h | ⟨h1, h2, h3⟩
    · exact h
    · exfalso
      have hl := congrArg List.length h3
      rw [List.length_drop] at hl
      exact c ⟨by omega, by rw [show x.length - s.length = k by omega]; exact h3⟩
theorem O1_snoc (P : List Txt) (y s : Txt) (k : Nat) : O1 (P ++ [y]) s k ↔ O1 P s k ∨ (1 ≤ k ∧ k ≤ y.length ∧ y.drop k = s) := by
  constructor
  · rintro ⟨x, hx, h⟩
    rcases List.mem_append.1 hx with hx | hx
    · exact .inl ⟨x, hx, h⟩
    · rw [List.mem_singleton] at hx
      subst hx
      exact .inr h
  · rintro (⟨x, hx, h⟩ | h)
    · exact ⟨x, List.mem_append_left _ hx, h⟩
    · exact ⟨y, List.mem_append.2 (.inr (List.mem_singleton.2 rfl)), h⟩
theorem first_runs (P : List Txt) (hB : ∀ x ∈ P, Bytes x) (hS : ∀ x ∈ P, x.length ≤ 1000) (hl : P.length ≤ 100000) (s : Txt) (hs : Bytes s) (hsl : s.length ≤ 1000) (le : Int) : ∀ (d i : Nat) (v : Int), i + d = P.length → Mn le (O1 (P.take i) s) v → ∃ r, Mn le (O1 P s) r ∧ Ev (fun k => seineref15_First.l0 k (P.map strOfNums) v (strOfNums s.reverse) (i : Int)) r
  | 0, i, v, h, m => by
    refine ⟨v, by rwa [List.take_of_length_le (by omega)] at m, ?_⟩
    refine Ev.step (fun k => by rw [seineref15_First.l0]) ?_
    exact Ev.neg (by rw [List.length_map]; omega) (Ev.ret rfl)
  | d + 1, i, v, h, m => by
    have hi : i < P.length := by omega
    have hx : P[i]? = some P[i] := List.getElem?_eq_getElem hi
    have hm := List.getElem_mem hi
    have m2 := (mn_ahead m P[i] s).congr (fun k => (O1_snoc (P.take i) P[i] s k).symm)
    rw [← List.take_succ_eq_append_getElem hi] at m2
    obtain ⟨r, hr, hev⟩ := first_runs P hB hS hl s hs hsl le d (i + 1) _ (by omega) m2
    refine ⟨r, hr, ?_⟩
    refine Ev.step (fun k => by rw [seineref15_First.l0]) ?_
    refine Ev.pos (by rw [List.length_map]; omega) (Ev.pos (by omega) ?_)
    rw [rd_map P hx]
    have h3 := hS _ hm
    refine Ev.bind (turn14_ev _ (by omega)) (Ev.bindc (ahead_eq _ _ (hB _ hm) hs h3 hsl) ?_)
    rw [wrap_id (by omega) (by omega), show (i : Int) + 1 = ((i + 1 : Nat) : Int) by omega]
    by_cases c1 : aheadN P[i] s > 0
    · rw [if_pos c1] at hev
      refine Ev.pos c1 ?_
      by_cases c2 : aheadN P[i] s < v
      · rw [if_pos c2] at hev
        exact Ev.pos c2 hev
      · rw [if_neg c2] at hev
        exact Ev.neg c2 hev
    · rw [if_neg c1] at hev
      exact Ev.neg c1 hev
theorem first15_ev (T P : List Txt) (hTl : T.length ≤ 1000) (hne : ∀ t ∈ T, t ≠ []) (hTS : ∀ t ∈ T, t.length ≤ 1000) (hB : ∀ x ∈ P, Bytes x) (hS : ∀ x ∈ P, x.length ≤ 1000) (hl : P.length ≤ 100000) (s : Txt) (hs : Bytes s) (hsl : s.length ≤ 1000) :
    ∃ r, Mn (leastN T) (O1 P s) r ∧ Ev (fun k => seineref15_First.f k (T.map strOfNums) (P.map strOfNums) (strOfNums s)) r := by
  have m : Mn (leastN T) (O1 (P.take 0) s) (leastN T) := (Mn.start _).congr (fun k => ⟨fun h => h.elim, fun ⟨x, hx, _⟩ => by simp at hx⟩)
  obtain ⟨r, hr, hev⟩ := first_runs P hB hS hl s hs hsl (leastN T) P.length 0 _ (by omega) m
  exact ⟨r, hr, Ev.bind (least_ev T hTl hne hTS) (Ev.bind (turn14_ev s (by omega)) hev)⟩
/-- What is told of the first n nodes on the way, and of the first i texts of the next one. -/
theorem second_in (T : List Txt) (hB : ∀ x ∈ T, Bytes x) (hS : ∀ x ∈ T, x.length ≤ 1000) (hl : T.length ≤ 1000) (s : Txt) (hs : Bytes s) (hsl : s.length ≤ 1000) (n : Nat) (hn : n ≤ s.length) (le : Int) (O : Nat → Prop) (Q : Int → Prop)
    (hx : ∀ v, Mn le (fun k => O k ∨ O1 T (s.take n) k) v → ∃ r, Q r ∧ Ev (fun k => seineref15_Second.l0 k (T.map strOfNums) (strOfNums s) v ((n + 1 : Nat) : Int)) r) :
    ∀ (d i : Nat) (v : Int), i + d = T.length → Mn le (fun k => O k ∨ O1 (T.take i) (s.take n) k) v → ∃ r, Q r ∧ Ev (fun k => seineref15_Second.l1 k (T.map strOfNums) (strOfNums s) v (n : Int) (strOfNums (s.take n).reverse) (i : Int)) r
  | 0, i, v, h, m => by
    rw [List.take_of_length_le (by omega)] at m
    obtain ⟨r, hr, hev⟩ := hx v m
    refine ⟨r, hr, ?_⟩
    refine Ev.step (fun k => by rw [seineref15_Second.l1]) ?_
    refine Ev.neg (by rw [List.length_map]; omega) ?_
    rw [wrap_id (by omega) (by omega), show (n : Int) + 1 = ((n + 1 : Nat) : Int) by omega]
    exact hev
  | d + 1, i, v, h, m => by
    have hi : i < T.length := by omega
    have hxi : T[i]? = some T[i] := List.getElem?_eq_getElem hi
    have hm := List.getElem_mem hi
    have m2 : Mn le (fun k => O k ∨ O1 (T.take (i + 1)) (s.take n) k) _ := (mn_ahead m T[i] (s.take n)).congr (fun k => by
      rw [List.take_succ_eq_append_getElem hi, O1_snoc, or_assoc])
    obtain ⟨r, hr, hev⟩ := second_in T hB hS hl s hs hsl n hn le O Q hx d (i + 1) _ (by omega) m2
    refine ⟨r, hr, ?_⟩
    refine Ev.step (fun k => by rw [seineref15_Second.l1]) ?_
    refine Ev.pos (by rw [List.length_map]; omega) (Ev.pos (by omega) ?_)
    rw [rd_map T hxi]
    have h3 := hS _ hm
    refine Ev.bind (turn14_ev _ (by omega)) (Ev.bindc (ahead_eq _ _ (hB _ hm) (Bytes.take hs _) h3 (by rw [List.length_take]; omega)) ?_)
    rw [wrap_id (by omega) (by omega), show (i : Int) + 1 = ((i + 1 : Nat) : Int) by omega]
    by_cases c1 : aheadN T[i] (s.take n) > 0
    · rw [if_pos c1] at hev
      refine Ev.pos c1 ?_
      by_cases c2 : aheadN T[i] (s.take n) < v
      · rw [if_pos c2] at hev
        exact Ev.pos c2 hev
      · rw [if_neg c2] at hev
        exact Ev.neg c2 hev
    · rw [if_neg c1] at hev
      exact Ev.neg c1 hev
theorem second_runs (T : List Txt) (hB : ∀ x ∈ T, Bytes x) (hS : ∀ x ∈ T, x.length ≤ 1000) (hl : T.length ≤ 1000) (s : Txt) (hs : Bytes s) (hsl : s.length ≤ 1000) (le : Int) : ∀ (d n : Nat) (v : Int), n + d = s.length + 1 → Mn le (fun k => ∃ m, m < n ∧ O1 T (s.take m) k) v → ∃ r, Mn le (way (O1 T) s) r ∧ Ev (fun k => seineref15_Second.l0 k (T.map strOfNums) (strOfNums s) v (n : Int)) r
  | 0, n, v, h, m => by
    refine ⟨v, m.congr (fun k => ⟨fun ⟨q, hq, h⟩ => ⟨q, by omega, h⟩, fun ⟨q, hq, h⟩ => ⟨q, by omega, h⟩⟩), ?_⟩
    refine Ev.step (fun k => by rw [seineref15_Second.l0]) ?_
    exact Ev.neg (by rw [size_str]; omega) (Ev.ret rfl)
  | d + 1, n, v, h, m => by
    have hin := second_in T hB hS hl s hs hsl n (by omega) le (fun k => ∃ m, m < n ∧ O1 T (s.take m) k) (fun r => Mn le (way (O1 T) s) r) (fun v hv => second_runs T hB hS hl s hs hsl le d (n + 1) v (by omega) (hv.congr (fun k => ⟨fun h => ?_, fun h => ?_⟩))) T.length 0 v (by omega) (m.congr (fun k => ⟨fun h => .inl h, fun h => ?_⟩))
    · obtain ⟨r, hr, hev⟩ := hin
      refine ⟨r, hr, ?_⟩
      refine Ev.step (fun k => by rw [seineref15_Second.l0]) ?_
      refine Ev.pos (by rw [size_str]; omega) (Ev.pos (by omega) ?_)
      rw [Int.toNat_natCast, extract0]
      exact Ev.bind (turn14_ev _ (by rw [List.length_take]; omega)) hev
    · rcases h with ⟨q, hq, h⟩ | h
      · exact ⟨q, by omega, h⟩
      · exact ⟨n, by omega, h⟩
    · obtain ⟨q, hq, h9⟩ := h
      by_cases e : q = n
      · subst e
        exact .inr h9
      · exact .inl ⟨q, by omega, h9⟩
    · rcases h with h | ⟨x, hx, _⟩
      · exact h
      · simp at hx
theorem second15_ev (T : List Txt) (hTl : T.length ≤ 1000) (hne : ∀ t ∈ T, t ≠ []) (hB : ∀ x ∈ T, Bytes x) (hS : ∀ x ∈ T, x.length ≤ 1000) (s : Txt) (hs : Bytes s) (hsl : s.length ≤ 1000) :
    ∃ r, Mn (leastN T) (way (O1 T) s) r ∧ Ev (fun k => seineref15_Second.f k (T.map strOfNums) (strOfNums s)) r := by
  obtain ⟨r, hr, hev⟩ := second_runs T hB hS hTl s hs hsl (leastN T) (s.length + 1) 0 (leastN T) (by omega) ((Mn.start _).congr (fun k => ⟨fun h => h.elim, fun ⟨m, hm, _⟩ => by omega⟩))
  exact ⟨r, hr, Ev.bind (least_ev T hTl hne hS) hev⟩
end Go.Proofs.Ytifbcboefopioaa.Tri

/-! Plain: the references of layer 15, the rest: how far by a byte; what stands in a line. No condition but sizes. -/
set_option linter.unusedVariables false
namespace Go.Proofs.Ytifbcboefopioaa.Tri
open Go.RowKit Go.Proofs.YtifbcboefopioaaW.PrintWords Go.Proofs.YtifbcboefopioaaW.PrintLast Go.Proofs.YtifbcboefopioaaW.PrintMore Go.Proofs.Ytifbcboefopioaa.Kit Go.Proofs.Ytifbcboefopioaa.All

theorem far15_j1 (T P : List Txt) (s : Txt) (hsl : s.length ≤ 1000) (f d x : Int) (x0 : 0 ≤ x) (x1 : x ≤ 1001) (hf : Ev (fun k => seineref15_First.f k (T.map strOfNums) (P.map strOfNums) (strOfNums s)) f) (hd : Ev (fun k => seineref15_Second.f k (T.map strOfNums) (strOfNums s)) d) :
    Ev (fun k => seineref15_Far.j1 k (T.map strOfNums) (P.map strOfNums) (strOfNums s) x) (min d (max f (x - s.length - 1))) := by
  refine Ev.step (fun k => by rw [seineref15_Far.j1]) ?_
  rw [size_str, wrap_id (x := x - (s.length : Int)) (by omega) (by omega), wrap_id (by omega) (by omega)]
  refine Ev.bind hf ?_
  obtain ⟨y, hy⟩ : ∃ y, x - (s.length : Int) - 1 = y := ⟨_, rfl⟩
  rw [hy]
  by_cases c : f > y
  · have hM : max f y = f := by rw [Int.max_def]; split <;> omega
    rw [hM]
    refine Ev.pos c (Ev.bind hd ?_)
    by_cases c2 : d < f
    · exact Ev.pos c2 (Ev.ret (by rw [Int.min_def]; split <;> omega))
    · exact Ev.neg c2 (Ev.ret (by rw [Int.min_def]; split <;> omega))
  · have hM : max f y = y := by rw [Int.max_def]; split <;> omega
    rw [hM]
    refine Ev.neg c (Ev.bind hd ?_)
    by_cases c2 : d < y
    · exact Ev.pos c2 (Ev.ret (by rw [Int.min_def]; split <;> omega))
    · exact Ev.neg c2 (Ev.ret (by rw [Int.min_def]; split <;> omega))
theorem far15_ev (T P : List Txt) (hTl : T.length ≤ 1000) (hne : ∀ t ∈ T, t ≠ []) (hTB : ∀ x ∈ T, Bytes x) (hTS : ∀ t ∈ T, t.length ≤ 1000) (hB : ∀ x ∈ P, Bytes x) (hS : ∀ x ∈ P, x.length ≤ 1000) (hl : P.length ≤ 100000) (s : Txt) (hs : Bytes s) (hsl : s.length ≤ 1000) (c : Int) (c0 : 0 ≤ c) (c1 : c ≤ 255)
    (p : Pr) (m1 : Mn (leastN T) (O1 P s) p.1) (m2 : Mn (leastN T) (way (O1 T) s) p.2) :
    Ev (fun k => seineref15_Far.f k (T.map strOfNums) (P.map strOfNums) (strOfNums s) c) (if T = [] then 0 else farV (leastN T) (rd (nearN T) c) s.length p) := by
  unfold seineref15_Far.f
  rw [List.length_map]
  by_cases h0 : T = []
  · rw [if_pos h0]
    exact Ev.pos (by rw [h0]; rfl) (Ev.ret rfl)
  · rw [if_neg h0]
    have hp : 0 < T.length := List.length_pos_iff.2 h0
    refine Ev.neg (by omega) (Ev.bind (least_ev T hTl hne hTS) (Ev.bind (near_ev T hTl hTB hTS c c0 c1) ?_))
    obtain ⟨f, hf, ef⟩ := first15_ev T P hTl hne hTS hB hS hl s hs hsl
    obtain ⟨d, hd, ed⟩ := second15_ev T hTl hne hTB hTS s hs hsl
    rw [hf.uniq m1] at ef
    rw [hd.uniq m2] at ed
    obtain ⟨l0, l1⟩ := least_le hne hTS
    obtain ⟨n0, n1⟩ := near_le hTB hTS c c0
    rw [wrap_id (by omega) (by omega)]
    unfold farV
    by_cases c2 : rd (nearN T) c > 0
    · refine Ev.pos c2 (Ev.step (fun k => by rw [seineref15_Far.j0]) ?_)
      rw [if_pos (show 0 < rd (nearN T) c from c2), Int.min_def (leastN T + 1)]
      by_cases c3 : rd (nearN T) c < leastN T + 1
      · rw [if_neg (by omega)]
        refine Ev.pos (decide_eq_true c3) ?_
        exact far15_j1 T P s hsl p.1 p.2 _ (by omega) (by omega) ef ed
      · rw [if_pos (by omega)]
        refine Ev.neg (by rw [decide_eq_false c3]; simp) ?_
        exact far15_j1 T P s hsl p.1 p.2 _ (by omega) (by omega) ef ed
    · refine Ev.neg c2 (Ev.step (fun k => by rw [seineref15_Far.j0]) ?_)
      rw [if_neg (show ¬ 0 < rd (nearN T) c from c2)]
      refine Ev.neg (by simp) ?_
      exact far15_j1 T P s hsl p.1 p.2 _ (by omega) (by omega) ef ed

/-! ### what stands in a line -/
def OccP (l : Txt) (L : List Txt) (p : S64) : Prop := ∃ a e : Nat, p = ⟨(a : Int), (e : Int)⟩ ∧ a < e ∧ e ≤ l.length ∧ (l.take e).drop a ∈ L
theorem occ_l2 (l : Txt) (L : List Txt) (hl : Bytes l) (hll : l.length ≤ 1000) (hL : ∀ s ∈ L, Bytes s) (hLl : L.length ≤ 1000) (a e : Nat) (hae : a < e) (hel : e ≤ l.length) (x : List S64) (hx : x.length < 8796093022208) (Q : List S64 → Prop)
    (H1 : OccP l L ⟨(a : Int), (e : Int)⟩ → ∃ r, Q r ∧ Ev (fun k => seineref03_Occ.l1 k (strOfNums l) (L.map strOfNums) (x ++ [⟨(a : Int), (e : Int)⟩]) (a : Int) ((e + 1 : Nat) : Int)) r)
    (H0 : ∃ r, Q r ∧ Ev (fun k => seineref03_Occ.l1 k (strOfNums l) (L.map strOfNums) x (a : Int) ((e + 1 : Nat) : Int)) r) :
    ∀ (d q : Nat), q + d = L.length → ∃ r, Q r ∧ Ev (fun k => seineref03_Occ.l2 k (strOfNums l) (L.map strOfNums) x (a : Int) (e : Int) false (q : Int)) r
  | 0, q, h => by
    obtain ⟨r, hr, hev⟩ := H0
    refine ⟨r, hr, Ev.step (fun k => by rw [seineref03_Occ.l2]) ?_⟩
    refine Ev.neg (by rw [List.length_map]; omega) (Ev.neg (by simp) ?_)
    rw [wrap_id (by omega) (by omega), show (e : Int) + 1 = ((e + 1 : Nat) : Int) by omega]
    exact hev
  | d + 1, q, h => by
    have hq : q < L.length := by omega
    have hx2 : L[q]? = some L[q] := List.getElem?_eq_getElem hq
    have hm := List.getElem_mem hq
    have ih := occ_l2 l L hl hll hL hLl a e hae hel x hx Q H1 H0 d (q + 1) (by omega)
    by_cases c : L[q].length = e - a
    · by_cases c2 : (l.take e).drop a = L[q]
      · obtain ⟨r, hr, hev⟩ := H1 ⟨a, e, rfl, hae, hel, by rw [c2]; exact hm⟩
        refine ⟨r, hr, Ev.step (fun k => by rw [seineref03_Occ.l2]) ?_⟩
        refine Ev.pos (by rw [List.length_map]; omega) (Ev.neg (by simp) (Ev.pos (by omega) ?_))
        rw [rd_map L hx2, size_str, wrap_id (by omega) (by omega), wrap_id (x := (q : Int) + 1) (by omega) (by omega)]
        refine Ev.pos (by omega) (Ev.pos (by omega) (Ev.pos (by omega) (Ev.pos (by rw [size_str]; omega) ?_)))
        rw [Int.toNat_natCast, Int.toNat_natCast, extract_str, c2, beq_self_eq_true]
        refine Ev.step (fun k => by rw [seineref03_Occ.l2]) ?_
        rw [wrap_id (x := (e : Int) + 1) (by omega) (by omega), show (e : Int) + 1 = ((e + 1 : Nat) : Int) by omega]
        by_cases c3 : (q : Int) + 1 < ((L.map strOfNums).length : Int)
        · exact Ev.pos c3 (Ev.pos rfl (Ev.pos hx hev))
        · exact Ev.neg c3 (Ev.pos rfl (Ev.pos hx hev))
      · obtain ⟨r, hr, hev⟩ := ih
        refine ⟨r, hr, Ev.step (fun k => by rw [seineref03_Occ.l2]) ?_⟩
        refine Ev.pos (by rw [List.length_map]; omega) (Ev.neg (by simp) (Ev.pos (by omega) ?_))
        rw [rd_map L hx2, size_str, wrap_id (by omega) (by omega), wrap_id (x := (q : Int) + 1) (by omega) (by omega), show (q : Int) + 1 = ((q + 1 : Nat) : Int) by omega]
        refine Ev.pos (by omega) (Ev.pos (by omega) (Ev.pos (by omega) (Ev.pos (by rw [size_str]; omega) ?_)))
        have e3 : (((strOfNums l).extract (a : Int).toNat (e : Int).toNat).toList == (strOfNums L[q]).toList) = false := by
          rw [Int.toNat_natCast, Int.toNat_natCast, extract_str]
          refine beq_eq_false_iff_ne.2 (fun h9 => c2 ?_)
          exact (toList_str_inj (Bytes.drop (Bytes.take hl _) _) (hL _ hm)).1 h9
        rw [e3]
        exact hev
    · obtain ⟨r, hr, hev⟩ := ih
      refine ⟨r, hr, Ev.step (fun k => by rw [seineref03_Occ.l2]) ?_⟩
      refine Ev.pos (by rw [List.length_map]; omega) (Ev.neg (by simp) (Ev.pos (by omega) ?_))
      rw [rd_map L hx2, size_str, wrap_id (by omega) (by omega), wrap_id (x := (q : Int) + 1) (by omega) (by omega), show (q : Int) + 1 = ((q + 1 : Nat) : Int) by omega]
      exact Ev.neg (by omega) hev
theorem occ_l1 (l : Txt) (L : List Txt) (hl : Bytes l) (hll : l.length ≤ 1000) (hL : ∀ s ∈ L, Bytes s) (hLl : L.length ≤ 1000) (a : Nat) (ha : a < l.length) (B : Nat) (hBB : B ≤ 10000000) (Q : List S64 → Prop)
    (H : ∀ x : List S64, (∀ p ∈ x, OccP l L p) → x.length ≤ B → ∃ r, Q r ∧ Ev (fun k => seineref03_Occ.l0 k (strOfNums l) (L.map strOfNums) x ((a + 1 : Nat) : Int)) r) :
    ∀ (d e : Nat) (x : List S64), e + d = l.length + 1 → a < e → (∀ p ∈ x, OccP l L p) → x.length + d ≤ B → ∃ r, Q r ∧ Ev (fun k => seineref03_Occ.l1 k (strOfNums l) (L.map strOfNums) x (a : Int) (e : Int)) r
  | 0, e, x, h, hae, hx, hb => by
    obtain ⟨r, hr, hev⟩ := H x hx (by omega)
    refine ⟨r, hr, Ev.step (fun k => by rw [seineref03_Occ.l1]) ?_⟩
    refine Ev.neg (by rw [size_str]; omega) ?_
    rw [wrap_id (by omega) (by omega), show (a : Int) + 1 = ((a + 1 : Nat) : Int) by omega]
    exact hev
  | d + 1, e, x, h, hae, hx, hb => by
    have h2 := occ_l2 l L hl hll hL hLl a e hae (by omega) x (by omega) Q (fun ho => occ_l1 l L hl hll hL hLl a ha B hBB Q H d (e + 1) (x ++ [⟨(a : Int), (e : Int)⟩]) (by omega) (by omega) (fun p hp => by
        rcases List.mem_append.1 hp with hp | hp
        · exact hx p hp
        · rw [List.mem_singleton] at hp
          rw [hp]
          exact ho) (by rw [List.length_append, List.length_singleton]; omega)) (occ_l1 l L hl hll hL hLl a ha B hBB Q H d (e + 1) x (by omega) (by omega) hx (by omega)) L.length 0 (by omega)
    obtain ⟨r, hr, hev⟩ := h2
    refine ⟨r, hr, Ev.step (fun k => by rw [seineref03_Occ.l1]) ?_⟩
    exact Ev.pos (by rw [size_str]; omega) hev
theorem occ_l0 (l : Txt) (L : List Txt) (hl : Bytes l) (hll : l.length ≤ 1000) (hL : ∀ s ∈ L, Bytes s) (hLl : L.length ≤ 1000) : ∀ (d a : Nat) (x : List S64), a + d = l.length → (∀ p ∈ x, OccP l L p) → x.length ≤ a * 2000 → ∃ r : List S64, ((∀ p ∈ r, OccP l L p) ∧ r.length ≤ 2000000) ∧ Ev (fun k => seineref03_Occ.l0 k (strOfNums l) (L.map strOfNums) x (a : Int)) r
  | 0, a, x, h, hx, hb => by
    refine ⟨x, ⟨hx, by omega⟩, Ev.step (fun k => by rw [seineref03_Occ.l0]) ?_⟩
    exact Ev.neg (by rw [size_str]; omega) (Ev.ret rfl)
  | d + 1, a, x, h, hx, hb => by
    obtain ⟨r, hr, hev⟩ := occ_l1 l L hl hll hL hLl a (by omega) ((a + 1) * 2000) (by omega) (fun r => (∀ p ∈ r, OccP l L p) ∧ r.length ≤ 2000000) (fun y hy hyl => occ_l0 l L hl hll hL hLl d (a + 1) y (by omega) hy hyl) (l.length - a) (a + 1) x (by omega) (by omega) hx (by omega)
    refine ⟨r, hr, Ev.step (fun k => by rw [seineref03_Occ.l0]) ?_⟩
    refine Ev.pos (by rw [size_str]; omega) ?_
    rw [wrap_id (by omega) (by omega), show (a : Int) + 1 = ((a + 1 : Nat) : Int) by omega]
    exact hev
theorem occ_two (l : Txt) (L : List Txt) (hl : Bytes l) (hll : l.length ≤ 1000) (hL : ∀ s ∈ L, Bytes s) (hLl : L.length ≤ 1000) : ∃ (k : Nat) (r : List S64), (∀ p ∈ r, OccP l L p) ∧ r.length ≤ 2000000 ∧ seineref03_Occ.f k (strOfNums l) (L.map strOfNums) = some r := by
  obtain ⟨r, ⟨h1, h2⟩, K, hK⟩ := occ_l0 l L hl hll hL hLl l.length 0 [] (by omega) (fun p hp => by cases hp) (Nat.le_refl _)
  exact ⟨K, r, h1, h2, hK K (Nat.le_refl _)⟩
/-- The law of the safe move. -/
theorem safe {T P : List Txt} (hP : P = pathsL T) (hB : ∀ t ∈ T, Bytes t) {l : Txt} (hl : Bytes l) (e n : Nat) (hel : e ≤ l.length) (hne : n ≤ e) {i : Nat} {s : Txt} (hi : P[i]? = some s) (hs : s = ((l.take e).drop (e - n)).reverse) {L : List Txt} (hT : T = TL L) {a E : Nat} (haE : a < E) (hE : E ≤ l.length) (ho : (l.take E).drop a ∈ L) (heE : e < E) :
    (¬ n < e → (twoOf (farsX T P) i).2 ≤ ((E - e : Nat) : Int)) ∧ (∀ c : Int, n < e → c = rd l ((e : Int) - 1 - n) → farV (leastN T) (rd (nearN T) c) s.length (twoOf (farsX T P) i) ≤ ((E - e : Nat) : Int)) := by
  obtain ⟨m1, m2⟩ := two_spec hP hi
  have hle : (twoOf (farsX T P) i).2 ≤ leastN T := m2.1
  have hlen : ((l.take E).drop a).length = E - a := by rw [List.length_drop, List.length_take]; omega
  have hne0 : (l.take E).drop a ≠ [] := by
    intro h
    have := congrArg List.length h
    rw [hlen] at this
    simp at this
    omega
  have htm : ((l.take E).drop a).reverse ∈ T := by rw [hT]; exact mem_TL ho hne0
  obtain ⟨t, ht⟩ : ∃ t, t = ((l.take E).drop a).reverse := ⟨_, rfl⟩
  rw [← ht] at htm
  have htl : t.length = E - a := by rw [ht, List.length_reverse, hlen]
  have hTne : ∀ t ∈ T, t ≠ [] := by rw [hT]; exact TL_ne L
  obtain ⟨_, _, hmin⟩ := leastN_pos hTne (List.ne_nil_of_mem htm)
  have hml := hmin t htm
  have hsl : s.length = n := by rw [hs, List.length_reverse, List.length_drop, List.length_take]; omega
  have main : (twoOf (farsX T P) i).2 ≤ ((E - e : Nat) : Int) ∨ (n < e - a ∧ a < e) := by
    by_cases ha : e ≤ a
    · left
      omega
    · by_cases hr : e - a ≤ n
      · left
        refine m2.2.1 (E - e) ⟨e - a, by omega, t, htm, by omega, by omega, ?_⟩
        rw [ht, hs]
        rw [List.drop_reverse, List.take_reverse]
        congr 1
        rw [List.length_drop, List.length_take, List.length_drop, List.length_take, List.drop_drop, List.take_drop, List.take_take]
        rw [show min E l.length - a - (E - e) = e - a by omega, show a + (e - a) = e by omega, show min e E = e by omega]
        rw [show e - n + (min e l.length - (e - n) - (e - a)) = a by omega]
      · right
        omega
  rcases main with h | ⟨h1, h2⟩
  · refine ⟨fun _ => h, fun c _ _ => ?_⟩
    unfold farV
    rw [Int.min_def]
    split <;> omega
  · have hget : ∀ k, k < E - a → t.getD k 0 = l.getD (E - 1 - k) 0 := by
      intro k hk
      rw [ht]
      simp only [List.getD_eq_getElem?_getD]
      rw [List.getElem?_reverse (by rw [hlen]; exact hk), List.getElem?_drop, List.getElem?_take, if_pos (by rw [hlen]; omega), hlen]
      congr 2
      omega
    have hsecond : (twoOf (farsX T P) i).2 ≤ leastN T := hle
    have hgs : ∀ k, k < n → s.getD k 0 = l.getD (e - 1 - k) 0 := by
      intro k hk
      have hl2 : ((l.take e).drop (e - n)).length = n := by rw [List.length_drop, List.length_take]; omega
      rw [hs]
      simp only [List.getD_eq_getElem?_getD]
      rw [List.getElem?_reverse (by rw [hl2]; exact hk), List.getElem?_drop, List.getElem?_take, if_pos (by rw [hl2]; omega), hl2]
      congr 2
      omega
    have hxs : (t.take (E - e + n)).drop (E - e) = s := by
      apply list_ext
      · rw [List.length_drop, List.length_take, hsl]
        omega
      · intro k hk
        rw [List.length_drop, List.length_take] at hk
        rw [getD_drop, getD_take (by omega), hget _ (by omega), hgs _ (by omega)]
        congr 1
        omega
    have hx : t.take (E - e + n) ∈ P := by
      rw [hP]
      exact (pathsL_good T).prefix (pathsL_mem T t htm) _
    have hfirst := m1.2.1 (E - e) ⟨t.take (E - e + n), hx, by omega, by rw [List.length_take]; omega, hxs⟩
    by_cases hn : n < e
    · have hc : rd l ((e : Int) - 1 - n) = t.getD (E - e + n) 0 := by
        rw [rd_of (j := e - 1 - n) (by omega), hget _ (by omega)]
        congr 1
        omega
      have hnear : ∀ c : Int, c = rd l ((e : Int) - 1 - n) → 0 < rd (nearN T) c ∧ rd (nearN T) c ≤ ((E - e + n : Nat) : Int) + 1 := by
        intro c hcc
        have hct : rd t ((E - e + n : Nat) : Int) = c := by rw [rd_nat, hcc, hc]
        have c0 : 0 ≤ c := by
          rw [hcc, rd_of (j := e - 1 - n) (by omega)]
          have : l.getD (e - 1 - n) 0 = l[e - 1 - n] := by simp [List.getD_eq_getElem?_getD, show e - 1 - n < l.length by omega]
          rw [this]
          exact (hl _ (List.getElem_mem _)).1
        rcases near_spec T hB c c0 with ⟨_, h9⟩ | ⟨h8, _, h9⟩
        · exact absurd ⟨t, htm, by omega, hct⟩ (h9 (E - e + n))
        · exact ⟨h8, h9 (E - e + n) ⟨t, htm, by omega, hct⟩⟩
      have key : ∀ c : Int, c = rd l ((e : Int) - 1 - n) → farV (leastN T) (rd (nearN T) c) s.length (twoOf (farsX T P) i) ≤ ((E - e : Nat) : Int) := by
        intro c hcc
        obtain ⟨g1, g2⟩ := hnear c hcc
        unfold farV
        rw [if_pos g1, Int.min_def, Int.max_def, Int.min_def]
        split <;> split <;> split <;> omega
      exact ⟨fun h9 => absurd hn h9, fun c _ hcc => key c hcc⟩
    · omega
end Go.Proofs.Ytifbcboefopioaa.Tri

/-! By hand: the example of layer 15 (awake): it holds; what the laws of layer 15 call. No condition. -/
set_option linter.unusedVariables false
set_option linter.unusedSimpArgs false
namespace Go.Proofs.Ytifbcboefopioaa.Tri
open Go.RowKit Go.Maps Go.Proofs.YtifbcboefopioaaW.PrintWords Go.Proofs.YtifbcboefopioaaW.PrintLast Go.Proofs.YtifbcboefopioaaW.PrintMore Go.Proofs.Ytifbcboefopioaa.Kit Go.Proofs.Ytifbcboefopioaa.All
attribute [local go_sem] max2_int min2_int max_two min_two max_three min_three max_four min_four

def exT2 : List Txt := [[99, 98, 97], [99, 98]]
def exP2 : List Txt := [[], [99], [99, 98], [99, 98, 97]]
theorem exP2_of : exP2 = pathsL exT2 := by decide +kernel
theorem exP2_good : Good exP2 := by rw [exP2_of]; exact pathsL_good _
theorem exT2_bytes : ∀ t ∈ exT2, Bytes t := by
  intro s hs x hx
  simp [exT2] at hs
  rcases hs with rfl | rfl <;> simp at hx <;> omega
theorem exT2_ne : ∀ t ∈ exT2, t ≠ [] := by
  intro s hs
  simp [exT2] at hs
  rcases hs with rfl | rfl <;> simp
theorem exT2_short : ∀ t ∈ exT2, t.length ≤ 1000 := by
  intro s hs
  simp [exT2] at hs
  rcases hs with rfl | rfl <;> simp
theorem exP2_short : ∀ t ∈ exP2, t.length ≤ 1000 := by
  intro s hs
  simp [exP2] at hs
  rcases hs with rfl | rfl | rfl | rfl <;> simp
theorem bbuild3 (w : World) (c : Nat) {A : Option Addr} (hr : Kd.C (Kd.slice 5 (Kd.int .u8)) w A 2 [[97, 98, 99], [98, 99]]) : Calls Try.prog 35 #[.slice A 2 c] w fun e w' => ∃ g base b, e = .returned (.pointer (some ⟨g, 0, none⟩)) ∧ (BackIs w' g (.pointer (some ⟨b, 0, none⟩)) (leastN exT2) (nearN exT2) ∧ TreeAt w' base b exP2 (place exT2)) ∧ Below w.heap.size w w' :=
  (bbuild_to w A c [[97, 98, 99], [98, 99]] exT2 exP2 rfl exP2_of hr (by
    intro s hs x hx
    simp at hs
    rcases hs with rfl | rfl <;> simp at hx <;> omega) (by decide) (by decide)).mono fun e w' ⟨g, base, b, he, hk, ht, hb⟩ => ⟨g, base, b, he, ⟨hk, ht⟩, hb⟩
theorem ex20 : (twoOf (farsX exT2 exP2) 0).1 = 1 ∧ (twoOf (farsX exT2 exP2) 0).2 = 2 ∧ (twoOf (farsX exT2 exP2) 1).1 = 2 ∧ (twoOf (farsX exT2 exP2) 1).2 = 2 := by decide +kernel
theorem ex21 : farW exT2 exP2 0 [] 120 = 2 ∧ farW exT2 exP2 0 [] 98 = 1 := by decide +kernel
theorem stays_sh (g base b h basef : Nat) (T P : List Txt) : Stays (fun w => (BackIs w g (.pointer (some ⟨b, 0, none⟩)) (leastN T) (nearN T) ∧ TreeAt w base b P (place T)) ∧ FarAt w basef h (.pointer (some ⟨g, 0, none⟩)) (farsX T P)) := fun w w' h hb => ⟨⟨h.1.1.below hb, h.1.2.below hb⟩, h.2.below hb⟩
set_option maxRecDepth 100000 in
set_option maxHeartbeats 4000000 in
theorem awake15_at (w : World) : Calls Try.prog 45 #[] w fun e w' => e = .returned (.bool true) ∧ Below w.heap.size w w' := by
  have kc := conv_lit
  have TR : Aside0 (Kd.C (Kd.slice 5 (Kd.int .u8)) (((w.alloc (.cells #[.int .u8 97, .int .u8 98, .int .u8 99] 5 (3, 4))).alloc (.cells #[.int .u8 98, .int .u8 99] 5 (2, 3))).alloc (.cells #[.slice (some ⟨w.heap.size, 0, none⟩) 3 3, .slice (some ⟨w.heap.size + 1, 0, none⟩) 2 2] 32)) (some ⟨w.heap.size + 1 + 1, 0, none⟩) 2 [[97, 98, 99], [98, 99]]) := ⟨two_rows w [97, 98, 99] [98, 99] (by decide) (by decide) (3, 4) (2, 3) _ rfl⟩
  have bw := fun (w1 : World) (h : Below (w.heap.size + 1 + 1 + 1) (((w.alloc (.cells #[.int .u8 97, .int .u8 98, .int .u8 99] 5 (3, 4))).alloc (.cells #[.int .u8 98, .int .u8 99] 5 (2, 3))).alloc (.cells #[.slice (some ⟨w.heap.size, 0, none⟩) 3 3, .slice (some ⟨w.heap.size + 1, 0, none⟩) 2 2] 32)) w1) => (below_alloc (below_alloc (below_alloc (Below.refl w.heap.size w) (.cells #[.int .u8 97, .int .u8 98, .int .u8 99] 5 (3, 4))) (.cells #[.int .u8 98, .int .u8 99] 5 (2, 3))) (.cells #[.slice (some ⟨w.heap.size, 0, none⟩) 3 3, .slice (some ⟨w.heap.size + 1, 0, none⟩) 2 2] 32)).trans (h.mono (by omega))
  have BW := Aside0.mk bw
  clear bw
  go_enter Try.func45, Try.ntmps45
  go_upto_region 2 with (go_at_call 35; (refine (bbuild3 _ _ TR.out).mono ?_); rintro e w1 ⟨g, base, b, rfl, ht, hb⟩; have HT := Aside0.mk ht; have HB := Aside0.mk (BW.out _ (by simpa using hb)); clear ht hb)
  have X1 := HT.out.1.tr
  have SB := Aside0.mk (shbuild_any w1 g base b exT2 exP2 exP2_of HT.out.1 HT.out.2 (by decide) exT2_ne exT2_bytes exP2_short)
  clear TR BW
  go_upto_region 5 with (go_at_call 47; (with_reducible refine SB.out.mono ?_); rintro e w2 ⟨h, basef, rfl, hf, hb⟩; have HF := Aside0.mk hf; have HT2 := Aside0.mk (And.intro (HT.out.1.below hb) (HT.out.2.below hb)); have HB2 := Aside0.mk (below_step HB.out hb); clear hf hb)
  obtain ⟨G, SG, G2, GG⟩ := stays_pack ((stays_below w).and (stays_sh g base b h basef exT2 exP2)) ⟨HB2.out, HT2.out, HF.out⟩
  clear X1
  have X2 := HT2.out.1.tr
  clear HT HB SB HF HT2 HB2
  have FN : Aside0 (∀ w1 A c, G w1 → Kd.C (Kd.int .u8) w1 A 1 [99] → Calls Try.prog 32 #[.pointer (some ⟨b, 0, none⟩), .slice A 1 c] w1 fun e w' => e = .returned (.int .i64 1) ∧ w' = w1) := ⟨fun w1 A c h hr => find_at exP2_good (GG.out w1 h).2.1.2 (by decide) A c [99] hr (by intro y hy; simp at hy; omega) (by simp)⟩
  have F0 := Aside0.mk (fun (w1 : World) (h : G w1) => first_any (GG.out w1 h).2.2 0)
  have S0 := Aside0.mk (fun (w1 : World) (h : G w1) => second_any (GG.out w1 h).2.2 0)
  have F1 := Aside0.mk (fun (w1 : World) (h : G w1) => first_any (GG.out w1 h).2.2 1)
  have S1 := Aside0.mk (fun (w1 : World) (h : G w1) => second_any (GG.out w1 h).2.2 1)
  have R0 := Aside0.mk (fun (w1 : World) (h : G w1) => far_any exP2_of exT2_ne exT2_bytes exT2_short (GG.out w1 h).2.2 (GG.out w1 h).2.1.1 (GG.out w1 h).2.1.2 0 [] rfl (by decide) 120 (by decide) (by decide))
  have R1 := Aside0.mk (fun (w1 : World) (h : G w1) => far_any exP2_of exT2_ne exT2_bytes exT2_short (GG.out w1 h).2.2 (GG.out w1 h).2.1.1 (GG.out w1 h).2.1.2 0 [] rfl (by decide) 98 (by decide) (by decide))
  obtain ⟨e1, e2, e3, e4⟩ := ex20
  obtain ⟨e5, e6⟩ := ex21
  rw [e1] at F0
  rw [e2] at S0
  rw [e3] at F1
  rw [e4] at S1
  rw [e5, show ((0 : Nat) : Int) = 0 from rfl] at R0
  rw [e6, show ((0 : Nat) : Int) = 0 from rfl] at R1
  clear e1 e2 e3 e4 e5 e6
  go_upto_region 6 with (go_at_call 32; (refine (FN.out _ _ _ (SG.out _ _ G2.out (below_alloc (Below.refl _ _) _)) (lit_frozen _ [99] [.int .u8 99] rfl (by decide) _)).mono ?_); rintro e w3 ⟨rfl, hw⟩; have G3 : Aside0 (G w3) := ⟨hw ▸ SG.out _ _ G2.out (below_alloc (Below.refl _ _) _)⟩; clear hw)
  clear X2
  go_wp2_with (first
    | (go_at_call 49; (with_reducible refine (F0.out _ G3.out).mono ?_); rintro e w4 ⟨rfl, hb⟩; have G4 := Aside0.mk (SG.out _ _ G3.out hb); clear hb)
    | (go_at_call 51; (with_reducible refine (S0.out _ G4.out).mono ?_); rintro e w5 ⟨rfl, hb⟩; have G5 := Aside0.mk (SG.out _ _ G4.out hb); clear hb)
    | (go_at_call 49; (with_reducible refine (F1.out _ G5.out).mono ?_); rintro e w6 ⟨rfl, hb⟩; have G6 := Aside0.mk (SG.out _ _ G5.out hb); clear hb)
    | (go_at_call 51; (with_reducible refine (S1.out _ G6.out).mono ?_); rintro e w7 ⟨rfl, hb⟩; have G7 := Aside0.mk (SG.out _ _ G6.out hb); clear hb)
    | (go_at_call 53; (with_reducible refine (R0.out _ G7.out).mono ?_); rintro e w8 ⟨rfl, hb⟩; have G8 := Aside0.mk (SG.out _ _ G7.out hb); clear hb)
    | (go_at_call 53; (with_reducible refine (R1.out _ G8.out).mono ?_); rintro e w9 ⟨rfl, hb⟩; have G9 := Aside0.mk (SG.out _ _ G8.out hb); clear hb))
  go_ret
  exact ⟨rfl, (GG.out _ G9.out).1⟩

/-! ### the references, called -/
theorem paths15_to (w : World) (A : Option Addr) (c : Nat) (L P : List Txt) (hP : P = pathsL L) (hB : ∀ s ∈ L, Bytes s) (hl : L.length ≤ 1000) (h2 : ∀ s ∈ L, s.length ≤ 1000) (hr : Kd.C Kd.string w A L.length (L.map strOfNums)) (hc : L.length ≤ c) :
    Calls Try.prog 48 #[.slice A L.length c] w fun e w' => ∃ A1 c1, e = .returned (.slice A1 P.length c1) ∧ P.length ≤ c1 ∧ Kd.C Kd.string w' A1 P.length (P.map strOfNums) ∧ Below w.heap.size w w' := by
  subst hP
  obtain ⟨k, hk⟩ := paths_two L hB hl h2
  have hk2 : seineref15_Paths.f k (L.map strOfNums) = some ((pathsL L).map strOfNums) := by
    unfold seineref15_Paths.f
    rw [hk]
    rfl
  have hm : (L.map strOfNums).length = L.length := List.length_map ..
  have := seineref15_Paths.calls k A c (L.map strOfNums) _ w (by rw [hm]; exact hr) (by rw [hm]; exact hc) hk2
  rw [hm] at this
  refine this.mono fun e w' ⟨v, he, ho, hb⟩ => ?_
  obtain ⟨A1, c1, rfl, hl, hC⟩ := Kd.R_reads ho
  rw [List.length_map] at he hl hC
  exact ⟨A1, c1, he, hl, hC, hb⟩
theorem drawn_below {w w' : World} (h : Drawn0 w w') : Below w.heap.size w w' := by
  obtain ⟨nd, hw⟩ := h
  subst hw
  exact pw_below_drewN (Below.refl _ _) nd
section
variable (w : World) (AT : Option Addr) (cT : Nat) (AP : Option Addr) (cP : Nat) (T P : List Txt) (hTl : T.length ≤ 1000) (hne : ∀ t ∈ T, t ≠ []) (hTB : ∀ t ∈ T, Bytes t) (hTS : ∀ t ∈ T, t.length ≤ 1000) (hB : ∀ x ∈ P, Bytes x) (hS : ∀ x ∈ P, x.length ≤ 1000) (hl : P.length ≤ 100000)
  (hrT : Kd.C Kd.string w AT T.length (T.map strOfNums)) (hcT : T.length ≤ cT) (hrP : Kd.C Kd.string w AP P.length (P.map strOfNums)) (hcP : P.length ≤ cP) (s : Txt) (hs : Bytes s) (hsl : s.length ≤ 1000)
include hTl hne hTB hTS hrT hcT hs hsl
theorem second15_at (v : Int) (m : Mn (leastN T) (way (O1 T) s) v) : Calls Try.prog 52 #[.slice AT T.length cT, .string (strOfNums s)] w fun e w' => e = .returned (.int .i64 v) ∧ Below w.heap.size w w' := by
  obtain ⟨r, hr, K, hK⟩ := second15_ev T hTl hne hTB hTS s hs hsl
  obtain rfl := hr.uniq m
  have hm : (T.map strOfNums).length = T.length := List.length_map ..
  have := seineref15_Second.calls K AT cT (T.map strOfNums) _ _ w (by rw [hm]; exact hrT) (by rw [hm]; exact hcT) (hK K (Nat.le_refl _))
  rw [hm] at this
  exact this.mono fun e w' ⟨he, hw⟩ => ⟨he, drawn_below hw⟩
include hB hS hl hrP hcP
theorem first15_at (v : Int) (m : Mn (leastN T) (O1 P s) v) : Calls Try.prog 50 #[.slice AT T.length cT, .slice AP P.length cP, .string (strOfNums s)] w fun e w' => e = .returned (.int .i64 v) ∧ Below w.heap.size w w' := by
  have _h := hTB
  obtain ⟨r, hr, K, hK⟩ := first15_ev T P hTl hne hTS hB hS hl s hs hsl
  obtain rfl := hr.uniq m
  have hm : (T.map strOfNums).length = T.length := List.length_map ..
  have hm2 : (P.map strOfNums).length = P.length := List.length_map ..
  have := seineref15_First.calls K AT cT (T.map strOfNums) AP cP (P.map strOfNums) _ _ w (by rw [hm]; exact hrT) (by rw [hm]; exact hcT) (by rw [hm2]; exact hrP) (by rw [hm2]; exact hcP) (hK K (Nat.le_refl _))
  rw [hm, hm2] at this
  exact this.mono fun e w' ⟨he, hw⟩ => ⟨he, drawn_below hw⟩
theorem far15_at (hP : P = pathsL T) (i : Nat) (hi : P[i]? = some s) (c : Int) (c0 : 0 ≤ c) (c1 : c ≤ 255) : Calls Try.prog 54 #[.slice AT T.length cT, .slice AP P.length cP, .string (strOfNums s), .int .u8 c] w fun e w' => e = .returned (.int .i64 (farW T P i s c)) ∧ Below w.heap.size w w' := by
  obtain ⟨m1, m2⟩ := two_spec hP hi
  obtain ⟨K, hK⟩ := far15_ev T P hTl hne hTB hTS hB hS hl s hs hsl c c0 c1 _ m1 m2
  have hm : (T.map strOfNums).length = T.length := List.length_map ..
  have hm2 : (P.map strOfNums).length = P.length := List.length_map ..
  have := seineref15_Far.calls K AT cT (T.map strOfNums) AP cP (P.map strOfNums) _ _ _ w (by rw [hm]; exact hrT) (by rw [hm]; exact hcT) (by rw [hm2]; exact hrP) (by rw [hm2]; exact hcP) (hK K (Nat.le_refl _))
  rw [hm, hm2] at this
  exact this.mono fun e w' ⟨he, hw⟩ => ⟨he, drawn_below hw⟩
end
theorem occ_at (w : World) (A : Option Addr) (c : Nat) (L : List Txt) (l : Txt) (hl : Bytes l) (hll : l.length ≤ 1000) (hL : ∀ s ∈ L, Bytes s) (hLl : L.length ≤ 1000) (hr : Kd.C Kd.string w A L.length (L.map strOfNums)) (hc : L.length ≤ c) :
    Calls Try.prog 55 #[.string (strOfNums l), .slice A L.length c] w fun e w' => ∃ A1 c1, ∃ r : List S64, e = .returned (.slice A1 r.length c1) ∧ (∀ p ∈ r, OccP l L p) ∧ r.length ≤ 2000000 ∧ Kd.C k64 w' A1 r.length r ∧ Below w.heap.size w w' := by
  obtain ⟨k, r, h1, h2, hk⟩ := occ_two l L hl hll hL hLl
  have hm : (L.map strOfNums).length = L.length := List.length_map ..
  have := seineref03_Occ.calls k (strOfNums l) A c (L.map strOfNums) r w (by rw [hm]; exact hr) (by rw [hm]; exact hc) hk
  rw [hm] at this
  refine this.mono fun e w' ⟨v, he, ho, hb⟩ => ?_
  obtain ⟨A1, c1, rfl, hl, hC⟩ := Kd.R_reads ho
  exact ⟨A1, c1, r, he, h1, h2, hC, hb⟩
end Go.Proofs.Ytifbcboefopioaa.Tri
