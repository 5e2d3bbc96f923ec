/- Plain: the references of layer 14: turned texts, the least length, the nearest places. No condition but sizes. -/
import Derived.Test.YtifbcboefopioaaRefs2
import Derived.Test.YtifbcboefopioaaBackP
import Derived.Test.YtifbcboefopioaaAllx2
import Derived.Test.YtifbcboefopioaaAllx3
set_option linter.unusedVariables false
namespace Go.Proofs.Ytifbcboefopioaa.Tri
open Go.RowKit Go.Proofs.YtifbcboefopioaaW.PrintWords Go.Proofs.YtifbcboefopioaaW.PrintLast Go.Proofs.YtifbcboefopioaaW.PrintMore Go.Proofs.Ytifbcboefopioaa.Kit Go.Proofs.Ytifbcboefopioaa.All

theorem Bytes.rev {s : Txt} (h : Bytes s) : Bytes s.reverse := fun x hx => h x (List.mem_reverse.1 hx)
theorem turn14_runs (s : Txt) (hl : s.length ≤ 1099511627776) : ∀ (j : Nat), j ≤ s.length → Ev (fun k => seineref14_Turn.l0 k (strOfNums s) (strOfNums (s.drop j).reverse) ((j : Int) - 1)) (strOfNums s.reverse)
  | 0, _ => by
    refine Ev.step (fun k => by rw [seineref14_Turn.l0]) ?_
    exact Ev.neg (by omega) (Ev.ret (by rw [List.drop_zero]))
  | j + 1, h => by
    have nx := turn14_runs s hl j (by omega)
    refine Ev.step (fun k => by rw [seineref14_Turn.l0]) ?_
    rw [show ((j + 1 : Nat) : Int) - 1 = (j : Int) by omega, wrap_id (by omega) (by omega), wrap_id (x := (j : Int) - 1) (by omega) (by omega), show (j : Int) + 1 = ((j + 1 : Nat) : Int) by omega]
    refine Ev.pos (by omega) (Ev.pos (by omega) (Ev.pos (by omega) (Ev.pos (by rw [size_str]; omega) ?_)))
    rw [Int.toNat_natCast, Int.toNat_natCast, extract_str]
    have e : (s.take (j + 1)).drop j = [s[j]] := by
      rw [List.take_succ_eq_append_getElem (by omega), List.drop_append_of_le_length (by rw [List.length_take]; omega), List.drop_of_length_le (by rw [List.length_take]; omega)]
      rfl
    rw [e]
    refine Ev.pos (by rw [size_str, size_str, List.length_reverse, List.length_drop, List.length_singleton]; omega) ?_
    rw [append_str]
    rw [List.drop_eq_getElem_cons (show j < s.length by omega), List.reverse_cons] at nx
    exact nx
theorem turn14_ev (s : Txt) (hl : s.length ≤ 1099511627776) : Ev (fun k => seineref14_Turn.f k (strOfNums s)) (strOfNums s.reverse) := by
  have h := turn14_runs s hl s.length (Nat.le_refl _)
  rw [List.drop_length, List.reverse_nil] at h
  refine Ev.congr (fun k => ?_) h
  rw [seineref14_Turn.f, size_str, wrap_id (by omega) (by omega)]
  rfl
theorem turned_runs (L : List Txt) (hl : L.length ≤ 1000) (h2 : ∀ s ∈ L, s.length ≤ 1000) : ∀ (d i : Nat), i + d = L.length → Ev (fun k => seineref14_Turned.l0 k (L.map strOfNums) ((TL (L.take i)).map strOfNums) (i : Int)) ((TL L).map strOfNums)
  | 0, i, h => by
    refine Ev.step (fun k => by rw [seineref14_Turned.l0]) ?_
    refine Ev.neg (by rw [List.length_map]; omega) (Ev.ret ?_)
    rw [List.take_of_length_le (by omega)]
  | d + 1, i, h => by
    have hi : i < L.length := by omega
    have hx : L[i]? = some L[i] := List.getElem?_eq_getElem hi
    have hm := List.getElem_mem hi
    have nx := turned_runs L hl h2 d (i + 1) (by omega)
    refine Ev.step (fun k => by rw [seineref14_Turned.l0]) ?_
    refine Ev.pos (by rw [List.length_map]; omega) (Ev.pos (by omega) ?_)
    rw [rd_map L hx, wrap_id (by omega) (by omega), show (i : Int) + 1 = ((i + 1 : Nat) : Int) by omega]
    rw [List.take_succ_eq_append_getElem hi] at nx
    by_cases h0 : L[i] = []
    · refine Ev.pos ((toList_str_nil _).2 h0) ?_
      rw [h0, TL_skip] at nx
      exact nx
    · refine Ev.neg (fun e => h0 ((toList_str_nil _).1 e)) ?_
      have h3 := h2 _ hm
      refine Ev.bind (turn14_ev _ (by omega)) ?_
      have h4 := TL_len (L.take i)
      rw [List.length_take] at h4
      refine Ev.pos (by rw [List.length_map]; omega) ?_
      rw [TL_snoc _ h0, List.map_append] at nx
      exact nx
theorem turned_two (L : List Txt) (hl : L.length ≤ 1000) (h2 : ∀ s ∈ L, s.length ≤ 1000) : ∃ k, seineref14_Turned.f k (L.map strOfNums) = some ((TL L).map strOfNums) := by
  obtain ⟨K, hK⟩ := turned_runs L hl h2 L.length 0 (by omega)
  exact ⟨K, hK K (Nat.le_refl _)⟩
theorem turn14_two (s : Txt) (hl : s.length ≤ 1099511627776) : ∃ k, seineref14_Turn.f k (strOfNums s) = some (strOfNums s.reverse) := by
  obtain ⟨K, hK⟩ := turn14_ev s hl
  exact ⟨K, hK K (Nat.le_refl _)⟩

/-! ### the least length -/
theorem closer_le (a : Int) {n : Int} (ha : 0 ≤ a) (hn : 0 < n) : 0 < closer a n ∧ closer a n ≤ n := by
  unfold closer
  split
  · omega
  · rw [Int.min_def]
    split <;> omega
theorem leastN_nonneg : ∀ (T : List Txt), 0 ≤ leastN T := by
  intro T
  unfold leastN
  have key : ∀ (T : List Txt) (a : Int), 0 ≤ a → 0 ≤ T.foldl (fun a t => closer a t.length) a := by
    intro T
    induction T with
    | nil => intro a h; exact h
    | cons t T ih =>
      intro a h
      refine ih _ ?_
      show 0 ≤ closer a (t.length : Int)
      unfold closer
      split
      · omega
      · rw [Int.min_def]
        split <;> omega
  exact key T 0 (by omega)
theorem leastN_spec (T : List Txt) (hne : ∀ t ∈ T, t ≠ []) : ∀ n, n ≤ T.length → (0 < n → 0 < leastN (T.take n) ∧ (∃ t ∈ T.take n, leastN (T.take n) = t.length) ∧ ∀ t ∈ T.take n, leastN (T.take n) ≤ t.length)
  | 0, _ => fun h => absurd h (by omega)
  | n + 1, h => fun _ => by
    have hi : n < T.length := by omega
    have hm := List.getElem_mem hi
    have hp : 0 < T[n].length := List.length_pos_iff.2 (hne _ hm)
    rw [List.take_succ_eq_append_getElem hi, leastN_snoc]
    rcases Nat.eq_zero_or_pos n with rfl | h0
    · rw [List.take_zero]
      have e : closer (leastN []) (T[0].length : Int) = (T[0].length : Int) := rfl
      rw [e]
      refine ⟨by omega, ⟨T[0], by simp, rfl⟩, fun t ht => ?_⟩
      simp at ht
      subst ht
      omega
    · obtain ⟨h1, ⟨t0, ht0, e0⟩, h2⟩ := leastN_spec T hne n (by omega) h0
      have e : closer (leastN (T.take n)) (T[n].length : Int) = if leastN (T.take n) ≤ (T[n].length : Int) then leastN (T.take n) else (T[n].length : Int) := by
        unfold closer
        rw [if_neg (by omega), Int.min_def]
      rw [e]
      split
      · refine ⟨h1, ⟨t0, List.mem_append_left _ ht0, e0⟩, fun t ht => ?_⟩
        rcases List.mem_append.1 ht with h | h
        · exact h2 t h
        · simp at h
          subst h
          assumption
      · refine ⟨by omega, ⟨T[n], List.mem_append.2 (.inr (List.mem_singleton.2 rfl)), rfl⟩, fun t ht => ?_⟩
        rcases List.mem_append.1 ht with h | h
        · have := h2 t h
          omega
        · simp at h
          subst h
          omega
theorem leastN_pos {T : List Txt} (hne : ∀ t ∈ T, t ≠ []) (h0 : T ≠ []) : 0 < leastN T ∧ (∃ t ∈ T, leastN T = t.length) ∧ ∀ t ∈ T, leastN T ≤ t.length := by
  have := leastN_spec T hne T.length (Nat.le_refl _) (List.length_pos_iff.2 h0)
  rwa [List.take_length] at this
theorem TL_ne (L : List Txt) : ∀ t ∈ TL L, t ≠ [] := fun t ht => (TL_mem.1 ht).1
theorem least_runs (T : List Txt) (hl : T.length ≤ 1000) (hne : ∀ t ∈ T, t ≠ []) (h2 : ∀ s ∈ T, s.length ≤ 1000) : ∀ (d i : Nat), i + d = T.length → Ev (fun k => seineref14_Least.l0 k (T.map strOfNums) (leastN (T.take i)) (i : Int)) (leastN T)
  | 0, i, h => by
    refine Ev.step (fun k => by rw [seineref14_Least.l0]) ?_
    refine Ev.neg (by rw [List.length_map]; omega) (Ev.ret ?_)
    rw [List.take_of_length_le (by omega)]
  | d + 1, i, h => by
    have hi : i < T.length := by omega
    have hx : T[i]? = some T[i] := List.getElem?_eq_getElem hi
    have hm := List.getElem_mem hi
    have nx := least_runs T hl hne h2 d (i + 1) (by omega)
    refine Ev.step (fun k => by rw [seineref14_Least.l0]) ?_
    refine Ev.pos (by rw [List.length_map]; omega) ?_
    rw [rd_map T hx, size_str, wrap_id (by omega) (by omega), show (i : Int) + 1 = ((i + 1 : Nat) : Int) by omega]
    rw [List.take_succ_eq_append_getElem hi, leastN_snoc] at nx
    by_cases h0 : i = 0
    · subst h0
      refine Ev.pos rfl (Ev.pos (by omega) ?_)
      exact nx
    · refine Ev.neg (by omega) (Ev.pos (by omega) ?_)
      obtain ⟨h3, _, _⟩ := leastN_spec T hne i (by omega) (by omega)
      unfold closer at nx
      rw [if_neg (by omega), Int.min_def] at nx
      by_cases c : (T[i].length : Int) < leastN (T.take i)
      · rw [if_neg (by omega)] at nx
        exact Ev.pos c nx
      · rw [if_pos (by omega)] at nx
        exact Ev.neg c nx
theorem least_ev (T : List Txt) (hl : T.length ≤ 1000) (hne : ∀ t ∈ T, t ≠ []) (h2 : ∀ s ∈ T, s.length ≤ 1000) : Ev (fun k => seineref14_Least.f k (T.map strOfNums)) (leastN T) := least_runs T hl hne h2 T.length 0 (by omega)
theorem least_two (T : List Txt) (hl : T.length ≤ 1000) (hne : ∀ t ∈ T, t ≠ []) (h2 : ∀ s ∈ T, s.length ≤ 1000) : ∃ k, seineref14_Least.f k (T.map strOfNums) = some (leastN T) := by
  obtain ⟨K, hK⟩ := least_ev T hl hne h2
  exact ⟨K, hK K (Nat.le_refl _)⟩

/-! ### the nearest places -/
theorem rd_set2 (l : List Int) (i : Nat) (k : Int) (v : Int) (h : i < l.length) (hk : 0 ≤ k) : rd (l.set i v) k = if (i : Int) = k then v else rd l k := by
  obtain ⟨m, rfl⟩ : ∃ m : Nat, k = (m : Int) := ⟨k.toNat, by omega⟩
  unfold rd
  simp only [Int.toNat_natCast, List.getD_eq_getElem?_getD, List.getElem?_set]
  by_cases e : i = m
  · subst e
    simp [h]
  · rw [if_neg e, if_neg (by omega)]
theorem nearT_step {N : List Int} (hN : N.length = 256) {t : Txt} (hB : Bytes t) (k : Nat) (hk : k < t.length) (c : Int) (c0 : 0 ≤ c) : rd (nearT N t (k + 1)) c = if rd t (k : Int) = c then closer (rd (nearT N t k) c) ((k : Int) + 1) else rd (nearT N t k) c := by
  have hb := hB t[k] (List.getElem_mem hk)
  have e1 : t.getD k 0 = t[k] := by simp [List.getD_eq_getElem?_getD, hk]
  have e2 : rd t (k : Int) = t[k] := by rw [rd_nat, e1]
  rw [nearT, e1, e2, rd_set2 _ _ _ _ (by rw [nearT_len, hN]; omega) c0, show ((t[k].toNat : Nat) : Int) = t[k] by omega]
  split
  · rename_i h
    rw [h]
  · rfl
theorem near_in (T : List Txt) (hl : T.length ≤ 1000) (c : Int) (c0 : 0 ≤ c) (i : Nat) (t : Txt) (hi : T[i]? = some t) (hB : Bytes t) (h2 : t.length ≤ 1000) (N : List Int) (hN : N.length = 256) (r : Int)
    (hx : Ev (fun k => seineref14_Near.l0 k (T.map strOfNums) c (rd (nearT N t t.length) c) ((i + 1 : Nat) : Int)) r) :
    ∀ (d n : Nat), n + d = t.length → Ev (fun k => seineref14_Near.l1 k (T.map strOfNums) c (rd (nearT N t n) c) (i : Int) (n : Int)) r
  | 0, n, h => by
    have hil := (List.getElem?_eq_some_iff.1 hi).1
    refine Ev.step (fun k => by rw [seineref14_Near.l1]) ?_
    refine Ev.pos (by omega) (Ev.pos (by rw [List.length_map]; omega) ?_)
    rw [rd_map T hi, size_str]
    refine Ev.neg (by omega) ?_
    rw [wrap_id (by omega) (by omega), show (i : Int) + 1 = ((i + 1 : Nat) : Int) by omega]
    obtain rfl : n = t.length := by omega
    exact hx
  | d + 1, n, h => by
    have hil := (List.getElem?_eq_some_iff.1 hi).1
    have hn : n < t.length := by omega
    have nx := near_in T hl c c0 i t hi hB h2 N hN r hx d (n + 1) (by omega)
    rw [nearT_step hN hB n hn c c0] at nx
    refine Ev.step (fun k => by rw [seineref14_Near.l1]) ?_
    refine Ev.pos (by omega) (Ev.pos (by rw [List.length_map]; omega) ?_)
    rw [rd_map T hi, size_str, bt_str hB, wrap_id (by omega) (by omega)]
    refine Ev.pos (by omega) (Ev.pos (by omega) ?_)
    rw [show ((n + 1 : Nat) : Int) = (n : Int) + 1 by omega] at nx
    by_cases e : rd t (n : Int) = c
    · rw [if_pos e] at nx
      refine Ev.pos e ?_
      unfold closer at nx
      by_cases h0 : rd (nearT N t n) c = 0
      · rw [if_pos h0] at nx
        exact Ev.pos h0 nx
      · rw [if_neg h0, Int.min_def] at nx
        refine Ev.neg h0 ?_
        by_cases hlt : (n : Int) + 1 < rd (nearT N t n) c
        · rw [if_neg (by omega)] at nx
          exact Ev.pos hlt nx
        · rw [if_pos (by omega)] at nx
          exact Ev.neg hlt nx
    · rw [if_neg e] at nx
      exact Ev.neg e nx
theorem nearN_len (T : List Txt) : (nearN T).length = 256 := by
  unfold nearN
  have key : ∀ (T : List Txt) (N : List Int), N.length = 256 → (T.foldl (fun N t => nearT N t t.length) N).length = 256 := by
    intro T
    induction T with
    | nil => intro N h; exact h
    | cons t T ih => intro N h; exact ih _ (by rw [nearT_len, h])
  exact key T _ (List.length_replicate ..)
theorem near_out (T : List Txt) (hl : T.length ≤ 1000) (hB : ∀ t ∈ T, Bytes t) (h2 : ∀ t ∈ T, t.length ≤ 1000) (c : Int) (c0 : 0 ≤ c) : ∀ (d i : Nat), i + d = T.length → Ev (fun k => seineref14_Near.l0 k (T.map strOfNums) c (rd (nearN (T.take i)) c) (i : Int)) (rd (nearN T) c)
  | 0, i, h => by
    refine Ev.step (fun k => by rw [seineref14_Near.l0]) ?_
    refine Ev.neg (by rw [List.length_map]; omega) (Ev.ret ?_)
    rw [List.take_of_length_le (by omega)]
  | d + 1, i, h => by
    have hi : i < T.length := by omega
    have hx : T[i]? = some T[i] := List.getElem?_eq_getElem hi
    have hm := List.getElem_mem hi
    have nx := near_out T hl hB h2 c c0 d (i + 1) (by omega)
    rw [List.take_succ_eq_append_getElem hi, nearN_snoc] at nx
    refine Ev.step (fun k => by rw [seineref14_Near.l0]) ?_
    refine Ev.pos (by rw [List.length_map]; omega) ?_
    exact near_in T hl c c0 i _ hx (hB _ hm) (h2 _ hm) _ (nearN_len _) _ nx T[i].length 0 (by omega)
theorem near_ev (T : List Txt) (hl : T.length ≤ 1000) (hB : ∀ t ∈ T, Bytes t) (h2 : ∀ t ∈ T, t.length ≤ 1000) (c : Int) (c0 : 0 ≤ c) (c1 : c ≤ 255) : Ev (fun k => seineref14_Near.f k (T.map strOfNums) c) (rd (nearN T) c) := by
  have := near_out T hl hB h2 c c0 T.length 0 (by omega)
  have e : rd (nearN (T.take 0)) c = 0 := by
    rw [List.take_zero]
    show rd near0 c = 0
    unfold rd near0
    rw [List.getD_eq_getElem?_getD, List.getElem?_replicate]
    split <;> rfl
  rw [e] at this
  exact this
theorem near_two (T : List Txt) (hl : T.length ≤ 1000) (hB : ∀ t ∈ T, Bytes t) (h2 : ∀ t ∈ T, t.length ≤ 1000) (c : Int) (c0 : 0 ≤ c) (c1 : c ≤ 255) : ∃ k, seineref14_Near.f k (T.map strOfNums) c = some (rd (nearN T) c) := by
  obtain ⟨K, hK⟩ := near_ev T hl hB h2 c c0 c1
  exact ⟨K, hK K (Nat.le_refl _)⟩
end Go.Proofs.Ytifbcboefopioaa.Tri
