/- By hand: the contracts of the tree's methods that only read. No condition but that the tree lies there. -/
import Derived.Test.YtifbcboefopioaaTriR
import Derived.Test.YtifbcboefopioaaWWords
import Derived.Test.YtifbcboefopioaaWMore
import Derived.Test.YtifbcboefopioaaWLast
import Derived.Test.YtifbcboefopioaaWGuard
import Derived.Laws.EntriesVeiled
import Derived.Deep.LoopGhost
import Derived.Deep.DeepMust
import Derived.Outline
set_option linter.unusedVariables false
namespace Go.Proofs.Ytifbcboefopioaa.Tri
open Go.RowKit Go.Maps Go.Proofs.YtifbcboefopioaaW.PrintWords Go.Proofs.YtifbcboefopioaaW.PrintLast Go.Proofs.YtifbcboefopioaaW.PrintMore
attribute [local go_sem] max2_int min2_int max_two min_two max_three min_three max_four min_four

variable {w : World} {base b : Nat} {P : List Txt} {wd : Txt → Int}
theorem nodes_at (h : TreeAt w base b P wd) : Calls Try.prog 23 #[.pointer (some ⟨b, 0, none⟩)] w fun e w' => e = .returned (.int .i64 P.length) ∧ w' = w := by
  obtain ⟨g, cap, mb, n, D, h1, h2, h3, h4, h5, h6⟩ := h
  obtain ⟨c0, c1, _⟩ := block_cells h3
  clear h1 h2 h3 h4 h5 h6
  go_enter Try.func23, Try.ntmps23
  go_wp2
  go_ret
  exact ⟨rfl, rfl⟩
theorem nodes_nil (w : World) : Calls Try.prog 23 #[.pointer none] w fun e w' => e = .returned (.int .i64 0) ∧ w' = w := by
  go_enter Try.func23, Try.ntmps23
  go_wp2
  go_ret
  exact ⟨rfl, rfl⟩
theorem is_yes (h : TreeAt w base b P wd) (n : Int) (h0 : 0 ≤ n) (h1 : n < P.length) : Calls Try.prog 57 #[.pointer (some ⟨b, 0, none⟩), .int .i64 n] w fun e w' => e = .returned (.bool true) ∧ w' = w := by
  have hn := nodes_at h
  clear h
  go_enter Try.func57, Try.ntmps57
  go_wp2_with (go_at_call 23; refine hn.mono ?_; rintro e w' ⟨rfl, hw⟩; subst hw)
  go_ret
  exact ⟨rfl, rfl⟩
theorem is_no (h : TreeAt w base b P wd) (n : Int) (h0 : n < 0 ∨ (P.length : Int) ≤ n) : Calls Try.prog 57 #[.pointer (some ⟨b, 0, none⟩), .int .i64 n] w fun e w' => e = .returned (.bool false) ∧ w' = w := by
  have hn := nodes_at h
  clear h
  rcases h0 with h0 | h0
  · have h00 : ¬ 0 ≤ n := by omega
    go_enter Try.func57, Try.ntmps57
    go_wp2_with (go_at_call 23; refine hn.mono ?_; rintro e w' ⟨rfl, hw⟩; subst hw)
    go_ret
    exact ⟨rfl, rfl⟩
  · have h00 : 0 ≤ n := by omega
    have h01 : decide (n < (P.length : Int)) = false := decide_eq_false (by omega)
    go_enter Try.func57, Try.ntmps57
    go_wp2_with (go_at_call 23; refine hn.mono ?_; rintro e w' ⟨rfl, hw⟩; subst hw)
    go_ret
    exact ⟨rfl, rfl⟩
theorem is_nil (n : Int) (w : World) : Calls Try.prog 57 #[.pointer none, .int .i64 n] w fun e w' => e = .returned (.bool false) ∧ w' = w := by
  have hn := nodes_nil w
  by_cases h0 : 0 ≤ n
  · have h01 : decide (n < 0) = false := decide_eq_false (by omega)
    go_enter Try.func57, Try.ntmps57
    go_wp2_with (go_at_call 23; refine hn.mono ?_; rintro e w' ⟨rfl, hw⟩; subst hw)
    go_ret
    exact ⟨rfl, rfl⟩
  · go_enter Try.func57, Try.ntmps57
    go_wp2_with (go_at_call 23; refine hn.mono ?_; rintro e w' ⟨rfl, hw⟩; subst hw)
    go_ret
    exact ⟨rfl, rfl⟩
theorem depth_at (h : TreeAt w base b P wd) (i : Nat) (s : Txt) (hi : P[i]? = some s) : Calls Try.prog 26 #[.pointer (some ⟨b, 0, none⟩), .int .i64 i] w fun e w' => e = .returned (.int .i64 (s.length)) ∧ w' = w := by
  have hil := (List.getElem?_eq_some_iff.1 hi).1
  have hn := is_yes h (i : Int) (by omega) (by omega)
  obtain ⟨g, cap, mb, n, D, h1, h2, h3, h4, h5, h6⟩ := h
  obtain ⟨c0, c1, _⟩ := block_cells h3
  obtain ⟨f0, f1, f2, f3⟩ := row_cells h4 hi
  have k1 : ((i : Nat) : Int) < (P.length : Int) := by omega
  clear h1 h2 h3 h4 h5 h6 hi
  go_enter Try.func26, Try.ntmps26
  go_wp2_with (go_at_call 57; refine hn.mono ?_; rintro e w' ⟨rfl, hw⟩; subst hw)
  go_ret
  exact ⟨rfl, rfl⟩
theorem depth_no (h : TreeAt w base b P wd) (n : Int) (h0 : n < 0 ∨ (P.length : Int) ≤ n) : Calls Try.prog 26 #[.pointer (some ⟨b, 0, none⟩), .int .i64 n] w fun e w' => e = .returned (.int .i64 (0)) ∧ w' = w := by
  have hn := is_no h n h0
  clear h h0
  go_enter Try.func26, Try.ntmps26
  go_wp2_with (go_at_call 57; refine hn.mono ?_; rintro e w' ⟨rfl, hw⟩; subst hw)
  go_ret
  exact ⟨rfl, rfl⟩
theorem depth_nil (n : Int) (w : World) : Calls Try.prog 26 #[.pointer none, .int .i64 n] w fun e w' => e = .returned (.int .i64 (0)) ∧ w' = w := by
  have hn := is_nil n w
  go_enter Try.func26, Try.ntmps26
  go_wp2_with (go_at_call 57; refine hn.mono ?_; rintro e w' ⟨rfl, hw⟩; subst hw)
  go_ret
  exact ⟨rfl, rfl⟩
theorem parent_at (h : TreeAt w base b P wd) (i : Nat) (s : Txt) (hi : P[i]? = some s) : Calls Try.prog 27 #[.pointer (some ⟨b, 0, none⟩), .int .i64 i] w fun e w' => e = .returned (.int .i64 (par P s)) ∧ w' = w := by
  have hil := (List.getElem?_eq_some_iff.1 hi).1
  have hn := is_yes h (i : Int) (by omega) (by omega)
  obtain ⟨g, cap, mb, n, D, h1, h2, h3, h4, h5, h6⟩ := h
  obtain ⟨c0, c1, _⟩ := block_cells h3
  obtain ⟨f0, f1, f2, f3⟩ := row_cells h4 hi
  have k1 : ((i : Nat) : Int) < (P.length : Int) := by omega
  clear h1 h2 h3 h4 h5 h6 hi
  go_enter Try.func27, Try.ntmps27
  go_wp2_with (go_at_call 57; refine hn.mono ?_; rintro e w' ⟨rfl, hw⟩; subst hw)
  go_ret
  exact ⟨rfl, rfl⟩
theorem parent_no (h : TreeAt w base b P wd) (n : Int) (h0 : n < 0 ∨ (P.length : Int) ≤ n) : Calls Try.prog 27 #[.pointer (some ⟨b, 0, none⟩), .int .i64 n] w fun e w' => e = .returned (.int .i64 (-1)) ∧ w' = w := by
  have hn := is_no h n h0
  clear h h0
  go_enter Try.func27, Try.ntmps27
  go_wp2_with (go_at_call 57; refine hn.mono ?_; rintro e w' ⟨rfl, hw⟩; subst hw)
  go_ret
  exact ⟨rfl, rfl⟩
theorem parent_nil (n : Int) (w : World) : Calls Try.prog 27 #[.pointer none, .int .i64 n] w fun e w' => e = .returned (.int .i64 (-1)) ∧ w' = w := by
  have hn := is_nil n w
  go_enter Try.func27, Try.ntmps27
  go_wp2_with (go_at_call 57; refine hn.mono ?_; rintro e w' ⟨rfl, hw⟩; subst hw)
  go_ret
  exact ⟨rfl, rfl⟩
theorem word_at (h : TreeAt w base b P wd) (i : Nat) (s : Txt) (hi : P[i]? = some s) : Calls Try.prog 28 #[.pointer (some ⟨b, 0, none⟩), .int .i64 i] w fun e w' => e = .returned (.int .i64 (wd s)) ∧ w' = w := by
  have hil := (List.getElem?_eq_some_iff.1 hi).1
  have hn := is_yes h (i : Int) (by omega) (by omega)
  obtain ⟨g, cap, mb, n, D, h1, h2, h3, h4, h5, h6⟩ := h
  obtain ⟨c0, c1, _⟩ := block_cells h3
  obtain ⟨f0, f1, f2, f3⟩ := row_cells h4 hi
  have k1 : ((i : Nat) : Int) < (P.length : Int) := by omega
  clear h1 h2 h3 h4 h5 h6 hi
  go_enter Try.func28, Try.ntmps28
  go_wp2_with (go_at_call 57; refine hn.mono ?_; rintro e w' ⟨rfl, hw⟩; subst hw)
  go_ret
  exact ⟨rfl, rfl⟩
theorem word_no (h : TreeAt w base b P wd) (n : Int) (h0 : n < 0 ∨ (P.length : Int) ≤ n) : Calls Try.prog 28 #[.pointer (some ⟨b, 0, none⟩), .int .i64 n] w fun e w' => e = .returned (.int .i64 (-1)) ∧ w' = w := by
  have hn := is_no h n h0
  clear h h0
  go_enter Try.func28, Try.ntmps28
  go_wp2_with (go_at_call 57; refine hn.mono ?_; rintro e w' ⟨rfl, hw⟩; subst hw)
  go_ret
  exact ⟨rfl, rfl⟩
theorem word_nil (n : Int) (w : World) : Calls Try.prog 28 #[.pointer none, .int .i64 n] w fun e w' => e = .returned (.int .i64 (-1)) ∧ w' = w := by
  have hn := is_nil n w
  go_enter Try.func28, Try.ntmps28
  go_wp2_with (go_at_call 57; refine hn.mono ?_; rintro e w' ⟨rfl, hw⟩; subst hw)
  go_ret
  exact ⟨rfl, rfl⟩
theorem zero3 (w : World) : (zeroValue 3).run Try.prog w = .ok (.int .i64 0) w := by kernel_rfl
theorem lit_eq {a d : Int} (h : (DataW.lit (.int .i64 a) : DataW Unit) = .lit (.int .i64 d)) : d = a := by
  injection h with h
  injection h with _ h
  exact h.symm
theorem step_at (h : TreeAt w base b P wd) (hl : P.length ≤ 4611686018427387904) (i : Nat) (s : Txt) (hi : P[i]? = some s) (c : Int) (c0 : 0 ≤ c) (c1 : c ≤ 255) :
    Calls Try.prog 31 #[.pointer (some ⟨b, 0, none⟩), .int .i64 i, .int .u8 c] w fun e w' => e = .returned (.int .i64 (place P (s ++ [c]))) ∧ w' = w := by
  have hil := (List.getElem?_eq_some_iff.1 hi).1
  have hn := is_yes h (i : Int) (by omega) (by omega)
  obtain ⟨g, cap, mb, n, D, h1, h2, h3, h4, h5, h6, h7, h8⟩ := h
  obtain ⟨x0, x1, _⟩ := block_cells h3
  obtain ⟨hh, ha⟩ := h8 i c (by omega) c0 c1
  have HK := Aside0.mk (kl_of (n := i) (c := c) (by omega) c0 c1)
  have HM := Aside0.mk h5
  by_cases hm : s ++ [c] ∈ P
  · have e1 : Maps.has D (kl i c) = true := hh.2 ⟨s, hi, hm⟩
    have HA := Aside0.mk (ha s hi hm (.lit (.int .i64 0)))
    clear h1 h2 h3 h4 h5 h6 h7 h8 hh ha
    go_enter Try.func31, Try.ntmps31
    go_wp2_with (first | (go_at_call 57; refine hn.mono ?_; rintro e w' ⟨rfl, hw⟩; subst hw) | (at_lookup; refine wpList_lookup_own_ok_int _ rfl _ _ 69 rfl 75 3 .i64 klaw Try.underlying69 Try.underlying3 (zero3 _) mb n D rfl HM.out _ _ rfl HK.out ?_; intro d hat hwd; rw [HA.out] at hat; obtain rfl := lit_eq hat; clear hat hwd; rw [e1]))
    go_ret
    exact ⟨rfl, rfl⟩
  · have e1 : Maps.has D (kl i c) = false := by
      cases hv : Maps.has D (kl i c) with
      | false => rfl
      | true =>
        obtain ⟨s', hs', hm'⟩ := hh.1 hv
        rw [hi] at hs'
        cases hs'
        exact absurd hm' hm
    have hp : place P (s ++ [c]) = -1 := place_no hm
    have HP := Aside0.mk hp
    clear h1 h2 h3 h4 h5 h6 h7 h8 hh ha hp
    go_enter Try.func31, Try.ntmps31
    go_wp2_with (first | (go_at_call 57; refine hn.mono ?_; rintro e w' ⟨rfl, hw⟩; subst hw) | (at_lookup; refine wpList_lookup_own_ok_int _ rfl _ _ 69 rfl 75 3 .i64 klaw Try.underlying69 Try.underlying3 (zero3 _) mb n D rfl HM.out _ _ rfl HK.out ?_; intro d hat hwd; clear hat hwd; rw [e1]))
    go_ret
    rw [HP.out]
    exact ⟨rfl, rfl⟩
theorem step_no (h : TreeAt w base b P wd) (n : Int) (h0 : n < 0 ∨ (P.length : Int) ≤ n) (c : Int) : Calls Try.prog 31 #[.pointer (some ⟨b, 0, none⟩), .int .i64 n, .int .u8 c] w fun e w' => e = .returned (.int .i64 (-1)) ∧ w' = w := by
  have hn := is_no h n h0
  clear h h0
  go_enter Try.func31, Try.ntmps31
  go_wp2_with (go_at_call 57; refine hn.mono ?_; rintro e w' ⟨rfl, hw⟩; subst hw)
  go_ret
  exact ⟨rfl, rfl⟩
theorem step_nil (n c : Int) (w : World) : Calls Try.prog 31 #[.pointer none, .int .i64 n, .int .u8 c] w fun e w' => e = .returned (.int .i64 (-1)) ∧ w' = w := by
  have hn := is_nil n w
  go_enter Try.func31, Try.ntmps31
  go_wp2_with (go_at_call 57; refine hn.mono ?_; rintro e w' ⟨rfl, hw⟩; subst hw)
  go_ret
  exact ⟨rfl, rfl⟩
end Go.Proofs.Ytifbcboefopioaa.Tri
