/- By hand: the methods End and Whole of a tree from the ends. No condition. -/
import Derived.Test.YtifbcboefopioaaBackB
set_option linter.unusedVariables false
namespace Go.Proofs.Ytifbcboefopioaa.Tri
open Go.RowKit Go.Maps Go.Proofs.YtifbcboefopioaaW.PrintWords Go.Proofs.YtifbcboefopioaaW.PrintLast Go.Proofs.YtifbcboefopioaaW.PrintMore Go.Proofs.Ytifbcboefopioaa.Kit Go.Proofs.Ytifbcboefopioaa.All
attribute [local go_sem] max2_int min2_int max_two min_two max_three min_three max_four min_four

def wholeB (q : Int) : Bool := decide (0 ≤ q)
theorem wholeB_yes {q : Int} (h : 0 ≤ q) : wholeB q = true := decide_eq_true h
theorem wholeB_no {q : Int} (h : ¬ 0 ≤ q) : wholeB q = false := decide_eq_false h
theorem turn_nil (w : World) : Calls Try.prog 44 #[.slice none 0 0] w fun e w' => ∃ v, e = .returned v ∧ Kd.R (Kd.int .u8) 5 w' w.heap.size (fun _ => True) v [] ∧ Below w.heap.size w w' := by
  have hC : Kd.C (Kd.int .u8) w none 0 [] := ⟨rfl, by decide, fun h => absurd h (Nat.lt_irrefl 0)⟩
  exact turn_at none 0 [] w hC (Nat.le_refl _) (by decide)
section
variable {w : World} {g base b : Nat} {least : Int} {near : List Int} {P : List Txt} {wd : Txt → Int}
theorem end_at (hK : BackIs w g (.pointer (some ⟨b, 0, none⟩)) least near) (hG : Good P) (h : TreeAt w base b P wd) (hl : P.length ≤ 4611686018427387904) (i : Nat) (s : Txt) (hi : P[i]? = some s) (hsl : s.length ≤ 1099511627776) :
    Calls Try.prog 39 #[.pointer (some ⟨g, 0, none⟩), .int .i64 i] w fun e w' => ∃ v, e = .returned v ∧ Kd.R (Kd.int .u8) 5 w' w.heap.size (fun _ => True) v s.reverse ∧ Below w.heap.size w w' := by
  have x1 := hK.tr
  have PT := Aside0.mk (path_at hG h hl i s hi hsl)
  clear hK hG h hi
  go_enter Try.func39, Try.ntmps39
  go_wp2_with (first
    | (go_at_call 25; (refine PT.out.mono ?_); rintro e w1 ⟨v, rfl, ho, hb⟩; obtain ⟨A1, c1, rfl, hc1, hC1⟩ := Kd.R_reads ho; have HB1 := Aside0.mk hb; have TA := Aside0.mk (turn_at A1 c1 s w1 hC1 hc1 (by omega)); clear ho hb hc1 hC1)
    | (go_at_call 44; (with_reducible refine TA.out.mono ?_); rintro e w2 ⟨v, rfl, ho, hb⟩; have HO := Aside0.mk (Kd.R_lower ho (below_size HB1.out)); have HB2 := Aside0.mk (below_step HB1.out hb); clear ho hb))
  go_ret
  exact ⟨_, rfl, HO.out, HB2.out⟩
theorem end_no (hK : BackIs w g (.pointer (some ⟨b, 0, none⟩)) least near) (h : TreeAt w base b P wd) (n : Int) (h0 : n < 0 ∨ (P.length : Int) ≤ n) :
    Calls Try.prog 39 #[.pointer (some ⟨g, 0, none⟩), .int .i64 n] w fun e w' => ∃ A c, e = .returned (.slice A 0 c) ∧ Below w.heap.size w w' := by
  have x1 := hK.tr
  have PT := Aside0.mk (path_no h n h0)
  clear hK h h0
  go_enter Try.func39, Try.ntmps39
  go_wp2_with (first
    | (go_at_call 25; (refine PT.out.mono ?_); rintro e w1 ⟨rfl, hb⟩; have HB1 := Aside0.mk hb; clear hb)
    | (go_at_call 44; (with_reducible refine (turn_nil _).mono ?_); rintro e w2 ⟨v, rfl, ho, hb⟩; obtain ⟨A2, c2, rfl, _, _⟩ := Kd.R_reads ho; have HB2 := Aside0.mk (below_step HB1.out hb); clear ho hb))
  go_ret
  exact ⟨_, _, rfl, HB2.out⟩
theorem whole_at (hK : BackIs w g (.pointer (some ⟨b, 0, none⟩)) least near) (h : TreeAt w base b P wd) (i : Nat) (s : Txt) (hi : P[i]? = some s) :
    Calls Try.prog 41 #[.pointer (some ⟨g, 0, none⟩), .int .i64 i] w fun e w' => e = .returned (.bool (wholeB (wd s))) ∧ w' = w := by
  have x1 := hK.tr
  have WD := Aside0.mk (word_at h i s hi)
  clear hK h hi
  by_cases c : 0 ≤ wd s
  · rw [wholeB_yes c]
    obtain ⟨q, hq⟩ : ∃ q, wd s = q := ⟨_, rfl⟩
    rw [hq] at WD c
    clear hq
    have d1 : decide (q ≥ 0) = true := decide_eq_true c
    go_enter Try.func41, Try.ntmps41
    go_wp2_with (go_at_call 28; (refine WD.out.mono ?_); rintro e w1 ⟨rfl, hw⟩; subst hw)
    go_ret
    exact ⟨rfl, rfl⟩
  · rw [wholeB_no c]
    obtain ⟨q, hq⟩ : ∃ q, wd s = q := ⟨_, rfl⟩
    rw [hq] at WD c
    clear hq
    have d1 : decide (q ≥ 0) = false := decide_eq_false c
    go_enter Try.func41, Try.ntmps41
    go_wp2_with (go_at_call 28; (refine WD.out.mono ?_); rintro e w1 ⟨rfl, hw⟩; subst hw)
    go_ret
    exact ⟨rfl, rfl⟩
theorem whole_no (hK : BackIs w g (.pointer (some ⟨b, 0, none⟩)) least near) (h : TreeAt w base b P wd) (n : Int) (h0 : n < 0 ∨ (P.length : Int) ≤ n) :
    Calls Try.prog 41 #[.pointer (some ⟨g, 0, none⟩), .int .i64 n] w fun e w' => e = .returned (.bool false) ∧ w' = w := by
  have x1 := hK.tr
  have WD := Aside0.mk (word_no h n h0)
  clear hK h h0
  go_enter Try.func41, Try.ntmps41
  go_wp2_with (go_at_call 28; (refine WD.out.mono ?_); rintro e w1 ⟨rfl, hw⟩; subst hw)
  go_ret
  exact ⟨rfl, rfl⟩
theorem whole_nil (n : Int) (w : World) : Calls Try.prog 41 #[.pointer none, .int .i64 n] w fun e w' => e = .returned (.bool false) ∧ w' = w := by
  go_enter Try.func41, Try.ntmps41
  go_wp2
  go_ret
  exact ⟨rfl, rfl⟩
theorem end_nil (n : Int) (w : World) : Calls Try.prog 39 #[.pointer none, .int .i64 n] w fun e w' => e = .returned (.slice none 0 0) ∧ w' = w := by
  go_enter Try.func39, Try.ntmps39
  go_wp2
  go_ret
  exact ⟨rfl, rfl⟩
theorem near_nil (c : Int) (w : World) : Calls Try.prog 42 #[.pointer none, .int .u8 c] w fun e w' => e = .returned (.int .i64 0) ∧ w' = w := by
  go_enter Try.func42, Try.ntmps42
  go_wp2
  go_ret
  exact ⟨rfl, rfl⟩
end
end Go.Proofs.Ytifbcboefopioaa.Tri
