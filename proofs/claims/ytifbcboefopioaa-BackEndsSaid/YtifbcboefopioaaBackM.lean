/- By hand: a tree from the ends in memory, and its small methods. No condition. -/
import Derived.Test.YtifbcboefopioaaBackT
set_option linter.unusedVariables false
namespace Go.Proofs.Ytifbcboefopioaa.Tri
open Go.RowKit Go.Maps Go.Proofs.YtifbcboefopioaaW.PrintWords Go.Proofs.YtifbcboefopioaaW.PrintLast Go.Proofs.YtifbcboefopioaaW.PrintMore Go.Proofs.Ytifbcboefopioaa.Kit Go.Proofs.Ytifbcboefopioaa.All
attribute [local go_sem] max2_int min2_int max_two min_two max_three min_three max_four min_four

/-- A tree from the ends: its tree, the least length, the nearest place of each byte. -/
def bArr (tp : Value) (least : Int) (near : List Int) : Array Value := (tp :: .int .i64 least :: nums .i64 near).toArray
def BackIs (w : World) (g : Nat) (tp : Value) (least : Int) (near : List Int) : Prop := near.length = 256 ∧ w.heap[g]? = some (.cells (bArr tp least near) 47 (0, 0))
section
variable {w : World} {g : Nat} {tp : Value} {least : Int} {near : List Int}
theorem BackIs.below {w1 : World} (h : BackIs w g tp least near) (hb : Below w.heap.size w w1) : BackIs w1 g tp least near := ⟨h.1, blk_below h.2 hb⟩
theorem stays_back (g : Nat) (tp : Value) (least : Int) (near : List Int) : Stays (fun w => BackIs w g tp least near) := fun w w' h hb => h.below hb
theorem BackIs.tr (h : BackIs w g tp least near) : w.cell? ⟨g, 0, none⟩ = some tp := by rw [blk_cell h.2]; rfl
theorem BackIs.lst (h : BackIs w g tp least near) : w.cell? ⟨g, 1, none⟩ = some (.int .i64 least) := by rw [blk_cell h.2]; rfl
theorem BackIs.nr (h : BackIs w g tp least near) (c : Nat) (hc : c < 256) : w.cell? ⟨g, 2 + c, none⟩ = some (.int .i64 (rd near (c : Int))) := by
  rw [blk_cell h.2, bArr]
  have : c < near.length := by rw [h.1]; exact hc
  rw [List.getElem?_toArray, show 2 + c = c + 1 + 1 by omega, List.getElem?_cons_succ, List.getElem?_cons_succ]
  simp [nums, rd, List.getD_eq_getElem?_getD, this]
theorem least_at (h : BackIs w g tp least near) : Calls Try.prog 37 #[.pointer (some ⟨g, 0, none⟩)] w fun e w' => e = .returned (.int .i64 least) ∧ w' = w := by
  have h1 := h.lst
  go_enter Try.func37, Try.ntmps37
  go_wp2
  go_ret
  exact ⟨rfl, rfl⟩
theorem least_nil (w : World) : Calls Try.prog 37 #[.pointer none] w fun e w' => e = .returned (.int .i64 0) ∧ w' = w := by
  go_enter Try.func37, Try.ntmps37
  go_wp2
  go_ret
  exact ⟨rfl, rfl⟩
theorem near_at (h : BackIs w g tp least near) (c : Nat) (hc : c < 256) : Calls Try.prog 42 #[.pointer (some ⟨g, 0, none⟩), .int .u8 c] w fun e w' => e = .returned (.int .i64 (rd near (c : Int))) ∧ w' = w := by
  have h1 := h.nr c hc
  have c0 : (0 : Int) ≤ (c : Int) := by omega
  have c1 : (c : Int) < 256 := by omega
  go_enter Try.func42, Try.ntmps42
  go_wp2
  go_ret
  exact ⟨rfl, rfl⟩
theorem closer_at (old n : Int) (w : World) : Calls Try.prog 59 #[.int .i64 old, .int .i64 n] w fun e w' => e = .returned (.int .i64 (if old = 0 then n else min old n)) ∧ w' = w := by
  by_cases h : old = 0
  · subst h
    go_enter Try.func59, Try.ntmps59
    go_wp2
    go_ret
    exact ⟨by simp, rfl⟩
  · rw [if_neg h, Int.min_def]
    have h2 : (old == 0) = false := beq_eq_false_iff_ne.2 h
    go_enter Try.func59, Try.ntmps59
    go_wp2
    all_goals go_ret
    all_goals refine ⟨?_, rfl⟩
    all_goals first | rfl | (rw [if_pos (by omega)]) | (rw [if_neg (by omega)]) | (simp; omega)
end
end Go.Proofs.Ytifbcboefopioaa.Tri
