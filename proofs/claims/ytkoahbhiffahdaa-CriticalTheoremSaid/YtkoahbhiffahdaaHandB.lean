/- By hand: the contract of critical.Factor (a method value held in a variable; a struct's field written). No condition. -/
import Derived.Test.YtkoahbhiffahdaaAllx8
import Derived.Test.YtkoahbhiffahdaaAllx1
import Derived.Laws.EntriesVeiled
set_option linter.unusedVariables false
set_option linter.unusedSimpArgs false
namespace Go.Proofs.Ytkoahbhiffahdaa.All
open Go.RowKit Go.Proofs.YtkoahbhiffahdaaW.PrintWords Go.Proofs.YtkoahbhiffahdaaW.PrintLast Go.Proofs.YtkoahbhiffahdaaW.PrintMore
attribute [local go_sem] max2_int min2_int max_two min_two max_three min_three max_four min_four
attribute [local go_sem high] eqA25

def critical_Factor.f (l0 : List Int) : Option (Int × Int × Bool) := (critical_cut.f l0).bind fun bt233 => (if (bt233.1 == 0 && (bt233.2.1 == 0 && (!bt233.2.2))) = true then (some (bt233.1, bt233.2.1, bt233.2.2)) else ((critical_text_alike.f l0 0 bt233.2.1 bt233.1).bind fun t237 => (if t237 = true then (some (bt233.1, bt233.2.1, t237)) else (some (bt233.1, wrap64 ((mx bt233.1 (wrap64 ((l0.length : Int) - bt233.1))) + 1), t237)))))
theorem fac_cells {w w1 : World} (hb : Below (w.alloc (.cells #[.int .i64 0, .int .i64 0, .bool false] 25)).heap.size (w.alloc (.cells #[.int .i64 0, .int .i64 0, .bool false] 25)) w1) :
    w1.cell? ⟨w.heap.size, 0, none⟩ = some (.int .i64 0) ∧ w1.cell? ⟨w.heap.size, 1, none⟩ = some (.int .i64 0) ∧ w1.cell? ⟨w.heap.size, 2, none⟩ = some (.bool false) ∧ (∀ j, w1.frozen? ⟨w.heap.size, j, none⟩ = false) ∧ w.heap.size < w1.heap.size ∧ w1.heap[w.heap.size]? = some (.cells #[.int .i64 0, .int .i64 0, .bool false] 25 (0, 0)) ∧ Below w.heap.size w w1 := by
  have h := fun j => hb.cell (p := ⟨w.heap.size, j, none⟩) (by simp)
  have f := fun j => hb.frozen (p := ⟨w.heap.size, j, none⟩) (by simp)
  have hs := hb.size
  refine ⟨(h 0).trans (by simp [go_sem]), (h 1).trans (by simp [go_sem]), (h 2).trans (by simp [go_sem]), fun j => (f j).trans (by simp [go_sem]), ?_, (hb.block _ (by simp)).trans (blk_new w _), below_step (below_alloc (Below.refl _ _) _) hb⟩
  simp at hs
  omega
set_option maxHeartbeats 8000000 in
set_option maxRecDepth 100000 in
theorem critical_Factor.calls (A0 : Option Addr) (c0 : Nat) (l0 : List Int) (r1 : Int) (r2 : Int) (r3 : Bool) (w : World) (hr0 : Kd.C (Kd.int .u8) w A0 l0.length l0) (hc0 : l0.length ≤ c0) (h : critical_Factor.f l0 = some (r1, r2, r3)) :
    Calls Try.prog 15 #[.slice A0 l0.length c0] w fun e w' => e = .returned (.agg #[.int .i64 r1, .int .i64 r2, .bool r3]) ∧ Below w.heap.size w w' := by
  have hu25 := Try.underlying25
  have HR0 := Aside0.mk hr0
  have HC0 := Aside0.mk hc0
  clear hr0 hc0
  obtain ⟨⟨a, p, s⟩, hcut, H⟩ := Option.bind_eq_some_iff.mp h
  clear h
  have HCUT := Aside0.mk hcut
  clear hcut
  replace H : (if (a == 0 && (p == 0 && !s)) = true then some (a, p, s) else ((critical_text_alike.f l0 0 p a).bind fun t237 => (if t237 = true then some (a, p, t237) else some (a, wrap64 ((mx a (wrap64 ((l0.length : Int) - a))) + 1), t237)))) = some (r1, r2, r3) := H
  by_cases hz : (a == 0 && (p == 0 && !s)) = true
  · rw [if_pos hz] at H
    simp only [Option.some.injEq, Prod.mk.injEq] at H
    obtain ⟨rfl, rfl, rfl⟩ := H
    go_enter Try.func15, Try.ntmps15
    go_wp2_with (go_at_call 29; (refine (critical_cut.calls _ _ l0 a p s _ ?side1 ?side2 HCUT.out).mono ?_); (case side1 => exact Kd.C_alloc HR0.out _); (case side2 => exact HC0.out); rintro e w1 ⟨rfl, hb⟩; have HB := Aside0.mk hb; obtain ⟨k0, k1, k2, kf, kz, kb, kw⟩ := fac_cells hb; have KB := Aside0.mk kb; have KW := Aside0.mk kw; have KZ := Aside0.mk kz; clear kb kw; have kf0 := kf 0; have kf1 := kf 1; have kf2 := kf 2; have kne : ¬ w.heap.size = w1.heap.size := Nat.ne_of_lt kz; have kne2 : ¬ w1.heap.size = w.heap.size := fun h_ => kne h_.symm; clear hb kf)
    refine bodyPost_ret (results_cell_row rfl _ _ w.heap.size 25 #[.int .i64 a, .int .i64 p, .bool s] (0, 0) _ rfl (blk_alloc (blk_put (cs := #[.int .i64 a, .int .i64 p, .bool false]) (blk_put (cs := #[.int .i64 a, .int .i64 0, .bool false]) (blk_put (cs := #[.int .i64 0, .int .i64 0, .bool false]) KB.out 0 _ rfl) 1 _ rfl) 2 _ rfl) _) Try.underlying25 rfl (by kernel_rfl)) rfl ⟨rfl, ?_⟩
    exact below_alloc (below_set (below_set (below_set KW.out (Nat.le_refl _)) (Nat.le_refl _)) (Nat.le_refl _)) _
  · rw [if_neg hz] at H
    have hz1 : (a == 0 && (p == 0 && !s)) = false := by simpa using hz
    clear hz
    obtain ⟨t, halike, H⟩ := Option.bind_eq_some_iff.mp H
    have HAL := Aside0.mk halike
    clear halike
    cases t with
    | true =>
      rw [if_pos rfl] at H
      simp only [Option.some.injEq, Prod.mk.injEq] at H
      obtain ⟨rfl, rfl, rfl⟩ := H
      go_enter Try.func15, Try.ntmps15
      go_wp2_with (first | (go_at_call 29; (refine (critical_cut.calls _ _ l0 a p s _ ?side1 ?side2 HCUT.out).mono ?_); (case side1 => exact Kd.C_alloc HR0.out _); (case side2 => exact HC0.out); rintro e w1 ⟨rfl, hb⟩; have HB := Aside0.mk hb; obtain ⟨k0, k1, k2, kf, kz, kb, kw⟩ := fac_cells hb; have KB := Aside0.mk kb; have KW := Aside0.mk kw; have KZ := Aside0.mk kz; clear kb kw; have kf0 := kf 0; have kf1 := kf 1; have kf2 := kf 2; have kne : ¬ w.heap.size = w1.heap.size := Nat.ne_of_lt kz; have kne2 : ¬ w1.heap.size = w.heap.size := fun h_ => kne h_.symm; clear hb kf) | (go_at_call 30; (refine (critical_text_alike.calls _ _ l0 0 p a true _ ?side1 ?side2 HAL.out).mono ?_); (case side1 => exact Kd.C_alloc (Kd.C_below (Kd.C_alloc HR0.out _) HB.out) _); (case side2 => exact HC0.out); rintro e w' ⟨rfl, ⟨nd, rfl⟩⟩))
      refine bodyPost_ret (results_cell_row rfl _ _ w.heap.size 25 #[.int .i64 a, .int .i64 p, .bool true] (0, 0) _ rfl (blk_put (cs := #[.int .i64 a, .int .i64 p, .bool false]) (blk_put (cs := #[.int .i64 a, .int .i64 0, .bool false]) (blk_put (cs := #[.int .i64 0, .int .i64 0, .bool false]) (blk_far (blk_drewN (blk_alloc KB.out _) _) (Nat.ne_of_lt KZ.out) _) 0 _ rfl) 1 _ rfl) 2 _ rfl) Try.underlying25 rfl (by kernel_rfl)) rfl ⟨rfl, ?_⟩
      exact below_set (below_set (below_set (below_set (pw_below_drewN (below_alloc KW.out _) _) (Nat.le_of_lt KZ.out)) (Nat.le_refl _)) (Nat.le_refl _)) (Nat.le_refl _)
    | false =>
      rw [if_neg (by simp)] at H
      simp only [Option.some.injEq, Prod.mk.injEq] at H
      obtain ⟨rfl, rfl, rfl⟩ := H
      obtain ⟨y, hy⟩ : ∃ y, y = wrap64 ((mx a (wrap64 ((l0.length : Int) - a))) + 1) := ⟨_, rfl⟩
      have hy' : wrap64 ((if a < wrap64 ((l0.length : Int) - a) then wrap64 ((l0.length : Int) - a) else a) + 1) = y := hy.symm
      rw [← hy]
      clear hy
      go_enter Try.func15, Try.ntmps15
      go_wp2_with (first | (go_at_call 29; (refine (critical_cut.calls _ _ l0 a p s _ ?side1 ?side2 HCUT.out).mono ?_); (case side1 => exact Kd.C_alloc HR0.out _); (case side2 => exact HC0.out); rintro e w1 ⟨rfl, hb⟩; have HB := Aside0.mk hb; obtain ⟨k0, k1, k2, kf, kz, kb, kw⟩ := fac_cells hb; have KB := Aside0.mk kb; have KW := Aside0.mk kw; have KZ := Aside0.mk kz; clear kb kw; have kf0 := kf 0; have kf1 := kf 1; have kf2 := kf 2; have kne : ¬ w.heap.size = w1.heap.size := Nat.ne_of_lt kz; have kne2 : ¬ w1.heap.size = w.heap.size := fun h_ => kne h_.symm; clear hb kf) | (go_at_call 30; (refine (critical_text_alike.calls _ _ l0 0 p a false _ ?side1 ?side2 HAL.out).mono ?_); (case side1 => exact Kd.C_alloc (Kd.C_below (Kd.C_alloc HR0.out _) HB.out) _); (case side2 => exact HC0.out); rintro e w' ⟨rfl, ⟨nd, rfl⟩⟩))
      all_goals
        refine bodyPost_ret (results_cell_row rfl _ _ w.heap.size 25 #[.int .i64 a, .int .i64 y, .bool false] (0, 0) _ rfl (blk_put (cs := #[.int .i64 a, .int .i64 y, .bool false]) (blk_put (cs := #[.int .i64 a, .int .i64 0, .bool false]) (blk_put (cs := #[.int .i64 0, .int .i64 0, .bool false]) (blk_far (blk_far (blk_drewN (blk_alloc KB.out _) _) (Nat.ne_of_lt KZ.out) _) (Nat.ne_of_lt KZ.out) _) 0 _ rfl) 1 _ rfl) 2 _ rfl) Try.underlying25 rfl (by kernel_rfl)) rfl ⟨rfl, ?_⟩
        exact below_set (below_set (below_set (below_set (below_set (pw_below_drewN (below_alloc KW.out _) _) (Nat.le_of_lt KZ.out)) (Nat.le_of_lt KZ.out)) (Nat.le_refl _)) (Nat.le_refl _)) (Nat.le_refl _)
end Go.Proofs.Ytkoahbhiffahdaa.All
