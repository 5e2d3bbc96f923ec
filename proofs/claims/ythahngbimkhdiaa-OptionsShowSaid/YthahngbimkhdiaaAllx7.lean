-- printed by px.py, a program of this session's over the kit's print. Not trusted: Lean checks it.
import Derived.Test.YthahngbimkhdiaaAllx0
import Derived.Test.YthahngbimkhdiaaAllx2
import Derived.Test.YthahngbimkhdiaaAllx3
import Derived.Test.YthahngbimkhdiaaAllx5
import Derived.Test.YthahngbimkhdiaaAllx6
import Derived.Test.YthahngbimkhdiaaHandS
import Derived.Test.YthahngbimkhdiaaHandT
namespace Go.Proofs.Ythahngbimkhdiaa.All
open Go.RowKit Go.Proofs.YthahngbimkhdiaaW.PrintWords Go.Proofs.YthahngbimkhdiaaW.PrintLast Go.Proofs.YthahngbimkhdiaaW.PrintMore
attribute [local go_sem] max2_int min2_int max_two min_two max_three min_three max_four min_four   -- for this text's walks alone
set_option linter.unusedVariables false
set_option linter.unusedSimpArgs false

/-! ### seinelaw21_OptionsShow: function 4 -/
def seinelaw21_OptionsShow.j0 : Nat → List Bool → Bool → Bool → Bool → Bool → Bool → Bool → Bool → Bool → Option (Bool)
  | 0, _, _, _, _, _, _, _, _, _ => none
  | k + 1, x4, x5, x162000, x162001, x162002, x162003, x162004, x162005, x162006 => (options_Show.f x162000 x162001 x162002 x162003 x162004 x162005 x162006).bind fun t175 => ((seineref21_Show.f x4).bind fun t176 => (if t175.toList = t176.toList then ((options_Bits.f k x162000 x162001 x162002 x162003 x162004 x162005 x162006).bind fun t177 => ((seineref21_Bits.f k x4).bind fun t178 => (if (wrap64 (t177)) = t178 then ((options_Check.f x162000 x162001 x162002 x162003 x162004 x162005 x162006).bind fun t179 => (if ((t179 == 10) == x5) = true then ((options_Check.f x162000 x162001 x162002 x162003 x162004 x162005 x162006).bind fun t180 => (some ((t180 == 0) == (!x5)))) else (some false))) else (some false)))) else (some false)))
def seinelaw21_OptionsShow.f (k : Nat) (a0_0 : Bool) (a0_1 : Bool) (a0_2 : Bool) (a0_3 : Bool) (a0_4 : Bool) (a0_5 : Bool) (a0_6 : Bool) : Option (Bool) := (seinelaw21_awake.f k).bind fun t162 => (if t162 = true then ((seinelaw21_list.f a0_0 a0_1 a0_2 a0_3 a0_4 a0_5 a0_6).bind fun t163 => (if 3 < (t163.length : Int) then (if rdOf false t163 3 = true then (if 5 < (t163.length : Int) then (if rdOf false t163 5 = true then (seinelaw21_OptionsShow.j0 k t163 true a0_0 a0_1 a0_2 a0_3 a0_4 a0_5 a0_6) else (if 6 < (t163.length : Int) then (if rdOf false t163 6 = true then (seinelaw21_OptionsShow.j0 k t163 true a0_0 a0_1 a0_2 a0_3 a0_4 a0_5 a0_6) else (if 4 < (t163.length : Int) then (if rdOf false t163 4 = true then (seinelaw21_OptionsShow.j0 k t163 (rdOf false t163 6) a0_0 a0_1 a0_2 a0_3 a0_4 a0_5 a0_6) else (seinelaw21_OptionsShow.j0 k t163 false a0_0 a0_1 a0_2 a0_3 a0_4 a0_5 a0_6)) else (none))) else (none))) else (none)) else (if 4 < (t163.length : Int) then (if rdOf false t163 4 = true then (if 6 < (t163.length : Int) then (seinelaw21_OptionsShow.j0 k t163 (rdOf false t163 6) a0_0 a0_1 a0_2 a0_3 a0_4 a0_5 a0_6) else (none)) else (seinelaw21_OptionsShow.j0 k t163 false a0_0 a0_1 a0_2 a0_3 a0_4 a0_5 a0_6)) else (none))) else (none))) else (some false))
theorem seinelaw21_OptionsShow.mono_l : ∀ k, (∀ y0 y1 y2 y3 y4 y5 y6 y7 y8, LeO (seinelaw21_OptionsShow.j0 k y0 y1 y2 y3 y4 y5 y6 y7 y8) (seinelaw21_OptionsShow.j0 (k + 1) y0 y1 y2 y3 y4 y5 y6 y7 y8))
  | 0 => fun _ _ _ _ _ _ _ _ _ r h => by simp [seinelaw21_OptionsShow.j0] at h
  | k + 1 => by
    have ih0 := seinelaw21_OptionsShow.mono_l k
    · intro y0 y1 y2 y3 y4 y5 y6 y7 y8
      unfold seinelaw21_OptionsShow.j0
      repeat' first
      | (with_reducible exact ih0 _ _ _ _ _ _ _ _ _)
      | (with_reducible exact options_Bits.mono _ _ _ _ _ _ _ _)
      | (with_reducible exact seinelaw21_awake.mono _)
      | (with_reducible exact seineref21_Bits.mono _ _)
      | (with_reducible exact LeO.refl _)
      | (with_reducible exact LeO.none _)
      | (with_reducible refine LeO.ite ?_ ?_)
      | (with_reducible refine LeO.bind ?_ (fun _ => ?_))
      | exact ih0 _ _ _ _ _ _ _ _ _
      | exact options_Bits.mono _ _ _ _ _ _ _ _
      | exact seinelaw21_awake.mono _
      | exact seineref21_Bits.mono _ _
      | exact LeO.none _
      | refine LeO.ite ?_ ?_
      | refine LeO.bind ?_ (fun _ => ?_)
theorem seinelaw21_OptionsShow.mono : ∀ a0 a1 a2 a3 a4 a5 a6 k, LeO (seinelaw21_OptionsShow.f k a0 a1 a2 a3 a4 a5 a6) (seinelaw21_OptionsShow.f (k + 1) a0 a1 a2 a3 a4 a5 a6) := by
  intro a0 a1 a2 a3 a4 a5 a6 k
  have ih0 := seinelaw21_OptionsShow.mono_l k
  unfold seinelaw21_OptionsShow.f
  repeat' first
      | (with_reducible exact ih0 _ _ _ _ _ _ _ _ _)
      | (with_reducible exact options_Bits.mono _ _ _ _ _ _ _ _)
      | (with_reducible exact seinelaw21_awake.mono _)
      | (with_reducible exact seineref21_Bits.mono _ _)
      | (with_reducible exact LeO.refl _)
      | (with_reducible exact LeO.none _)
      | (with_reducible refine LeO.ite ?_ ?_)
      | (with_reducible refine LeO.bind ?_ (fun _ => ?_))
      | exact ih0 _ _ _ _ _ _ _ _ _
      | exact options_Bits.mono _ _ _ _ _ _ _ _
      | exact seinelaw21_awake.mono _
      | exact seineref21_Bits.mono _ _
      | exact LeO.none _
      | refine LeO.ite ?_ ?_
      | refine LeO.bind ?_ (fun _ => ?_)
set_option maxHeartbeats 8000000 in
set_option maxRecDepth 100000 in
theorem seinelaw21_OptionsShow.calls (k : Nat) (a0_0 : Bool) (a0_1 : Bool) (a0_2 : Bool) (a0_3 : Bool) (a0_4 : Bool) (a0_5 : Bool) (a0_6 : Bool) (r : Bool) (w : World) (h : seinelaw21_OptionsShow.f k a0_0 a0_1 a0_2 a0_3 a0_4 a0_5 a0_6 = some r) :
    Calls Try.prog 4 #[.agg #[.bool a0_0, .bool a0_1, .bool a0_2, .bool a0_3, .bool a0_4, .bool a0_5, .bool a0_6]] w fun e w' => e = .returned (.bool r) ∧ Below w.heap.size w w' := by
  have hu24 := Try.underlying24
  have HB := Aside0.mk (Below.refl w.heap.size w)
  have H : ((seinelaw21_awake.f k).bind fun t162 => (if t162 = true then ((seinelaw21_list.f a0_0 a0_1 a0_2 a0_3 a0_4 a0_5 a0_6).bind fun t163 => (if 3 < (t163.length : Int) then (if rdOf false t163 3 = true then (if 5 < (t163.length : Int) then (if rdOf false t163 5 = true then (seinelaw21_OptionsShow.j0 k t163 true a0_0 a0_1 a0_2 a0_3 a0_4 a0_5 a0_6) else (if 6 < (t163.length : Int) then (if rdOf false t163 6 = true then (seinelaw21_OptionsShow.j0 k t163 true a0_0 a0_1 a0_2 a0_3 a0_4 a0_5 a0_6) else (if 4 < (t163.length : Int) then (if rdOf false t163 4 = true then (seinelaw21_OptionsShow.j0 k t163 (rdOf false t163 6) a0_0 a0_1 a0_2 a0_3 a0_4 a0_5 a0_6) else (seinelaw21_OptionsShow.j0 k t163 false a0_0 a0_1 a0_2 a0_3 a0_4 a0_5 a0_6)) else (none))) else (none))) else (none)) else (if 4 < (t163.length : Int) then (if rdOf false t163 4 = true then (if 6 < (t163.length : Int) then (seinelaw21_OptionsShow.j0 k t163 (rdOf false t163 6) a0_0 a0_1 a0_2 a0_3 a0_4 a0_5 a0_6) else (none)) else (seinelaw21_OptionsShow.j0 k t163 false a0_0 a0_1 a0_2 a0_3 a0_4 a0_5 a0_6)) else (none))) else (none))) else (some false))) = some r := h
  clear h
  replace H := Option.bind_eq_some_iff.mp H
  obtain ⟨t162, A20, H⟩ := H
  replace H : (if t162 = true then ((seinelaw21_list.f a0_0 a0_1 a0_2 a0_3 a0_4 a0_5 a0_6).bind fun t163 => (if 3 < (t163.length : Int) then (if rdOf false t163 3 = true then (if 5 < (t163.length : Int) then (if rdOf false t163 5 = true then (seinelaw21_OptionsShow.j0 k t163 true a0_0 a0_1 a0_2 a0_3 a0_4 a0_5 a0_6) else (if 6 < (t163.length : Int) then (if rdOf false t163 6 = true then (seinelaw21_OptionsShow.j0 k t163 true a0_0 a0_1 a0_2 a0_3 a0_4 a0_5 a0_6) else (if 4 < (t163.length : Int) then (if rdOf false t163 4 = true then (seinelaw21_OptionsShow.j0 k t163 (rdOf false t163 6) a0_0 a0_1 a0_2 a0_3 a0_4 a0_5 a0_6) else (seinelaw21_OptionsShow.j0 k t163 false a0_0 a0_1 a0_2 a0_3 a0_4 a0_5 a0_6)) else (none))) else (none))) else (none)) else (if 4 < (t163.length : Int) then (if rdOf false t163 4 = true then (if 6 < (t163.length : Int) then (seinelaw21_OptionsShow.j0 k t163 (rdOf false t163 6) a0_0 a0_1 a0_2 a0_3 a0_4 a0_5 a0_6) else (none)) else (seinelaw21_OptionsShow.j0 k t163 false a0_0 a0_1 a0_2 a0_3 a0_4 a0_5 a0_6)) else (none))) else (none))) else (some false)) = some r := H
  have A2 := Aside0.mk A20
  clear A20
  by_cases c3 : t162 = true
  · subst c3
    have H1 : ((seinelaw21_list.f a0_0 a0_1 a0_2 a0_3 a0_4 a0_5 a0_6).bind fun t163 => (if 3 < (t163.length : Int) then (if rdOf false t163 3 = true then (if 5 < (t163.length : Int) then (if rdOf false t163 5 = true then (seinelaw21_OptionsShow.j0 k t163 true a0_0 a0_1 a0_2 a0_3 a0_4 a0_5 a0_6) else (if 6 < (t163.length : Int) then (if rdOf false t163 6 = true then (seinelaw21_OptionsShow.j0 k t163 true a0_0 a0_1 a0_2 a0_3 a0_4 a0_5 a0_6) else (if 4 < (t163.length : Int) then (if rdOf false t163 4 = true then (seinelaw21_OptionsShow.j0 k t163 (rdOf false t163 6) a0_0 a0_1 a0_2 a0_3 a0_4 a0_5 a0_6) else (seinelaw21_OptionsShow.j0 k t163 false a0_0 a0_1 a0_2 a0_3 a0_4 a0_5 a0_6)) else (none))) else (none))) else (none)) else (if 4 < (t163.length : Int) then (if rdOf false t163 4 = true then (if 6 < (t163.length : Int) then (seinelaw21_OptionsShow.j0 k t163 (rdOf false t163 6) a0_0 a0_1 a0_2 a0_3 a0_4 a0_5 a0_6) else (none)) else (seinelaw21_OptionsShow.j0 k t163 false a0_0 a0_1 a0_2 a0_3 a0_4 a0_5 a0_6)) else (none))) else (none))) = some r := by rw [if_pos rfl] at H; exact H
    clear H
    have H := H1
    clear H1
    replace H := Option.bind_eq_some_iff.mp H
    obtain ⟨t163, A40, H⟩ := H
    replace H : (if 3 < (t163.length : Int) then (if rdOf false t163 3 = true then (if 5 < (t163.length : Int) then (if rdOf false t163 5 = true then (seinelaw21_OptionsShow.j0 k t163 true a0_0 a0_1 a0_2 a0_3 a0_4 a0_5 a0_6) else (if 6 < (t163.length : Int) then (if rdOf false t163 6 = true then (seinelaw21_OptionsShow.j0 k t163 true a0_0 a0_1 a0_2 a0_3 a0_4 a0_5 a0_6) else (if 4 < (t163.length : Int) then (if rdOf false t163 4 = true then (seinelaw21_OptionsShow.j0 k t163 (rdOf false t163 6) a0_0 a0_1 a0_2 a0_3 a0_4 a0_5 a0_6) else (seinelaw21_OptionsShow.j0 k t163 false a0_0 a0_1 a0_2 a0_3 a0_4 a0_5 a0_6)) else (none))) else (none))) else (none)) else (if 4 < (t163.length : Int) then (if rdOf false t163 4 = true then (if 6 < (t163.length : Int) then (seinelaw21_OptionsShow.j0 k t163 (rdOf false t163 6) a0_0 a0_1 a0_2 a0_3 a0_4 a0_5 a0_6) else (none)) else (seinelaw21_OptionsShow.j0 k t163 false a0_0 a0_1 a0_2 a0_3 a0_4 a0_5 a0_6)) else (none))) else (none)) = some r := H
    have A4 := Aside0.mk A40
    clear A40
    have HC5 := Aside0.mk H
    clear H
    go_enter Try.func4, Try.ntmps4
    go_upto_region 5 with (first | ((with_reducible refine gate_dst (N := 1) rfl ?_); refine box_event ?hg (N := 1) ?hd (cs := #[.bool a0_0, .bool a0_1, .bool a0_2, .bool a0_3, .bool a0_4, .bool a0_5, .bool a0_6]) (t := 24) ?hr ?_; (case hd => rfl); (case hg => rfl); (case hr => first | (go_simp; done) | (go_simp; rfl)); intro gb161 hg w6 hbox hb; have n0_ := Aside0.mk (below_step (by repeat (first | (with_reducible first | exact HB.out | apply below_alloc | apply pw_below_drewN | apply below_drew1) | exact HB.out)) hb); have n1_ := Aside0.mk (hbox); have n2_ := Aside0.mk ((by rw [hg]; exact (below_size (by repeat (first | (with_reducible first | exact HB.out | apply below_alloc | apply pw_below_drewN | apply below_drew1) | exact HB.out))) : w.heap.size ≤ gb161)); have n3_ := Aside0.mk ((by rw [hg]; exact (below_size (by repeat (first | (with_reducible first | exact HB.out | apply below_alloc | apply pw_below_drewN | apply below_drew1) | exact HB.out))) : w.heap.size ≤ gb161)); clear HB; have HB := n0_; have BK161 := n1_; have GW161 := n2_; have GE161 := n3_; clear n0_ n1_ n2_ n3_; clear hb hbox hg) | ((with_reducible refine gate_callee (f := 8) rfl ?_); refine goesL_ (some 6) rfl rfl Try.func8 (by kernel_rfl) rfl #[] rfl (by (try simp only [List.map_toArray, List.map_cons, List.map_nil]); first | done | rfl | (simp only [List.length_drop, List.length_take]; rfl)) ?_; (with_reducible refine (seinelaw21_awake.calls k  true _ A2.out).mono ?_); rintro e w7 ⟨rfl, hb⟩; refine ⟨_, rfl, ?_⟩; have n0_ := Aside0.mk (blk_below (g := gb161) (o := .cells #[.bool a0_0, .bool a0_1, .bool a0_2, .bool a0_3, .bool a0_4, .bool a0_5, .bool a0_6] 24 (0, 0)) (by (with_reducible repeat (first | refine blk_drewN ?_ _ | refine blk_drew ?_ | refine blk_alloc ?_ _)); exact BK161.out) hb); have n1_ := Aside0.mk (below_step (by repeat (first | (with_reducible first | exact HB.out | apply below_alloc | apply pw_below_drewN | apply below_drew1 | refine below_set ?_ GE161.out) | exact HB.out)) hb); clear BK161; clear HB; have BK161 := n0_; have HB := n1_; clear n0_ n1_; (try clear hb); (try clear hb2); (try clear hk); (try clear hi); have hcz8_0 : w7.cell? ⟨gb161, 0, none⟩ = some (.bool a0_0) := (blk_cell BK161.out 0).trans rfl; have hcz8_1 : w7.cell? ⟨gb161, 1, none⟩ = some (.bool a0_1) := (blk_cell BK161.out 1).trans rfl; have hcz8_2 : w7.cell? ⟨gb161, 2, none⟩ = some (.bool a0_2) := (blk_cell BK161.out 2).trans rfl; have hcz8_3 : w7.cell? ⟨gb161, 3, none⟩ = some (.bool a0_3) := (blk_cell BK161.out 3).trans rfl; have hcz8_4 : w7.cell? ⟨gb161, 4, none⟩ = some (.bool a0_4) := (blk_cell BK161.out 4).trans rfl; have hcz8_5 : w7.cell? ⟨gb161, 5, none⟩ = some (.bool a0_5) := (blk_cell BK161.out 5).trans rfl; have hcz8_6 : w7.cell? ⟨gb161, 6, none⟩ = some (.bool a0_6) := (blk_cell BK161.out 6).trans rfl; have hfz8_0 := blk_frozen BK161.out 0; have hfz8_1 := blk_frozen BK161.out 1; have hfz8_2 := blk_frozen BK161.out 2; have hfz8_3 := blk_frozen BK161.out 3; have hfz8_4 := blk_frozen BK161.out 4; have hfz8_5 := blk_frozen BK161.out 5; have hfz8_6 := blk_frozen BK161.out 6) | ((with_reducible refine gate_callee (f := 11) rfl ?_); refine goesL_ (some 10) rfl rfl Try.func11 (by kernel_rfl) rfl #[.agg #[.bool a0_0, .bool a0_1, .bool a0_2, .bool a0_3, .bool a0_4, .bool a0_5, .bool a0_6]] rfl (by (try simp only [List.map_toArray, List.map_cons, List.map_nil]); first | done | rfl | (simp only [List.length_drop, List.length_take]; rfl)) ?_; (with_reducible refine (seinelaw21_list.calls a0_0 a0_1 a0_2 a0_3 a0_4 a0_5 a0_6 t163 _ A4.out).mono ?_); rintro e w9 ⟨v164, rfl, ho0, hb⟩; refine ⟨_, rfl, ?_⟩; have n0_ := Aside0.mk (Kd.R_lower ho0 (below_size (by repeat (first | (with_reducible first | exact HB.out | apply below_alloc | apply pw_below_drewN | apply below_drew1 | refine below_set ?_ GE161.out) | exact HB.out)))); have n1_ := Aside0.mk (blk_below (g := gb161) (o := .cells #[.bool a0_0, .bool a0_1, .bool a0_2, .bool a0_3, .bool a0_4, .bool a0_5, .bool a0_6] 24 (0, 0)) (by (with_reducible repeat (first | refine blk_drewN ?_ _ | refine blk_drew ?_ | refine blk_alloc ?_ _)); exact BK161.out) hb); have n2_ := Aside0.mk (below_step (by repeat (first | (with_reducible first | exact HB.out | apply below_alloc | apply pw_below_drewN | apply below_drew1 | refine below_set ?_ GE161.out) | exact HB.out)) hb); clear BK161; clear HB; have HO165 := n0_; have BK161 := n1_; have HB := n2_; clear n0_ n1_ n2_; (try clear hb); (try clear hb2); (try clear hk); (try clear hi); (try clear ho0)))
    (try simp only [Act.put, List.setIfInBounds_toArray, List.set_cons_zero, List.set_cons_succ])
    go_cut [5] (fun v5 wc => ∃ (kq : Nat) (x5_4 : Bool), v5 = .bool x5_4 ∧ Aside0 (seinelaw21_OptionsShow.j0 kq t163 x5_4 a0_0 a0_1 a0_2 a0_3 a0_4 a0_5 a0_6 = some r) ∧ Aside0 (kq ≤ k) ∧ Aside0 (Kd.R Kd.bool 4 wc w.heap.size (fun _ => True) v164 t163) ∧ Aside0 (wc.heap[gb161]? = some (.cells #[.bool a0_0, .bool a0_1, .bool a0_2, .bool a0_3, .bool a0_4, .bool a0_5, .bool a0_6] 24 (0, 0))) ∧ Aside0 (Below w.heap.size w wc))
    case first =>
      have H := HC5.out
      clear HC5
      by_cases c10 : 3 < (t163.length : Int)
      · rw [if_pos c10] at H
        have c10b0 : decide (3 < (t163.length : Int)) = true := decide_eq_true c10
        have c10b1 : decide (3 < t163.length) = true := decide_eq_true (by omega)
        clear c10
        (first | rw [c10b0] | (simp only [i64_w, i32_w]; rw [c10b0]) | skip)
        obtain ⟨bq11, hbq11⟩ : ∃ b_ : Bool, b_ = (rdOf false t163 3) := ⟨_, rfl⟩
        replace H : (if bq11 = true then (if 5 < (t163.length : Int) then (if rdOf false t163 5 = true then (seinelaw21_OptionsShow.j0 k t163 true a0_0 a0_1 a0_2 a0_3 a0_4 a0_5 a0_6) else (if 6 < (t163.length : Int) then (if rdOf false t163 6 = true then (seinelaw21_OptionsShow.j0 k t163 true a0_0 a0_1 a0_2 a0_3 a0_4 a0_5 a0_6) else (if 4 < (t163.length : Int) then (if rdOf false t163 4 = true then (seinelaw21_OptionsShow.j0 k t163 (rdOf false t163 6) a0_0 a0_1 a0_2 a0_3 a0_4 a0_5 a0_6) else (seinelaw21_OptionsShow.j0 k t163 false a0_0 a0_1 a0_2 a0_3 a0_4 a0_5 a0_6)) else (none))) else (none))) else (none)) else (if 4 < (t163.length : Int) then (if rdOf false t163 4 = true then (if 6 < (t163.length : Int) then (seinelaw21_OptionsShow.j0 k t163 (rdOf false t163 6) a0_0 a0_1 a0_2 a0_3 a0_4 a0_5 a0_6) else (none)) else (seinelaw21_OptionsShow.j0 k t163 false a0_0 a0_1 a0_2 a0_3 a0_4 a0_5 a0_6)) else (none))) = some r := by rw [← hbq11] at H; exact H
        have Nbq11 := Aside0.mk hbq11
        clear hbq11
        by_cases c12 : bq11 = true
        · subst c12
          have H1 : (if 5 < (t163.length : Int) then (if rdOf false t163 5 = true then (seinelaw21_OptionsShow.j0 k t163 true a0_0 a0_1 a0_2 a0_3 a0_4 a0_5 a0_6) else (if 6 < (t163.length : Int) then (if rdOf false t163 6 = true then (seinelaw21_OptionsShow.j0 k t163 true a0_0 a0_1 a0_2 a0_3 a0_4 a0_5 a0_6) else (if 4 < (t163.length : Int) then (if rdOf false t163 4 = true then (seinelaw21_OptionsShow.j0 k t163 (rdOf false t163 6) a0_0 a0_1 a0_2 a0_3 a0_4 a0_5 a0_6) else (seinelaw21_OptionsShow.j0 k t163 false a0_0 a0_1 a0_2 a0_3 a0_4 a0_5 a0_6)) else (none))) else (none))) else (none)) = some r := by rw [if_pos rfl] at H; exact H
          clear H
          have H := H1
          clear H1
          by_cases c13 : 5 < (t163.length : Int)
          · rw [if_pos c13] at H
            have c13b0 : decide (5 < (t163.length : Int)) = true := decide_eq_true c13
            have c13b1 : decide (5 < t163.length) = true := decide_eq_true (by omega)
            clear c13
            obtain ⟨bq14, hbq14⟩ : ∃ b_ : Bool, b_ = (rdOf false t163 5) := ⟨_, rfl⟩
            replace H : (if bq14 = true then (seinelaw21_OptionsShow.j0 k t163 true a0_0 a0_1 a0_2 a0_3 a0_4 a0_5 a0_6) else (if 6 < (t163.length : Int) then (if rdOf false t163 6 = true then (seinelaw21_OptionsShow.j0 k t163 true a0_0 a0_1 a0_2 a0_3 a0_4 a0_5 a0_6) else (if 4 < (t163.length : Int) then (if rdOf false t163 4 = true then (seinelaw21_OptionsShow.j0 k t163 (rdOf false t163 6) a0_0 a0_1 a0_2 a0_3 a0_4 a0_5 a0_6) else (seinelaw21_OptionsShow.j0 k t163 false a0_0 a0_1 a0_2 a0_3 a0_4 a0_5 a0_6)) else (none))) else (none))) = some r := by rw [← hbq14] at H; exact H
            have Nbq14 := Aside0.mk hbq14
            clear hbq14
            by_cases c15 : bq14 = true
            · subst c15
              have H1 : (seinelaw21_OptionsShow.j0 k t163 true a0_0 a0_1 a0_2 a0_3 a0_4 a0_5 a0_6) = some r := by rw [if_pos rfl] at H; exact H
              clear H
              have H := H1
              clear H1
              have H' := Aside0.mk H
              clear H
              obtain ⟨Ao16, co16, eo16⟩ := Kd.R_slice HO165.out
              subst eo16
              have p166 : 0 ≤ (3 : Int) := (by omega)
              have q166 : 3 < (t163.length : Int) := of_decide_eq_true (by first | (with_reducible assumption) | assumption)
              obtain ⟨ad166, e166, hx166_0⟩ := Kd.at_bool (Kd.R_reads' HO165.out).2.2 3 p166 q166
              (try rw [← Nbq11.out] at hx166_0)
              (try rw [← Nbq14.out] at hx166_0)
              cases e166
              (try simp only [show (3 : Int).toNat = 3 from rfl, Nat.reduceMul, Nat.reduceEqDiff, Go.Addr.add, ↓reduceIte] at hx166_0)
              have qi166 : (3 < t163.length) = True := eq_true (by omega)
              (try rw [show ((3 : Int)).toNat = 3 from rfl] at hx166_0)
              replace p166 := eq_true p166
              replace q166 := eq_true q166
              have p167 : 0 ≤ (5 : Int) := (by omega)
              have q167 : 5 < (t163.length : Int) := of_decide_eq_true (by first | (with_reducible assumption) | assumption)
              obtain ⟨ad167, e167, hx167_0⟩ := Kd.at_bool (Kd.R_reads' HO165.out).2.2 5 p167 q167
              (try rw [← Nbq11.out] at hx167_0)
              (try rw [← Nbq14.out] at hx167_0)
              obtain rfl : ad166 = ad167 := (by injection e167)
              (try simp only [show (5 : Int).toNat = 5 from rfl, Nat.reduceMul, Nat.reduceEqDiff, Go.Addr.add, ↓reduceIte] at hx167_0)
              have qi167 : (5 < t163.length) = True := eq_true (by omega)
              (try rw [show ((5 : Int)).toNat = 5 from rfl] at hx167_0)
              replace p167 := eq_true p167
              replace q167 := eq_true q167
              go_wp2
              go_meet
              case rel => exact ⟨_, (true), (by first | rfl | (simp; done) | (simp [*]; done)), H', ⟨by first | omega | exact Nat.le_refl _⟩, ⟨by (with_reducible repeat (first | apply Kd.R_alloc | apply Kd.R_drewN | apply Kd.R_drew)); exact HO165.out⟩, ⟨by (with_reducible repeat (first | refine blk_drewN ?_ _ | refine blk_drew ?_ | refine blk_alloc ?_ _)); exact BK161.out⟩, ⟨by repeat (first | (with_reducible first | exact HB.out | apply below_alloc | apply pw_below_drewN | apply below_drew1 | refine below_set ?_ GE161.out) | exact HB.out)⟩⟩
            · replace c15 := Bool.eq_false_iff.mpr c15
              subst c15
              have H1 : (if 6 < (t163.length : Int) then (if rdOf false t163 6 = true then (seinelaw21_OptionsShow.j0 k t163 true a0_0 a0_1 a0_2 a0_3 a0_4 a0_5 a0_6) else (if 4 < (t163.length : Int) then (if rdOf false t163 4 = true then (seinelaw21_OptionsShow.j0 k t163 (rdOf false t163 6) a0_0 a0_1 a0_2 a0_3 a0_4 a0_5 a0_6) else (seinelaw21_OptionsShow.j0 k t163 false a0_0 a0_1 a0_2 a0_3 a0_4 a0_5 a0_6)) else (none))) else (none)) = some r := by rw [if_neg (show ¬ (false = true) by decide)] at H; exact H
              clear H
              have H := H1
              clear H1
              by_cases c17 : 6 < (t163.length : Int)
              · rw [if_pos c17] at H
                have c17b0 : decide (6 < (t163.length : Int)) = true := decide_eq_true c17
                have c17b1 : decide (6 < t163.length) = true := decide_eq_true (by omega)
                clear c17
                obtain ⟨bq18, hbq18⟩ : ∃ b_ : Bool, b_ = (rdOf false t163 6) := ⟨_, rfl⟩
                replace H : (if bq18 = true then (seinelaw21_OptionsShow.j0 k t163 true a0_0 a0_1 a0_2 a0_3 a0_4 a0_5 a0_6) else (if 4 < (t163.length : Int) then (if rdOf false t163 4 = true then (seinelaw21_OptionsShow.j0 k t163 bq18 a0_0 a0_1 a0_2 a0_3 a0_4 a0_5 a0_6) else (seinelaw21_OptionsShow.j0 k t163 false a0_0 a0_1 a0_2 a0_3 a0_4 a0_5 a0_6)) else (none))) = some r := by rw [← hbq18] at H; exact H
                have Nbq18 := Aside0.mk hbq18
                clear hbq18
                by_cases c19 : bq18 = true
                · subst c19
                  have H1 : (seinelaw21_OptionsShow.j0 k t163 true a0_0 a0_1 a0_2 a0_3 a0_4 a0_5 a0_6) = some r := by rw [if_pos rfl] at H; exact H
                  clear H
                  have H := H1
                  clear H1
                  have H' := Aside0.mk H
                  clear H
                  obtain ⟨Ao20, co20, eo20⟩ := Kd.R_slice HO165.out
                  subst eo20
                  have p166 : 0 ≤ (3 : Int) := (by omega)
                  have q166 : 3 < (t163.length : Int) := of_decide_eq_true (by first | (with_reducible assumption) | assumption)
                  obtain ⟨ad166, e166, hx166_0⟩ := Kd.at_bool (Kd.R_reads' HO165.out).2.2 3 p166 q166
                  (try rw [← Nbq11.out] at hx166_0)
                  (try rw [← Nbq14.out] at hx166_0)
                  (try rw [← Nbq18.out] at hx166_0)
                  cases e166
                  (try simp only [show (3 : Int).toNat = 3 from rfl, Nat.reduceMul, Nat.reduceEqDiff, Go.Addr.add, ↓reduceIte] at hx166_0)
                  have qi166 : (3 < t163.length) = True := eq_true (by omega)
                  (try rw [show ((3 : Int)).toNat = 3 from rfl] at hx166_0)
                  replace p166 := eq_true p166
                  replace q166 := eq_true q166
                  have p167 : 0 ≤ (5 : Int) := (by omega)
                  have q167 : 5 < (t163.length : Int) := of_decide_eq_true (by first | (with_reducible assumption) | assumption)
                  obtain ⟨ad167, e167, hx167_0⟩ := Kd.at_bool (Kd.R_reads' HO165.out).2.2 5 p167 q167
                  (try rw [← Nbq11.out] at hx167_0)
                  (try rw [← Nbq14.out] at hx167_0)
                  (try rw [← Nbq18.out] at hx167_0)
                  obtain rfl : ad166 = ad167 := (by injection e167)
                  (try simp only [show (5 : Int).toNat = 5 from rfl, Nat.reduceMul, Nat.reduceEqDiff, Go.Addr.add, ↓reduceIte] at hx167_0)
                  have qi167 : (5 < t163.length) = True := eq_true (by omega)
                  (try rw [show ((5 : Int)).toNat = 5 from rfl] at hx167_0)
                  replace p167 := eq_true p167
                  replace q167 := eq_true q167
                  have p168 : 0 ≤ (3 : Int) := (by omega)
                  have q168 : 3 < (t163.length : Int) := of_decide_eq_true (by first | (with_reducible assumption) | assumption)
                  obtain ⟨ad168, e168, hx168_0⟩ := Kd.at_bool (Kd.R_reads' HO165.out).2.2 3 p168 q168
                  (try rw [← Nbq11.out] at hx168_0)
                  (try rw [← Nbq14.out] at hx168_0)
                  (try rw [← Nbq18.out] at hx168_0)
                  obtain rfl : ad166 = ad168 := (by injection e168)
                  (try simp only [show (3 : Int).toNat = 3 from rfl, Nat.reduceMul, Nat.reduceEqDiff, Go.Addr.add, ↓reduceIte] at hx168_0)
                  have qi168 : (3 < t163.length) = True := eq_true (by omega)
                  (try rw [show ((3 : Int)).toNat = 3 from rfl] at hx168_0)
                  replace p168 := eq_true p168
                  replace q168 := eq_true q168
                  have p169 : 0 ≤ (6 : Int) := (by omega)
                  have q169 : 6 < (t163.length : Int) := of_decide_eq_true (by first | (with_reducible assumption) | assumption)
                  obtain ⟨ad169, e169, hx169_0⟩ := Kd.at_bool (Kd.R_reads' HO165.out).2.2 6 p169 q169
                  (try rw [← Nbq11.out] at hx169_0)
                  (try rw [← Nbq14.out] at hx169_0)
                  (try rw [← Nbq18.out] at hx169_0)
                  obtain rfl : ad166 = ad169 := (by injection e169)
                  (try simp only [show (6 : Int).toNat = 6 from rfl, Nat.reduceMul, Nat.reduceEqDiff, Go.Addr.add, ↓reduceIte] at hx169_0)
                  have qi169 : (6 < t163.length) = True := eq_true (by omega)
                  (try rw [show ((6 : Int)).toNat = 6 from rfl] at hx169_0)
                  replace p169 := eq_true p169
                  replace q169 := eq_true q169
                  go_wp2
                  go_meet
                  case rel => exact ⟨_, (true), (by first | rfl | (simp; done) | (simp [*]; done)), H', ⟨by first | omega | exact Nat.le_refl _⟩, ⟨by (with_reducible repeat (first | apply Kd.R_alloc | apply Kd.R_drewN | apply Kd.R_drew)); exact HO165.out⟩, ⟨by (with_reducible repeat (first | refine blk_drewN ?_ _ | refine blk_drew ?_ | refine blk_alloc ?_ _)); exact BK161.out⟩, ⟨by repeat (first | (with_reducible first | exact HB.out | apply below_alloc | apply pw_below_drewN | apply below_drew1 | refine below_set ?_ GE161.out) | exact HB.out)⟩⟩
                · replace c19 := Bool.eq_false_iff.mpr c19
                  subst c19
                  have H1 : (if 4 < (t163.length : Int) then (if rdOf false t163 4 = true then (seinelaw21_OptionsShow.j0 k t163 false a0_0 a0_1 a0_2 a0_3 a0_4 a0_5 a0_6) else (seinelaw21_OptionsShow.j0 k t163 false a0_0 a0_1 a0_2 a0_3 a0_4 a0_5 a0_6)) else (none)) = some r := by rw [if_neg (show ¬ (false = true) by decide)] at H; exact H
                  clear H
                  have H := H1
                  clear H1
                  by_cases c21 : 4 < (t163.length : Int)
                  · rw [if_pos c21] at H
                    have c21b0 : decide (4 < (t163.length : Int)) = true := decide_eq_true c21
                    have c21b1 : decide (4 < t163.length) = true := decide_eq_true (by omega)
                    clear c21
                    obtain ⟨bq22, hbq22⟩ : ∃ b_ : Bool, b_ = (rdOf false t163 4) := ⟨_, rfl⟩
                    replace H : (if bq22 = true then (seinelaw21_OptionsShow.j0 k t163 false a0_0 a0_1 a0_2 a0_3 a0_4 a0_5 a0_6) else (seinelaw21_OptionsShow.j0 k t163 false a0_0 a0_1 a0_2 a0_3 a0_4 a0_5 a0_6)) = some r := by rw [← hbq22] at H; exact H
                    have Nbq22 := Aside0.mk hbq22
                    clear hbq22
                    by_cases c23 : bq22 = true
                    · subst c23
                      have H1 : (seinelaw21_OptionsShow.j0 k t163 false a0_0 a0_1 a0_2 a0_3 a0_4 a0_5 a0_6) = some r := by rw [if_pos rfl] at H; exact H
                      clear H
                      have H := H1
                      clear H1
                      have H' := Aside0.mk H
                      clear H
                      obtain ⟨Ao24, co24, eo24⟩ := Kd.R_slice HO165.out
                      subst eo24
                      have p166 : 0 ≤ (3 : Int) := (by omega)
                      have q166 : 3 < (t163.length : Int) := of_decide_eq_true (by first | (with_reducible assumption) | assumption)
                      obtain ⟨ad166, e166, hx166_0⟩ := Kd.at_bool (Kd.R_reads' HO165.out).2.2 3 p166 q166
                      (try rw [← Nbq11.out] at hx166_0)
                      (try rw [← Nbq14.out] at hx166_0)
                      (try rw [← Nbq18.out] at hx166_0)
                      (try rw [← Nbq22.out] at hx166_0)
                      cases e166
                      (try simp only [show (3 : Int).toNat = 3 from rfl, Nat.reduceMul, Nat.reduceEqDiff, Go.Addr.add, ↓reduceIte] at hx166_0)
                      have qi166 : (3 < t163.length) = True := eq_true (by omega)
                      (try rw [show ((3 : Int)).toNat = 3 from rfl] at hx166_0)
                      replace p166 := eq_true p166
                      replace q166 := eq_true q166
                      have p167 : 0 ≤ (5 : Int) := (by omega)
                      have q167 : 5 < (t163.length : Int) := of_decide_eq_true (by first | (with_reducible assumption) | assumption)
                      obtain ⟨ad167, e167, hx167_0⟩ := Kd.at_bool (Kd.R_reads' HO165.out).2.2 5 p167 q167
                      (try rw [← Nbq11.out] at hx167_0)
                      (try rw [← Nbq14.out] at hx167_0)
                      (try rw [← Nbq18.out] at hx167_0)
                      (try rw [← Nbq22.out] at hx167_0)
                      obtain rfl : ad166 = ad167 := (by injection e167)
                      (try simp only [show (5 : Int).toNat = 5 from rfl, Nat.reduceMul, Nat.reduceEqDiff, Go.Addr.add, ↓reduceIte] at hx167_0)
                      have qi167 : (5 < t163.length) = True := eq_true (by omega)
                      (try rw [show ((5 : Int)).toNat = 5 from rfl] at hx167_0)
                      replace p167 := eq_true p167
                      replace q167 := eq_true q167
                      have p168 : 0 ≤ (3 : Int) := (by omega)
                      have q168 : 3 < (t163.length : Int) := of_decide_eq_true (by first | (with_reducible assumption) | assumption)
                      obtain ⟨ad168, e168, hx168_0⟩ := Kd.at_bool (Kd.R_reads' HO165.out).2.2 3 p168 q168
                      (try rw [← Nbq11.out] at hx168_0)
                      (try rw [← Nbq14.out] at hx168_0)
                      (try rw [← Nbq18.out] at hx168_0)
                      (try rw [← Nbq22.out] at hx168_0)
                      obtain rfl : ad166 = ad168 := (by injection e168)
                      (try simp only [show (3 : Int).toNat = 3 from rfl, Nat.reduceMul, Nat.reduceEqDiff, Go.Addr.add, ↓reduceIte] at hx168_0)
                      have qi168 : (3 < t163.length) = True := eq_true (by omega)
                      (try rw [show ((3 : Int)).toNat = 3 from rfl] at hx168_0)
                      replace p168 := eq_true p168
                      replace q168 := eq_true q168
                      have p169 : 0 ≤ (6 : Int) := (by omega)
                      have q169 : 6 < (t163.length : Int) := of_decide_eq_true (by first | (with_reducible assumption) | assumption)
                      obtain ⟨ad169, e169, hx169_0⟩ := Kd.at_bool (Kd.R_reads' HO165.out).2.2 6 p169 q169
                      (try rw [← Nbq11.out] at hx169_0)
                      (try rw [← Nbq14.out] at hx169_0)
                      (try rw [← Nbq18.out] at hx169_0)
                      (try rw [← Nbq22.out] at hx169_0)
                      obtain rfl : ad166 = ad169 := (by injection e169)
                      (try simp only [show (6 : Int).toNat = 6 from rfl, Nat.reduceMul, Nat.reduceEqDiff, Go.Addr.add, ↓reduceIte] at hx169_0)
                      have qi169 : (6 < t163.length) = True := eq_true (by omega)
                      (try rw [show ((6 : Int)).toNat = 6 from rfl] at hx169_0)
                      replace p169 := eq_true p169
                      replace q169 := eq_true q169
                      have p170 : 0 ≤ (4 : Int) := (by omega)
                      have q170 : 4 < (t163.length : Int) := of_decide_eq_true (by first | (with_reducible assumption) | assumption)
                      obtain ⟨ad170, e170, hx170_0⟩ := Kd.at_bool (Kd.R_reads' HO165.out).2.2 4 p170 q170
                      (try rw [← Nbq11.out] at hx170_0)
                      (try rw [← Nbq14.out] at hx170_0)
                      (try rw [← Nbq18.out] at hx170_0)
                      (try rw [← Nbq22.out] at hx170_0)
                      obtain rfl : ad166 = ad170 := (by injection e170)
                      (try simp only [show (4 : Int).toNat = 4 from rfl, Nat.reduceMul, Nat.reduceEqDiff, Go.Addr.add, ↓reduceIte] at hx170_0)
                      have qi170 : (4 < t163.length) = True := eq_true (by omega)
                      (try rw [show ((4 : Int)).toNat = 4 from rfl] at hx170_0)
                      replace p170 := eq_true p170
                      replace q170 := eq_true q170
                      have p171 : 0 ≤ (6 : Int) := (by omega)
                      have q171 : 6 < (t163.length : Int) := of_decide_eq_true (by first | (with_reducible assumption) | assumption)
                      obtain ⟨ad171, e171, hx171_0⟩ := Kd.at_bool (Kd.R_reads' HO165.out).2.2 6 p171 q171
                      (try rw [← Nbq11.out] at hx171_0)
                      (try rw [← Nbq14.out] at hx171_0)
                      (try rw [← Nbq18.out] at hx171_0)
                      (try rw [← Nbq22.out] at hx171_0)
                      obtain rfl : ad166 = ad171 := (by injection e171)
                      (try simp only [show (6 : Int).toNat = 6 from rfl, Nat.reduceMul, Nat.reduceEqDiff, Go.Addr.add, ↓reduceIte] at hx171_0)
                      have qi171 : (6 < t163.length) = True := eq_true (by omega)
                      (try rw [show ((6 : Int)).toNat = 6 from rfl] at hx171_0)
                      replace p171 := eq_true p171
                      replace q171 := eq_true q171
                      go_wp2
                      go_meet
                      case rel => exact ⟨_, (false), (by first | rfl | (simp; done) | (simp [*]; done)), H', ⟨by first | omega | exact Nat.le_refl _⟩, ⟨by (with_reducible repeat (first | apply Kd.R_alloc | apply Kd.R_drewN | apply Kd.R_drew)); exact HO165.out⟩, ⟨by (with_reducible repeat (first | refine blk_drewN ?_ _ | refine blk_drew ?_ | refine blk_alloc ?_ _)); exact BK161.out⟩, ⟨by repeat (first | (with_reducible first | exact HB.out | apply below_alloc | apply pw_below_drewN | apply below_drew1 | refine below_set ?_ GE161.out) | exact HB.out)⟩⟩
                    · replace c23 := Bool.eq_false_iff.mpr c23
                      subst c23
                      have H1 : (seinelaw21_OptionsShow.j0 k t163 false a0_0 a0_1 a0_2 a0_3 a0_4 a0_5 a0_6) = some r := by rw [if_neg (show ¬ (false = true) by decide)] at H; exact H
                      clear H
                      have H := H1
                      clear H1
                      have H' := Aside0.mk H
                      clear H
                      obtain ⟨Ao25, co25, eo25⟩ := Kd.R_slice HO165.out
                      subst eo25
                      have p166 : 0 ≤ (3 : Int) := (by omega)
                      have q166 : 3 < (t163.length : Int) := of_decide_eq_true (by first | (with_reducible assumption) | assumption)
                      obtain ⟨ad166, e166, hx166_0⟩ := Kd.at_bool (Kd.R_reads' HO165.out).2.2 3 p166 q166
                      (try rw [← Nbq11.out] at hx166_0)
                      (try rw [← Nbq14.out] at hx166_0)
                      (try rw [← Nbq18.out] at hx166_0)
                      (try rw [← Nbq22.out] at hx166_0)
                      cases e166
                      (try simp only [show (3 : Int).toNat = 3 from rfl, Nat.reduceMul, Nat.reduceEqDiff, Go.Addr.add, ↓reduceIte] at hx166_0)
                      have qi166 : (3 < t163.length) = True := eq_true (by omega)
                      (try rw [show ((3 : Int)).toNat = 3 from rfl] at hx166_0)
                      replace p166 := eq_true p166
                      replace q166 := eq_true q166
                      have p167 : 0 ≤ (5 : Int) := (by omega)
                      have q167 : 5 < (t163.length : Int) := of_decide_eq_true (by first | (with_reducible assumption) | assumption)
                      obtain ⟨ad167, e167, hx167_0⟩ := Kd.at_bool (Kd.R_reads' HO165.out).2.2 5 p167 q167
                      (try rw [← Nbq11.out] at hx167_0)
                      (try rw [← Nbq14.out] at hx167_0)
                      (try rw [← Nbq18.out] at hx167_0)
                      (try rw [← Nbq22.out] at hx167_0)
                      obtain rfl : ad166 = ad167 := (by injection e167)
                      (try simp only [show (5 : Int).toNat = 5 from rfl, Nat.reduceMul, Nat.reduceEqDiff, Go.Addr.add, ↓reduceIte] at hx167_0)
                      have qi167 : (5 < t163.length) = True := eq_true (by omega)
                      (try rw [show ((5 : Int)).toNat = 5 from rfl] at hx167_0)
                      replace p167 := eq_true p167
                      replace q167 := eq_true q167
                      have p168 : 0 ≤ (3 : Int) := (by omega)
                      have q168 : 3 < (t163.length : Int) := of_decide_eq_true (by first | (with_reducible assumption) | assumption)
                      obtain ⟨ad168, e168, hx168_0⟩ := Kd.at_bool (Kd.R_reads' HO165.out).2.2 3 p168 q168
                      (try rw [← Nbq11.out] at hx168_0)
                      (try rw [← Nbq14.out] at hx168_0)
                      (try rw [← Nbq18.out] at hx168_0)
                      (try rw [← Nbq22.out] at hx168_0)
                      obtain rfl : ad166 = ad168 := (by injection e168)
                      (try simp only [show (3 : Int).toNat = 3 from rfl, Nat.reduceMul, Nat.reduceEqDiff, Go.Addr.add, ↓reduceIte] at hx168_0)
                      have qi168 : (3 < t163.length) = True := eq_true (by omega)
                      (try rw [show ((3 : Int)).toNat = 3 from rfl] at hx168_0)
                      replace p168 := eq_true p168
                      replace q168 := eq_true q168
                      have p169 : 0 ≤ (6 : Int) := (by omega)
                      have q169 : 6 < (t163.length : Int) := of_decide_eq_true (by first | (with_reducible assumption) | assumption)
                      obtain ⟨ad169, e169, hx169_0⟩ := Kd.at_bool (Kd.R_reads' HO165.out).2.2 6 p169 q169
                      (try rw [← Nbq11.out] at hx169_0)
                      (try rw [← Nbq14.out] at hx169_0)
                      (try rw [← Nbq18.out] at hx169_0)
                      (try rw [← Nbq22.out] at hx169_0)
                      obtain rfl : ad166 = ad169 := (by injection e169)
                      (try simp only [show (6 : Int).toNat = 6 from rfl, Nat.reduceMul, Nat.reduceEqDiff, Go.Addr.add, ↓reduceIte] at hx169_0)
                      have qi169 : (6 < t163.length) = True := eq_true (by omega)
                      (try rw [show ((6 : Int)).toNat = 6 from rfl] at hx169_0)
                      replace p169 := eq_true p169
                      replace q169 := eq_true q169
                      have p170 : 0 ≤ (4 : Int) := (by omega)
                      have q170 : 4 < (t163.length : Int) := of_decide_eq_true (by first | (with_reducible assumption) | assumption)
                      obtain ⟨ad170, e170, hx170_0⟩ := Kd.at_bool (Kd.R_reads' HO165.out).2.2 4 p170 q170
                      (try rw [← Nbq11.out] at hx170_0)
                      (try rw [← Nbq14.out] at hx170_0)
                      (try rw [← Nbq18.out] at hx170_0)
                      (try rw [← Nbq22.out] at hx170_0)
                      obtain rfl : ad166 = ad170 := (by injection e170)
                      (try simp only [show (4 : Int).toNat = 4 from rfl, Nat.reduceMul, Nat.reduceEqDiff, Go.Addr.add, ↓reduceIte] at hx170_0)
                      have qi170 : (4 < t163.length) = True := eq_true (by omega)
                      (try rw [show ((4 : Int)).toNat = 4 from rfl] at hx170_0)
                      replace p170 := eq_true p170
                      replace q170 := eq_true q170
                      go_wp2
                      go_meet
                      case rel => exact ⟨_, (false), (by first | rfl | (simp; done) | (simp [*]; done)), H', ⟨by first | omega | exact Nat.le_refl _⟩, ⟨by (with_reducible repeat (first | apply Kd.R_alloc | apply Kd.R_drewN | apply Kd.R_drew)); exact HO165.out⟩, ⟨by (with_reducible repeat (first | refine blk_drewN ?_ _ | refine blk_drew ?_ | refine blk_alloc ?_ _)); exact BK161.out⟩, ⟨by repeat (first | (with_reducible first | exact HB.out | apply below_alloc | apply pw_below_drewN | apply below_drew1 | refine below_set ?_ GE161.out) | exact HB.out)⟩⟩
                  · rw [if_neg c21] at H
                    exact absurd H (by simp)
              · rw [if_neg c17] at H
                exact absurd H (by simp)
          · rw [if_neg c13] at H
            exact absurd H (by simp)
        · replace c12 := Bool.eq_false_iff.mpr c12
          subst c12
          have H1 : (if 4 < (t163.length : Int) then (if rdOf false t163 4 = true then (if 6 < (t163.length : Int) then (seinelaw21_OptionsShow.j0 k t163 (rdOf false t163 6) a0_0 a0_1 a0_2 a0_3 a0_4 a0_5 a0_6) else (none)) else (seinelaw21_OptionsShow.j0 k t163 false a0_0 a0_1 a0_2 a0_3 a0_4 a0_5 a0_6)) else (none)) = some r := by rw [if_neg (show ¬ (false = true) by decide)] at H; exact H
          clear H
          have H := H1
          clear H1
          by_cases c26 : 4 < (t163.length : Int)
          · rw [if_pos c26] at H
            have c26b0 : decide (4 < (t163.length : Int)) = true := decide_eq_true c26
            have c26b1 : decide (4 < t163.length) = true := decide_eq_true (by omega)
            clear c26
            obtain ⟨bq27, hbq27⟩ : ∃ b_ : Bool, b_ = (rdOf false t163 4) := ⟨_, rfl⟩
            replace H : (if bq27 = true then (if 6 < (t163.length : Int) then (seinelaw21_OptionsShow.j0 k t163 (rdOf false t163 6) a0_0 a0_1 a0_2 a0_3 a0_4 a0_5 a0_6) else (none)) else (seinelaw21_OptionsShow.j0 k t163 false a0_0 a0_1 a0_2 a0_3 a0_4 a0_5 a0_6)) = some r := by rw [← hbq27] at H; exact H
            have Nbq27 := Aside0.mk hbq27
            clear hbq27
            by_cases c28 : bq27 = true
            · subst c28
              have H1 : (if 6 < (t163.length : Int) then (seinelaw21_OptionsShow.j0 k t163 (rdOf false t163 6) a0_0 a0_1 a0_2 a0_3 a0_4 a0_5 a0_6) else (none)) = some r := by rw [if_pos rfl] at H; exact H
              clear H
              have H := H1
              clear H1
              by_cases c29 : 6 < (t163.length : Int)
              · rw [if_pos c29] at H
                have c29b0 : decide (6 < (t163.length : Int)) = true := decide_eq_true c29
                have c29b1 : decide (6 < t163.length) = true := decide_eq_true (by omega)
                clear c29
                have H' := Aside0.mk H
                clear H
                obtain ⟨Ao30, co30, eo30⟩ := Kd.R_slice HO165.out
                subst eo30
                have p166 : 0 ≤ (3 : Int) := (by omega)
                have q166 : 3 < (t163.length : Int) := of_decide_eq_true (by first | (with_reducible assumption) | assumption)
                obtain ⟨ad166, e166, hx166_0⟩ := Kd.at_bool (Kd.R_reads' HO165.out).2.2 3 p166 q166
                (try rw [← Nbq11.out] at hx166_0)
                (try rw [← Nbq27.out] at hx166_0)
                cases e166
                (try simp only [show (3 : Int).toNat = 3 from rfl, Nat.reduceMul, Nat.reduceEqDiff, Go.Addr.add, ↓reduceIte] at hx166_0)
                have qi166 : (3 < t163.length) = True := eq_true (by omega)
                (try rw [show ((3 : Int)).toNat = 3 from rfl] at hx166_0)
                replace p166 := eq_true p166
                replace q166 := eq_true q166
                have p172 : 0 ≤ (3 : Int) := (by omega)
                have q172 : 3 < (t163.length : Int) := of_decide_eq_true (by first | (with_reducible assumption) | assumption)
                obtain ⟨ad172, e172, hx172_0⟩ := Kd.at_bool (Kd.R_reads' HO165.out).2.2 3 p172 q172
                (try rw [← Nbq11.out] at hx172_0)
                (try rw [← Nbq27.out] at hx172_0)
                obtain rfl : ad166 = ad172 := (by injection e172)
                (try simp only [show (3 : Int).toNat = 3 from rfl, Nat.reduceMul, Nat.reduceEqDiff, Go.Addr.add, ↓reduceIte] at hx172_0)
                have qi172 : (3 < t163.length) = True := eq_true (by omega)
                (try rw [show ((3 : Int)).toNat = 3 from rfl] at hx172_0)
                replace p172 := eq_true p172
                replace q172 := eq_true q172
                have p173 : 0 ≤ (4 : Int) := (by omega)
                have q173 : 4 < (t163.length : Int) := of_decide_eq_true (by first | (with_reducible assumption) | assumption)
                obtain ⟨ad173, e173, hx173_0⟩ := Kd.at_bool (Kd.R_reads' HO165.out).2.2 4 p173 q173
                (try rw [← Nbq11.out] at hx173_0)
                (try rw [← Nbq27.out] at hx173_0)
                obtain rfl : ad166 = ad173 := (by injection e173)
                (try simp only [show (4 : Int).toNat = 4 from rfl, Nat.reduceMul, Nat.reduceEqDiff, Go.Addr.add, ↓reduceIte] at hx173_0)
                have qi173 : (4 < t163.length) = True := eq_true (by omega)
                (try rw [show ((4 : Int)).toNat = 4 from rfl] at hx173_0)
                replace p173 := eq_true p173
                replace q173 := eq_true q173
                have p174 : 0 ≤ (6 : Int) := (by omega)
                have q174 : 6 < (t163.length : Int) := of_decide_eq_true (by first | (with_reducible assumption) | assumption)
                obtain ⟨ad174, e174, hx174_0⟩ := Kd.at_bool (Kd.R_reads' HO165.out).2.2 6 p174 q174
                (try rw [← Nbq11.out] at hx174_0)
                (try rw [← Nbq27.out] at hx174_0)
                obtain rfl : ad166 = ad174 := (by injection e174)
                (try simp only [show (6 : Int).toNat = 6 from rfl, Nat.reduceMul, Nat.reduceEqDiff, Go.Addr.add, ↓reduceIte] at hx174_0)
                have qi174 : (6 < t163.length) = True := eq_true (by omega)
                (try rw [show ((6 : Int)).toNat = 6 from rfl] at hx174_0)
                replace p174 := eq_true p174
                replace q174 := eq_true q174
                go_wp2
                go_meet
                case rel => exact ⟨_, (rdOf false t163 6), (by first | rfl | (simp; done) | (simp [*]; done)), H', ⟨by first | omega | exact Nat.le_refl _⟩, ⟨by (with_reducible repeat (first | apply Kd.R_alloc | apply Kd.R_drewN | apply Kd.R_drew)); exact HO165.out⟩, ⟨by (with_reducible repeat (first | refine blk_drewN ?_ _ | refine blk_drew ?_ | refine blk_alloc ?_ _)); exact BK161.out⟩, ⟨by repeat (first | (with_reducible first | exact HB.out | apply below_alloc | apply pw_below_drewN | apply below_drew1 | refine below_set ?_ GE161.out) | exact HB.out)⟩⟩
              · rw [if_neg c29] at H
                exact absurd H (by simp)
            · replace c28 := Bool.eq_false_iff.mpr c28
              subst c28
              have H1 : (seinelaw21_OptionsShow.j0 k t163 false a0_0 a0_1 a0_2 a0_3 a0_4 a0_5 a0_6) = some r := by rw [if_neg (show ¬ (false = true) by decide)] at H; exact H
              clear H
              have H := H1
              clear H1
              have H' := Aside0.mk H
              clear H
              obtain ⟨Ao31, co31, eo31⟩ := Kd.R_slice HO165.out
              subst eo31
              have p166 : 0 ≤ (3 : Int) := (by omega)
              have q166 : 3 < (t163.length : Int) := of_decide_eq_true (by first | (with_reducible assumption) | assumption)
              obtain ⟨ad166, e166, hx166_0⟩ := Kd.at_bool (Kd.R_reads' HO165.out).2.2 3 p166 q166
              (try rw [← Nbq11.out] at hx166_0)
              (try rw [← Nbq27.out] at hx166_0)
              cases e166
              (try simp only [show (3 : Int).toNat = 3 from rfl, Nat.reduceMul, Nat.reduceEqDiff, Go.Addr.add, ↓reduceIte] at hx166_0)
              have qi166 : (3 < t163.length) = True := eq_true (by omega)
              (try rw [show ((3 : Int)).toNat = 3 from rfl] at hx166_0)
              replace p166 := eq_true p166
              replace q166 := eq_true q166
              have p172 : 0 ≤ (3 : Int) := (by omega)
              have q172 : 3 < (t163.length : Int) := of_decide_eq_true (by first | (with_reducible assumption) | assumption)
              obtain ⟨ad172, e172, hx172_0⟩ := Kd.at_bool (Kd.R_reads' HO165.out).2.2 3 p172 q172
              (try rw [← Nbq11.out] at hx172_0)
              (try rw [← Nbq27.out] at hx172_0)
              obtain rfl : ad166 = ad172 := (by injection e172)
              (try simp only [show (3 : Int).toNat = 3 from rfl, Nat.reduceMul, Nat.reduceEqDiff, Go.Addr.add, ↓reduceIte] at hx172_0)
              have qi172 : (3 < t163.length) = True := eq_true (by omega)
              (try rw [show ((3 : Int)).toNat = 3 from rfl] at hx172_0)
              replace p172 := eq_true p172
              replace q172 := eq_true q172
              have p173 : 0 ≤ (4 : Int) := (by omega)
              have q173 : 4 < (t163.length : Int) := of_decide_eq_true (by first | (with_reducible assumption) | assumption)
              obtain ⟨ad173, e173, hx173_0⟩ := Kd.at_bool (Kd.R_reads' HO165.out).2.2 4 p173 q173
              (try rw [← Nbq11.out] at hx173_0)
              (try rw [← Nbq27.out] at hx173_0)
              obtain rfl : ad166 = ad173 := (by injection e173)
              (try simp only [show (4 : Int).toNat = 4 from rfl, Nat.reduceMul, Nat.reduceEqDiff, Go.Addr.add, ↓reduceIte] at hx173_0)
              have qi173 : (4 < t163.length) = True := eq_true (by omega)
              (try rw [show ((4 : Int)).toNat = 4 from rfl] at hx173_0)
              replace p173 := eq_true p173
              replace q173 := eq_true q173
              go_wp2
              go_meet
              case rel => exact ⟨_, (false), (by first | rfl | (simp; done) | (simp [*]; done)), H', ⟨by first | omega | exact Nat.le_refl _⟩, ⟨by (with_reducible repeat (first | apply Kd.R_alloc | apply Kd.R_drewN | apply Kd.R_drew)); exact HO165.out⟩, ⟨by (with_reducible repeat (first | refine blk_drewN ?_ _ | refine blk_drew ?_ | refine blk_alloc ?_ _)); exact BK161.out⟩, ⟨by repeat (first | (with_reducible first | exact HB.out | apply below_alloc | apply pw_below_drewN | apply below_drew1 | refine below_set ?_ GE161.out) | exact HB.out)⟩⟩
          · rw [if_neg c26] at H
            exact absurd H (by simp)
      · rw [if_neg c10] at H
        exact absurd H (by simp)
    case rest =>
      clear HC5
      try clear c1
      try clear p1
      try clear q1
      try clear hx1
      try clear qi1
      try clear c2
      try clear p2
      try clear q2
      try clear c3
      try clear c4
      try clear c8
      try clear c10
      try clear c10b0
      try clear c10b1
      try clear c11
      try clear q11
      try clear c12
      try clear c13
      try clear c13b0
      try clear c13b1
      try clear q14
      try clear c15
      try clear p16
      try clear q16
      try clear hx16
      try clear qi16
      try clear c17
      try clear c17b0
      try clear c17b1
      try clear p17
      try clear q17
      try clear hx17
      try clear qi17
      try clear q18
      try clear c19
      try clear c21
      try clear c21b0
      try clear c21b1
      try clear q22
      try clear c23
      try clear c26
      try clear c26b0
      try clear c26b1
      try clear q27
      try clear c28
      try clear c29
      try clear c29b0
      try clear c29b1
      try clear hcz8_0
      try clear hcz8_1
      try clear hcz8_2
      try clear hcz8_3
      try clear hcz8_4
      try clear hcz8_5
      try clear hcz8_6
      try clear hfz8_0
      try clear hfz8_1
      try clear hfz8_2
      try clear hfz8_3
      try clear hfz8_4
      try clear hfz8_5
      try clear hfz8_6
      try clear hx166_0
      try clear hx167_0
      try clear hx168_0
      try clear hx169_0
      try clear hx170_0
      try clear hx171_0
      try clear hx172_0
      try clear hx173_0
      try clear hx174_0
      try clear p166
      try clear p167
      try clear p168
      try clear p169
      try clear p170
      try clear p171
      try clear p172
      try clear p173
      try clear p174
      try clear q166
      try clear q167
      try clear q168
      try clear q169
      try clear q170
      try clear q171
      try clear q172
      try clear q173
      try clear q174
      obtain ⟨kq, x5_4, rfl, HA, HJ4, HO_4, BK161, HB⟩ := hcut
      cases kq with
      | zero => exact absurd HA.out (by simp [seinelaw21_OptionsShow.j0])
      | succ kj4 =>
        have H := HA.out
        clear HA
        simp only [seinelaw21_OptionsShow.j0] at H
        replace H := Option.bind_eq_some_iff.mp H
        obtain ⟨t175, A320, H⟩ := H
        replace H : ((seineref21_Show.f t163).bind fun t176 => (if t175.toList = t176.toList then ((options_Bits.f kj4 a0_0 a0_1 a0_2 a0_3 a0_4 a0_5 a0_6).bind fun t177 => ((seineref21_Bits.f kj4 t163).bind fun t178 => (if (wrap64 (t177)) = t178 then ((options_Check.f a0_0 a0_1 a0_2 a0_3 a0_4 a0_5 a0_6).bind fun t179 => (if ((t179 == 10) == x5_4) = true then ((options_Check.f a0_0 a0_1 a0_2 a0_3 a0_4 a0_5 a0_6).bind fun t180 => (some ((t180 == 0) == (!x5_4)))) else (some false))) else (some false)))) else (some false))) = some r := H
        have A32 := Aside0.mk A320
        clear A320
        replace H := Option.bind_eq_some_iff.mp H
        obtain ⟨t176, A330, H⟩ := H
        replace H : (if t175.toList = t176.toList then ((options_Bits.f kj4 a0_0 a0_1 a0_2 a0_3 a0_4 a0_5 a0_6).bind fun t177 => ((seineref21_Bits.f kj4 t163).bind fun t178 => (if (wrap64 (t177)) = t178 then ((options_Check.f a0_0 a0_1 a0_2 a0_3 a0_4 a0_5 a0_6).bind fun t179 => (if ((t179 == 10) == x5_4) = true then ((options_Check.f a0_0 a0_1 a0_2 a0_3 a0_4 a0_5 a0_6).bind fun t180 => (some ((t180 == 0) == (!x5_4)))) else (some false))) else (some false)))) else (some false)) = some r := H
        have A33 := Aside0.mk A330
        clear A330
        by_cases c34 : t175.toList = t176.toList
        · rw [if_pos c34] at H
          have c34b0 : (t175.toList == t176.toList) = true := beq_iff_eq.mpr c34
          have c34b1 : (t175.toList != t176.toList) = false := bne_eq_false_iff_eq.mpr c34
          clear c34
          replace H := Option.bind_eq_some_iff.mp H
          obtain ⟨t177, A350, H⟩ := H
          replace H : ((seineref21_Bits.f kj4 t163).bind fun t178 => (if (wrap64 (t177)) = t178 then ((options_Check.f a0_0 a0_1 a0_2 a0_3 a0_4 a0_5 a0_6).bind fun t179 => (if ((t179 == 10) == x5_4) = true then ((options_Check.f a0_0 a0_1 a0_2 a0_3 a0_4 a0_5 a0_6).bind fun t180 => (some ((t180 == 0) == (!x5_4)))) else (some false))) else (some false))) = some r := H
          have A35 := Aside0.mk A350
          clear A350
          replace H := Option.bind_eq_some_iff.mp H
          obtain ⟨t178, A360, H⟩ := H
          replace H : (if (wrap64 (t177)) = t178 then ((options_Check.f a0_0 a0_1 a0_2 a0_3 a0_4 a0_5 a0_6).bind fun t179 => (if ((t179 == 10) == x5_4) = true then ((options_Check.f a0_0 a0_1 a0_2 a0_3 a0_4 a0_5 a0_6).bind fun t180 => (some ((t180 == 0) == (!x5_4)))) else (some false))) else (some false)) = some r := H
          have A36 := Aside0.mk A360
          clear A360
          by_cases c37 : (wrap64 (t177)) = t178
          · rw [if_pos c37] at H
            have c37b0 : ((wrap64 (t177)) == t178) = true := beq_iff_eq.mpr c37
            have c37b1 : ((wrap64 (t177)) != t178) = false := bne_eq_false_iff_eq.mpr c37
            clear c37
            replace H := Option.bind_eq_some_iff.mp H
            obtain ⟨t179, A380, H⟩ := H
            replace H : (if ((t179 == 10) == x5_4) = true then ((options_Check.f a0_0 a0_1 a0_2 a0_3 a0_4 a0_5 a0_6).bind fun t180 => (some ((t180 == 0) == (!x5_4)))) else (some false)) = some r := H
            have A38 := Aside0.mk A380
            clear A380
            by_cases c39 : ((t179 == 10) == x5_4) = true
            · rw [if_pos c39] at H
              have c39b0 : ((t179 == 10) == x5_4) = true := c39
              (try (have c39b1 : decide ((t179 == 10) = x5_4) = true := by simpa using c39))
              (try (have c39b2 : ((t179 == 10) == x5_4) = true := by simpa using c39))
              clear c39
              replace H := Option.bind_eq_some_iff.mp H
              obtain ⟨t180, A400, H⟩ := H
              replace H : (some ((t180 == 0) == (!x5_4))) = some r := H
              have A40 := Aside0.mk A400
              clear A400
              obtain rfl := Option.some.inj (A38.out.symm.trans A40.out)
              obtain rfl := Option.some.inj H
              have hcz41_0 : wc.cell? ⟨gb161, 0, none⟩ = some (.bool a0_0) := (blk_cell BK161.out 0).trans rfl
              have hcz41_1 : wc.cell? ⟨gb161, 1, none⟩ = some (.bool a0_1) := (blk_cell BK161.out 1).trans rfl
              have hcz41_2 : wc.cell? ⟨gb161, 2, none⟩ = some (.bool a0_2) := (blk_cell BK161.out 2).trans rfl
              have hcz41_3 : wc.cell? ⟨gb161, 3, none⟩ = some (.bool a0_3) := (blk_cell BK161.out 3).trans rfl
              have hcz41_4 : wc.cell? ⟨gb161, 4, none⟩ = some (.bool a0_4) := (blk_cell BK161.out 4).trans rfl
              have hcz41_5 : wc.cell? ⟨gb161, 5, none⟩ = some (.bool a0_5) := (blk_cell BK161.out 5).trans rfl
              have hcz41_6 : wc.cell? ⟨gb161, 6, none⟩ = some (.bool a0_6) := (blk_cell BK161.out 6).trans rfl
              have hfz41_0 := blk_frozen BK161.out 0
              have hfz41_1 := blk_frozen BK161.out 1
              have hfz41_2 := blk_frozen BK161.out 2
              have hfz41_3 := blk_frozen BK161.out 3
              have hfz41_4 := blk_frozen BK161.out 4
              have hfz41_5 := blk_frozen BK161.out 5
              have hfz41_6 := blk_frozen BK161.out 6
              go_wp2_with (first | ((with_reducible refine gate_callee (f := 12) rfl ?_); refine goesL_ (some 40) rfl rfl Try.func12 (by kernel_rfl) rfl #[.agg #[.bool a0_0, .bool a0_1, .bool a0_2, .bool a0_3, .bool a0_4, .bool a0_5, .bool a0_6]] rfl (by (try simp only [List.map_toArray, List.map_cons, List.map_nil]); first | done | rfl | (simp only [List.length_drop, List.length_take]; rfl)) ?_; (with_reducible refine (options_Show.calls a0_0 a0_1 a0_2 a0_3 a0_4 a0_5 a0_6 t175 _ A32.out).mono ?_); rintro e w42 ⟨rfl, hb⟩; refine ⟨_, rfl, ?_⟩; have n0_ := Aside0.mk (Kd.R_below (by (with_reducible repeat (first | apply Kd.R_alloc | apply Kd.R_drewN | apply Kd.R_drew)); exact HO_4.out) hb); have n1_ := Aside0.mk (blk_below (g := gb161) (o := .cells #[.bool a0_0, .bool a0_1, .bool a0_2, .bool a0_3, .bool a0_4, .bool a0_5, .bool a0_6] 24 (0, 0)) (by (with_reducible repeat (first | refine blk_drewN ?_ _ | refine blk_drew ?_ | refine blk_alloc ?_ _)); exact BK161.out) hb); have n2_ := Aside0.mk (below_step (by repeat (first | (with_reducible first | exact HB.out | apply below_alloc | apply pw_below_drewN | apply below_drew1 | refine below_set ?_ GE161.out) | exact HB.out)) hb); clear HO_4; clear BK161; clear HB; have HO_4 := n0_; have BK161 := n1_; have HB := n2_; clear n0_ n1_ n2_; (try clear hb); (try clear hb2); (try clear hk); (try clear hi); obtain ⟨Ao43, co43, eo43⟩ := Kd.R_slice HO_4.out; subst eo43) | ((with_reducible refine gate_callee (f := 13) rfl ?_); refine goesL_ (some 42) rfl rfl Try.func13 (by kernel_rfl) rfl #[.slice Ao43 t163.length co43] rfl (by (try simp only [List.map_toArray, List.map_cons, List.map_nil]); first | done | rfl | (simp only [List.length_drop, List.length_take]; rfl)) ?_; (with_reducible refine (seineref21_Show.calls _ _ t163 t176 _ ?side1 ?side2 A33.out).mono ?_); (case side1 => repeat (first | exact (Kd.R_reads' HO_4.out).2.2 | (with_reducible refine Kd.C_alloc ?_ _) | (with_reducible refine Kd.C_drewN ?_ _) | (with_reducible refine Kd.C_drew ?_))); (case side2 => exact (Kd.R_reads' HO_4.out).2.1); rintro e w44 ⟨rfl, hb⟩; refine ⟨_, rfl, ?_⟩; have n0_ := Aside0.mk (Kd.R_below (by (with_reducible repeat (first | apply Kd.R_alloc | apply Kd.R_drewN | apply Kd.R_drew)); exact HO_4.out) hb); have n1_ := Aside0.mk (blk_below (g := gb161) (o := .cells #[.bool a0_0, .bool a0_1, .bool a0_2, .bool a0_3, .bool a0_4, .bool a0_5, .bool a0_6] 24 (0, 0)) (by (with_reducible repeat (first | refine blk_drewN ?_ _ | refine blk_drew ?_ | refine blk_alloc ?_ _)); exact BK161.out) hb); have n2_ := Aside0.mk (below_step (by repeat (first | (with_reducible first | exact HB.out | apply below_alloc | apply pw_below_drewN | apply below_drew1 | refine below_set ?_ GE161.out) | exact HB.out)) hb); clear HO_4; clear BK161; clear HB; have HO_4 := n0_; have BK161 := n1_; have HB := n2_; clear n0_ n1_ n2_; (try clear hb); (try clear hb2); (try clear hk); (try clear hi); have hcz45_0 : w44.cell? ⟨gb161, 0, none⟩ = some (.bool a0_0) := (blk_cell BK161.out 0).trans rfl; have hcz45_1 : w44.cell? ⟨gb161, 1, none⟩ = some (.bool a0_1) := (blk_cell BK161.out 1).trans rfl; have hcz45_2 : w44.cell? ⟨gb161, 2, none⟩ = some (.bool a0_2) := (blk_cell BK161.out 2).trans rfl; have hcz45_3 : w44.cell? ⟨gb161, 3, none⟩ = some (.bool a0_3) := (blk_cell BK161.out 3).trans rfl; have hcz45_4 : w44.cell? ⟨gb161, 4, none⟩ = some (.bool a0_4) := (blk_cell BK161.out 4).trans rfl; have hcz45_5 : w44.cell? ⟨gb161, 5, none⟩ = some (.bool a0_5) := (blk_cell BK161.out 5).trans rfl; have hcz45_6 : w44.cell? ⟨gb161, 6, none⟩ = some (.bool a0_6) := (blk_cell BK161.out 6).trans rfl; have hfz45_0 := blk_frozen BK161.out 0; have hfz45_1 := blk_frozen BK161.out 1; have hfz45_2 := blk_frozen BK161.out 2; have hfz45_3 := blk_frozen BK161.out 3; have hfz45_4 := blk_frozen BK161.out 4; have hfz45_5 := blk_frozen BK161.out 5; have hfz45_6 := blk_frozen BK161.out 6) | (go_at_call 14; (with_reducible refine (options_Bits.calls kj4 a0_0 a0_1 a0_2 a0_3 a0_4 a0_5 a0_6 t177 _ A35.out).mono ?_); rintro e w46 ⟨rfl, hb⟩; have n0_ := Aside0.mk (Kd.R_below (by (with_reducible repeat (first | apply Kd.R_alloc | apply Kd.R_drewN | apply Kd.R_drew)); exact HO_4.out) hb); have n1_ := Aside0.mk (blk_below (g := gb161) (o := .cells #[.bool a0_0, .bool a0_1, .bool a0_2, .bool a0_3, .bool a0_4, .bool a0_5, .bool a0_6] 24 (0, 0)) (by (with_reducible repeat (first | refine blk_drewN ?_ _ | refine blk_drew ?_ | refine blk_alloc ?_ _)); exact BK161.out) hb); have n2_ := Aside0.mk (below_step (by repeat (first | (with_reducible first | exact HB.out | apply below_alloc | apply pw_below_drewN | apply below_drew1 | refine below_set ?_ GE161.out) | exact HB.out)) hb); clear HO_4; clear BK161; clear HB; have HO_4 := n0_; have BK161 := n1_; have HB := n2_; clear n0_ n1_ n2_; (try clear hb); (try clear hb2); (try clear hk); (try clear hi)) | (go_at_call 15; (with_reducible refine (seineref21_Bits.calls kj4 _ _ t163 t178 _ ?side1 ?side2 A36.out).mono ?_); (case side1 => repeat (first | exact (Kd.R_reads' HO_4.out).2.2 | (with_reducible refine Kd.C_alloc ?_ _) | (with_reducible refine Kd.C_drewN ?_ _) | (with_reducible refine Kd.C_drew ?_))); (case side2 => exact (Kd.R_reads' HO_4.out).2.1); rintro e w' ⟨rfl, ⟨nd, rfl⟩⟩; have hcz47_0 : w46.cell? ⟨gb161, 0, none⟩ = some (.bool a0_0) := (blk_cell BK161.out 0).trans rfl; have hcz47_1 : w46.cell? ⟨gb161, 1, none⟩ = some (.bool a0_1) := (blk_cell BK161.out 1).trans rfl; have hcz47_2 : w46.cell? ⟨gb161, 2, none⟩ = some (.bool a0_2) := (blk_cell BK161.out 2).trans rfl; have hcz47_3 : w46.cell? ⟨gb161, 3, none⟩ = some (.bool a0_3) := (blk_cell BK161.out 3).trans rfl; have hcz47_4 : w46.cell? ⟨gb161, 4, none⟩ = some (.bool a0_4) := (blk_cell BK161.out 4).trans rfl; have hcz47_5 : w46.cell? ⟨gb161, 5, none⟩ = some (.bool a0_5) := (blk_cell BK161.out 5).trans rfl; have hcz47_6 : w46.cell? ⟨gb161, 6, none⟩ = some (.bool a0_6) := (blk_cell BK161.out 6).trans rfl; have hfz47_0 := blk_frozen BK161.out 0; have hfz47_1 := blk_frozen BK161.out 1; have hfz47_2 := blk_frozen BK161.out 2; have hfz47_3 := blk_frozen BK161.out 3; have hfz47_4 := blk_frozen BK161.out 4; have hfz47_5 := blk_frozen BK161.out 5; have hfz47_6 := blk_frozen BK161.out 6) | (go_at_call 16; (with_reducible refine (options_Check.calls a0_0 a0_1 a0_2 a0_3 a0_4 a0_5 a0_6 t179 _ A38.out).mono ?_); rintro e w48 ⟨rfl, hb⟩; have n0_ := Aside0.mk (Kd.R_below (by (with_reducible repeat (first | apply Kd.R_alloc | apply Kd.R_drewN | apply Kd.R_drew)); exact HO_4.out) hb); have n1_ := Aside0.mk (blk_below (g := gb161) (o := .cells #[.bool a0_0, .bool a0_1, .bool a0_2, .bool a0_3, .bool a0_4, .bool a0_5, .bool a0_6] 24 (0, 0)) (by (with_reducible repeat (first | refine blk_drewN ?_ _ | refine blk_drew ?_ | refine blk_alloc ?_ _)); exact BK161.out) hb); have n2_ := Aside0.mk (below_step (by repeat (first | (with_reducible first | exact HB.out | apply below_alloc | apply pw_below_drewN | apply below_drew1 | refine below_set ?_ GE161.out) | exact HB.out)) hb); clear HO_4; clear BK161; clear HB; have HO_4 := n0_; have BK161 := n1_; have HB := n2_; clear n0_ n1_ n2_; (try clear hb); (try clear hb2); (try clear hk); (try clear hi); have hcz49_0 : w48.cell? ⟨gb161, 0, none⟩ = some (.bool a0_0) := (blk_cell BK161.out 0).trans rfl; have hcz49_1 : w48.cell? ⟨gb161, 1, none⟩ = some (.bool a0_1) := (blk_cell BK161.out 1).trans rfl; have hcz49_2 : w48.cell? ⟨gb161, 2, none⟩ = some (.bool a0_2) := (blk_cell BK161.out 2).trans rfl; have hcz49_3 : w48.cell? ⟨gb161, 3, none⟩ = some (.bool a0_3) := (blk_cell BK161.out 3).trans rfl; have hcz49_4 : w48.cell? ⟨gb161, 4, none⟩ = some (.bool a0_4) := (blk_cell BK161.out 4).trans rfl; have hcz49_5 : w48.cell? ⟨gb161, 5, none⟩ = some (.bool a0_5) := (blk_cell BK161.out 5).trans rfl; have hcz49_6 : w48.cell? ⟨gb161, 6, none⟩ = some (.bool a0_6) := (blk_cell BK161.out 6).trans rfl; have hfz49_0 := blk_frozen BK161.out 0; have hfz49_1 := blk_frozen BK161.out 1; have hfz49_2 := blk_frozen BK161.out 2; have hfz49_3 := blk_frozen BK161.out 3; have hfz49_4 := blk_frozen BK161.out 4; have hfz49_5 := blk_frozen BK161.out 5; have hfz49_6 := blk_frozen BK161.out 6) | (go_at_call 16; (with_reducible refine (options_Check.calls a0_0 a0_1 a0_2 a0_3 a0_4 a0_5 a0_6 t180 _ A40.out).mono ?_); rintro e w50 ⟨rfl, hb⟩; have n0_ := Aside0.mk (Kd.R_below (by (with_reducible repeat (first | apply Kd.R_alloc | apply Kd.R_drewN | apply Kd.R_drew)); exact HO_4.out) hb); have n1_ := Aside0.mk (blk_below (g := gb161) (o := .cells #[.bool a0_0, .bool a0_1, .bool a0_2, .bool a0_3, .bool a0_4, .bool a0_5, .bool a0_6] 24 (0, 0)) (by (with_reducible repeat (first | refine blk_drewN ?_ _ | refine blk_drew ?_ | refine blk_alloc ?_ _)); exact BK161.out) hb); have n2_ := Aside0.mk (below_step (by repeat (first | (with_reducible first | exact HB.out | apply below_alloc | apply pw_below_drewN | apply below_drew1 | refine below_set ?_ GE161.out) | exact HB.out)) hb); clear HO_4; clear BK161; clear HB; have HO_4 := n0_; have BK161 := n1_; have HB := n2_; clear n0_ n1_ n2_; (try clear hb); (try clear hb2); (try clear hk); (try clear hi)))
              go_ret
              exact ⟨by first | rfl | (simp [errW_none, errW_some] <;> rfl) | (simp [*, errW_none, errW_some] <;> rfl), by repeat (first | (with_reducible first | exact HB.out | apply below_alloc | apply pw_below_drewN | apply below_drew1 | refine below_set ?_ GE161.out) | exact HB.out)⟩
            · rw [if_neg c39] at H
              have c39b0 : ((t179 == 10) == x5_4) = false := by simpa using c39
              (try (have c39b1 : decide ((t179 == 10) = x5_4) = false := by simpa using c39))
              (try (have c39b2 : ((t179 == 10) == x5_4) = false := by simpa using c39))
              (try (have c39b3 : ¬ ((t179 == 10) = x5_4) := by simpa using c39))
              clear c39
              obtain rfl := Option.some.inj H
              have hcz51_0 : wc.cell? ⟨gb161, 0, none⟩ = some (.bool a0_0) := (blk_cell BK161.out 0).trans rfl
              have hcz51_1 : wc.cell? ⟨gb161, 1, none⟩ = some (.bool a0_1) := (blk_cell BK161.out 1).trans rfl
              have hcz51_2 : wc.cell? ⟨gb161, 2, none⟩ = some (.bool a0_2) := (blk_cell BK161.out 2).trans rfl
              have hcz51_3 : wc.cell? ⟨gb161, 3, none⟩ = some (.bool a0_3) := (blk_cell BK161.out 3).trans rfl
              have hcz51_4 : wc.cell? ⟨gb161, 4, none⟩ = some (.bool a0_4) := (blk_cell BK161.out 4).trans rfl
              have hcz51_5 : wc.cell? ⟨gb161, 5, none⟩ = some (.bool a0_5) := (blk_cell BK161.out 5).trans rfl
              have hcz51_6 : wc.cell? ⟨gb161, 6, none⟩ = some (.bool a0_6) := (blk_cell BK161.out 6).trans rfl
              have hfz51_0 := blk_frozen BK161.out 0
              have hfz51_1 := blk_frozen BK161.out 1
              have hfz51_2 := blk_frozen BK161.out 2
              have hfz51_3 := blk_frozen BK161.out 3
              have hfz51_4 := blk_frozen BK161.out 4
              have hfz51_5 := blk_frozen BK161.out 5
              have hfz51_6 := blk_frozen BK161.out 6
              go_wp2_with (first | ((with_reducible refine gate_callee (f := 12) rfl ?_); refine goesL_ (some 40) rfl rfl Try.func12 (by kernel_rfl) rfl #[.agg #[.bool a0_0, .bool a0_1, .bool a0_2, .bool a0_3, .bool a0_4, .bool a0_5, .bool a0_6]] rfl (by (try simp only [List.map_toArray, List.map_cons, List.map_nil]); first | done | rfl | (simp only [List.length_drop, List.length_take]; rfl)) ?_; (with_reducible refine (options_Show.calls a0_0 a0_1 a0_2 a0_3 a0_4 a0_5 a0_6 t175 _ A32.out).mono ?_); rintro e w52 ⟨rfl, hb⟩; refine ⟨_, rfl, ?_⟩; have n0_ := Aside0.mk (Kd.R_below (by (with_reducible repeat (first | apply Kd.R_alloc | apply Kd.R_drewN | apply Kd.R_drew)); exact HO_4.out) hb); have n1_ := Aside0.mk (blk_below (g := gb161) (o := .cells #[.bool a0_0, .bool a0_1, .bool a0_2, .bool a0_3, .bool a0_4, .bool a0_5, .bool a0_6] 24 (0, 0)) (by (with_reducible repeat (first | refine blk_drewN ?_ _ | refine blk_drew ?_ | refine blk_alloc ?_ _)); exact BK161.out) hb); have n2_ := Aside0.mk (below_step (by repeat (first | (with_reducible first | exact HB.out | apply below_alloc | apply pw_below_drewN | apply below_drew1 | refine below_set ?_ GE161.out) | exact HB.out)) hb); clear HO_4; clear BK161; clear HB; have HO_4 := n0_; have BK161 := n1_; have HB := n2_; clear n0_ n1_ n2_; (try clear hb); (try clear hb2); (try clear hk); (try clear hi); obtain ⟨Ao53, co53, eo53⟩ := Kd.R_slice HO_4.out; subst eo53) | ((with_reducible refine gate_callee (f := 13) rfl ?_); refine goesL_ (some 42) rfl rfl Try.func13 (by kernel_rfl) rfl #[.slice Ao53 t163.length co53] rfl (by (try simp only [List.map_toArray, List.map_cons, List.map_nil]); first | done | rfl | (simp only [List.length_drop, List.length_take]; rfl)) ?_; (with_reducible refine (seineref21_Show.calls _ _ t163 t176 _ ?side1 ?side2 A33.out).mono ?_); (case side1 => repeat (first | exact (Kd.R_reads' HO_4.out).2.2 | (with_reducible refine Kd.C_alloc ?_ _) | (with_reducible refine Kd.C_drewN ?_ _) | (with_reducible refine Kd.C_drew ?_))); (case side2 => exact (Kd.R_reads' HO_4.out).2.1); rintro e w54 ⟨rfl, hb⟩; refine ⟨_, rfl, ?_⟩; have n0_ := Aside0.mk (Kd.R_below (by (with_reducible repeat (first | apply Kd.R_alloc | apply Kd.R_drewN | apply Kd.R_drew)); exact HO_4.out) hb); have n1_ := Aside0.mk (blk_below (g := gb161) (o := .cells #[.bool a0_0, .bool a0_1, .bool a0_2, .bool a0_3, .bool a0_4, .bool a0_5, .bool a0_6] 24 (0, 0)) (by (with_reducible repeat (first | refine blk_drewN ?_ _ | refine blk_drew ?_ | refine blk_alloc ?_ _)); exact BK161.out) hb); have n2_ := Aside0.mk (below_step (by repeat (first | (with_reducible first | exact HB.out | apply below_alloc | apply pw_below_drewN | apply below_drew1 | refine below_set ?_ GE161.out) | exact HB.out)) hb); clear HO_4; clear BK161; clear HB; have HO_4 := n0_; have BK161 := n1_; have HB := n2_; clear n0_ n1_ n2_; (try clear hb); (try clear hb2); (try clear hk); (try clear hi); have hcz55_0 : w54.cell? ⟨gb161, 0, none⟩ = some (.bool a0_0) := (blk_cell BK161.out 0).trans rfl; have hcz55_1 : w54.cell? ⟨gb161, 1, none⟩ = some (.bool a0_1) := (blk_cell BK161.out 1).trans rfl; have hcz55_2 : w54.cell? ⟨gb161, 2, none⟩ = some (.bool a0_2) := (blk_cell BK161.out 2).trans rfl; have hcz55_3 : w54.cell? ⟨gb161, 3, none⟩ = some (.bool a0_3) := (blk_cell BK161.out 3).trans rfl; have hcz55_4 : w54.cell? ⟨gb161, 4, none⟩ = some (.bool a0_4) := (blk_cell BK161.out 4).trans rfl; have hcz55_5 : w54.cell? ⟨gb161, 5, none⟩ = some (.bool a0_5) := (blk_cell BK161.out 5).trans rfl; have hcz55_6 : w54.cell? ⟨gb161, 6, none⟩ = some (.bool a0_6) := (blk_cell BK161.out 6).trans rfl; have hfz55_0 := blk_frozen BK161.out 0; have hfz55_1 := blk_frozen BK161.out 1; have hfz55_2 := blk_frozen BK161.out 2; have hfz55_3 := blk_frozen BK161.out 3; have hfz55_4 := blk_frozen BK161.out 4; have hfz55_5 := blk_frozen BK161.out 5; have hfz55_6 := blk_frozen BK161.out 6) | (go_at_call 14; (with_reducible refine (options_Bits.calls kj4 a0_0 a0_1 a0_2 a0_3 a0_4 a0_5 a0_6 t177 _ A35.out).mono ?_); rintro e w56 ⟨rfl, hb⟩; have n0_ := Aside0.mk (Kd.R_below (by (with_reducible repeat (first | apply Kd.R_alloc | apply Kd.R_drewN | apply Kd.R_drew)); exact HO_4.out) hb); have n1_ := Aside0.mk (blk_below (g := gb161) (o := .cells #[.bool a0_0, .bool a0_1, .bool a0_2, .bool a0_3, .bool a0_4, .bool a0_5, .bool a0_6] 24 (0, 0)) (by (with_reducible repeat (first | refine blk_drewN ?_ _ | refine blk_drew ?_ | refine blk_alloc ?_ _)); exact BK161.out) hb); have n2_ := Aside0.mk (below_step (by repeat (first | (with_reducible first | exact HB.out | apply below_alloc | apply pw_below_drewN | apply below_drew1 | refine below_set ?_ GE161.out) | exact HB.out)) hb); clear HO_4; clear BK161; clear HB; have HO_4 := n0_; have BK161 := n1_; have HB := n2_; clear n0_ n1_ n2_; (try clear hb); (try clear hb2); (try clear hk); (try clear hi)) | (go_at_call 15; (with_reducible refine (seineref21_Bits.calls kj4 _ _ t163 t178 _ ?side1 ?side2 A36.out).mono ?_); (case side1 => repeat (first | exact (Kd.R_reads' HO_4.out).2.2 | (with_reducible refine Kd.C_alloc ?_ _) | (with_reducible refine Kd.C_drewN ?_ _) | (with_reducible refine Kd.C_drew ?_))); (case side2 => exact (Kd.R_reads' HO_4.out).2.1); rintro e w' ⟨rfl, ⟨nd, rfl⟩⟩; have hcz57_0 : w56.cell? ⟨gb161, 0, none⟩ = some (.bool a0_0) := (blk_cell BK161.out 0).trans rfl; have hcz57_1 : w56.cell? ⟨gb161, 1, none⟩ = some (.bool a0_1) := (blk_cell BK161.out 1).trans rfl; have hcz57_2 : w56.cell? ⟨gb161, 2, none⟩ = some (.bool a0_2) := (blk_cell BK161.out 2).trans rfl; have hcz57_3 : w56.cell? ⟨gb161, 3, none⟩ = some (.bool a0_3) := (blk_cell BK161.out 3).trans rfl; have hcz57_4 : w56.cell? ⟨gb161, 4, none⟩ = some (.bool a0_4) := (blk_cell BK161.out 4).trans rfl; have hcz57_5 : w56.cell? ⟨gb161, 5, none⟩ = some (.bool a0_5) := (blk_cell BK161.out 5).trans rfl; have hcz57_6 : w56.cell? ⟨gb161, 6, none⟩ = some (.bool a0_6) := (blk_cell BK161.out 6).trans rfl; have hfz57_0 := blk_frozen BK161.out 0; have hfz57_1 := blk_frozen BK161.out 1; have hfz57_2 := blk_frozen BK161.out 2; have hfz57_3 := blk_frozen BK161.out 3; have hfz57_4 := blk_frozen BK161.out 4; have hfz57_5 := blk_frozen BK161.out 5; have hfz57_6 := blk_frozen BK161.out 6) | (go_at_call 16; (with_reducible refine (options_Check.calls a0_0 a0_1 a0_2 a0_3 a0_4 a0_5 a0_6 t179 _ A38.out).mono ?_); rintro e w58 ⟨rfl, hb⟩; have n0_ := Aside0.mk (Kd.R_below (by (with_reducible repeat (first | apply Kd.R_alloc | apply Kd.R_drewN | apply Kd.R_drew)); exact HO_4.out) hb); have n1_ := Aside0.mk (blk_below (g := gb161) (o := .cells #[.bool a0_0, .bool a0_1, .bool a0_2, .bool a0_3, .bool a0_4, .bool a0_5, .bool a0_6] 24 (0, 0)) (by (with_reducible repeat (first | refine blk_drewN ?_ _ | refine blk_drew ?_ | refine blk_alloc ?_ _)); exact BK161.out) hb); have n2_ := Aside0.mk (below_step (by repeat (first | (with_reducible first | exact HB.out | apply below_alloc | apply pw_below_drewN | apply below_drew1 | refine below_set ?_ GE161.out) | exact HB.out)) hb); clear HO_4; clear BK161; clear HB; have HO_4 := n0_; have BK161 := n1_; have HB := n2_; clear n0_ n1_ n2_; (try clear hb); (try clear hb2); (try clear hk); (try clear hi)))
              go_ret
              exact ⟨by first | rfl | (simp [errW_none, errW_some] <;> rfl) | (simp [*, errW_none, errW_some] <;> rfl), by repeat (first | (with_reducible first | exact HB.out | apply below_alloc | apply pw_below_drewN | apply below_drew1 | refine below_set ?_ GE161.out) | exact HB.out)⟩
          · rw [if_neg c37] at H
            have c37b0 : ((wrap64 (t177)) == t178) = false := beq_eq_false_iff_ne.mpr c37
            have c37b1 : ((wrap64 (t177)) != t178) = true := bne_iff_ne.mpr c37
            obtain rfl := Option.some.inj H
            have hcz59_0 : wc.cell? ⟨gb161, 0, none⟩ = some (.bool a0_0) := (blk_cell BK161.out 0).trans rfl
            have hcz59_1 : wc.cell? ⟨gb161, 1, none⟩ = some (.bool a0_1) := (blk_cell BK161.out 1).trans rfl
            have hcz59_2 : wc.cell? ⟨gb161, 2, none⟩ = some (.bool a0_2) := (blk_cell BK161.out 2).trans rfl
            have hcz59_3 : wc.cell? ⟨gb161, 3, none⟩ = some (.bool a0_3) := (blk_cell BK161.out 3).trans rfl
            have hcz59_4 : wc.cell? ⟨gb161, 4, none⟩ = some (.bool a0_4) := (blk_cell BK161.out 4).trans rfl
            have hcz59_5 : wc.cell? ⟨gb161, 5, none⟩ = some (.bool a0_5) := (blk_cell BK161.out 5).trans rfl
            have hcz59_6 : wc.cell? ⟨gb161, 6, none⟩ = some (.bool a0_6) := (blk_cell BK161.out 6).trans rfl
            have hfz59_0 := blk_frozen BK161.out 0
            have hfz59_1 := blk_frozen BK161.out 1
            have hfz59_2 := blk_frozen BK161.out 2
            have hfz59_3 := blk_frozen BK161.out 3
            have hfz59_4 := blk_frozen BK161.out 4
            have hfz59_5 := blk_frozen BK161.out 5
            have hfz59_6 := blk_frozen BK161.out 6
            go_wp2_with (first | ((with_reducible refine gate_callee (f := 12) rfl ?_); refine goesL_ (some 40) rfl rfl Try.func12 (by kernel_rfl) rfl #[.agg #[.bool a0_0, .bool a0_1, .bool a0_2, .bool a0_3, .bool a0_4, .bool a0_5, .bool a0_6]] rfl (by (try simp only [List.map_toArray, List.map_cons, List.map_nil]); first | done | rfl | (simp only [List.length_drop, List.length_take]; rfl)) ?_; (with_reducible refine (options_Show.calls a0_0 a0_1 a0_2 a0_3 a0_4 a0_5 a0_6 t175 _ A32.out).mono ?_); rintro e w60 ⟨rfl, hb⟩; refine ⟨_, rfl, ?_⟩; have n0_ := Aside0.mk (Kd.R_below (by (with_reducible repeat (first | apply Kd.R_alloc | apply Kd.R_drewN | apply Kd.R_drew)); exact HO_4.out) hb); have n1_ := Aside0.mk (blk_below (g := gb161) (o := .cells #[.bool a0_0, .bool a0_1, .bool a0_2, .bool a0_3, .bool a0_4, .bool a0_5, .bool a0_6] 24 (0, 0)) (by (with_reducible repeat (first | refine blk_drewN ?_ _ | refine blk_drew ?_ | refine blk_alloc ?_ _)); exact BK161.out) hb); have n2_ := Aside0.mk (below_step (by repeat (first | (with_reducible first | exact HB.out | apply below_alloc | apply pw_below_drewN | apply below_drew1 | refine below_set ?_ GE161.out) | exact HB.out)) hb); clear HO_4; clear BK161; clear HB; have HO_4 := n0_; have BK161 := n1_; have HB := n2_; clear n0_ n1_ n2_; (try clear hb); (try clear hb2); (try clear hk); (try clear hi); obtain ⟨Ao61, co61, eo61⟩ := Kd.R_slice HO_4.out; subst eo61) | ((with_reducible refine gate_callee (f := 13) rfl ?_); refine goesL_ (some 42) rfl rfl Try.func13 (by kernel_rfl) rfl #[.slice Ao61 t163.length co61] rfl (by (try simp only [List.map_toArray, List.map_cons, List.map_nil]); first | done | rfl | (simp only [List.length_drop, List.length_take]; rfl)) ?_; (with_reducible refine (seineref21_Show.calls _ _ t163 t176 _ ?side1 ?side2 A33.out).mono ?_); (case side1 => repeat (first | exact (Kd.R_reads' HO_4.out).2.2 | (with_reducible refine Kd.C_alloc ?_ _) | (with_reducible refine Kd.C_drewN ?_ _) | (with_reducible refine Kd.C_drew ?_))); (case side2 => exact (Kd.R_reads' HO_4.out).2.1); rintro e w62 ⟨rfl, hb⟩; refine ⟨_, rfl, ?_⟩; have n0_ := Aside0.mk (Kd.R_below (by (with_reducible repeat (first | apply Kd.R_alloc | apply Kd.R_drewN | apply Kd.R_drew)); exact HO_4.out) hb); have n1_ := Aside0.mk (blk_below (g := gb161) (o := .cells #[.bool a0_0, .bool a0_1, .bool a0_2, .bool a0_3, .bool a0_4, .bool a0_5, .bool a0_6] 24 (0, 0)) (by (with_reducible repeat (first | refine blk_drewN ?_ _ | refine blk_drew ?_ | refine blk_alloc ?_ _)); exact BK161.out) hb); have n2_ := Aside0.mk (below_step (by repeat (first | (with_reducible first | exact HB.out | apply below_alloc | apply pw_below_drewN | apply below_drew1 | refine below_set ?_ GE161.out) | exact HB.out)) hb); clear HO_4; clear BK161; clear HB; have HO_4 := n0_; have BK161 := n1_; have HB := n2_; clear n0_ n1_ n2_; (try clear hb); (try clear hb2); (try clear hk); (try clear hi); have hcz63_0 : w62.cell? ⟨gb161, 0, none⟩ = some (.bool a0_0) := (blk_cell BK161.out 0).trans rfl; have hcz63_1 : w62.cell? ⟨gb161, 1, none⟩ = some (.bool a0_1) := (blk_cell BK161.out 1).trans rfl; have hcz63_2 : w62.cell? ⟨gb161, 2, none⟩ = some (.bool a0_2) := (blk_cell BK161.out 2).trans rfl; have hcz63_3 : w62.cell? ⟨gb161, 3, none⟩ = some (.bool a0_3) := (blk_cell BK161.out 3).trans rfl; have hcz63_4 : w62.cell? ⟨gb161, 4, none⟩ = some (.bool a0_4) := (blk_cell BK161.out 4).trans rfl; have hcz63_5 : w62.cell? ⟨gb161, 5, none⟩ = some (.bool a0_5) := (blk_cell BK161.out 5).trans rfl; have hcz63_6 : w62.cell? ⟨gb161, 6, none⟩ = some (.bool a0_6) := (blk_cell BK161.out 6).trans rfl; have hfz63_0 := blk_frozen BK161.out 0; have hfz63_1 := blk_frozen BK161.out 1; have hfz63_2 := blk_frozen BK161.out 2; have hfz63_3 := blk_frozen BK161.out 3; have hfz63_4 := blk_frozen BK161.out 4; have hfz63_5 := blk_frozen BK161.out 5; have hfz63_6 := blk_frozen BK161.out 6) | (go_at_call 14; (with_reducible refine (options_Bits.calls kj4 a0_0 a0_1 a0_2 a0_3 a0_4 a0_5 a0_6 t177 _ A35.out).mono ?_); rintro e w64 ⟨rfl, hb⟩; have n0_ := Aside0.mk (Kd.R_below (by (with_reducible repeat (first | apply Kd.R_alloc | apply Kd.R_drewN | apply Kd.R_drew)); exact HO_4.out) hb); have n1_ := Aside0.mk (blk_below (g := gb161) (o := .cells #[.bool a0_0, .bool a0_1, .bool a0_2, .bool a0_3, .bool a0_4, .bool a0_5, .bool a0_6] 24 (0, 0)) (by (with_reducible repeat (first | refine blk_drewN ?_ _ | refine blk_drew ?_ | refine blk_alloc ?_ _)); exact BK161.out) hb); have n2_ := Aside0.mk (below_step (by repeat (first | (with_reducible first | exact HB.out | apply below_alloc | apply pw_below_drewN | apply below_drew1 | refine below_set ?_ GE161.out) | exact HB.out)) hb); clear HO_4; clear BK161; clear HB; have HO_4 := n0_; have BK161 := n1_; have HB := n2_; clear n0_ n1_ n2_; (try clear hb); (try clear hb2); (try clear hk); (try clear hi)) | (go_at_call 15; (with_reducible refine (seineref21_Bits.calls kj4 _ _ t163 t178 _ ?side1 ?side2 A36.out).mono ?_); (case side1 => repeat (first | exact (Kd.R_reads' HO_4.out).2.2 | (with_reducible refine Kd.C_alloc ?_ _) | (with_reducible refine Kd.C_drewN ?_ _) | (with_reducible refine Kd.C_drew ?_))); (case side2 => exact (Kd.R_reads' HO_4.out).2.1); rintro e w' ⟨rfl, ⟨nd, rfl⟩⟩))
            go_ret
            exact ⟨by first | rfl | (simp [errW_none, errW_some] <;> rfl) | (simp [*, errW_none, errW_some] <;> rfl), by repeat (first | (with_reducible first | exact HB.out | apply below_alloc | apply pw_below_drewN | apply below_drew1 | refine below_set ?_ GE161.out) | exact HB.out)⟩
        · rw [if_neg c34] at H
          have c34b0 : (t175.toList == t176.toList) = false := beq_eq_false_iff_ne.mpr c34
          have c34b1 : (t175.toList != t176.toList) = true := bne_iff_ne.mpr c34
          obtain rfl := Option.some.inj H
          have hcz65_0 : wc.cell? ⟨gb161, 0, none⟩ = some (.bool a0_0) := (blk_cell BK161.out 0).trans rfl
          have hcz65_1 : wc.cell? ⟨gb161, 1, none⟩ = some (.bool a0_1) := (blk_cell BK161.out 1).trans rfl
          have hcz65_2 : wc.cell? ⟨gb161, 2, none⟩ = some (.bool a0_2) := (blk_cell BK161.out 2).trans rfl
          have hcz65_3 : wc.cell? ⟨gb161, 3, none⟩ = some (.bool a0_3) := (blk_cell BK161.out 3).trans rfl
          have hcz65_4 : wc.cell? ⟨gb161, 4, none⟩ = some (.bool a0_4) := (blk_cell BK161.out 4).trans rfl
          have hcz65_5 : wc.cell? ⟨gb161, 5, none⟩ = some (.bool a0_5) := (blk_cell BK161.out 5).trans rfl
          have hcz65_6 : wc.cell? ⟨gb161, 6, none⟩ = some (.bool a0_6) := (blk_cell BK161.out 6).trans rfl
          have hfz65_0 := blk_frozen BK161.out 0
          have hfz65_1 := blk_frozen BK161.out 1
          have hfz65_2 := blk_frozen BK161.out 2
          have hfz65_3 := blk_frozen BK161.out 3
          have hfz65_4 := blk_frozen BK161.out 4
          have hfz65_5 := blk_frozen BK161.out 5
          have hfz65_6 := blk_frozen BK161.out 6
          go_wp2_with (first | ((with_reducible refine gate_callee (f := 12) rfl ?_); refine goesL_ (some 40) rfl rfl Try.func12 (by kernel_rfl) rfl #[.agg #[.bool a0_0, .bool a0_1, .bool a0_2, .bool a0_3, .bool a0_4, .bool a0_5, .bool a0_6]] rfl (by (try simp only [List.map_toArray, List.map_cons, List.map_nil]); first | done | rfl | (simp only [List.length_drop, List.length_take]; rfl)) ?_; (with_reducible refine (options_Show.calls a0_0 a0_1 a0_2 a0_3 a0_4 a0_5 a0_6 t175 _ A32.out).mono ?_); rintro e w66 ⟨rfl, hb⟩; refine ⟨_, rfl, ?_⟩; have n0_ := Aside0.mk (Kd.R_below (by (with_reducible repeat (first | apply Kd.R_alloc | apply Kd.R_drewN | apply Kd.R_drew)); exact HO_4.out) hb); have n1_ := Aside0.mk (blk_below (g := gb161) (o := .cells #[.bool a0_0, .bool a0_1, .bool a0_2, .bool a0_3, .bool a0_4, .bool a0_5, .bool a0_6] 24 (0, 0)) (by (with_reducible repeat (first | refine blk_drewN ?_ _ | refine blk_drew ?_ | refine blk_alloc ?_ _)); exact BK161.out) hb); have n2_ := Aside0.mk (below_step (by repeat (first | (with_reducible first | exact HB.out | apply below_alloc | apply pw_below_drewN | apply below_drew1 | refine below_set ?_ GE161.out) | exact HB.out)) hb); clear HO_4; clear BK161; clear HB; have HO_4 := n0_; have BK161 := n1_; have HB := n2_; clear n0_ n1_ n2_; (try clear hb); (try clear hb2); (try clear hk); (try clear hi); obtain ⟨Ao67, co67, eo67⟩ := Kd.R_slice HO_4.out; subst eo67) | ((with_reducible refine gate_callee (f := 13) rfl ?_); refine goesL_ (some 42) rfl rfl Try.func13 (by kernel_rfl) rfl #[.slice Ao67 t163.length co67] rfl (by (try simp only [List.map_toArray, List.map_cons, List.map_nil]); first | done | rfl | (simp only [List.length_drop, List.length_take]; rfl)) ?_; (with_reducible refine (seineref21_Show.calls _ _ t163 t176 _ ?side1 ?side2 A33.out).mono ?_); (case side1 => repeat (first | exact (Kd.R_reads' HO_4.out).2.2 | (with_reducible refine Kd.C_alloc ?_ _) | (with_reducible refine Kd.C_drewN ?_ _) | (with_reducible refine Kd.C_drew ?_))); (case side2 => exact (Kd.R_reads' HO_4.out).2.1); rintro e w68 ⟨rfl, hb⟩; refine ⟨_, rfl, ?_⟩; have n0_ := Aside0.mk (Kd.R_below (by (with_reducible repeat (first | apply Kd.R_alloc | apply Kd.R_drewN | apply Kd.R_drew)); exact HO_4.out) hb); have n1_ := Aside0.mk (blk_below (g := gb161) (o := .cells #[.bool a0_0, .bool a0_1, .bool a0_2, .bool a0_3, .bool a0_4, .bool a0_5, .bool a0_6] 24 (0, 0)) (by (with_reducible repeat (first | refine blk_drewN ?_ _ | refine blk_drew ?_ | refine blk_alloc ?_ _)); exact BK161.out) hb); have n2_ := Aside0.mk (below_step (by repeat (first | (with_reducible first | exact HB.out | apply below_alloc | apply pw_below_drewN | apply below_drew1 | refine below_set ?_ GE161.out) | exact HB.out)) hb); clear HO_4; clear BK161; clear HB; have HO_4 := n0_; have BK161 := n1_; have HB := n2_; clear n0_ n1_ n2_; (try clear hb); (try clear hb2); (try clear hk); (try clear hi)))
          go_ret
          exact ⟨by first | rfl | (simp [errW_none, errW_some] <;> rfl) | (simp [*, errW_none, errW_some] <;> rfl), by repeat (first | (with_reducible first | exact HB.out | apply below_alloc | apply pw_below_drewN | apply below_drew1 | refine below_set ?_ GE161.out) | exact HB.out)⟩
  · replace c3 := Bool.eq_false_iff.mpr c3
    subst c3
    have H1 : (some false) = some r := by rw [if_neg (show ¬ (false = true) by decide)] at H; exact H
    clear H
    have H := H1
    clear H1
    obtain rfl := Option.some.inj H
    go_enter Try.func4, Try.ntmps4
    go_wp2_with (first | ((with_reducible refine gate_dst (N := 1) rfl ?_); refine box_event ?hg (N := 1) ?hd (cs := #[.bool a0_0, .bool a0_1, .bool a0_2, .bool a0_3, .bool a0_4, .bool a0_5, .bool a0_6]) (t := 24) ?hr ?_; (case hd => rfl); (case hg => rfl); (case hr => first | (go_simp; done) | (go_simp; rfl)); intro gb161 hg w69 hbox hb; have n0_ := Aside0.mk (below_step (by repeat (first | (with_reducible first | exact HB.out | apply below_alloc | apply pw_below_drewN | apply below_drew1) | exact HB.out)) hb); have n1_ := Aside0.mk (hbox); have n2_ := Aside0.mk ((by rw [hg]; exact (below_size (by repeat (first | (with_reducible first | exact HB.out | apply below_alloc | apply pw_below_drewN | apply below_drew1) | exact HB.out))) : w.heap.size ≤ gb161)); have n3_ := Aside0.mk ((by rw [hg]; exact (below_size (by repeat (first | (with_reducible first | exact HB.out | apply below_alloc | apply pw_below_drewN | apply below_drew1) | exact HB.out))) : w.heap.size ≤ gb161)); clear HB; have HB := n0_; have BK161 := n1_; have GW161 := n2_; have GE161 := n3_; clear n0_ n1_ n2_ n3_; clear hb hbox hg) | ((with_reducible refine gate_callee (f := 8) rfl ?_); refine goesL_ (some 6) rfl rfl Try.func8 (by kernel_rfl) rfl #[] rfl (by (try simp only [List.map_toArray, List.map_cons, List.map_nil]); first | done | rfl | (simp only [List.length_drop, List.length_take]; rfl)) ?_; (with_reducible refine (seinelaw21_awake.calls k  false _ A2.out).mono ?_); rintro e w70 ⟨rfl, hb⟩; refine ⟨_, rfl, ?_⟩; have n0_ := Aside0.mk (blk_below (g := gb161) (o := .cells #[.bool a0_0, .bool a0_1, .bool a0_2, .bool a0_3, .bool a0_4, .bool a0_5, .bool a0_6] 24 (0, 0)) (by (with_reducible repeat (first | refine blk_drewN ?_ _ | refine blk_drew ?_ | refine blk_alloc ?_ _)); exact BK161.out) hb); have n1_ := Aside0.mk (below_step (by repeat (first | (with_reducible first | exact HB.out | apply below_alloc | apply pw_below_drewN | apply below_drew1 | refine below_set ?_ GE161.out) | exact HB.out)) hb); clear BK161; clear HB; have BK161 := n0_; have HB := n1_; clear n0_ n1_; (try clear hb); (try clear hb2); (try clear hk); (try clear hi)))
    go_ret
    exact ⟨by first | rfl | (simp [errW_none, errW_some] <;> rfl) | (simp [*, errW_none, errW_some] <;> rfl), by repeat (first | (with_reducible first | exact HB.out | apply below_alloc | apply pw_below_drewN | apply below_drew1 | refine below_set ?_ GE161.out) | exact HB.out)⟩

end Go.Proofs.Ythahngbimkhdiaa.All
