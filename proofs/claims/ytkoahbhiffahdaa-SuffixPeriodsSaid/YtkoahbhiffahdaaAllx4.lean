-- printed by px.py, a program of this session's over the kit's print. Not trusted: Lean checks it.
import Derived.Test.YtkoahbhiffahdaaAllx0
import Derived.Test.YtkoahbhiffahdaaAllx2
import Derived.Test.YtkoahbhiffahdaaAllx3
import Derived.Test.YtkoahbhiffahdaaHand
namespace Go.Proofs.Ytkoahbhiffahdaa.All
open Go.RowKit Go.Proofs.YtkoahbhiffahdaaW.PrintWords Go.Proofs.YtkoahbhiffahdaaW.PrintLast Go.Proofs.YtkoahbhiffahdaaW.PrintMore
attribute [local go_sem] max2_int min2_int max_two min_two max_three min_three max_four min_four   -- for this text's walks alone
set_option linter.unusedVariables false
set_option linter.unusedSimpArgs false

/-! ### seinelaw11_SuffixGreatest: function 9 -/
mutual
def seinelaw11_SuffixGreatest.j0 : Nat → List Int → Bool → Int → Bool → Option (Bool)
  | 0, _, _, _, _ => none
  | k + 1, x0, x1, x2, x22 => if x22 = true then (some true) else ((suffix_Max.f x0 x1).bind fun bt160 => (if bt160.1 < 0 then (seinelaw11_SuffixGreatest.j1 k x0 x1 x2 bt160.1 bt160.2 true) else (if bt160.1 ≥ (x0.length : Int) then (seinelaw11_SuffixGreatest.j1 k x0 x1 x2 bt160.1 bt160.2 true) else (if bt160.2 < 1 then (seinelaw11_SuffixGreatest.j1 k x0 x1 x2 bt160.1 bt160.2 true) else (seinelaw11_SuffixGreatest.j1 k x0 x1 x2 bt160.1 bt160.2 (decide (bt160.2 > (wrap64 ((x0.length : Int) - bt160.1)))))))))
def seinelaw11_SuffixGreatest.j1 : Nat → List Int → Bool → Int → Int → Int → Bool → Option (Bool)
  | 0, _, _, _, _, _, _ => none
  | k + 1, x0, x1, x2, x8, x9, x48 => if x48 = true then (some false) else (if (x0.length : Int) = 0 then (none) else (if (Int.tmod (wrap64 (x2)) (x0.length : Int)) = x8 then (seinelaw11_SuffixGreatest.j2 k x0 x8 x9 false) else (if 0 ≤ (Int.tmod (wrap64 (x2)) (x0.length : Int)) then (if (Int.tmod (wrap64 (x2)) (x0.length : Int)) ≤ (x0.length : Int) then (if 0 ≤ x8 then (if x8 ≤ (x0.length : Int) then ((seineref11_Less.f k (strOfNums (x0.drop ((Int.tmod (wrap64 (x2)) (x0.length : Int)) : Int).toNat)) (strOfNums (x0.drop (x8 : Int).toNat)) x1).bind fun t164 => (seinelaw11_SuffixGreatest.j2 k x0 x8 x9 (!t164))) else (none)) else (none)) else (none)) else (none))))
def seinelaw11_SuffixGreatest.j2 : Nat → List Int → Int → Int → Bool → Option (Bool)
  | 0, _, _, _, _ => none
  | k + 1, x0, x8, x9, x69 => if x69 = true then (some false) else (seinelaw11_SuffixGreatest.l0 k x0 x8 x9 x8)
def seinelaw11_SuffixGreatest.l0 : Nat → List Int → Int → Int → Int → Option (Bool)
  | 0, _, _, _, _ => none
  | k + 1, x0, x8, x9, x11 => if x11 < (wrap64 ((x0.length : Int) - x9)) then (if 0 ≤ x11 then (if x11 < (x0.length : Int) then (if 0 ≤ (wrap64 (x11 + x9)) then (if (wrap64 (x11 + x9)) < (x0.length : Int) then (if (rd x0 x11) = (rd x0 (wrap64 (x11 + x9))) then (seinelaw11_SuffixGreatest.l0 k x0 x8 x9 (wrap64 (x11 + 1))) else (some false)) else (none)) else (none)) else (none)) else (none)) else (if 0 ≤ x8 then (if x8 ≤ (x0.length : Int) then ((suffix_Period.f k (x0.drop (x8 : Int).toNat)).bind fun t168 => (some (t168 == x9))) else (none)) else (none))
end
def seinelaw11_SuffixGreatest.f (k : Nat) (l0 : List Int) (a1 : Bool) (a2 : Int) : Option (Bool) := (seinelaw11_awake.f k).bind fun t159 => (if t159 = true then (if (l0.length : Int) > 400 then (seinelaw11_SuffixGreatest.j0 k l0 a1 a2 true) else (seinelaw11_SuffixGreatest.j0 k l0 a1 a2 ((l0.length : Int) == 0))) else (some false))
theorem seinelaw11_SuffixGreatest.mono_l : ∀ k, (∀ y0 y1 y2 y3, LeO (seinelaw11_SuffixGreatest.j0 k y0 y1 y2 y3) (seinelaw11_SuffixGreatest.j0 (k + 1) y0 y1 y2 y3)) ∧ (∀ y0 y1 y2 y3 y4 y5, LeO (seinelaw11_SuffixGreatest.j1 k y0 y1 y2 y3 y4 y5) (seinelaw11_SuffixGreatest.j1 (k + 1) y0 y1 y2 y3 y4 y5)) ∧ (∀ y0 y1 y2 y3, LeO (seinelaw11_SuffixGreatest.j2 k y0 y1 y2 y3) (seinelaw11_SuffixGreatest.j2 (k + 1) y0 y1 y2 y3)) ∧ (∀ y0 y1 y2 y3, LeO (seinelaw11_SuffixGreatest.l0 k y0 y1 y2 y3) (seinelaw11_SuffixGreatest.l0 (k + 1) y0 y1 y2 y3))
  | 0 => ⟨fun _ _ _ _ r h => by simp [seinelaw11_SuffixGreatest.j0] at h, fun _ _ _ _ _ _ r h => by simp [seinelaw11_SuffixGreatest.j1] at h, fun _ _ _ _ r h => by simp [seinelaw11_SuffixGreatest.j2] at h, fun _ _ _ _ r h => by simp [seinelaw11_SuffixGreatest.l0] at h⟩
  | k + 1 => by
    obtain ⟨ih0, ih1, ih2, ih3⟩ := seinelaw11_SuffixGreatest.mono_l k
    refine ⟨?_, ?_, ?_, ?_⟩
    · intro y0 y1 y2 y3
      unfold seinelaw11_SuffixGreatest.j0
      repeat' first
      | (with_reducible exact ih0 _ _ _ _)
      | (with_reducible exact ih1 _ _ _ _ _ _)
      | (with_reducible exact ih2 _ _ _ _)
      | (with_reducible exact ih3 _ _ _ _)
      | (with_reducible exact seinelaw11_awake.mono _)
      | (with_reducible exact seineref11_Less.mono _ _ _ _)
      | (with_reducible exact suffix_Period.mono _ _)
      | (with_reducible exact LeO.refl _)
      | (with_reducible exact LeO.none _)
      | (with_reducible refine LeO.ite ?_ ?_)
      | (with_reducible refine LeO.bind ?_ (fun _ => ?_))
      | exact ih0 _ _ _ _
      | exact ih1 _ _ _ _ _ _
      | exact ih2 _ _ _ _
      | exact ih3 _ _ _ _
      | exact seinelaw11_awake.mono _
      | exact seineref11_Less.mono _ _ _ _
      | exact suffix_Period.mono _ _
      | exact LeO.none _
      | refine LeO.ite ?_ ?_
      | refine LeO.bind ?_ (fun _ => ?_)
    · intro y0 y1 y2 y3 y4 y5
      unfold seinelaw11_SuffixGreatest.j1
      repeat' first
      | (with_reducible exact ih0 _ _ _ _)
      | (with_reducible exact ih1 _ _ _ _ _ _)
      | (with_reducible exact ih2 _ _ _ _)
      | (with_reducible exact ih3 _ _ _ _)
      | (with_reducible exact seinelaw11_awake.mono _)
      | (with_reducible exact seineref11_Less.mono _ _ _ _)
      | (with_reducible exact suffix_Period.mono _ _)
      | (with_reducible exact LeO.refl _)
      | (with_reducible exact LeO.none _)
      | (with_reducible refine LeO.ite ?_ ?_)
      | (with_reducible refine LeO.bind ?_ (fun _ => ?_))
      | exact ih0 _ _ _ _
      | exact ih1 _ _ _ _ _ _
      | exact ih2 _ _ _ _
      | exact ih3 _ _ _ _
      | exact seinelaw11_awake.mono _
      | exact seineref11_Less.mono _ _ _ _
      | exact suffix_Period.mono _ _
      | exact LeO.none _
      | refine LeO.ite ?_ ?_
      | refine LeO.bind ?_ (fun _ => ?_)
    · intro y0 y1 y2 y3
      unfold seinelaw11_SuffixGreatest.j2
      repeat' first
      | (with_reducible exact ih0 _ _ _ _)
      | (with_reducible exact ih1 _ _ _ _ _ _)
      | (with_reducible exact ih2 _ _ _ _)
      | (with_reducible exact ih3 _ _ _ _)
      | (with_reducible exact seinelaw11_awake.mono _)
      | (with_reducible exact seineref11_Less.mono _ _ _ _)
      | (with_reducible exact suffix_Period.mono _ _)
      | (with_reducible exact LeO.refl _)
      | (with_reducible exact LeO.none _)
      | (with_reducible refine LeO.ite ?_ ?_)
      | (with_reducible refine LeO.bind ?_ (fun _ => ?_))
      | exact ih0 _ _ _ _
      | exact ih1 _ _ _ _ _ _
      | exact ih2 _ _ _ _
      | exact ih3 _ _ _ _
      | exact seinelaw11_awake.mono _
      | exact seineref11_Less.mono _ _ _ _
      | exact suffix_Period.mono _ _
      | exact LeO.none _
      | refine LeO.ite ?_ ?_
      | refine LeO.bind ?_ (fun _ => ?_)
    · intro y0 y1 y2 y3
      unfold seinelaw11_SuffixGreatest.l0
      repeat' first
      | (with_reducible exact ih0 _ _ _ _)
      | (with_reducible exact ih1 _ _ _ _ _ _)
      | (with_reducible exact ih2 _ _ _ _)
      | (with_reducible exact ih3 _ _ _ _)
      | (with_reducible exact seinelaw11_awake.mono _)
      | (with_reducible exact seineref11_Less.mono _ _ _ _)
      | (with_reducible exact suffix_Period.mono _ _)
      | (with_reducible exact LeO.refl _)
      | (with_reducible exact LeO.none _)
      | (with_reducible refine LeO.ite ?_ ?_)
      | (with_reducible refine LeO.bind ?_ (fun _ => ?_))
      | exact ih0 _ _ _ _
      | exact ih1 _ _ _ _ _ _
      | exact ih2 _ _ _ _
      | exact ih3 _ _ _ _
      | exact seinelaw11_awake.mono _
      | exact seineref11_Less.mono _ _ _ _
      | exact suffix_Period.mono _ _
      | exact LeO.none _
      | refine LeO.ite ?_ ?_
      | refine LeO.bind ?_ (fun _ => ?_)
theorem seinelaw11_SuffixGreatest.mono : ∀ a0 a1 a2 k, LeO (seinelaw11_SuffixGreatest.f k a0 a1 a2) (seinelaw11_SuffixGreatest.f (k + 1) a0 a1 a2) := by
  intro a0 a1 a2 k
  obtain ⟨ih0, ih1, ih2, ih3⟩ := seinelaw11_SuffixGreatest.mono_l k
  unfold seinelaw11_SuffixGreatest.f
  repeat' first
      | (with_reducible exact ih0 _ _ _ _)
      | (with_reducible exact ih1 _ _ _ _ _ _)
      | (with_reducible exact ih2 _ _ _ _)
      | (with_reducible exact ih3 _ _ _ _)
      | (with_reducible exact seinelaw11_awake.mono _)
      | (with_reducible exact seineref11_Less.mono _ _ _ _)
      | (with_reducible exact suffix_Period.mono _ _)
      | (with_reducible exact LeO.refl _)
      | (with_reducible exact LeO.none _)
      | (with_reducible refine LeO.ite ?_ ?_)
      | (with_reducible refine LeO.bind ?_ (fun _ => ?_))
      | exact ih0 _ _ _ _
      | exact ih1 _ _ _ _ _ _
      | exact ih2 _ _ _ _
      | exact ih3 _ _ _ _
      | exact seinelaw11_awake.mono _
      | exact seineref11_Less.mono _ _ _ _
      | exact suffix_Period.mono _ _
      | exact LeO.none _
      | refine LeO.ite ?_ ?_
      | refine LeO.bind ?_ (fun _ => ?_)
set_option maxHeartbeats 8000000 in
set_option maxRecDepth 100000 in
theorem seinelaw11_SuffixGreatest.calls (k : Nat) (A0 : Option Addr) (c0 : Nat) (l0 : List Int) (a1 : Bool) (a2 : Int) (r : Bool) (w : World) (hr0 : Kd.C (Kd.int .u8) w A0 l0.length l0) (hc0 : l0.length ≤ c0) (h : seinelaw11_SuffixGreatest.f k l0 a1 a2 = some r) :
    Calls Try.prog 9 #[.slice A0 l0.length c0, .bool a1, .int .u16 a2] w fun e w' => e = .returned (.bool r) ∧ Below w.heap.size w w' := by
  have HR0 := Aside0.mk hr0
  have HC0 := Aside0.mk hc0
  clear hr0 hc0
  have HB := Aside0.mk (Below.refl w.heap.size w)
  have H : ((seinelaw11_awake.f k).bind fun t159 => (if t159 = true then (if (l0.length : Int) > 400 then (seinelaw11_SuffixGreatest.j0 k l0 a1 a2 true) else (seinelaw11_SuffixGreatest.j0 k l0 a1 a2 ((l0.length : Int) == 0))) else (some false))) = some r := h
  clear h
  replace H := Option.bind_eq_some_iff.mp H
  obtain ⟨t159, A40, H⟩ := H
  replace H : (if t159 = true then (if (l0.length : Int) > 400 then (seinelaw11_SuffixGreatest.j0 k l0 a1 a2 true) else (seinelaw11_SuffixGreatest.j0 k l0 a1 a2 ((l0.length : Int) == 0))) else (some false)) = some r := H
  have A4 := Aside0.mk A40
  clear A40
  by_cases c5 : t159 = true
  · subst c5
    have H1 : (if (l0.length : Int) > 400 then (seinelaw11_SuffixGreatest.j0 k l0 a1 a2 true) else (seinelaw11_SuffixGreatest.j0 k l0 a1 a2 ((l0.length : Int) == 0))) = some r := by rw [if_pos rfl] at H; exact H
    clear H
    have H := H1
    clear H1
    have HC6 := Aside0.mk H
    clear H
    go_enter Try.func9, Try.ntmps9
    go_upto_region 4 with (first | (go_at_call 19; (with_reducible refine (seinelaw11_awake.calls k  true _ A4.out).mono ?_); rintro e w7 ⟨rfl, hb⟩; have n0_ := Aside0.mk (below_step (by repeat (first | (with_reducible first | exact HB.out | apply below_alloc | apply pw_below_drewN | apply below_drew1) | exact HB.out)) hb); clear HB; have HB := n0_; clear n0_; (try clear hb); (try clear hb2); (try clear hk); (try clear hi)))
    repeat (go_quiet (first | (go_at_call 19; (with_reducible refine (seinelaw11_awake.calls k  true _ A4.out).mono ?_); rintro e w7 ⟨rfl, hb⟩; have n0_ := Aside0.mk (below_step (by repeat (first | (with_reducible first | exact HB.out | apply below_alloc | apply pw_below_drewN | apply below_drew1) | exact HB.out)) hb); clear HB; have HB := n0_; clear n0_; (try clear hb); (try clear hb2); (try clear hk); (try clear hi))); go_upto_region 4 with (first | (go_at_call 19; (with_reducible refine (seinelaw11_awake.calls k  true _ A4.out).mono ?_); rintro e w7 ⟨rfl, hb⟩; have n0_ := Aside0.mk (below_step (by repeat (first | (with_reducible first | exact HB.out | apply below_alloc | apply pw_below_drewN | apply below_drew1) | exact HB.out)) hb); clear HB; have HB := n0_; clear n0_; (try clear hb); (try clear hb2); (try clear hk); (try clear hi))))
    (try simp only [Act.put, List.setIfInBounds_toArray, List.set_cons_zero, List.set_cons_succ])
    go_cut [22] (fun v22 wc => ∃ (kq : Nat) (x22_5 : Bool), v22 = .bool x22_5 ∧ Aside0 (seinelaw11_SuffixGreatest.j0 kq l0 a1 a2 x22_5 = some r) ∧ Aside0 (kq ≤ k) ∧ Aside0 (Below w.heap.size w wc))
    case first =>
      have H := HC6.out
      clear HC6
      by_cases c8 : (l0.length : Int) > 400
      · rw [if_pos c8] at H
        have c8b0 : decide (400 < (l0.length : Int)) = true := decide_eq_true c8
        have c8b1 : decide (400 < l0.length) = true := decide_eq_true (by omega)
        clear c8
        (first | rw [c8b0] | (simp only [i64_w, i32_w]; rw [c8b0]) | skip)
        have H' := Aside0.mk H
        clear H
        go_wp2
        repeat (go_quiet (fail); try go_wp2)
        go_meet
        case rel => exact ⟨_, (true), (by first | rfl | (simp; done) | (simp [*]; done)), H', ⟨by first | omega | exact Nat.le_refl _⟩, ⟨by repeat (first | (with_reducible first | exact HB.out | apply below_alloc | apply pw_below_drewN | apply below_drew1) | exact HB.out)⟩⟩
      · rw [if_neg c8] at H
        have c8b0 : decide (400 < (l0.length : Int)) = false := decide_eq_false c8
        have c8b1 : decide (400 < l0.length) = false := decide_eq_false (by omega)
        clear c8
        (first | rw [c8b0] | (simp only [i64_w, i32_w]; rw [c8b0]) | skip)
        have H' := Aside0.mk H
        clear H
        go_wp2
        repeat (go_quiet (fail); try go_wp2)
        go_meet
        case rel => exact ⟨_, (((l0.length : Int) == 0)), (by first | rfl | (simp; done) | (simp [*]; done)), H', ⟨by first | omega | exact Nat.le_refl _⟩, ⟨by repeat (first | (with_reducible first | exact HB.out | apply below_alloc | apply pw_below_drewN | apply below_drew1) | exact HB.out)⟩⟩
    case rest =>
      clear HC6
      try clear p2
      try clear c5
      try clear c8
      try clear c8b0
      try clear c8b1
      obtain ⟨kq, x22_5, rfl, HA, HJ5, HB⟩ := hcut
      cases kq with
      | zero => exact absurd HA.out (by simp [seinelaw11_SuffixGreatest.j0])
      | succ kj5 =>
        have H := HA.out
        clear HA
        simp only [seinelaw11_SuffixGreatest.j0] at H
        by_cases c9 : x22_5 = true
        · subst c9
          have H1 : (some true) = some r := by rw [if_pos rfl] at H; exact H
          clear H
          have H := H1
          clear H1
          obtain rfl := Option.some.inj H
          go_wp2
          repeat (go_quiet (fail); try go_wp2)
          go_ret
          exact ⟨by first | rfl | (simp [errW_none, errW_some] <;> rfl) | (simp [*, errW_none, errW_some] <;> rfl), by repeat (first | (with_reducible first | exact HB.out | apply below_alloc | apply pw_below_drewN | apply below_drew1) | exact HB.out)⟩
        · replace c9 := Bool.eq_false_iff.mpr c9
          subst c9
          have H1 : ((suffix_Max.f l0 a1).bind fun bt160 => (if bt160.1 < 0 then (seinelaw11_SuffixGreatest.j1 kj5 l0 a1 a2 bt160.1 bt160.2 true) else (if bt160.1 ≥ (l0.length : Int) then (seinelaw11_SuffixGreatest.j1 kj5 l0 a1 a2 bt160.1 bt160.2 true) else (if bt160.2 < 1 then (seinelaw11_SuffixGreatest.j1 kj5 l0 a1 a2 bt160.1 bt160.2 true) else (seinelaw11_SuffixGreatest.j1 kj5 l0 a1 a2 bt160.1 bt160.2 (decide (bt160.2 > (wrap64 ((l0.length : Int) - bt160.1))))))))) = some r := by rw [if_neg (show ¬ (false = true) by decide)] at H; exact H
          clear H
          have H := H1
          clear H1
          replace H := Option.bind_eq_some_iff.mp H
          obtain ⟨⟨t160, t161⟩, A100, H⟩ := H
          replace H : (if t160 < 0 then (seinelaw11_SuffixGreatest.j1 kj5 l0 a1 a2 t160 t161 true) else (if t160 ≥ (l0.length : Int) then (seinelaw11_SuffixGreatest.j1 kj5 l0 a1 a2 t160 t161 true) else (if t161 < 1 then (seinelaw11_SuffixGreatest.j1 kj5 l0 a1 a2 t160 t161 true) else (seinelaw11_SuffixGreatest.j1 kj5 l0 a1 a2 t160 t161 (decide (t161 > (wrap64 ((l0.length : Int) - t160)))))))) = some r := H
          have A10 := Aside0.mk A100
          clear A100
          have HC11 := Aside0.mk H
          clear H
          go_upto_region 7 with (first | (go_at_call 20; (with_reducible refine (suffix_Max.calls _ _ l0 a1 t160 t161 _ ?side1 ?side2 A10.out).mono ?_); (case side1 => repeat (first | exact (Kd.C_below HR0.out HB.out) | (with_reducible refine Kd.C_alloc ?_ _) | (with_reducible refine Kd.C_drewN ?_ _) | (with_reducible refine Kd.C_drew ?_))); (case side2 => exact HC0.out); rintro e w12 ⟨rfl, hb⟩; have n0_ := Aside0.mk (below_step (by repeat (first | (with_reducible first | exact HB.out | apply below_alloc | apply pw_below_drewN | apply below_drew1) | exact HB.out)) hb); clear HB; have HB := n0_; clear n0_; (try clear hb); (try clear hb2); (try clear hk); (try clear hi)))
          repeat (go_quiet (first | (go_at_call 20; (with_reducible refine (suffix_Max.calls _ _ l0 a1 t160 t161 _ ?side1 ?side2 A10.out).mono ?_); (case side1 => repeat (first | exact (Kd.C_below HR0.out HB.out) | (with_reducible refine Kd.C_alloc ?_ _) | (with_reducible refine Kd.C_drewN ?_ _) | (with_reducible refine Kd.C_drew ?_))); (case side2 => exact HC0.out); rintro e w12 ⟨rfl, hb⟩; have n0_ := Aside0.mk (below_step (by repeat (first | (with_reducible first | exact HB.out | apply below_alloc | apply pw_below_drewN | apply below_drew1) | exact HB.out)) hb); clear HB; have HB := n0_; clear n0_; (try clear hb); (try clear hb2); (try clear hk); (try clear hi))); go_upto_region 7 with (first | (go_at_call 20; (with_reducible refine (suffix_Max.calls _ _ l0 a1 t160 t161 _ ?side1 ?side2 A10.out).mono ?_); (case side1 => repeat (first | exact (Kd.C_below HR0.out HB.out) | (with_reducible refine Kd.C_alloc ?_ _) | (with_reducible refine Kd.C_drewN ?_ _) | (with_reducible refine Kd.C_drew ?_))); (case side2 => exact HC0.out); rintro e w12 ⟨rfl, hb⟩; have n0_ := Aside0.mk (below_step (by repeat (first | (with_reducible first | exact HB.out | apply below_alloc | apply pw_below_drewN | apply below_drew1) | exact HB.out)) hb); clear HB; have HB := n0_; clear n0_; (try clear hb); (try clear hb2); (try clear hk); (try clear hi))))
          (try simp only [Act.put, List.setIfInBounds_toArray, List.set_cons_zero, List.set_cons_succ])
          go_cut [48] (fun v48 wc => ∃ (kq : Nat) (x48_10 : Bool), v48 = .bool x48_10 ∧ Aside0 (seinelaw11_SuffixGreatest.j1 kq l0 a1 a2 t160 t161 x48_10 = some r) ∧ Aside0 (kq ≤ kj5) ∧ Aside0 (Below w.heap.size w wc))
          case first =>
            have H := HC11.out
            clear HC11
            by_cases c13 : t160 < 0
            · rw [if_pos c13] at H
              have c13b0 : decide (t160 < 0) = true := decide_eq_true c13
              clear c13
              (first | rw [c13b0] | (simp only [i64_w, i32_w]; rw [c13b0]) | skip)
              have H' := Aside0.mk H
              clear H
              go_wp2
              repeat (go_quiet (fail); try go_wp2)
              go_meet
              case rel => exact ⟨_, (true), (by first | rfl | (simp; done) | (simp [*]; done)), H', ⟨by have := HJ5.out; first | omega | exact Nat.le_refl _⟩, ⟨by repeat (first | (with_reducible first | exact HB.out | apply below_alloc | apply pw_below_drewN | apply below_drew1) | exact HB.out)⟩⟩
            · rw [if_neg c13] at H
              have c13b0 : decide (t160 < 0) = false := decide_eq_false c13
              clear c13
              (first | rw [c13b0] | (simp only [i64_w, i32_w]; rw [c13b0]) | skip)
              by_cases c14 : t160 ≥ (l0.length : Int)
              · rw [if_pos c14] at H
                have c14b0 : decide ((l0.length : Int) ≤ t160) = true := decide_eq_true c14
                clear c14
                have H' := Aside0.mk H
                clear H
                go_wp2
                repeat (go_quiet (fail); try go_wp2)
                go_meet
                case rel => exact ⟨_, (true), (by first | rfl | (simp; done) | (simp [*]; done)), H', ⟨by have := HJ5.out; first | omega | exact Nat.le_refl _⟩, ⟨by repeat (first | (with_reducible first | exact HB.out | apply below_alloc | apply pw_below_drewN | apply below_drew1) | exact HB.out)⟩⟩
              · rw [if_neg c14] at H
                have c14b0 : decide ((l0.length : Int) ≤ t160) = false := decide_eq_false c14
                clear c14
                by_cases c15 : t161 < 1
                · rw [if_pos c15] at H
                  have c15b0 : decide (t161 < 1) = true := decide_eq_true c15
                  clear c15
                  have H' := Aside0.mk H
                  clear H
                  go_wp2
                  repeat (go_quiet (fail); try go_wp2)
                  go_meet
                  case rel => exact ⟨_, (true), (by first | rfl | (simp; done) | (simp [*]; done)), H', ⟨by have := HJ5.out; first | omega | exact Nat.le_refl _⟩, ⟨by repeat (first | (with_reducible first | exact HB.out | apply below_alloc | apply pw_below_drewN | apply below_drew1) | exact HB.out)⟩⟩
                · rw [if_neg c15] at H
                  have c15b0 : decide (t161 < 1) = false := decide_eq_false c15
                  clear c15
                  have H' := Aside0.mk H
                  clear H
                  go_wp2
                  repeat (go_quiet (fail); try go_wp2)
                  go_meet
                  case rel => exact ⟨_, (decide (t161 > (wrap64 ((l0.length : Int) - t160)))), (by first | rfl | (simp; done) | (simp [*]; done)), H', ⟨by have := HJ5.out; first | omega | exact Nat.le_refl _⟩, ⟨by repeat (first | (with_reducible first | exact HB.out | apply below_alloc | apply pw_below_drewN | apply below_drew1) | exact HB.out)⟩⟩
          case rest =>
            clear HC11
            try clear c1
            try clear p2
            try clear c5
            try clear p6
            try clear c8
            try clear c8b0
            try clear c8b1
            try clear c9
            try clear c13
            try clear c13b0
            try clear c14
            try clear c14b0
            try clear c15
            try clear c15b0
            try clear p2
            obtain ⟨kq, x48_10, rfl, HA, HJ10, HB⟩ := hcut
            cases kq with
            | zero => exact absurd HA.out (by simp [seinelaw11_SuffixGreatest.j1])
            | succ kj10 =>
              have H := HA.out
              clear HA
              simp only [seinelaw11_SuffixGreatest.j1] at H
              by_cases c16 : x48_10 = true
              · subst c16
                have H1 : (some false) = some r := by rw [if_pos rfl] at H; exact H
                clear H
                have H := H1
                clear H1
                obtain rfl := Option.some.inj H
                go_wp2
                repeat (go_quiet (fail); try go_wp2)
                go_ret
                exact ⟨by first | rfl | (simp [errW_none, errW_some] <;> rfl) | (simp [*, errW_none, errW_some] <;> rfl), by repeat (first | (with_reducible first | exact HB.out | apply below_alloc | apply pw_below_drewN | apply below_drew1) | exact HB.out)⟩
              · replace c16 := Bool.eq_false_iff.mpr c16
                subst c16
                have H1 : (if (l0.length : Int) = 0 then (none) else (if (Int.tmod (wrap64 (a2)) (l0.length : Int)) = t160 then (seinelaw11_SuffixGreatest.j2 kj10 l0 t160 t161 false) else (if 0 ≤ (Int.tmod (wrap64 (a2)) (l0.length : Int)) then (if (Int.tmod (wrap64 (a2)) (l0.length : Int)) ≤ (l0.length : Int) then (if 0 ≤ t160 then (if t160 ≤ (l0.length : Int) then ((seineref11_Less.f kj10 (strOfNums (l0.drop ((Int.tmod (wrap64 (a2)) (l0.length : Int)) : Int).toNat)) (strOfNums (l0.drop (t160 : Int).toNat)) a1).bind fun t164 => (seinelaw11_SuffixGreatest.j2 kj10 l0 t160 t161 (!t164))) else (none)) else (none)) else (none)) else (none)))) = some r := by rw [if_neg (show ¬ (false = true) by decide)] at H; exact H
                clear H
                have H := H1
                clear H1
                by_cases c17 : (l0.length : Int) = 0
                · rw [if_pos c17] at H
                  exact absurd H (by simp)
                · rw [if_neg c17] at H
                  have c17b0 : ((l0.length : Int) == 0) = false := beq_eq_false_iff_ne.mpr c17
                  have c17b1 : ((l0.length : Int) != 0) = true := bne_iff_ne.mpr c17
                  have c17b2 : ¬ (l0 = []) := fun h_ => c17 (by rw [h_]; rfl)
                  have HC18 := Aside0.mk H
                  clear H
                  go_upto_region 10 with (fail)
                  repeat (go_quiet (fail); go_upto_region 10 with (fail))
                  go_cut [69] (fun v69 wc => ∃ (kq : Nat) (x69_17 : Bool), v69 = .bool x69_17 ∧ Aside0 (seinelaw11_SuffixGreatest.j2 kq l0 t160 t161 x69_17 = some r) ∧ Aside0 (kq ≤ kj10) ∧ Aside0 (Below w.heap.size w wc))
                  case first =>
                    have H := HC18.out
                    clear HC18
                    by_cases c19 : (Int.tmod (wrap64 (a2)) (l0.length : Int)) = t160
                    · rw [if_pos c19] at H
                      have c19b0 : ((Int.tmod (wrap64 (a2)) (l0.length : Int)) == t160) = true := beq_iff_eq.mpr c19
                      have c19b1 : ((Int.tmod (wrap64 (a2)) (l0.length : Int)) != t160) = false := bne_eq_false_iff_eq.mpr c19
                      clear c19
                      (first | rw [c19b0] | (simp only [i64_w, i32_w]; rw [c19b0]) | skip)
                      have H' := Aside0.mk H
                      clear H
                      go_wp2
                      repeat (go_quiet (fail); try go_wp2)
                      go_meet
                      case rel => exact ⟨_, (false), (by first | rfl | (simp; done) | (simp [*]; done)), H', ⟨by have := HJ5.out; have := HJ10.out; first | omega | exact Nat.le_refl _⟩, ⟨by repeat (first | (with_reducible first | exact HB.out | apply below_alloc | apply pw_below_drewN | apply below_drew1) | exact HB.out)⟩⟩
                    · rw [if_neg c19] at H
                      have c19b0 : ((Int.tmod (wrap64 (a2)) (l0.length : Int)) == t160) = false := beq_eq_false_iff_ne.mpr c19
                      have c19b1 : ((Int.tmod (wrap64 (a2)) (l0.length : Int)) != t160) = true := bne_iff_ne.mpr c19
                      (first | rw [c19b0] | (simp only [i64_w, i32_w]; rw [c19b0]) | skip)
                      obtain ⟨ji20, hji20⟩ : ∃ j_ : Int, (Int.tmod (wrap64 (a2)) (l0.length : Int)) = j_ := ⟨_, rfl⟩
                      replace H : (if 0 ≤ (ji20) then (if (ji20) ≤ (l0.length : Int) then (if 0 ≤ t160 then (if t160 ≤ (l0.length : Int) then ((seineref11_Less.f kj10 (strOfNums (l0.drop ((ji20) : Int).toNat)) (strOfNums (l0.drop (t160 : Int).toNat)) a1).bind fun t164 => (seinelaw11_SuffixGreatest.j2 kj10 l0 t160 t161 (!t164))) else (none)) else (none)) else (none)) else (none)) = some r := by first | (rw [hji20] at H; exact H) | (simp only [hji20] at H ⊢; exact H)
                      (try rw [hji20] at c19b0)
                      (try rw [hji20] at c19b1)
                      by_cases c21 : 0 ≤ (ji20)
                      · rw [if_pos c21] at H
                        have c21b0 := eq_true c21
                        have c21b1 : decide (0 ≤ (ji20)) = true := decide_eq_true c21
                        clear c21
                        by_cases c22 : (ji20) ≤ (l0.length : Int)
                        · rw [if_pos c22] at H
                          have c22b0 := eq_true c22
                          have c22b1 : decide ((ji20) ≤ (l0.length : Int)) = true := decide_eq_true c22
                          clear c22
                          by_cases c23 : 0 ≤ t160
                          · rw [if_pos c23] at H
                            have c23b0 := eq_true c23
                            have c23b1 : decide (0 ≤ t160) = true := decide_eq_true c23
                            clear c23
                            by_cases c24 : t160 ≤ (l0.length : Int)
                            · rw [if_pos c24] at H
                              have c24b0 := eq_true c24
                              have c24b1 : decide (t160 ≤ (l0.length : Int)) = true := decide_eq_true c24
                              clear c24
                              replace H := Option.bind_eq_some_iff.mp H
                              obtain ⟨t164, A250, H⟩ := H
                              replace H : (seinelaw11_SuffixGreatest.j2 kj10 l0 t160 t161 (!t164)) = some r := H
                              have A25 := Aside0.mk A250
                              clear A250
                              have H' := Aside0.mk H
                              clear H
                              obtain ⟨i026, hi026, _, hsz26, _⟩ := info_parts info5
                              obtain ⟨A26, hcut26, hA26, hC26⟩ := print_drop_of (P := Try.prog) (Value.int .u8) 0 22 5 .i64 Try.underlying22 hi026 hsz26 A0 c0 l0 (ji20) (of_decide_eq_true (by first | (with_reducible assumption) | assumption)) (of_decide_eq_true (by first | (with_reducible assumption) | assumption)) HC0.out
                              have HR162 := Aside0.mk (Kd.C_of_reads (h1 := fun _ => rfl) (hA26 _ (Kd.reads_of_C HR0.out)))
                              have HC162 := Aside0.mk hC26
                              clear hA26 hC26 hi026 hsz26
                              have hcv27 := Kd.C_string (P := Try.prog) (A := A26) (c := (c0 - (ji20).toNat)) Try.underlying22 Try.underlying5 Try.underlying9 (Kd.C_below HR162.out HB.out)
                              have hcvd27 := fun m_ : Nat => Kd.C_string (P := Try.prog) (A := A26) (c := (c0 - (ji20).toNat)) Try.underlying22 Try.underlying5 Try.underlying9 (Kd.C_drewN ((Kd.C_below HR162.out HB.out)) m_)
                              have hcve27 := hcvd27
                              (try rw [show (l0.drop ((ji20) : Int).toNat).length = (l0.length - (ji20).toNat) from List.length_drop] at hcve27)
                              obtain ⟨i028, hi028, _, hsz28, _⟩ := info_parts info5
                              obtain ⟨A28, hcut28, hA28, hC28⟩ := print_drop_of (P := Try.prog) (Value.int .u8) 0 22 5 .i64 Try.underlying22 hi028 hsz28 A0 c0 l0 t160 (of_decide_eq_true (by first | (with_reducible assumption) | assumption)) (of_decide_eq_true (by first | (with_reducible assumption) | assumption)) HC0.out
                              have HR163 := Aside0.mk (Kd.C_of_reads (h1 := fun _ => rfl) (hA28 _ (Kd.reads_of_C HR0.out)))
                              have HC163 := Aside0.mk hC28
                              clear hA28 hC28 hi028 hsz28
                              have hcv29 := Kd.C_string (P := Try.prog) (A := A28) (c := (c0 - t160.toNat)) Try.underlying22 Try.underlying5 Try.underlying9 (Kd.C_below HR163.out HB.out)
                              have hcvd29 := fun m_ : Nat => Kd.C_string (P := Try.prog) (A := A28) (c := (c0 - t160.toNat)) Try.underlying22 Try.underlying5 Try.underlying9 (Kd.C_drewN ((Kd.C_below HR163.out HB.out)) m_)
                              have hcve29 := hcvd29
                              (try rw [show (l0.drop (t160 : Int).toNat).length = (l0.length - t160.toNat) from List.length_drop] at hcve29)
                              go_wp2_with (first | (go_at_call 28; (with_reducible refine (seineref11_Less.calls kj10 (strOfNums (l0.drop ((ji20) : Int).toNat)) (strOfNums (l0.drop (t160 : Int).toNat)) a1 t164 _ A25.out).mono ?_); rintro e w' ⟨rfl, ⟨nd, rfl⟩⟩; (try first | exact ⟨rfl, _, World.drewN_drewN _ _ _⟩ | exact ⟨rfl, _, Eq.trans (World.drewN_drewN _ _ _) (congrArg (World.drewN _) (Nat.add_assoc _ _ _))⟩)))
                              repeat (go_quiet (first | (go_at_call 28; (with_reducible refine (seineref11_Less.calls kj10 (strOfNums (l0.drop ((ji20) : Int).toNat)) (strOfNums (l0.drop (t160 : Int).toNat)) a1 t164 _ A25.out).mono ?_); rintro e w' ⟨rfl, ⟨nd, rfl⟩⟩; (try first | exact ⟨rfl, _, World.drewN_drewN _ _ _⟩ | exact ⟨rfl, _, Eq.trans (World.drewN_drewN _ _ _) (congrArg (World.drewN _) (Nat.add_assoc _ _ _))⟩))); try go_wp2_with (first | (go_at_call 28; (with_reducible refine (seineref11_Less.calls kj10 (strOfNums (l0.drop ((ji20) : Int).toNat)) (strOfNums (l0.drop (t160 : Int).toNat)) a1 t164 _ A25.out).mono ?_); rintro e w' ⟨rfl, ⟨nd, rfl⟩⟩; (try first | exact ⟨rfl, _, World.drewN_drewN _ _ _⟩ | exact ⟨rfl, _, Eq.trans (World.drewN_drewN _ _ _) (congrArg (World.drewN _) (Nat.add_assoc _ _ _))⟩))))
                              go_meet
                              case rel => exact ⟨_, (!t164), (by first | rfl | (simp; done) | (simp [*]; done)), H', ⟨by have := HJ5.out; have := HJ10.out; first | omega | exact Nat.le_refl _⟩, ⟨by repeat (first | (with_reducible first | exact HB.out | apply below_alloc | apply pw_below_drewN | apply below_drew1) | exact HB.out)⟩⟩
                            · rw [if_neg c24] at H
                              exact absurd H (by simp)
                          · rw [if_neg c23] at H
                            exact absurd H (by simp)
                        · rw [if_neg c22] at H
                          exact absurd H (by simp)
                      · rw [if_neg c21] at H
                        exact absurd H (by simp)
                  case rest =>
                    clear HC18
                    try clear c1
                    try clear c2
                    try clear p2
                    try clear hcv2
                    try clear c5
                    try clear p6
                    try clear c8
                    try clear c8b0
                    try clear c8b1
                    try clear c9
                    try clear c13
                    try clear c13b0
                    try clear c14
                    try clear c14b0
                    try clear c15
                    try clear c15b0
                    try clear c16
                    try clear c17
                    try clear c17b0
                    try clear c17b1
                    try clear c17b2
                    try clear c19
                    try clear c19b0
                    try clear c19b1
                    try clear c21
                    try clear c21b0
                    try clear c21b1
                    try clear c22
                    try clear c22b0
                    try clear c22b1
                    try clear c23
                    try clear c23b0
                    try clear c23b1
                    try clear c24
                    try clear c24b0
                    try clear c24b1
                    try clear hcv27
                    try clear hcv29
                    try clear p2
                    try clear p6
                    obtain ⟨kq, x69_17, rfl, HA, HJ17, HB⟩ := hcut
                    cases kq with
                    | zero => exact absurd HA.out (by simp [seinelaw11_SuffixGreatest.j2])
                    | succ kj17 =>
                      have H := HA.out
                      clear HA
                      simp only [seinelaw11_SuffixGreatest.j2] at H
                      by_cases c30 : x69_17 = true
                      · subst c30
                        have H1 : (some false) = some r := by rw [if_pos rfl] at H; exact H
                        clear H
                        have H := H1
                        clear H1
                        obtain rfl := Option.some.inj H
                        go_wp2
                        repeat (go_quiet (fail); try go_wp2)
                        go_ret
                        exact ⟨by first | rfl | (simp [errW_none, errW_some] <;> rfl) | (simp [*, errW_none, errW_some] <;> rfl), by repeat (first | (with_reducible first | exact HB.out | apply below_alloc | apply pw_below_drewN | apply below_drew1) | exact HB.out)⟩
                      · replace c30 := Bool.eq_false_iff.mpr c30
                        subst c30
                        have H1 : (seinelaw11_SuffixGreatest.l0 kj17 l0 t160 t161 t160) = some r := by rw [if_neg (show ¬ (false = true) by decide)] at H; exact H
                        clear H
                        have H := H1
                        clear H1
                        have H' := Aside0.mk H
                        clear H
                        go_wp2
                        repeat (go_quiet (fail); try go_wp2)
                        go_loopg [11] kj17 (fun kq v11 w' => ∃ (x11_4 : Int), v11 = .int .i64 x11_4 ∧ Aside0 (seinelaw11_SuffixGreatest.l0 kq l0 t160 t161 x11_4 = some r) ∧ Aside0 (kq ≤ kj17) ∧ Aside0 (Below w.heap.size w w'))
                        case atStart => exact ⟨(t160), (by first | rfl | (simp; done) | (simp [*]; done)), H', ⟨Nat.le_refl _⟩, ⟨by repeat (first | (with_reducible first | exact HB.out | apply below_alloc | apply pw_below_drewN | apply below_drew1) | exact HB.out)⟩⟩
                        case round =>
                          clear H'
                          try clear c1
                          try clear c2
                          try clear p2
                          try clear hcv2
                          try clear c3
                          try clear c5
                          try clear p6
                          try clear c8
                          try clear c8b0
                          try clear c8b1
                          try clear c9
                          try clear c13
                          try clear c13b0
                          try clear c14
                          try clear c14b0
                          try clear c15
                          try clear c15b0
                          try clear c16
                          try clear c17
                          try clear c17b0
                          try clear c17b1
                          try clear c17b2
                          try clear c19
                          try clear c19b0
                          try clear c19b1
                          try clear c21
                          try clear c21b0
                          try clear c21b1
                          try clear c22
                          try clear c22b0
                          try clear c22b1
                          try clear c23
                          try clear c23b0
                          try clear c23b1
                          try clear c24
                          try clear c24b0
                          try clear c24b1
                          try clear hcv27
                          try clear hcv29
                          try clear c30
                          try clear p2
                          try clear p6
                          obtain ⟨x11_4, rfl, HA, HK4, HB⟩ := hrel
                          cases gk with
                          | zero => exact absurd HA.out (by simp [seinelaw11_SuffixGreatest.l0])
                          | succ k4 =>
                            have H := HA.out
                            clear HA
                            simp only [seinelaw11_SuffixGreatest.l0] at H
                            by_cases c31 : x11_4 < (wrap64 ((l0.length : Int) - t161))
                            · rw [if_pos c31] at H
                              have c31b0 : decide (x11_4 < (wrap64 ((l0.length : Int) - t161))) = true := decide_eq_true c31
                              clear c31
                              by_cases c32 : 0 ≤ x11_4
                              · rw [if_pos c32] at H
                                have c32b0 : decide (0 ≤ x11_4) = true := decide_eq_true c32
                                clear c32
                                by_cases c33 : x11_4 < (l0.length : Int)
                                · rw [if_pos c33] at H
                                  have c33b0 : decide (x11_4 < (l0.length : Int)) = true := decide_eq_true c33
                                  clear c33
                                  obtain ⟨ji34, hji34⟩ : ∃ j_ : Int, (wrap64 (x11_4 + t161)) = j_ := ⟨_, rfl⟩
                                  replace H : (if 0 ≤ (ji34) then (if (ji34) < (l0.length : Int) then (if (rd l0 x11_4) = (rd l0 (ji34)) then (seinelaw11_SuffixGreatest.l0 k4 l0 t160 t161 (wrap64 (x11_4 + 1))) else (some false)) else (none)) else (none)) = some r := by first | (rw [hji34] at H; exact H) | (simp only [hji34] at H ⊢; exact H)
                                  have hji34w : (IntKind.i64.wrap (x11_4 + t161)) = ji34 := (i64_w _).trans hji34
                                  by_cases c35 : 0 ≤ (ji34)
                                  · rw [if_pos c35] at H
                                    have c35b0 : decide (0 ≤ (ji34)) = true := decide_eq_true c35
                                    clear c35
                                    by_cases c36 : (ji34) < (l0.length : Int)
                                    · rw [if_pos c36] at H
                                      have c36b0 : decide ((ji34) < (l0.length : Int)) = true := decide_eq_true c36
                                      clear c36
                                      by_cases c37 : (rd l0 x11_4) = (rd l0 (ji34))
                                      · rw [if_pos c37] at H
                                        have c37b0 : ((rd l0 x11_4) == (rd l0 (ji34))) = true := beq_iff_eq.mpr c37
                                        have c37b1 : ((rd l0 x11_4) != (rd l0 (ji34))) = false := bne_eq_false_iff_eq.mpr c37
                                        clear c37
                                        have H' := Aside0.mk H
                                        clear H
                                        have p165 : 0 ≤ (x11_4 : Int) := of_decide_eq_true (by first | (with_reducible assumption) | assumption)
                                        have q165 : x11_4 < (l0.length : Int) := of_decide_eq_true (by first | (with_reducible assumption) | assumption)
                                        obtain ⟨ad165, e165, hx165_0⟩ := Kd.at_int HR0.out x11_4 p165 q165
                                        cases e165
                                        replace hx165_0 := (HB.out.cell (World.block_lt_of_cell? w _ hx165_0)).trans hx165_0
                                        replace p165 := eq_true p165
                                        replace q165 := eq_true q165
                                        have p166 : 0 ≤ ((ji34) : Int) := of_decide_eq_true (by first | (with_reducible assumption) | assumption)
                                        have q166 : (ji34) < (l0.length : Int) := of_decide_eq_true (by first | (with_reducible assumption) | assumption)
                                        obtain ⟨ad166, e166, hx166_0⟩ := Kd.at_int HR0.out (ji34) p166 q166
                                        obtain rfl : ad165 = ad166 := (by injection e166)
                                        replace hx166_0 := (HB.out.cell (World.block_lt_of_cell? w _ hx166_0)).trans hx166_0
                                        replace p166 := eq_true p166
                                        replace q166 := eq_true q166
                                        go_wp2
                                        repeat (go_quiet (fail); try go_wp2)
                                        go_roundg k4
                                        case measure => have := HJ5.out; have := HJ10.out; have := HJ17.out; have := HK4.out; omega
                                        case rel => exact ⟨(wrap64 (x11_4 + 1)), (by first | rfl | (simp; done) | (simp [*]; done)), H', ⟨by have := HJ5.out; have := HJ10.out; have := HJ17.out; have := HK4.out; omega⟩, ⟨by repeat (first | (with_reducible first | exact HB.out | apply below_alloc | apply pw_below_drewN | apply below_drew1) | exact HB.out)⟩⟩
                                      · rw [if_neg c37] at H
                                        have c37b0 : ((rd l0 x11_4) == (rd l0 (ji34))) = false := beq_eq_false_iff_ne.mpr c37
                                        have c37b1 : ((rd l0 x11_4) != (rd l0 (ji34))) = true := bne_iff_ne.mpr c37
                                        obtain rfl := Option.some.inj H
                                        have p165 : 0 ≤ (x11_4 : Int) := of_decide_eq_true (by first | (with_reducible assumption) | assumption)
                                        have q165 : x11_4 < (l0.length : Int) := of_decide_eq_true (by first | (with_reducible assumption) | assumption)
                                        obtain ⟨ad165, e165, hx165_0⟩ := Kd.at_int HR0.out x11_4 p165 q165
                                        cases e165
                                        replace hx165_0 := (HB.out.cell (World.block_lt_of_cell? w _ hx165_0)).trans hx165_0
                                        replace p165 := eq_true p165
                                        replace q165 := eq_true q165
                                        have p166 : 0 ≤ ((ji34) : Int) := of_decide_eq_true (by first | (with_reducible assumption) | assumption)
                                        have q166 : (ji34) < (l0.length : Int) := of_decide_eq_true (by first | (with_reducible assumption) | assumption)
                                        obtain ⟨ad166, e166, hx166_0⟩ := Kd.at_int HR0.out (ji34) p166 q166
                                        obtain rfl : ad165 = ad166 := (by injection e166)
                                        replace hx166_0 := (HB.out.cell (World.block_lt_of_cell? w _ hx166_0)).trans hx166_0
                                        replace p166 := eq_true p166
                                        replace q166 := eq_true q166
                                        go_wp2
                                        repeat (go_quiet (fail); try go_wp2)
                                        go_ret
                                        exact ⟨by first | rfl | (simp [errW_none, errW_some] <;> rfl) | (simp only [← hji34]; first | rfl | (simp [errW_none, errW_some] <;> rfl)) | (simp [*, errW_none, errW_some] <;> rfl), by repeat (first | (with_reducible first | exact HB.out | apply below_alloc | apply pw_below_drewN | apply below_drew1) | exact HB.out)⟩
                                    · rw [if_neg c36] at H
                                      exact absurd H (by simp)
                                  · rw [if_neg c35] at H
                                    exact absurd H (by simp)
                                · rw [if_neg c33] at H
                                  exact absurd H (by simp)
                              · rw [if_neg c32] at H
                                exact absurd H (by simp)
                            · rw [if_neg c31] at H
                              have c31b0 : decide (x11_4 < (wrap64 ((l0.length : Int) - t161))) = false := decide_eq_false c31
                              clear c31
                              by_cases c38 : 0 ≤ t160
                              · rw [if_pos c38] at H
                                have c38b0 := eq_true c38
                                have c38b1 : decide (0 ≤ t160) = true := decide_eq_true c38
                                clear c38
                                by_cases c39 : t160 ≤ (l0.length : Int)
                                · rw [if_pos c39] at H
                                  have c39b0 := eq_true c39
                                  have c39b1 : decide (t160 ≤ (l0.length : Int)) = true := decide_eq_true c39
                                  clear c39
                                  replace H := Option.bind_eq_some_iff.mp H
                                  obtain ⟨t168, A400, H⟩ := H
                                  replace H : (some (t168 == t161)) = some r := H
                                  have A40 := Aside0.mk A400
                                  clear A400
                                  obtain rfl := Option.some.inj H
                                  obtain ⟨i041, hi041, _, hsz41, _⟩ := info_parts info5
                                  obtain ⟨A41, hcut41, hA41, hC41⟩ := print_drop_of (P := Try.prog) (Value.int .u8) 0 22 5 .i64 Try.underlying22 hi041 hsz41 A0 c0 l0 t160 (of_decide_eq_true (by first | (with_reducible assumption) | assumption)) (of_decide_eq_true (by first | (with_reducible assumption) | assumption)) HC0.out
                                  have HR167 := Aside0.mk (Kd.C_of_reads (h1 := fun _ => rfl) (hA41 _ (Kd.reads_of_C HR0.out)))
                                  have HC167 := Aside0.mk hC41
                                  clear hA41 hC41 hi041 hsz41
                                  go_wp2_with (first | (go_at_call 22; refine calls_of_args (args' := #[.slice A41 (l0.drop (t160 : Int).toNat).length (c0 - t160.toNat)]) (by first | (rw [show (l0.drop (t160 : Int).toNat).length = (l0.length - t160.toNat) from List.length_drop] <;> rfl) | rfl) ?_; (with_reducible refine (suffix_Period.calls k4 _ _ (l0.drop (t160 : Int).toNat) t168 _ ?side1 ?side2 A40.out).mono ?_); (case side1 => repeat (first | exact (Kd.C_below HR167.out HB.out) | (with_reducible refine Kd.C_alloc ?_ _) | (with_reducible refine Kd.C_drewN ?_ _) | (with_reducible refine Kd.C_drew ?_))); (case side2 => exact HC167.out); rintro e w42 ⟨rfl, hb⟩; have n0_ := Aside0.mk (below_step (by repeat (first | (with_reducible first | exact HB.out | apply below_alloc | apply pw_below_drewN | apply below_drew1) | exact HB.out)) hb); clear HB; have HB := n0_; clear n0_; (try clear hb); (try clear hb2); (try clear hk); (try clear hi)))
                                  repeat (go_quiet (first | (go_at_call 22; refine calls_of_args (args' := #[.slice A41 (l0.drop (t160 : Int).toNat).length (c0 - t160.toNat)]) (by first | (rw [show (l0.drop (t160 : Int).toNat).length = (l0.length - t160.toNat) from List.length_drop] <;> rfl) | rfl) ?_; (with_reducible refine (suffix_Period.calls k4 _ _ (l0.drop (t160 : Int).toNat) t168 _ ?side1 ?side2 A40.out).mono ?_); (case side1 => repeat (first | exact (Kd.C_below HR167.out HB.out) | (with_reducible refine Kd.C_alloc ?_ _) | (with_reducible refine Kd.C_drewN ?_ _) | (with_reducible refine Kd.C_drew ?_))); (case side2 => exact HC167.out); rintro e w42 ⟨rfl, hb⟩; have n0_ := Aside0.mk (below_step (by repeat (first | (with_reducible first | exact HB.out | apply below_alloc | apply pw_below_drewN | apply below_drew1) | exact HB.out)) hb); clear HB; have HB := n0_; clear n0_; (try clear hb); (try clear hb2); (try clear hk); (try clear hi))); try go_wp2_with (first | (go_at_call 22; refine calls_of_args (args' := #[.slice A41 (l0.drop (t160 : Int).toNat).length (c0 - t160.toNat)]) (by first | (rw [show (l0.drop (t160 : Int).toNat).length = (l0.length - t160.toNat) from List.length_drop] <;> rfl) | rfl) ?_; (with_reducible refine (suffix_Period.calls k4 _ _ (l0.drop (t160 : Int).toNat) t168 _ ?side1 ?side2 A40.out).mono ?_); (case side1 => repeat (first | exact (Kd.C_below HR167.out HB.out) | (with_reducible refine Kd.C_alloc ?_ _) | (with_reducible refine Kd.C_drewN ?_ _) | (with_reducible refine Kd.C_drew ?_))); (case side2 => exact HC167.out); rintro e w42 ⟨rfl, hb⟩; have n0_ := Aside0.mk (below_step (by repeat (first | (with_reducible first | exact HB.out | apply below_alloc | apply pw_below_drewN | apply below_drew1) | exact HB.out)) hb); clear HB; have HB := n0_; clear n0_; (try clear hb); (try clear hb2); (try clear hk); (try clear hi))))
                                  go_ret
                                  exact ⟨by first | rfl | (simp [errW_none, errW_some] <;> rfl) | (simp [*, errW_none, errW_some] <;> rfl), by repeat (first | (with_reducible first | exact HB.out | apply below_alloc | apply pw_below_drewN | apply below_drew1) | exact HB.out)⟩
                                · rw [if_neg c39] at H
                                  exact absurd H (by simp)
                              · rw [if_neg c38] at H
                                exact absurd H (by simp)
  · replace c5 := Bool.eq_false_iff.mpr c5
    subst c5
    have H1 : (some false) = some r := by rw [if_neg (show ¬ (false = true) by decide)] at H; exact H
    clear H
    have H := H1
    clear H1
    obtain rfl := Option.some.inj H
    go_enter Try.func9, Try.ntmps9
    go_wp2_with (first | (go_at_call 19; (with_reducible refine (seinelaw11_awake.calls k  false _ A4.out).mono ?_); rintro e w43 ⟨rfl, hb⟩; have n0_ := Aside0.mk (below_step (by repeat (first | (with_reducible first | exact HB.out | apply below_alloc | apply pw_below_drewN | apply below_drew1) | exact HB.out)) hb); clear HB; have HB := n0_; clear n0_; (try clear hb); (try clear hb2); (try clear hk); (try clear hi)))
    repeat (go_quiet (first | (go_at_call 19; (with_reducible refine (seinelaw11_awake.calls k  false _ A4.out).mono ?_); rintro e w43 ⟨rfl, hb⟩; have n0_ := Aside0.mk (below_step (by repeat (first | (with_reducible first | exact HB.out | apply below_alloc | apply pw_below_drewN | apply below_drew1) | exact HB.out)) hb); clear HB; have HB := n0_; clear n0_; (try clear hb); (try clear hb2); (try clear hk); (try clear hi))); try go_wp2_with (first | (go_at_call 19; (with_reducible refine (seinelaw11_awake.calls k  false _ A4.out).mono ?_); rintro e w43 ⟨rfl, hb⟩; have n0_ := Aside0.mk (below_step (by repeat (first | (with_reducible first | exact HB.out | apply below_alloc | apply pw_below_drewN | apply below_drew1) | exact HB.out)) hb); clear HB; have HB := n0_; clear n0_; (try clear hb); (try clear hb2); (try clear hk); (try clear hi))))
    go_ret
    exact ⟨by first | rfl | (simp [errW_none, errW_some] <;> rfl) | (simp [*, errW_none, errW_some] <;> rfl), by repeat (first | (with_reducible first | exact HB.out | apply below_alloc | apply pw_below_drewN | apply below_drew1) | exact HB.out)⟩

/-- THE ONE PURE STATEMENT of seinelaw11_SuffixGreatest: yours. -/
def seinelaw11_SuffixGreatest.Pure : Prop := ∀ (l0 : List Int) (a1 : Bool) (a2 : Int), l0.length ≤ maxLen → l0.length * 1 ≤ 140737488351232 → (∀ x ∈ l0, (Lit.int .u8 x).wf = true) → (Lit.int .u16 a2).wf = true → ∃ k, seinelaw11_SuffixGreatest.f k l0 a1 a2 = some true
theorem seinelaw11_SuffixGreatest.walk (P : seinelaw11_SuffixGreatest.Pure) (a0 : Option Addr) (len0 cap0 : Nat) (z0 : List Int) (a1 : Bool) (a2 : Int) (w : World) (w0 : (a0 = none ∧ len0 = 0 ∧ cap0 = 0 ∧ z0 = []) ∨ ∃ x, a0 = some x ∧ len0 ≤ cap0 ∧ cap0 ≤ maxLen ∧ z0.length = cap0 ∧ (∀ i, i < z0.length → w.cell? (x.add i) = some (.int .u8 (z0.getD i 0))) ∧ ∀ n ∈ z0, (Lit.int .u8 n).wf = true) (y0 : len0 * 1 ≤ 140737488351232) (w2 : (Lit.int .u16 a2).wf = true) :
    Calls Try.prog 9 #[.slice a0 len0 cap0, .bool a1, .int .u16 a2] w fun e w' => e = .returned (.bool true) ∧ Below w.heap.size w w' := by
  obtain ⟨l0, rfl, hr0, hm0, hw0, hc0⟩ := ReadsInt.ofRowC w0
  obtain ⟨k, h⟩ := P l0 a1 a2 hm0 y0 hw0 w2
  refine (seinelaw11_SuffixGreatest.calls k _ _ l0 a1 a2 true w (Kd.C_of_reads (d := (0 : Int)) (h1 := fun _ => rfl) hr0) hc0 h).mono ?_
  rintro e w' ⟨rfl, hd⟩
  exact ⟨rfl, hd⟩

/-! ### seineref11_Period: function 23 -/
mutual
def seineref11_Period.l0 : Nat → ByteArray → Int → Option (Int)
  | 0, _, _ => none
  | k + 1, x0, x3 => if x3 ≤ (x0.size : Int) then (seineref11_Period.l1 k x0 x3 true 0) else (some 0)
def seineref11_Period.l1 : Nat → ByteArray → Int → Bool → Int → Option (Int)
  | 0, _, _, _, _ => none
  | k + 1, x0, x3, x4, x5 => if (wrap64 (x5 + x3)) < (x0.size : Int) then (if x4 = true then (if 0 ≤ x5 then (if x5 < (x0.size : Int) then (if 0 ≤ (wrap64 (x5 + x3)) then (seineref11_Period.l1 k x0 x3 ((bt x0 x5) == (bt x0 (wrap64 (x5 + x3)))) (wrap64 (x5 + 1))) else (none)) else (none)) else (none)) else (seineref11_Period.l1 k x0 x3 false (wrap64 (x5 + 1)))) else (if x4 = true then (some x3) else (seineref11_Period.l0 k x0 (wrap64 (x3 + 1))))
end
def seineref11_Period.f (k : Nat) (a0 : ByteArray) : Option (Int) := seineref11_Period.l0 k a0 1
theorem seineref11_Period.mono_l : ∀ k, (∀ y0 y1, LeO (seineref11_Period.l0 k y0 y1) (seineref11_Period.l0 (k + 1) y0 y1)) ∧ (∀ y0 y1 y2 y3, LeO (seineref11_Period.l1 k y0 y1 y2 y3) (seineref11_Period.l1 (k + 1) y0 y1 y2 y3))
  | 0 => ⟨fun _ _ r h => by simp [seineref11_Period.l0] at h, fun _ _ _ _ r h => by simp [seineref11_Period.l1] at h⟩
  | k + 1 => by
    obtain ⟨ih0, ih1⟩ := seineref11_Period.mono_l k
    refine ⟨?_, ?_⟩
    · intro y0 y1
      unfold seineref11_Period.l0
      repeat' first
      | (with_reducible exact ih0 _ _)
      | (with_reducible exact ih1 _ _ _ _)
      | (with_reducible exact LeO.refl _)
      | (with_reducible exact LeO.none _)
      | (with_reducible refine LeO.ite ?_ ?_)
      | (with_reducible refine LeO.bind ?_ (fun _ => ?_))
      | exact ih0 _ _
      | exact ih1 _ _ _ _
      | exact LeO.none _
      | refine LeO.ite ?_ ?_
      | refine LeO.bind ?_ (fun _ => ?_)
    · intro y0 y1 y2 y3
      unfold seineref11_Period.l1
      repeat' first
      | (with_reducible exact ih0 _ _)
      | (with_reducible exact ih1 _ _ _ _)
      | (with_reducible exact LeO.refl _)
      | (with_reducible exact LeO.none _)
      | (with_reducible refine LeO.ite ?_ ?_)
      | (with_reducible refine LeO.bind ?_ (fun _ => ?_))
      | exact ih0 _ _
      | exact ih1 _ _ _ _
      | exact LeO.none _
      | refine LeO.ite ?_ ?_
      | refine LeO.bind ?_ (fun _ => ?_)
theorem seineref11_Period.mono : ∀ a0 k, LeO (seineref11_Period.f k a0) (seineref11_Period.f (k + 1) a0) := by
  intro a0 k
  obtain ⟨ih0, ih1⟩ := seineref11_Period.mono_l k
  unfold seineref11_Period.f
  repeat' first
      | (with_reducible exact ih0 _ _)
      | (with_reducible exact ih1 _ _ _ _)
      | (with_reducible exact LeO.refl _)
      | (with_reducible exact LeO.none _)
      | (with_reducible refine LeO.ite ?_ ?_)
      | (with_reducible refine LeO.bind ?_ (fun _ => ?_))
      | exact ih0 _ _
      | exact ih1 _ _ _ _
      | exact LeO.none _
      | refine LeO.ite ?_ ?_
      | refine LeO.bind ?_ (fun _ => ?_)
set_option maxHeartbeats 8000000 in
set_option maxRecDepth 100000 in
theorem seineref11_Period.calls (k : Nat) (a0 : ByteArray) (r : Int) (w : World) (h : seineref11_Period.f k a0 = some r) :
    Calls Try.prog 23 #[.string a0] w fun e w' => e = .returned (.int .i64 r) ∧ Drawn0 w w' := by
  have H : (seineref11_Period.l0 k a0 1) = some r := h
  clear h
  have H' := Aside0.mk H
  clear H
  go_enter Try.func23, Try.ntmps23
  go_wp2
  repeat (go_quiet (fail); try go_wp2)
  go_loopg [3] k (fun kq v3 w' => ∃ (x3_1 : Int), v3 = .int .i64 x3_1 ∧ Aside0 (seineref11_Period.l0 kq a0 x3_1 = some r) ∧ Aside0 (kq ≤ k) ∧ Drawn0 w w')
  case atStart => exact ⟨(1), (by first | rfl | (simp; done) | (simp [*]; done)), H', ⟨Nat.le_refl _⟩, by repeat (first | exact Drawn0.refl _ | apply Drawn0.step)⟩
  case round =>
    clear H'
    obtain ⟨x3_1, rfl, HA, HK1, ⟨m1, rfl⟩⟩ := hrel
    cases gk with
    | zero => exact absurd HA.out (by simp [seineref11_Period.l0])
    | succ k1 =>
      have H := HA.out
      clear HA
      simp only [seineref11_Period.l0] at H
      by_cases c2 : x3_1 ≤ (a0.size : Int)
      · rw [if_pos c2] at H
        have c2b0 : decide (x3_1 ≤ (a0.size : Int)) = true := decide_eq_true c2
        clear c2
        have H' := Aside0.mk H
        clear H
        go_wp2
        repeat (go_quiet (fail); try go_wp2)
        go_loopg [4, 5] k1 (fun kq v4 v5 w' => ∃ (x4_2 : Bool) (x5_2 : Int), v4 = .bool x4_2 ∧ v5 = .int .i64 x5_2 ∧ Aside0 (seineref11_Period.l1 kq a0 x3_1 x4_2 x5_2 = some r) ∧ Aside0 (kq ≤ k1) ∧ Drawn0 w w')
        case atStart => exact ⟨(true), (0), (by first | rfl | (simp; done) | (simp [*]; done)), (by first | rfl | (simp; done) | (simp [*]; done)), H', ⟨Nat.le_refl _⟩, by repeat (first | exact Drawn0.refl _ | apply Drawn0.step)⟩
        case round =>
          clear H'
          try clear c2
          try clear c2b0
          try clear p2
          obtain ⟨x4_2, x5_2, rfl, rfl, HA, HK2, ⟨m2, rfl⟩⟩ := hrel
          cases gk with
          | zero => exact absurd HA.out (by simp [seineref11_Period.l1])
          | succ k2 =>
            have H := HA.out
            clear HA
            simp only [seineref11_Period.l1] at H
            by_cases c3 : (wrap64 (x5_2 + x3_1)) < (a0.size : Int)
            · rw [if_pos c3] at H
              have c3b0 : decide ((wrap64 (x5_2 + x3_1)) < (a0.size : Int)) = true := decide_eq_true c3
              clear c3
              by_cases c4 : x4_2 = true
              · subst c4
                have H1 : (if 0 ≤ x5_2 then (if x5_2 < (a0.size : Int) then (if 0 ≤ (wrap64 (x5_2 + x3_1)) then (seineref11_Period.l1 k2 a0 x3_1 ((bt a0 x5_2) == (bt a0 (wrap64 (x5_2 + x3_1)))) (wrap64 (x5_2 + 1))) else (none)) else (none)) else (none)) = some r := by rw [if_pos rfl] at H; exact H
                clear H
                have H := H1
                clear H1
                by_cases c5 : 0 ≤ x5_2
                · rw [if_pos c5] at H
                  have c5b0 : decide (0 ≤ x5_2) = true := decide_eq_true c5
                  clear c5
                  by_cases c6 : x5_2 < (a0.size : Int)
                  · rw [if_pos c6] at H
                    have c6b0 : decide (x5_2 < (a0.size : Int)) = true := decide_eq_true c6
                    clear c6
                    obtain ⟨ji8, hji8⟩ : ∃ j_ : Int, (wrap64 (x5_2 + x3_1)) = j_ := ⟨_, rfl⟩
                    replace H : (if 0 ≤ (ji8) then (seineref11_Period.l1 k2 a0 x3_1 ((bt a0 x5_2) == (bt a0 (ji8))) (wrap64 (x5_2 + 1))) else (none)) = some r := by first | (rw [hji8] at H; exact H) | (simp only [hji8] at H ⊢; exact H)
                    (try rw [hji8] at c3b0)
                    have hji8w : (IntKind.i64.wrap (x5_2 + x3_1)) = ji8 := (i64_w _).trans hji8
                    by_cases c9 : 0 ≤ (ji8)
                    · rw [if_pos c9] at H
                      have c9b0 : decide (0 ≤ (ji8)) = true := decide_eq_true c9
                      clear c9
                      have H' := Aside0.mk H
                      clear H
                      have p7 : 0 ≤ (x5_2 : Int) := of_decide_eq_true (by first | (with_reducible assumption) | assumption)
                      have q7 : x5_2 < (a0.size : Int) := of_decide_eq_true (by first | (with_reducible assumption) | assumption)
                      have hx7 := bt_at a0 x5_2
                      replace p7 := eq_true p7
                      replace q7 := eq_true q7
                      have p10 : 0 ≤ ((ji8) : Int) := of_decide_eq_true (by first | (with_reducible assumption) | assumption)
                      have q10 : (ji8) < (a0.size : Int) := of_decide_eq_true (by first | (with_reducible assumption) | assumption)
                      have hx10 := bt_at a0 (ji8)
                      replace p10 := eq_true p10
                      replace q10 := eq_true q10
                      go_wp2
                      repeat (go_quiet (fail); try go_wp2)
                      go_roundg k2
                      case measure => have := HK1.out; have := HK2.out; omega
                      case rel => exact ⟨(((bt a0 x5_2) == (bt a0 (ji8)))), (wrap64 (x5_2 + 1)), (by first | rfl | (simp; done) | (simp only [← hji8] <;> (first | rfl | simp)) | (simp [*]; done)), (by first | rfl | (simp; done) | (simp [*]; done)), H', ⟨by have := HK1.out; have := HK2.out; omega⟩, by repeat (first | exact Drawn0.refl _ | apply Drawn0.step)⟩
                    · rw [if_neg c9] at H
                      exact absurd H (by simp)
                  · rw [if_neg c6] at H
                    exact absurd H (by simp)
                · rw [if_neg c5] at H
                  exact absurd H (by simp)
              · replace c4 := Bool.eq_false_iff.mpr c4
                subst c4
                have H1 : (seineref11_Period.l1 k2 a0 x3_1 false (wrap64 (x5_2 + 1))) = some r := by rw [if_neg (show ¬ (false = true) by decide)] at H; exact H
                clear H
                have H := H1
                clear H1
                have H' := Aside0.mk H
                clear H
                go_wp2
                repeat (go_quiet (fail); try go_wp2)
                go_roundg k2
                case measure => have := HK1.out; have := HK2.out; omega
                case rel => exact ⟨(false), (wrap64 (x5_2 + 1)), (by first | rfl | (simp; done) | (simp [*]; done)), (by first | rfl | (simp; done) | (simp [*]; done)), H', ⟨by have := HK1.out; have := HK2.out; omega⟩, by repeat (first | exact Drawn0.refl _ | apply Drawn0.step)⟩
            · rw [if_neg c3] at H
              have c3b0 : decide ((wrap64 (x5_2 + x3_1)) < (a0.size : Int)) = false := decide_eq_false c3
              clear c3
              by_cases c11 : x4_2 = true
              · subst c11
                have H1 : (some x3_1) = some r := by rw [if_pos rfl] at H; exact H
                clear H
                have H := H1
                clear H1
                obtain rfl := Option.some.inj H
                go_wp2
                repeat (go_quiet (fail); try go_wp2)
                go_ret
                exact ⟨by first | rfl | (simp; done) | (simp [*]; done), by repeat (first | exact Drawn0.refl _ | apply Drawn0.step)⟩
              · replace c11 := Bool.eq_false_iff.mpr c11
                subst c11
                have H1 : (seineref11_Period.l0 k2 a0 (wrap64 (x3_1 + 1))) = some r := by rw [if_neg (show ¬ (false = true) by decide)] at H; exact H
                clear H
                have H := H1
                clear H1
                have H' := Aside0.mk H
                clear H
                go_wp2
                repeat (go_quiet (fail); try go_wp2)
                go_roundg k2
                case measure => have := HK1.out; have := HK2.out; omega
                case rel => exact ⟨(wrap64 (x3_1 + 1)), (by first | rfl | (simp; done) | (simp [*]; done)), H', ⟨by have := HK1.out; have := HK2.out; omega⟩, by repeat (first | exact Drawn0.refl _ | apply Drawn0.step)⟩
      · rw [if_neg c2] at H
        have c2b0 : decide (x3_1 ≤ (a0.size : Int)) = false := decide_eq_false c2
        clear c2
        obtain rfl := Option.some.inj H
        go_wp2
        repeat (go_quiet (fail); try go_wp2)
        go_ret
        exact ⟨by first | rfl | (simp; done) | (simp [*]; done), by repeat (first | exact Drawn0.refl _ | apply Drawn0.step)⟩

end Go.Proofs.Ytkoahbhiffahdaa.All
