-- printed by px.py, a program of this session's over the kit's print. Not trusted: Lean checks it.
import Derived.Test.YtkoahbhiffahdaaAllx0
import Derived.Test.YtkoahbhiffahdaaAllx1
import Derived.Test.YtkoahbhiffahdaaAllx2
import Derived.Test.YtkoahbhiffahdaaAllx5
import Derived.Test.YtkoahbhiffahdaaAllx8
import Derived.Test.YtkoahbhiffahdaaHandB
namespace Go.Proofs.Ytkoahbhiffahdaa.All
open Go.RowKit Go.Proofs.YtkoahbhiffahdaaW.PrintWords Go.Proofs.YtkoahbhiffahdaaW.PrintLast Go.Proofs.YtkoahbhiffahdaaW.PrintMore
attribute [local go_sem] max2_int min2_int max_two min_two max_three min_three max_four min_four   -- for this text's walks alone
set_option linter.unusedVariables false
set_option linter.unusedSimpArgs false

attribute [local go_sem high] eqA25
/-! ### critical_Local: function 17 -/
mutual
def critical_Local.j0 : Nat → List Int → Int → Bool → Option (Int)
  | 0, _, _, _ => none
  | k + 1, x0, x1, x16 => if x16 = true then (some 0) else (critical_Local.l0 k x0 x1 1)
def critical_Local.l0 : Nat → List Int → Int → Int → Option (Int)
  | 0, _, _, _ => none
  | k + 1, x0, x1, x6 => if (mn x1 (wrap64 ((x0.length : Int) - x6))) ≤ (mx (wrap64 (x1 - x6)) 0) then (some x6) else ((critical_text_alike.f x0 (mx (wrap64 (x1 - x6)) 0) (wrap64 ((mx (wrap64 (x1 - x6)) 0) + x6)) (wrap64 ((mn x1 (wrap64 ((x0.length : Int) - x6))) - (mx (wrap64 (x1 - x6)) 0)))).bind fun t237 => (if t237 = true then (some x6) else (critical_Local.l0 k x0 x1 (wrap64 (x6 + 1)))))
end
def critical_Local.f (k : Nat) (l0 : List Int) (a1 : Int) : Option (Int) := if a1 < 0 then (critical_Local.j0 k l0 a1 true) else (critical_Local.j0 k l0 a1 (decide (a1 > (l0.length : Int))))
theorem critical_Local.mono_l : ∀ k, (∀ y0 y1 y2, LeO (critical_Local.j0 k y0 y1 y2) (critical_Local.j0 (k + 1) y0 y1 y2)) ∧ (∀ y0 y1 y2, LeO (critical_Local.l0 k y0 y1 y2) (critical_Local.l0 (k + 1) y0 y1 y2))
  | 0 => ⟨fun _ _ _ r h => by simp [critical_Local.j0] at h, fun _ _ _ r h => by simp [critical_Local.l0] at h⟩
  | k + 1 => by
    obtain ⟨ih0, ih1⟩ := critical_Local.mono_l k
    refine ⟨?_, ?_⟩
    · intro y0 y1 y2
      unfold critical_Local.j0
      repeat' first
      | (with_reducible exact ih0 _ _ _)
      | (with_reducible exact ih1 _ _ _)
      | (with_reducible exact LeO.refl _)
      | (with_reducible exact LeO.none _)
      | (with_reducible refine LeO.ite ?_ ?_)
      | (with_reducible refine LeO.bind ?_ (fun _ => ?_))
      | exact ih0 _ _ _
      | exact ih1 _ _ _
      | exact LeO.none _
      | refine LeO.ite ?_ ?_
      | refine LeO.bind ?_ (fun _ => ?_)
    · intro y0 y1 y2
      unfold critical_Local.l0
      repeat' first
      | (with_reducible exact ih0 _ _ _)
      | (with_reducible exact ih1 _ _ _)
      | (with_reducible exact LeO.refl _)
      | (with_reducible exact LeO.none _)
      | (with_reducible refine LeO.ite ?_ ?_)
      | (with_reducible refine LeO.bind ?_ (fun _ => ?_))
      | exact ih0 _ _ _
      | exact ih1 _ _ _
      | exact LeO.none _
      | refine LeO.ite ?_ ?_
      | refine LeO.bind ?_ (fun _ => ?_)
theorem critical_Local.mono : ∀ a0 a1 k, LeO (critical_Local.f k a0 a1) (critical_Local.f (k + 1) a0 a1) := by
  intro a0 a1 k
  obtain ⟨ih0, ih1⟩ := critical_Local.mono_l k
  unfold critical_Local.f
  repeat' first
      | (with_reducible exact ih0 _ _ _)
      | (with_reducible exact ih1 _ _ _)
      | (with_reducible exact LeO.refl _)
      | (with_reducible exact LeO.none _)
      | (with_reducible refine LeO.ite ?_ ?_)
      | (with_reducible refine LeO.bind ?_ (fun _ => ?_))
      | exact ih0 _ _ _
      | exact ih1 _ _ _
      | exact LeO.none _
      | refine LeO.ite ?_ ?_
      | refine LeO.bind ?_ (fun _ => ?_)
set_option maxHeartbeats 8000000 in
set_option maxRecDepth 100000 in
theorem critical_Local.calls (k : Nat) (A0 : Option Addr) (c0 : Nat) (l0 : List Int) (a1 : Int) (r : Int) (w : World) (hr0 : Kd.C (Kd.int .u8) w A0 l0.length l0) (hc0 : l0.length ≤ c0) (h : critical_Local.f k l0 a1 = some r) :
    Calls Try.prog 17 #[.slice A0 l0.length c0, .int .i64 a1] w fun e w' => e = .returned (.int .i64 r) ∧ Below w.heap.size w w' := by
  have HR0 := Aside0.mk hr0
  have HC0 := Aside0.mk hc0
  clear hr0 hc0
  have HB := Aside0.mk (Below.refl w.heap.size w)
  have H : (if a1 < 0 then (critical_Local.j0 k l0 a1 true) else (critical_Local.j0 k l0 a1 (decide (a1 > (l0.length : Int))))) = some r := h
  clear h
  have HC3 := Aside0.mk H
  clear H
  go_enter Try.func17, Try.ntmps17
  go_upto_region 1 with (fail)
  go_cut [16] (fun v16 wc => ∃ (kq : Nat) (x16_2 : Bool), v16 = .bool x16_2 ∧ Aside0 (critical_Local.j0 kq l0 a1 x16_2 = some r) ∧ Aside0 (kq ≤ k) ∧ Aside0 (Below w.heap.size w wc))
  case first =>
    have H := HC3.out
    clear HC3
    by_cases c4 : a1 < 0
    · rw [if_pos c4] at H
      have c4b0 : decide (a1 < 0) = true := decide_eq_true c4
      clear c4
      (first | rw [c4b0] | (simp only [i64_w, i32_w]; rw [c4b0]) | skip)
      have H' := Aside0.mk H
      clear H
      go_wp2
      go_meet
      case rel => exact ⟨_, (true), (by first | rfl | (simp; done) | (simp [*]; done)), H', ⟨by first | omega | exact Nat.le_refl _⟩, ⟨by repeat (first | (with_reducible first | exact HB.out | apply below_alloc | apply pw_below_drewN | apply below_drew1) | exact HB.out)⟩⟩
    · rw [if_neg c4] at H
      have c4b0 : decide (a1 < 0) = false := decide_eq_false c4
      clear c4
      (first | rw [c4b0] | (simp only [i64_w, i32_w]; rw [c4b0]) | skip)
      have H' := Aside0.mk H
      clear H
      go_wp2
      go_meet
      case rel => exact ⟨_, (decide (a1 > (l0.length : Int))), (by first | rfl | (simp; done) | (simp [*]; done)), H', ⟨by first | omega | exact Nat.le_refl _⟩, ⟨by repeat (first | (with_reducible first | exact HB.out | apply below_alloc | apply pw_below_drewN | apply below_drew1) | exact HB.out)⟩⟩
  case rest =>
    clear HC3
    try clear c1
    try clear p2
    try clear c4
    try clear c4b0
    obtain ⟨kq, x16_2, rfl, HA, HJ2, HB⟩ := hcut
    cases kq with
    | zero => exact absurd HA.out (by simp [critical_Local.j0])
    | succ kj2 =>
      have H := HA.out
      clear HA
      simp only [critical_Local.j0] at H
      by_cases c5 : x16_2 = true
      · subst c5
        have H1 : (some 0) = some r := by rw [if_pos rfl] at H; exact H
        clear H
        have H := H1
        clear H1
        obtain rfl := Option.some.inj H
        go_wp2
        go_ret
        exact ⟨by first | rfl | (simp [errW_none, errW_some] <;> rfl) | (simp [*, errW_none, errW_some] <;> rfl), by repeat (first | (with_reducible first | exact HB.out | apply below_alloc | apply pw_below_drewN | apply below_drew1) | exact HB.out)⟩
      · replace c5 := Bool.eq_false_iff.mpr c5
        subst c5
        have H1 : (critical_Local.l0 kj2 l0 a1 1) = some r := by rw [if_neg (show ¬ (false = true) by decide)] at H; exact H
        clear H
        have H := H1
        clear H1
        have H' := Aside0.mk H
        clear H
        go_wp2
        go_loopg [6] kj2 (fun kq v6 w' => ∃ (x6_2 : Int), v6 = .int .i64 x6_2 ∧ Aside0 (critical_Local.l0 kq l0 a1 x6_2 = some r) ∧ Aside0 (kq ≤ kj2) ∧ Aside0 (Below w.heap.size w w'))
        case atStart => exact ⟨(1), (by first | rfl | (simp; done) | (simp [*]; done)), H', ⟨Nat.le_refl _⟩, ⟨by repeat (first | (with_reducible first | exact HB.out | apply below_alloc | apply pw_below_drewN | apply below_drew1) | exact HB.out)⟩⟩
        case round =>
          clear H'
          try clear c1
          try clear p2
          try clear c4
          try clear c4b0
          try clear c5
          try clear p2
          obtain ⟨x6_2, rfl, HA, HK2, HB⟩ := hrel
          cases gk with
          | zero => exact absurd HA.out (by simp [critical_Local.l0])
          | succ k2 =>
            have H := HA.out
            clear HA
            simp only [critical_Local.l0] at H
            obtain ⟨ji6, hji6⟩ : ∃ j_ : Int, (mx (wrap64 (a1 - x6_2)) 0) = j_ := ⟨_, rfl⟩
            replace H : (if (mn a1 (wrap64 ((l0.length : Int) - x6_2))) ≤ (ji6) then (some x6_2) else ((critical_text_alike.f l0 (ji6) (wrap64 ((ji6) + x6_2)) (wrap64 ((mn a1 (wrap64 ((l0.length : Int) - x6_2))) - (ji6)))).bind fun t237 => (if t237 = true then (some x6_2) else (critical_Local.l0 k2 l0 a1 (wrap64 (x6_2 + 1)))))) = some r := by first | (rw [hji6] at H; exact H) | (simp only [hji6] at H ⊢; exact H)
            have hji6_ : (if (wrap64 (a1 - x6_2)) < 0 then 0 else (wrap64 (a1 - x6_2))) = ji6 := hji6
            obtain ⟨ji7, hji7⟩ : ∃ j_ : Int, (mn a1 (wrap64 ((l0.length : Int) - x6_2))) = j_ := ⟨_, rfl⟩
            replace H : (if (ji7) ≤ (ji6) then (some x6_2) else ((critical_text_alike.f l0 (ji6) (wrap64 ((ji6) + x6_2)) (wrap64 ((ji7) - (ji6)))).bind fun t237 => (if t237 = true then (some x6_2) else (critical_Local.l0 k2 l0 a1 (wrap64 (x6_2 + 1)))))) = some r := by first | (rw [hji7] at H; exact H) | (simp only [hji7] at H ⊢; exact H)
            have hji7_ : (if (wrap64 ((l0.length : Int) - x6_2)) < a1 then (wrap64 ((l0.length : Int) - x6_2)) else a1) = ji7 := hji7
            by_cases c8 : (ji7) ≤ (ji6)
            · rw [if_pos c8] at H
              have c8b0 : decide ((ji7) ≤ (ji6)) = true := decide_eq_true c8
              clear c8
              obtain rfl := Option.some.inj H
              go_wp2
              go_ret
              exact ⟨by first | rfl | (simp [errW_none, errW_some] <;> rfl) | (simp only [← hji6, ← hji7]; first | rfl | (simp [errW_none, errW_some] <;> rfl)) | (simp [*, errW_none, errW_some] <;> rfl), by repeat (first | (with_reducible first | exact HB.out | apply below_alloc | apply pw_below_drewN | apply below_drew1) | exact HB.out)⟩
            · rw [if_neg c8] at H
              have c8b0 : decide ((ji7) ≤ (ji6)) = false := decide_eq_false c8
              clear c8
              replace H := Option.bind_eq_some_iff.mp H
              obtain ⟨t237, A90, H⟩ := H
              replace H : (if t237 = true then (some x6_2) else (critical_Local.l0 k2 l0 a1 (wrap64 (x6_2 + 1)))) = some r := H
              have A9 := Aside0.mk A90
              clear A90
              by_cases c10 : t237 = true
              · subst c10
                have H1 : (some x6_2) = some r := by rw [if_pos rfl] at H; exact H
                clear H
                have H := H1
                clear H1
                obtain rfl := Option.some.inj H
                go_wp2_with (first | (go_at_call 30; (with_reducible refine (critical_text_alike.calls _ _ l0 ji6 (wrap64 ((ji6) + x6_2)) (wrap64 ((ji7) - (ji6))) true _ ?side1 ?side2 A9.out).mono ?_); (case side1 => repeat (first | exact (Kd.C_below HR0.out HB.out) | (with_reducible refine Kd.C_alloc ?_ _) | (with_reducible refine Kd.C_drewN ?_ _) | (with_reducible refine Kd.C_drew ?_))); (case side2 => exact HC0.out); rintro e w' ⟨rfl, ⟨nd, rfl⟩⟩))
                go_ret
                exact ⟨by first | rfl | (simp [errW_none, errW_some] <;> rfl) | (simp only [← hji6, ← hji7]; first | rfl | (simp [errW_none, errW_some] <;> rfl)) | (simp [*, errW_none, errW_some] <;> rfl), by repeat (first | (with_reducible first | exact HB.out | apply below_alloc | apply pw_below_drewN | apply below_drew1) | exact HB.out)⟩
              · replace c10 := Bool.eq_false_iff.mpr c10
                subst c10
                have H1 : (critical_Local.l0 k2 l0 a1 (wrap64 (x6_2 + 1))) = some r := by rw [if_neg (show ¬ (false = true) by decide)] at H; exact H
                clear H
                have H := H1
                clear H1
                have H' := Aside0.mk H
                clear H
                go_wp2_with (first | (go_at_call 30; (with_reducible refine (critical_text_alike.calls _ _ l0 ji6 (wrap64 ((ji6) + x6_2)) (wrap64 ((ji7) - (ji6))) false _ ?side1 ?side2 A9.out).mono ?_); (case side1 => repeat (first | exact (Kd.C_below HR0.out HB.out) | (with_reducible refine Kd.C_alloc ?_ _) | (with_reducible refine Kd.C_drewN ?_ _) | (with_reducible refine Kd.C_drew ?_))); (case side2 => exact HC0.out); rintro e w' ⟨rfl, ⟨nd, rfl⟩⟩))
                go_roundg k2
                case measure => have := HJ2.out; have := HK2.out; omega
                case rel => exact ⟨(wrap64 (x6_2 + 1)), (by first | rfl | (simp; done) | (simp [*]; done)), H', ⟨by have := HJ2.out; have := HK2.out; omega⟩, ⟨by repeat (first | (with_reducible first | exact HB.out | apply below_alloc | apply pw_below_drewN | apply below_drew1) | exact HB.out)⟩⟩

/-! ### seinelaw12_awake: function 14 -/
def seinelaw12_awake.f (k : Nat)  : Option (Bool) := (critical_Factor.f (([97, 98, 99, 97, 98, 99, 97, 98] : List Int))).bind fun bt242 => (if (bt242.1 == 2 && (bt242.2.1 == 3 && (bt242.2.2))) = true then ((critical_Factor.f (([98, 97, 110, 97, 110, 97] : List Int))).bind fun bt249 => (if (bt249.1 == 2 && (bt249.2.1 == 5 && (!bt249.2.2))) = true then ((critical_Local.f k (([97, 98] : List Int)) 1).bind fun t256 => (if t256 = 2 then ((critical_Local.f k (([97, 97] : List Int)) 1).bind fun t261 => (some (t261 == 1))) else (some false))) else (some false))) else (some false))
theorem seinelaw12_awake.mono : ∀ k, LeO (seinelaw12_awake.f k ) (seinelaw12_awake.f (k + 1) ) := by
  intro  k
  unfold seinelaw12_awake.f
  repeat' first
      | (with_reducible exact critical_Local.mono _ _ _)
      | (with_reducible exact LeO.refl _)
      | (with_reducible exact LeO.none _)
      | (with_reducible refine LeO.ite ?_ ?_)
      | (with_reducible refine LeO.bind ?_ (fun _ => ?_))
      | exact critical_Local.mono _ _ _
      | exact LeO.none _
      | refine LeO.ite ?_ ?_
      | refine LeO.bind ?_ (fun _ => ?_)
set_option maxHeartbeats 8000000 in
set_option maxRecDepth 100000 in
theorem seinelaw12_awake.calls (k : Nat)  (r : Bool) (w : World) (h : seinelaw12_awake.f k  = some r) :
    Calls Try.prog 14 #[] w fun e w' => e = .returned (.bool r) ∧ Below w.heap.size w w' := by
  have hu25 := Try.underlying25
  have HB := Aside0.mk (Below.refl w.heap.size w)
  have H : ((critical_Factor.f (([97, 98, 99, 97, 98, 99, 97, 98] : List Int))).bind fun bt242 => (if (bt242.1 == 2 && (bt242.2.1 == 3 && (bt242.2.2))) = true then ((critical_Factor.f (([98, 97, 110, 97, 110, 97] : List Int))).bind fun bt249 => (if (bt249.1 == 2 && (bt249.2.1 == 5 && (!bt249.2.2))) = true then ((critical_Local.f k (([97, 98] : List Int)) 1).bind fun t256 => (if t256 = 2 then ((critical_Local.f k (([97, 97] : List Int)) 1).bind fun t261 => (some (t261 == 1))) else (some false))) else (some false))) else (some false))) = some r := h
  clear h
  obtain ⟨y238, hy238⟩ : ∃ y_ : List Int, y_ = (([97, 98, 99, 97, 98, 99, 97, 98] : List Int)) := ⟨_, rfl⟩
  replace H : ((critical_Factor.f y238).bind fun bt242 => (if (bt242.1 == 2 && (bt242.2.1 == 3 && (bt242.2.2))) = true then ((critical_Factor.f (([98, 97, 110, 97, 110, 97] : List Int))).bind fun bt249 => (if (bt249.1 == 2 && (bt249.2.1 == 5 && (!bt249.2.2))) = true then ((critical_Local.f k (([97, 98] : List Int)) 1).bind fun t256 => (if t256 = 2 then ((critical_Local.f k (([97, 97] : List Int)) 1).bind fun t261 => (some (t261 == 1))) else (some false))) else (some false))) else (some false))) = some r := by first | (rw [hy238]; with_reducible exact H) | (have H2_ := (Option.bind_some _ _).symm.trans H; rw [hy238]; with_reducible exact H2_) | (have H2_ := (Option.bind_some _ _).symm.trans H; with_reducible exact H2_) | with_reducible exact H | (rw [hy238]; exact H) | exact H
  have Ny238 := Aside0.mk hy238
  clear hy238
  replace H := Option.bind_eq_some_iff.mp H
  obtain ⟨⟨t242, t243, t244⟩, A10, H⟩ := H
  replace H : (if (t242 == 2 && (t243 == 3 && (t244))) = true then ((critical_Factor.f (([98, 97, 110, 97, 110, 97] : List Int))).bind fun bt249 => (if (bt249.1 == 2 && (bt249.2.1 == 5 && (!bt249.2.2))) = true then ((critical_Local.f k (([97, 98] : List Int)) 1).bind fun t256 => (if t256 = 2 then ((critical_Local.f k (([97, 97] : List Int)) 1).bind fun t261 => (some (t261 == 1))) else (some false))) else (some false))) else (some false)) = some r := H
  have A1 := Aside0.mk A10
  clear A10
  by_cases c2 : (t242 == 2 && (t243 == 3 && (t244))) = true
  · rw [if_pos c2] at H
    have c2b0 : (t242 == 2 && (t243 == 3 && (t244))) = true := c2
    (try (have c2b1 : decide (t242 = 2 && (t243 == 3 && (t244))) = true := by simpa using c2))
    (try (have c2b2 : (t242 == 2 && (t243 == 3 && (t244))) = true := by simpa using c2))
    clear c2
    obtain ⟨y245, hy245⟩ : ∃ y_ : List Int, y_ = (([98, 97, 110, 97, 110, 97] : List Int)) := ⟨_, rfl⟩
    replace H : ((critical_Factor.f y245).bind fun bt249 => (if (bt249.1 == 2 && (bt249.2.1 == 5 && (!bt249.2.2))) = true then ((critical_Local.f k (([97, 98] : List Int)) 1).bind fun t256 => (if t256 = 2 then ((critical_Local.f k (([97, 97] : List Int)) 1).bind fun t261 => (some (t261 == 1))) else (some false))) else (some false))) = some r := by first | (rw [hy245]; with_reducible exact H) | (have H2_ := (Option.bind_some _ _).symm.trans H; rw [hy245]; with_reducible exact H2_) | (have H2_ := (Option.bind_some _ _).symm.trans H; with_reducible exact H2_) | with_reducible exact H | (rw [hy245]; exact H) | exact H
    have Ny245 := Aside0.mk hy245
    clear hy245
    replace H := Option.bind_eq_some_iff.mp H
    obtain ⟨⟨t249, t250, t251⟩, A30, H⟩ := H
    replace H : (if (t249 == 2 && (t250 == 5 && (!t251))) = true then ((critical_Local.f k (([97, 98] : List Int)) 1).bind fun t256 => (if t256 = 2 then ((critical_Local.f k (([97, 97] : List Int)) 1).bind fun t261 => (some (t261 == 1))) else (some false))) else (some false)) = some r := H
    have A3 := Aside0.mk A30
    clear A30
    by_cases c4 : (t249 == 2 && (t250 == 5 && (!t251))) = true
    · rw [if_pos c4] at H
      have c4b0 : (t249 == 2 && (t250 == 5 && (!t251))) = true := c4
      (try (have c4b1 : decide (t249 = 2 && (t250 == 5 && (!t251))) = true := by simpa using c4))
      (try (have c4b2 : (t249 == 2 && (t250 == 5 && (!t251))) = true := by simpa using c4))
      clear c4
      obtain ⟨y252, hy252⟩ : ∃ y_ : List Int, y_ = (([97, 98] : List Int)) := ⟨_, rfl⟩
      replace H : ((critical_Local.f k y252 1).bind fun t256 => (if t256 = 2 then ((critical_Local.f k (([97, 97] : List Int)) 1).bind fun t261 => (some (t261 == 1))) else (some false))) = some r := by first | (rw [hy252]; with_reducible exact H) | (have H2_ := (Option.bind_some _ _).symm.trans H; rw [hy252]; with_reducible exact H2_) | (have H2_ := (Option.bind_some _ _).symm.trans H; with_reducible exact H2_) | with_reducible exact H | (rw [hy252]; exact H) | exact H
      have Ny252 := Aside0.mk hy252
      clear hy252
      replace H := Option.bind_eq_some_iff.mp H
      obtain ⟨t256, A50, H⟩ := H
      replace H : (if t256 = 2 then ((critical_Local.f k (([97, 97] : List Int)) 1).bind fun t261 => (some (t261 == 1))) else (some false)) = some r := H
      have A5 := Aside0.mk A50
      clear A50
      by_cases c6 : t256 = 2
      · rw [if_pos c6] at H
        have c6b0 : (t256 == 2) = true := beq_iff_eq.mpr c6
        have c6b1 : (t256 != 2) = false := bne_eq_false_iff_eq.mpr c6
        clear c6
        obtain ⟨y257, hy257⟩ : ∃ y_ : List Int, y_ = (([97, 97] : List Int)) := ⟨_, rfl⟩
        replace H : ((critical_Local.f k y257 1).bind fun t261 => (some (t261 == 1))) = some r := by first | (rw [hy257]; with_reducible exact H) | (have H2_ := (Option.bind_some _ _).symm.trans H; rw [hy257]; with_reducible exact H2_) | (have H2_ := (Option.bind_some _ _).symm.trans H; with_reducible exact H2_) | with_reducible exact H | (rw [hy257]; exact H) | exact H
        have Ny257 := Aside0.mk hy257
        clear hy257
        replace H := Option.bind_eq_some_iff.mp H
        obtain ⟨t261, A70, H⟩ := H
        replace H : (some (t261 == 1)) = some r := H
        have A7 := Aside0.mk A70
        clear A70
        obtain rfl := Option.some.inj H
        go_enter Try.func14, Try.ntmps14
        go_wp2_with (first | ((with_reducible refine gate_dst (N := 1) rfl ?_); (try (refine gate_guard (by rfl) ?_; dsimp only)); (refine px_lit1 (inner := [.int .u8 97, .int .u8 98, .int .u8 99, .int .u8 97, .int .u8 98, .int .u8 99, .int .u8 97, .int .u8 98]) (n := 8) (e := 5) ?hg ?hr ?_); (case hg => rfl); (case hr => first | (go_simp; done) | (go_simp; rfl)); (try simp only [Act.put, List.setIfInBounds_toArray, List.set_cons_zero, List.set_cons_succ]); (with_reducible refine gate_dst (N := 2) rfl ?_); (try (refine gate_guard (by rfl) ?_; dsimp only)); (refine px_conv (xs := ([97, 98, 99, 97, 98, 99, 97, 98] : List Int)) (inner := [.int .u8 97, .int .u8 98, .int .u8 99, .int .u8 97, .int .u8 98, .int .u8 99, .int .u8 97, .int .u8 98]) Try.underlying22 Try.underlying5 (N2 := 2) rfl ?hg2 ?gr2 ?gi ?gm ?_); (case hg2 => rfl); (case gr2 => rintro ⟨kc_, kd_⟩; first | (go_simp; done) | (go_simp; rfl)); (case gi => rfl); (case gm => exact (by decide)); intro A241 c241 w8 hC_ hl_ hb; rw [← Ny238.out] at hC_ hl_ ⊢; have n0_ := Aside0.mk (below_step (by repeat (first | (with_reducible first | exact HB.out | apply below_alloc | apply pw_below_drewN | apply below_drew1) | exact HB.out)) hb); have n1_ := Aside0.mk (hC_); have n2_ := Aside0.mk (hl_); clear HB; have HB := n0_; have HR241 := n1_; have HC241 := n2_; clear n0_ n1_ n2_; clear hb hC_ hl_) | ((with_reducible refine gate_callee (f := 15) rfl ?_); refine goesL_ (some 3) rfl rfl Try.func15 (by kernel_rfl) rfl #[.slice A241 y238.length c241] rfl (by (try simp only [List.map_toArray, List.map_cons, List.map_nil]); first | done | rfl | (simp only [List.length_drop, List.length_take]; rfl)) ?_; (with_reducible refine (critical_Factor.calls _ _ y238 t242 t243 t244 _ ?side1 ?side2 A1.out).mono ?_); (case side1 => repeat (first | exact (by repeat (first | (with_reducible exact HR241.out) | (with_reducible refine Kd.C_alloc ?_ _) | (with_reducible refine Kd.C_drewN ?_ _) | (with_reducible refine Kd.C_drew ?_) | exact HR241.out)) | (with_reducible refine Kd.C_alloc ?_ _) | (with_reducible refine Kd.C_drewN ?_ _) | (with_reducible refine Kd.C_drew ?_))); (case side2 => exact HC241.out); rintro e w9 ⟨rfl, hb⟩; refine ⟨_, rfl, ?_⟩; have n0_ := Aside0.mk (Kd.C_below (by repeat (first | (with_reducible exact HR241.out) | (with_reducible refine Kd.C_alloc ?_ _) | (with_reducible refine Kd.C_drewN ?_ _) | (with_reducible refine Kd.C_drew ?_) | exact HR241.out)) hb); have n1_ := Aside0.mk (below_step (by repeat (first | (with_reducible first | exact HB.out | apply below_alloc | apply pw_below_drewN | apply below_drew1) | exact HB.out)) hb); clear HR241; clear HB; have HR241 := n0_; have HB := n1_; clear n0_ n1_; (try clear hb); (try clear hb2); (try clear hk); (try clear hi)) | ((with_reducible refine gate_dst (N := 7) rfl ?_); (try (refine gate_guard (by rfl) ?_; dsimp only)); (refine px_lit1 (inner := [.int .u8 98, .int .u8 97, .int .u8 110, .int .u8 97, .int .u8 110, .int .u8 97]) (n := 6) (e := 5) ?hg ?hr ?_); (case hg => rfl); (case hr => first | (go_simp; done) | (go_simp; rfl)); (try simp only [Act.put, List.setIfInBounds_toArray, List.set_cons_zero, List.set_cons_succ]); (with_reducible refine gate_dst (N := 8) rfl ?_); (try (refine gate_guard (by rfl) ?_; dsimp only)); (refine px_conv (xs := ([98, 97, 110, 97, 110, 97] : List Int)) (inner := [.int .u8 98, .int .u8 97, .int .u8 110, .int .u8 97, .int .u8 110, .int .u8 97]) Try.underlying22 Try.underlying5 (N2 := 8) rfl ?hg2 ?gr2 ?gi ?gm ?_); (case hg2 => rfl); (case gr2 => rintro ⟨kc_, kd_⟩; first | (go_simp; done) | (go_simp; rfl)); (case gi => rfl); (case gm => exact (by decide)); intro A248 c248 w10 hC_ hl_ hb; rw [← Ny245.out] at hC_ hl_ ⊢; have n0_ := Aside0.mk (Kd.C_below (by repeat (first | (with_reducible exact HR241.out) | (with_reducible refine Kd.C_alloc ?_ _) | (with_reducible refine Kd.C_drewN ?_ _) | (with_reducible refine Kd.C_drew ?_) | exact HR241.out)) hb); have n1_ := Aside0.mk (below_step (by repeat (first | (with_reducible first | exact HB.out | apply below_alloc | apply pw_below_drewN | apply below_drew1) | exact HB.out)) hb); have n2_ := Aside0.mk (hC_); have n3_ := Aside0.mk (hl_); clear HR241; clear HB; have HR241 := n0_; have HB := n1_; have HR248 := n2_; have HC248 := n3_; clear n0_ n1_ n2_ n3_; clear hb hC_ hl_) | (go_at_call 15; (with_reducible refine (critical_Factor.calls _ _ y245 t249 t250 t251 _ ?side1 ?side2 A3.out).mono ?_); (case side1 => repeat (first | exact (by repeat (first | (with_reducible exact HR248.out) | (with_reducible refine Kd.C_alloc ?_ _) | (with_reducible refine Kd.C_drewN ?_ _) | (with_reducible refine Kd.C_drew ?_) | exact HR248.out)) | (with_reducible refine Kd.C_alloc ?_ _) | (with_reducible refine Kd.C_drewN ?_ _) | (with_reducible refine Kd.C_drew ?_))); (case side2 => exact HC248.out); rintro e w11 ⟨rfl, hb⟩; have n0_ := Aside0.mk (Kd.C_below (by repeat (first | (with_reducible exact HR241.out) | (with_reducible refine Kd.C_alloc ?_ _) | (with_reducible refine Kd.C_drewN ?_ _) | (with_reducible refine Kd.C_drew ?_) | exact HR241.out)) hb); have n1_ := Aside0.mk (Kd.C_below (by repeat (first | (with_reducible exact HR248.out) | (with_reducible refine Kd.C_alloc ?_ _) | (with_reducible refine Kd.C_drewN ?_ _) | (with_reducible refine Kd.C_drew ?_) | exact HR248.out)) hb); have n2_ := Aside0.mk (below_step (by repeat (first | (with_reducible first | exact HB.out | apply below_alloc | apply pw_below_drewN | apply below_drew1) | exact HB.out)) hb); clear HR241; clear HR248; clear HB; have HR241 := n0_; have HR248 := n1_; have HB := n2_; clear n0_ n1_ n2_; (try clear hb); (try clear hb2); (try clear hk); (try clear hi)) | ((with_reducible refine gate_dst (N := 14) rfl ?_); (try (refine gate_guard (by rfl) ?_; dsimp only)); (refine px_lit1 (inner := [.int .u8 97, .int .u8 98]) (n := 2) (e := 5) ?hg ?hr ?_); (case hg => rfl); (case hr => first | (go_simp; done) | (go_simp; rfl)); (try simp only [Act.put, List.setIfInBounds_toArray, List.set_cons_zero, List.set_cons_succ]); (with_reducible refine gate_dst (N := 15) rfl ?_); (try (refine gate_guard (by rfl) ?_; dsimp only)); (refine px_conv (xs := ([97, 98] : List Int)) (inner := [.int .u8 97, .int .u8 98]) Try.underlying22 Try.underlying5 (N2 := 15) rfl ?hg2 ?gr2 ?gi ?gm ?_); (case hg2 => rfl); (case gr2 => rintro ⟨kc_, kd_⟩; first | (go_simp; done) | (go_simp; rfl)); (case gi => rfl); (case gm => exact (by decide)); intro A255 c255 w12 hC_ hl_ hb; rw [← Ny252.out] at hC_ hl_ ⊢; have n0_ := Aside0.mk (Kd.C_below (by repeat (first | (with_reducible exact HR241.out) | (with_reducible refine Kd.C_alloc ?_ _) | (with_reducible refine Kd.C_drewN ?_ _) | (with_reducible refine Kd.C_drew ?_) | exact HR241.out)) hb); have n1_ := Aside0.mk (Kd.C_below (by repeat (first | (with_reducible exact HR248.out) | (with_reducible refine Kd.C_alloc ?_ _) | (with_reducible refine Kd.C_drewN ?_ _) | (with_reducible refine Kd.C_drew ?_) | exact HR248.out)) hb); have n2_ := Aside0.mk (below_step (by repeat (first | (with_reducible first | exact HB.out | apply below_alloc | apply pw_below_drewN | apply below_drew1) | exact HB.out)) hb); have n3_ := Aside0.mk (hC_); have n4_ := Aside0.mk (hl_); clear HR241; clear HR248; clear HB; have HR241 := n0_; have HR248 := n1_; have HB := n2_; have HR255 := n3_; have HC255 := n4_; clear n0_ n1_ n2_ n3_ n4_; clear hb hC_ hl_) | (go_at_call 17; (with_reducible refine (critical_Local.calls k _ _ y252 1 t256 _ ?side1 ?side2 A5.out).mono ?_); (case side1 => repeat (first | exact (by repeat (first | (with_reducible exact HR255.out) | (with_reducible refine Kd.C_alloc ?_ _) | (with_reducible refine Kd.C_drewN ?_ _) | (with_reducible refine Kd.C_drew ?_) | exact HR255.out)) | (with_reducible refine Kd.C_alloc ?_ _) | (with_reducible refine Kd.C_drewN ?_ _) | (with_reducible refine Kd.C_drew ?_))); (case side2 => exact HC255.out); rintro e w13 ⟨rfl, hb⟩; have n0_ := Aside0.mk (Kd.C_below (by repeat (first | (with_reducible exact HR241.out) | (with_reducible refine Kd.C_alloc ?_ _) | (with_reducible refine Kd.C_drewN ?_ _) | (with_reducible refine Kd.C_drew ?_) | exact HR241.out)) hb); have n1_ := Aside0.mk (Kd.C_below (by repeat (first | (with_reducible exact HR248.out) | (with_reducible refine Kd.C_alloc ?_ _) | (with_reducible refine Kd.C_drewN ?_ _) | (with_reducible refine Kd.C_drew ?_) | exact HR248.out)) hb); have n2_ := Aside0.mk (Kd.C_below (by repeat (first | (with_reducible exact HR255.out) | (with_reducible refine Kd.C_alloc ?_ _) | (with_reducible refine Kd.C_drewN ?_ _) | (with_reducible refine Kd.C_drew ?_) | exact HR255.out)) hb); have n3_ := Aside0.mk (below_step (by repeat (first | (with_reducible first | exact HB.out | apply below_alloc | apply pw_below_drewN | apply below_drew1) | exact HB.out)) hb); clear HR241; clear HR248; clear HR255; clear HB; have HR241 := n0_; have HR248 := n1_; have HR255 := n2_; have HB := n3_; clear n0_ n1_ n2_ n3_; (try clear hb); (try clear hb2); (try clear hk); (try clear hi)) | ((with_reducible refine gate_dst (N := 20) rfl ?_); (try (refine gate_guard (by rfl) ?_; dsimp only)); (refine px_lit1 (inner := [.int .u8 97, .int .u8 97]) (n := 2) (e := 5) ?hg ?hr ?_); (case hg => rfl); (case hr => first | (go_simp; done) | (go_simp; rfl)); (try simp only [Act.put, List.setIfInBounds_toArray, List.set_cons_zero, List.set_cons_succ]); (with_reducible refine gate_dst (N := 21) rfl ?_); (try (refine gate_guard (by rfl) ?_; dsimp only)); (refine px_conv (xs := ([97, 97] : List Int)) (inner := [.int .u8 97, .int .u8 97]) Try.underlying22 Try.underlying5 (N2 := 21) rfl ?hg2 ?gr2 ?gi ?gm ?_); (case hg2 => rfl); (case gr2 => rintro ⟨kc_, kd_⟩; first | (go_simp; done) | (go_simp; rfl)); (case gi => rfl); (case gm => exact (by decide)); intro A260 c260 w14 hC_ hl_ hb; rw [← Ny257.out] at hC_ hl_ ⊢; have n0_ := Aside0.mk (Kd.C_below (by repeat (first | (with_reducible exact HR241.out) | (with_reducible refine Kd.C_alloc ?_ _) | (with_reducible refine Kd.C_drewN ?_ _) | (with_reducible refine Kd.C_drew ?_) | exact HR241.out)) hb); have n1_ := Aside0.mk (Kd.C_below (by repeat (first | (with_reducible exact HR248.out) | (with_reducible refine Kd.C_alloc ?_ _) | (with_reducible refine Kd.C_drewN ?_ _) | (with_reducible refine Kd.C_drew ?_) | exact HR248.out)) hb); have n2_ := Aside0.mk (Kd.C_below (by repeat (first | (with_reducible exact HR255.out) | (with_reducible refine Kd.C_alloc ?_ _) | (with_reducible refine Kd.C_drewN ?_ _) | (with_reducible refine Kd.C_drew ?_) | exact HR255.out)) hb); have n3_ := Aside0.mk (below_step (by repeat (first | (with_reducible first | exact HB.out | apply below_alloc | apply pw_below_drewN | apply below_drew1) | exact HB.out)) hb); have n4_ := Aside0.mk (hC_); have n5_ := Aside0.mk (hl_); clear HR241; clear HR248; clear HR255; clear HB; have HR241 := n0_; have HR248 := n1_; have HR255 := n2_; have HB := n3_; have HR260 := n4_; have HC260 := n5_; clear n0_ n1_ n2_ n3_ n4_ n5_; clear hb hC_ hl_) | (go_at_call 17; (with_reducible refine (critical_Local.calls k _ _ y257 1 t261 _ ?side1 ?side2 A7.out).mono ?_); (case side1 => repeat (first | exact (by repeat (first | (with_reducible exact HR260.out) | (with_reducible refine Kd.C_alloc ?_ _) | (with_reducible refine Kd.C_drewN ?_ _) | (with_reducible refine Kd.C_drew ?_) | exact HR260.out)) | (with_reducible refine Kd.C_alloc ?_ _) | (with_reducible refine Kd.C_drewN ?_ _) | (with_reducible refine Kd.C_drew ?_))); (case side2 => exact HC260.out); rintro e w15 ⟨rfl, hb⟩; have n0_ := Aside0.mk (Kd.C_below (by repeat (first | (with_reducible exact HR241.out) | (with_reducible refine Kd.C_alloc ?_ _) | (with_reducible refine Kd.C_drewN ?_ _) | (with_reducible refine Kd.C_drew ?_) | exact HR241.out)) hb); have n1_ := Aside0.mk (Kd.C_below (by repeat (first | (with_reducible exact HR248.out) | (with_reducible refine Kd.C_alloc ?_ _) | (with_reducible refine Kd.C_drewN ?_ _) | (with_reducible refine Kd.C_drew ?_) | exact HR248.out)) hb); have n2_ := Aside0.mk (Kd.C_below (by repeat (first | (with_reducible exact HR255.out) | (with_reducible refine Kd.C_alloc ?_ _) | (with_reducible refine Kd.C_drewN ?_ _) | (with_reducible refine Kd.C_drew ?_) | exact HR255.out)) hb); have n3_ := Aside0.mk (Kd.C_below (by repeat (first | (with_reducible exact HR260.out) | (with_reducible refine Kd.C_alloc ?_ _) | (with_reducible refine Kd.C_drewN ?_ _) | (with_reducible refine Kd.C_drew ?_) | exact HR260.out)) hb); have n4_ := Aside0.mk (below_step (by repeat (first | (with_reducible first | exact HB.out | apply below_alloc | apply pw_below_drewN | apply below_drew1) | exact HB.out)) hb); clear HR241; clear HR248; clear HR255; clear HR260; clear HB; have HR241 := n0_; have HR248 := n1_; have HR255 := n2_; have HR260 := n3_; have HB := n4_; clear n0_ n1_ n2_ n3_ n4_; (try clear hb); (try clear hb2); (try clear hk); (try clear hi)))
        go_ret
        exact ⟨by first | rfl | (simp [errW_none, errW_some] <;> rfl) | (simp [*, errW_none, errW_some] <;> rfl), by repeat (first | (with_reducible first | exact HB.out | apply below_alloc | apply pw_below_drewN | apply below_drew1) | exact HB.out)⟩
      · rw [if_neg c6] at H
        have c6b0 : (t256 == 2) = false := beq_eq_false_iff_ne.mpr c6
        have c6b1 : (t256 != 2) = true := bne_iff_ne.mpr c6
        obtain rfl := Option.some.inj H
        go_enter Try.func14, Try.ntmps14
        go_wp2_with (first | ((with_reducible refine gate_dst (N := 1) rfl ?_); (try (refine gate_guard (by rfl) ?_; dsimp only)); (refine px_lit1 (inner := [.int .u8 97, .int .u8 98, .int .u8 99, .int .u8 97, .int .u8 98, .int .u8 99, .int .u8 97, .int .u8 98]) (n := 8) (e := 5) ?hg ?hr ?_); (case hg => rfl); (case hr => first | (go_simp; done) | (go_simp; rfl)); (try simp only [Act.put, List.setIfInBounds_toArray, List.set_cons_zero, List.set_cons_succ]); (with_reducible refine gate_dst (N := 2) rfl ?_); (try (refine gate_guard (by rfl) ?_; dsimp only)); (refine px_conv (xs := ([97, 98, 99, 97, 98, 99, 97, 98] : List Int)) (inner := [.int .u8 97, .int .u8 98, .int .u8 99, .int .u8 97, .int .u8 98, .int .u8 99, .int .u8 97, .int .u8 98]) Try.underlying22 Try.underlying5 (N2 := 2) rfl ?hg2 ?gr2 ?gi ?gm ?_); (case hg2 => rfl); (case gr2 => rintro ⟨kc_, kd_⟩; first | (go_simp; done) | (go_simp; rfl)); (case gi => rfl); (case gm => exact (by decide)); intro A241 c241 w16 hC_ hl_ hb; rw [← Ny238.out] at hC_ hl_ ⊢; have n0_ := Aside0.mk (below_step (by repeat (first | (with_reducible first | exact HB.out | apply below_alloc | apply pw_below_drewN | apply below_drew1) | exact HB.out)) hb); have n1_ := Aside0.mk (hC_); have n2_ := Aside0.mk (hl_); clear HB; have HB := n0_; have HR241 := n1_; have HC241 := n2_; clear n0_ n1_ n2_; clear hb hC_ hl_) | ((with_reducible refine gate_callee (f := 15) rfl ?_); refine goesL_ (some 3) rfl rfl Try.func15 (by kernel_rfl) rfl #[.slice A241 y238.length c241] rfl (by (try simp only [List.map_toArray, List.map_cons, List.map_nil]); first | done | rfl | (simp only [List.length_drop, List.length_take]; rfl)) ?_; (with_reducible refine (critical_Factor.calls _ _ y238 t242 t243 t244 _ ?side1 ?side2 A1.out).mono ?_); (case side1 => repeat (first | exact (by repeat (first | (with_reducible exact HR241.out) | (with_reducible refine Kd.C_alloc ?_ _) | (with_reducible refine Kd.C_drewN ?_ _) | (with_reducible refine Kd.C_drew ?_) | exact HR241.out)) | (with_reducible refine Kd.C_alloc ?_ _) | (with_reducible refine Kd.C_drewN ?_ _) | (with_reducible refine Kd.C_drew ?_))); (case side2 => exact HC241.out); rintro e w17 ⟨rfl, hb⟩; refine ⟨_, rfl, ?_⟩; have n0_ := Aside0.mk (Kd.C_below (by repeat (first | (with_reducible exact HR241.out) | (with_reducible refine Kd.C_alloc ?_ _) | (with_reducible refine Kd.C_drewN ?_ _) | (with_reducible refine Kd.C_drew ?_) | exact HR241.out)) hb); have n1_ := Aside0.mk (below_step (by repeat (first | (with_reducible first | exact HB.out | apply below_alloc | apply pw_below_drewN | apply below_drew1) | exact HB.out)) hb); clear HR241; clear HB; have HR241 := n0_; have HB := n1_; clear n0_ n1_; (try clear hb); (try clear hb2); (try clear hk); (try clear hi)) | ((with_reducible refine gate_dst (N := 7) rfl ?_); (try (refine gate_guard (by rfl) ?_; dsimp only)); (refine px_lit1 (inner := [.int .u8 98, .int .u8 97, .int .u8 110, .int .u8 97, .int .u8 110, .int .u8 97]) (n := 6) (e := 5) ?hg ?hr ?_); (case hg => rfl); (case hr => first | (go_simp; done) | (go_simp; rfl)); (try simp only [Act.put, List.setIfInBounds_toArray, List.set_cons_zero, List.set_cons_succ]); (with_reducible refine gate_dst (N := 8) rfl ?_); (try (refine gate_guard (by rfl) ?_; dsimp only)); (refine px_conv (xs := ([98, 97, 110, 97, 110, 97] : List Int)) (inner := [.int .u8 98, .int .u8 97, .int .u8 110, .int .u8 97, .int .u8 110, .int .u8 97]) Try.underlying22 Try.underlying5 (N2 := 8) rfl ?hg2 ?gr2 ?gi ?gm ?_); (case hg2 => rfl); (case gr2 => rintro ⟨kc_, kd_⟩; first | (go_simp; done) | (go_simp; rfl)); (case gi => rfl); (case gm => exact (by decide)); intro A248 c248 w18 hC_ hl_ hb; rw [← Ny245.out] at hC_ hl_ ⊢; have n0_ := Aside0.mk (Kd.C_below (by repeat (first | (with_reducible exact HR241.out) | (with_reducible refine Kd.C_alloc ?_ _) | (with_reducible refine Kd.C_drewN ?_ _) | (with_reducible refine Kd.C_drew ?_) | exact HR241.out)) hb); have n1_ := Aside0.mk (below_step (by repeat (first | (with_reducible first | exact HB.out | apply below_alloc | apply pw_below_drewN | apply below_drew1) | exact HB.out)) hb); have n2_ := Aside0.mk (hC_); have n3_ := Aside0.mk (hl_); clear HR241; clear HB; have HR241 := n0_; have HB := n1_; have HR248 := n2_; have HC248 := n3_; clear n0_ n1_ n2_ n3_; clear hb hC_ hl_) | (go_at_call 15; (with_reducible refine (critical_Factor.calls _ _ y245 t249 t250 t251 _ ?side1 ?side2 A3.out).mono ?_); (case side1 => repeat (first | exact (by repeat (first | (with_reducible exact HR248.out) | (with_reducible refine Kd.C_alloc ?_ _) | (with_reducible refine Kd.C_drewN ?_ _) | (with_reducible refine Kd.C_drew ?_) | exact HR248.out)) | (with_reducible refine Kd.C_alloc ?_ _) | (with_reducible refine Kd.C_drewN ?_ _) | (with_reducible refine Kd.C_drew ?_))); (case side2 => exact HC248.out); rintro e w19 ⟨rfl, hb⟩; have n0_ := Aside0.mk (Kd.C_below (by repeat (first | (with_reducible exact HR241.out) | (with_reducible refine Kd.C_alloc ?_ _) | (with_reducible refine Kd.C_drewN ?_ _) | (with_reducible refine Kd.C_drew ?_) | exact HR241.out)) hb); have n1_ := Aside0.mk (Kd.C_below (by repeat (first | (with_reducible exact HR248.out) | (with_reducible refine Kd.C_alloc ?_ _) | (with_reducible refine Kd.C_drewN ?_ _) | (with_reducible refine Kd.C_drew ?_) | exact HR248.out)) hb); have n2_ := Aside0.mk (below_step (by repeat (first | (with_reducible first | exact HB.out | apply below_alloc | apply pw_below_drewN | apply below_drew1) | exact HB.out)) hb); clear HR241; clear HR248; clear HB; have HR241 := n0_; have HR248 := n1_; have HB := n2_; clear n0_ n1_ n2_; (try clear hb); (try clear hb2); (try clear hk); (try clear hi)) | ((with_reducible refine gate_dst (N := 14) rfl ?_); (try (refine gate_guard (by rfl) ?_; dsimp only)); (refine px_lit1 (inner := [.int .u8 97, .int .u8 98]) (n := 2) (e := 5) ?hg ?hr ?_); (case hg => rfl); (case hr => first | (go_simp; done) | (go_simp; rfl)); (try simp only [Act.put, List.setIfInBounds_toArray, List.set_cons_zero, List.set_cons_succ]); (with_reducible refine gate_dst (N := 15) rfl ?_); (try (refine gate_guard (by rfl) ?_; dsimp only)); (refine px_conv (xs := ([97, 98] : List Int)) (inner := [.int .u8 97, .int .u8 98]) Try.underlying22 Try.underlying5 (N2 := 15) rfl ?hg2 ?gr2 ?gi ?gm ?_); (case hg2 => rfl); (case gr2 => rintro ⟨kc_, kd_⟩; first | (go_simp; done) | (go_simp; rfl)); (case gi => rfl); (case gm => exact (by decide)); intro A255 c255 w20 hC_ hl_ hb; rw [← Ny252.out] at hC_ hl_ ⊢; have n0_ := Aside0.mk (Kd.C_below (by repeat (first | (with_reducible exact HR241.out) | (with_reducible refine Kd.C_alloc ?_ _) | (with_reducible refine Kd.C_drewN ?_ _) | (with_reducible refine Kd.C_drew ?_) | exact HR241.out)) hb); have n1_ := Aside0.mk (Kd.C_below (by repeat (first | (with_reducible exact HR248.out) | (with_reducible refine Kd.C_alloc ?_ _) | (with_reducible refine Kd.C_drewN ?_ _) | (with_reducible refine Kd.C_drew ?_) | exact HR248.out)) hb); have n2_ := Aside0.mk (below_step (by repeat (first | (with_reducible first | exact HB.out | apply below_alloc | apply pw_below_drewN | apply below_drew1) | exact HB.out)) hb); have n3_ := Aside0.mk (hC_); have n4_ := Aside0.mk (hl_); clear HR241; clear HR248; clear HB; have HR241 := n0_; have HR248 := n1_; have HB := n2_; have HR255 := n3_; have HC255 := n4_; clear n0_ n1_ n2_ n3_ n4_; clear hb hC_ hl_) | (go_at_call 17; (with_reducible refine (critical_Local.calls k _ _ y252 1 t256 _ ?side1 ?side2 A5.out).mono ?_); (case side1 => repeat (first | exact (by repeat (first | (with_reducible exact HR255.out) | (with_reducible refine Kd.C_alloc ?_ _) | (with_reducible refine Kd.C_drewN ?_ _) | (with_reducible refine Kd.C_drew ?_) | exact HR255.out)) | (with_reducible refine Kd.C_alloc ?_ _) | (with_reducible refine Kd.C_drewN ?_ _) | (with_reducible refine Kd.C_drew ?_))); (case side2 => exact HC255.out); rintro e w21 ⟨rfl, hb⟩; have n0_ := Aside0.mk (Kd.C_below (by repeat (first | (with_reducible exact HR241.out) | (with_reducible refine Kd.C_alloc ?_ _) | (with_reducible refine Kd.C_drewN ?_ _) | (with_reducible refine Kd.C_drew ?_) | exact HR241.out)) hb); have n1_ := Aside0.mk (Kd.C_below (by repeat (first | (with_reducible exact HR248.out) | (with_reducible refine Kd.C_alloc ?_ _) | (with_reducible refine Kd.C_drewN ?_ _) | (with_reducible refine Kd.C_drew ?_) | exact HR248.out)) hb); have n2_ := Aside0.mk (Kd.C_below (by repeat (first | (with_reducible exact HR255.out) | (with_reducible refine Kd.C_alloc ?_ _) | (with_reducible refine Kd.C_drewN ?_ _) | (with_reducible refine Kd.C_drew ?_) | exact HR255.out)) hb); have n3_ := Aside0.mk (below_step (by repeat (first | (with_reducible first | exact HB.out | apply below_alloc | apply pw_below_drewN | apply below_drew1) | exact HB.out)) hb); clear HR241; clear HR248; clear HR255; clear HB; have HR241 := n0_; have HR248 := n1_; have HR255 := n2_; have HB := n3_; clear n0_ n1_ n2_ n3_; (try clear hb); (try clear hb2); (try clear hk); (try clear hi)))
        go_ret
        exact ⟨by first | rfl | (simp [errW_none, errW_some] <;> rfl) | (simp [*, errW_none, errW_some] <;> rfl), by repeat (first | (with_reducible first | exact HB.out | apply below_alloc | apply pw_below_drewN | apply below_drew1) | exact HB.out)⟩
    · rw [if_neg c4] at H
      have c4b0 : (t249 == 2 && (t250 == 5 && (!t251))) = false := by simpa using c4
      (try (have c4b1 : decide (t249 = 2 && (t250 == 5 && (!t251))) = false := by simpa using c4))
      (try (have c4b2 : (t249 == 2 && (t250 == 5 && (!t251))) = false := by simpa using c4))
      (try (have c4b3 : ¬ (t249 = 2 && (t250 == 5 && (!t251))) := by simpa using c4))
      clear c4
      obtain rfl := Option.some.inj H
      go_enter Try.func14, Try.ntmps14
      go_wp2_with (first | ((with_reducible refine gate_dst (N := 1) rfl ?_); (try (refine gate_guard (by rfl) ?_; dsimp only)); (refine px_lit1 (inner := [.int .u8 97, .int .u8 98, .int .u8 99, .int .u8 97, .int .u8 98, .int .u8 99, .int .u8 97, .int .u8 98]) (n := 8) (e := 5) ?hg ?hr ?_); (case hg => rfl); (case hr => first | (go_simp; done) | (go_simp; rfl)); (try simp only [Act.put, List.setIfInBounds_toArray, List.set_cons_zero, List.set_cons_succ]); (with_reducible refine gate_dst (N := 2) rfl ?_); (try (refine gate_guard (by rfl) ?_; dsimp only)); (refine px_conv (xs := ([97, 98, 99, 97, 98, 99, 97, 98] : List Int)) (inner := [.int .u8 97, .int .u8 98, .int .u8 99, .int .u8 97, .int .u8 98, .int .u8 99, .int .u8 97, .int .u8 98]) Try.underlying22 Try.underlying5 (N2 := 2) rfl ?hg2 ?gr2 ?gi ?gm ?_); (case hg2 => rfl); (case gr2 => rintro ⟨kc_, kd_⟩; first | (go_simp; done) | (go_simp; rfl)); (case gi => rfl); (case gm => exact (by decide)); intro A241 c241 w22 hC_ hl_ hb; rw [← Ny238.out] at hC_ hl_ ⊢; have n0_ := Aside0.mk (below_step (by repeat (first | (with_reducible first | exact HB.out | apply below_alloc | apply pw_below_drewN | apply below_drew1) | exact HB.out)) hb); have n1_ := Aside0.mk (hC_); have n2_ := Aside0.mk (hl_); clear HB; have HB := n0_; have HR241 := n1_; have HC241 := n2_; clear n0_ n1_ n2_; clear hb hC_ hl_) | ((with_reducible refine gate_callee (f := 15) rfl ?_); refine goesL_ (some 3) rfl rfl Try.func15 (by kernel_rfl) rfl #[.slice A241 y238.length c241] rfl (by (try simp only [List.map_toArray, List.map_cons, List.map_nil]); first | done | rfl | (simp only [List.length_drop, List.length_take]; rfl)) ?_; (with_reducible refine (critical_Factor.calls _ _ y238 t242 t243 t244 _ ?side1 ?side2 A1.out).mono ?_); (case side1 => repeat (first | exact (by repeat (first | (with_reducible exact HR241.out) | (with_reducible refine Kd.C_alloc ?_ _) | (with_reducible refine Kd.C_drewN ?_ _) | (with_reducible refine Kd.C_drew ?_) | exact HR241.out)) | (with_reducible refine Kd.C_alloc ?_ _) | (with_reducible refine Kd.C_drewN ?_ _) | (with_reducible refine Kd.C_drew ?_))); (case side2 => exact HC241.out); rintro e w23 ⟨rfl, hb⟩; refine ⟨_, rfl, ?_⟩; have n0_ := Aside0.mk (Kd.C_below (by repeat (first | (with_reducible exact HR241.out) | (with_reducible refine Kd.C_alloc ?_ _) | (with_reducible refine Kd.C_drewN ?_ _) | (with_reducible refine Kd.C_drew ?_) | exact HR241.out)) hb); have n1_ := Aside0.mk (below_step (by repeat (first | (with_reducible first | exact HB.out | apply below_alloc | apply pw_below_drewN | apply below_drew1) | exact HB.out)) hb); clear HR241; clear HB; have HR241 := n0_; have HB := n1_; clear n0_ n1_; (try clear hb); (try clear hb2); (try clear hk); (try clear hi)) | ((with_reducible refine gate_dst (N := 7) rfl ?_); (try (refine gate_guard (by rfl) ?_; dsimp only)); (refine px_lit1 (inner := [.int .u8 98, .int .u8 97, .int .u8 110, .int .u8 97, .int .u8 110, .int .u8 97]) (n := 6) (e := 5) ?hg ?hr ?_); (case hg => rfl); (case hr => first | (go_simp; done) | (go_simp; rfl)); (try simp only [Act.put, List.setIfInBounds_toArray, List.set_cons_zero, List.set_cons_succ]); (with_reducible refine gate_dst (N := 8) rfl ?_); (try (refine gate_guard (by rfl) ?_; dsimp only)); (refine px_conv (xs := ([98, 97, 110, 97, 110, 97] : List Int)) (inner := [.int .u8 98, .int .u8 97, .int .u8 110, .int .u8 97, .int .u8 110, .int .u8 97]) Try.underlying22 Try.underlying5 (N2 := 8) rfl ?hg2 ?gr2 ?gi ?gm ?_); (case hg2 => rfl); (case gr2 => rintro ⟨kc_, kd_⟩; first | (go_simp; done) | (go_simp; rfl)); (case gi => rfl); (case gm => exact (by decide)); intro A248 c248 w24 hC_ hl_ hb; rw [← Ny245.out] at hC_ hl_ ⊢; have n0_ := Aside0.mk (Kd.C_below (by repeat (first | (with_reducible exact HR241.out) | (with_reducible refine Kd.C_alloc ?_ _) | (with_reducible refine Kd.C_drewN ?_ _) | (with_reducible refine Kd.C_drew ?_) | exact HR241.out)) hb); have n1_ := Aside0.mk (below_step (by repeat (first | (with_reducible first | exact HB.out | apply below_alloc | apply pw_below_drewN | apply below_drew1) | exact HB.out)) hb); have n2_ := Aside0.mk (hC_); have n3_ := Aside0.mk (hl_); clear HR241; clear HB; have HR241 := n0_; have HB := n1_; have HR248 := n2_; have HC248 := n3_; clear n0_ n1_ n2_ n3_; clear hb hC_ hl_) | (go_at_call 15; (with_reducible refine (critical_Factor.calls _ _ y245 t249 t250 t251 _ ?side1 ?side2 A3.out).mono ?_); (case side1 => repeat (first | exact (by repeat (first | (with_reducible exact HR248.out) | (with_reducible refine Kd.C_alloc ?_ _) | (with_reducible refine Kd.C_drewN ?_ _) | (with_reducible refine Kd.C_drew ?_) | exact HR248.out)) | (with_reducible refine Kd.C_alloc ?_ _) | (with_reducible refine Kd.C_drewN ?_ _) | (with_reducible refine Kd.C_drew ?_))); (case side2 => exact HC248.out); rintro e w25 ⟨rfl, hb⟩; have n0_ := Aside0.mk (Kd.C_below (by repeat (first | (with_reducible exact HR241.out) | (with_reducible refine Kd.C_alloc ?_ _) | (with_reducible refine Kd.C_drewN ?_ _) | (with_reducible refine Kd.C_drew ?_) | exact HR241.out)) hb); have n1_ := Aside0.mk (Kd.C_below (by repeat (first | (with_reducible exact HR248.out) | (with_reducible refine Kd.C_alloc ?_ _) | (with_reducible refine Kd.C_drewN ?_ _) | (with_reducible refine Kd.C_drew ?_) | exact HR248.out)) hb); have n2_ := Aside0.mk (below_step (by repeat (first | (with_reducible first | exact HB.out | apply below_alloc | apply pw_below_drewN | apply below_drew1) | exact HB.out)) hb); clear HR241; clear HR248; clear HB; have HR241 := n0_; have HR248 := n1_; have HB := n2_; clear n0_ n1_ n2_; (try clear hb); (try clear hb2); (try clear hk); (try clear hi)))
      go_ret
      exact ⟨by first | rfl | (simp [errW_none, errW_some] <;> rfl) | (simp [*, errW_none, errW_some] <;> rfl), by repeat (first | (with_reducible first | exact HB.out | apply below_alloc | apply pw_below_drewN | apply below_drew1) | exact HB.out)⟩
  · rw [if_neg c2] at H
    have c2b0 : (t242 == 2 && (t243 == 3 && (t244))) = false := by simpa using c2
    (try (have c2b1 : decide (t242 = 2 && (t243 == 3 && (t244))) = false := by simpa using c2))
    (try (have c2b2 : (t242 == 2 && (t243 == 3 && (t244))) = false := by simpa using c2))
    (try (have c2b3 : ¬ (t242 = 2 && (t243 == 3 && (t244))) := by simpa using c2))
    clear c2
    obtain rfl := Option.some.inj H
    go_enter Try.func14, Try.ntmps14
    go_wp2_with (first | ((with_reducible refine gate_dst (N := 1) rfl ?_); (try (refine gate_guard (by rfl) ?_; dsimp only)); (refine px_lit1 (inner := [.int .u8 97, .int .u8 98, .int .u8 99, .int .u8 97, .int .u8 98, .int .u8 99, .int .u8 97, .int .u8 98]) (n := 8) (e := 5) ?hg ?hr ?_); (case hg => rfl); (case hr => first | (go_simp; done) | (go_simp; rfl)); (try simp only [Act.put, List.setIfInBounds_toArray, List.set_cons_zero, List.set_cons_succ]); (with_reducible refine gate_dst (N := 2) rfl ?_); (try (refine gate_guard (by rfl) ?_; dsimp only)); (refine px_conv (xs := ([97, 98, 99, 97, 98, 99, 97, 98] : List Int)) (inner := [.int .u8 97, .int .u8 98, .int .u8 99, .int .u8 97, .int .u8 98, .int .u8 99, .int .u8 97, .int .u8 98]) Try.underlying22 Try.underlying5 (N2 := 2) rfl ?hg2 ?gr2 ?gi ?gm ?_); (case hg2 => rfl); (case gr2 => rintro ⟨kc_, kd_⟩; first | (go_simp; done) | (go_simp; rfl)); (case gi => rfl); (case gm => exact (by decide)); intro A241 c241 w26 hC_ hl_ hb; rw [← Ny238.out] at hC_ hl_ ⊢; have n0_ := Aside0.mk (below_step (by repeat (first | (with_reducible first | exact HB.out | apply below_alloc | apply pw_below_drewN | apply below_drew1) | exact HB.out)) hb); have n1_ := Aside0.mk (hC_); have n2_ := Aside0.mk (hl_); clear HB; have HB := n0_; have HR241 := n1_; have HC241 := n2_; clear n0_ n1_ n2_; clear hb hC_ hl_) | ((with_reducible refine gate_callee (f := 15) rfl ?_); refine goesL_ (some 3) rfl rfl Try.func15 (by kernel_rfl) rfl #[.slice A241 y238.length c241] rfl (by (try simp only [List.map_toArray, List.map_cons, List.map_nil]); first | done | rfl | (simp only [List.length_drop, List.length_take]; rfl)) ?_; (with_reducible refine (critical_Factor.calls _ _ y238 t242 t243 t244 _ ?side1 ?side2 A1.out).mono ?_); (case side1 => repeat (first | exact (by repeat (first | (with_reducible exact HR241.out) | (with_reducible refine Kd.C_alloc ?_ _) | (with_reducible refine Kd.C_drewN ?_ _) | (with_reducible refine Kd.C_drew ?_) | exact HR241.out)) | (with_reducible refine Kd.C_alloc ?_ _) | (with_reducible refine Kd.C_drewN ?_ _) | (with_reducible refine Kd.C_drew ?_))); (case side2 => exact HC241.out); rintro e w27 ⟨rfl, hb⟩; refine ⟨_, rfl, ?_⟩; have n0_ := Aside0.mk (Kd.C_below (by repeat (first | (with_reducible exact HR241.out) | (with_reducible refine Kd.C_alloc ?_ _) | (with_reducible refine Kd.C_drewN ?_ _) | (with_reducible refine Kd.C_drew ?_) | exact HR241.out)) hb); have n1_ := Aside0.mk (below_step (by repeat (first | (with_reducible first | exact HB.out | apply below_alloc | apply pw_below_drewN | apply below_drew1) | exact HB.out)) hb); clear HR241; clear HB; have HR241 := n0_; have HB := n1_; clear n0_ n1_; (try clear hb); (try clear hb2); (try clear hk); (try clear hi)))
    go_ret
    exact ⟨by first | rfl | (simp [errW_none, errW_some] <;> rfl) | (simp [*, errW_none, errW_some] <;> rfl), by repeat (first | (with_reducible first | exact HB.out | apply below_alloc | apply pw_below_drewN | apply below_drew1) | exact HB.out)⟩

/-! ### seinelaw12_CriticalBelow: function 13 -/
def seinelaw12_CriticalBelow.j0 : Nat → List Int → Int → Bool → Option (Bool)
  | 0, _, _, _ => none
  | k + 1, x0, x1, x18 => if x18 = true then (some true) else (if (wrap64 ((x0.length : Int) + 1)) = 0 then (none) else ((critical_Local.f k x0 (Int.tmod (wrap64 (x1)) (wrap64 ((x0.length : Int) + 1)))).bind fun t263 => (if t263 ≥ 1 then ((suffix_Period.f k x0).bind fun t264 => (some (decide (t263 ≤ t264)))) else (some false))))
def seinelaw12_CriticalBelow.f (k : Nat) (l0 : List Int) (a1 : Int) : Option (Bool) := (seinelaw12_awake.f k).bind fun t262 => (if t262 = true then (if (l0.length : Int) > 200 then (seinelaw12_CriticalBelow.j0 k l0 a1 true) else (seinelaw12_CriticalBelow.j0 k l0 a1 ((l0.length : Int) == 0))) else (some false))
theorem seinelaw12_CriticalBelow.mono_l : ∀ k, (∀ y0 y1 y2, LeO (seinelaw12_CriticalBelow.j0 k y0 y1 y2) (seinelaw12_CriticalBelow.j0 (k + 1) y0 y1 y2))
  | 0 => fun _ _ _ r h => by simp [seinelaw12_CriticalBelow.j0] at h
  | k + 1 => by
    have ih0 := seinelaw12_CriticalBelow.mono_l k
    · intro y0 y1 y2
      unfold seinelaw12_CriticalBelow.j0
      repeat' first
      | (with_reducible exact ih0 _ _ _)
      | (with_reducible exact critical_Local.mono _ _ _)
      | (with_reducible exact seinelaw12_awake.mono _)
      | (with_reducible exact suffix_Period.mono _ _)
      | (with_reducible exact LeO.refl _)
      | (with_reducible exact LeO.none _)
      | (with_reducible refine LeO.ite ?_ ?_)
      | (with_reducible refine LeO.bind ?_ (fun _ => ?_))
      | exact ih0 _ _ _
      | exact critical_Local.mono _ _ _
      | exact seinelaw12_awake.mono _
      | exact suffix_Period.mono _ _
      | exact LeO.none _
      | refine LeO.ite ?_ ?_
      | refine LeO.bind ?_ (fun _ => ?_)
theorem seinelaw12_CriticalBelow.mono : ∀ a0 a1 k, LeO (seinelaw12_CriticalBelow.f k a0 a1) (seinelaw12_CriticalBelow.f (k + 1) a0 a1) := by
  intro a0 a1 k
  have ih0 := seinelaw12_CriticalBelow.mono_l k
  unfold seinelaw12_CriticalBelow.f
  repeat' first
      | (with_reducible exact ih0 _ _ _)
      | (with_reducible exact critical_Local.mono _ _ _)
      | (with_reducible exact seinelaw12_awake.mono _)
      | (with_reducible exact suffix_Period.mono _ _)
      | (with_reducible exact LeO.refl _)
      | (with_reducible exact LeO.none _)
      | (with_reducible refine LeO.ite ?_ ?_)
      | (with_reducible refine LeO.bind ?_ (fun _ => ?_))
      | exact ih0 _ _ _
      | exact critical_Local.mono _ _ _
      | exact seinelaw12_awake.mono _
      | exact suffix_Period.mono _ _
      | exact LeO.none _
      | refine LeO.ite ?_ ?_
      | refine LeO.bind ?_ (fun _ => ?_)
set_option maxHeartbeats 8000000 in
set_option maxRecDepth 100000 in
theorem seinelaw12_CriticalBelow.calls (k : Nat) (A0 : Option Addr) (c0 : Nat) (l0 : List Int) (a1 : Int) (r : Bool) (w : World) (hr0 : Kd.C (Kd.int .u8) w A0 l0.length l0) (hc0 : l0.length ≤ c0) (h : seinelaw12_CriticalBelow.f k l0 a1 = some r) :
    Calls Try.prog 13 #[.slice A0 l0.length c0, .int .u16 a1] w fun e w' => e = .returned (.bool r) ∧ Below w.heap.size w w' := by
  have HR0 := Aside0.mk hr0
  have HC0 := Aside0.mk hc0
  clear hr0 hc0
  have HB := Aside0.mk (Below.refl w.heap.size w)
  have H : ((seinelaw12_awake.f k).bind fun t262 => (if t262 = true then (if (l0.length : Int) > 200 then (seinelaw12_CriticalBelow.j0 k l0 a1 true) else (seinelaw12_CriticalBelow.j0 k l0 a1 ((l0.length : Int) == 0))) else (some false))) = some r := h
  clear h
  replace H := Option.bind_eq_some_iff.mp H
  obtain ⟨t262, A30, H⟩ := H
  replace H : (if t262 = true then (if (l0.length : Int) > 200 then (seinelaw12_CriticalBelow.j0 k l0 a1 true) else (seinelaw12_CriticalBelow.j0 k l0 a1 ((l0.length : Int) == 0))) else (some false)) = some r := H
  have A3 := Aside0.mk A30
  clear A30
  by_cases c4 : t262 = true
  · subst c4
    have H1 : (if (l0.length : Int) > 200 then (seinelaw12_CriticalBelow.j0 k l0 a1 true) else (seinelaw12_CriticalBelow.j0 k l0 a1 ((l0.length : Int) == 0))) = some r := by rw [if_pos rfl] at H; exact H
    clear H
    have H := H1
    clear H1
    have HC5 := Aside0.mk H
    clear H
    go_enter Try.func13, Try.ntmps13
    go_upto_region 4 with (first | ((with_reducible refine gate_callee (f := 14) rfl ?_); refine goesL_ (some 8) rfl rfl Try.func14 (by kernel_rfl) rfl #[] rfl (by (try simp only [List.map_toArray, List.map_cons, List.map_nil]); first | done | rfl | (simp only [List.length_drop, List.length_take]; rfl)) ?_; (with_reducible refine (seinelaw12_awake.calls k  true _ A3.out).mono ?_); rintro e w6 ⟨rfl, hb⟩; refine ⟨_, rfl, ?_⟩; have n0_ := Aside0.mk (below_step (by repeat (first | (with_reducible first | exact HB.out | apply below_alloc | apply pw_below_drewN | apply below_drew1) | exact HB.out)) hb); clear HB; have HB := n0_; clear n0_; (try clear hb); (try clear hb2); (try clear hk); (try clear hi)))
    (try simp only [Act.put, List.setIfInBounds_toArray, List.set_cons_zero, List.set_cons_succ])
    go_cut [18] (fun v18 wc => ∃ (kq : Nat) (x18_4 : Bool), v18 = .bool x18_4 ∧ Aside0 (seinelaw12_CriticalBelow.j0 kq l0 a1 x18_4 = some r) ∧ Aside0 (kq ≤ k) ∧ Aside0 (Below w.heap.size w wc))
    case first =>
      have H := HC5.out
      clear HC5
      by_cases c7 : (l0.length : Int) > 200
      · rw [if_pos c7] at H
        have c7b0 : decide (200 < (l0.length : Int)) = true := decide_eq_true c7
        have c7b1 : decide (200 < l0.length) = true := decide_eq_true (by omega)
        clear c7
        (first | rw [c7b0] | (simp only [i64_w, i32_w]; rw [c7b0]) | skip)
        have H' := Aside0.mk H
        clear H
        go_wp2
        go_meet
        case rel => exact ⟨_, (true), (by first | rfl | (simp; done) | (simp [*]; done)), H', ⟨by first | omega | exact Nat.le_refl _⟩, ⟨by repeat (first | (with_reducible first | exact HB.out | apply below_alloc | apply pw_below_drewN | apply below_drew1) | exact HB.out)⟩⟩
      · rw [if_neg c7] at H
        have c7b0 : decide (200 < (l0.length : Int)) = false := decide_eq_false c7
        have c7b1 : decide (200 < l0.length) = false := decide_eq_false (by omega)
        clear c7
        (first | rw [c7b0] | (simp only [i64_w, i32_w]; rw [c7b0]) | skip)
        have H' := Aside0.mk H
        clear H
        go_wp2
        go_meet
        case rel => exact ⟨_, (((l0.length : Int) == 0)), (by first | rfl | (simp; done) | (simp [*]; done)), H', ⟨by first | omega | exact Nat.le_refl _⟩, ⟨by repeat (first | (with_reducible first | exact HB.out | apply below_alloc | apply pw_below_drewN | apply below_drew1) | exact HB.out)⟩⟩
    case rest =>
      clear HC5
      try clear c1
      try clear p2
      try clear c4
      try clear c7
      try clear c7b0
      try clear c7b1
      obtain ⟨kq, x18_4, rfl, HA, HJ4, HB⟩ := hcut
      cases kq with
      | zero => exact absurd HA.out (by simp [seinelaw12_CriticalBelow.j0])
      | succ kj4 =>
        have H := HA.out
        clear HA
        simp only [seinelaw12_CriticalBelow.j0] at H
        by_cases c8 : x18_4 = true
        · subst c8
          have H1 : (some true) = some r := by rw [if_pos rfl] at H; exact H
          clear H
          have H := H1
          clear H1
          obtain rfl := Option.some.inj H
          go_wp2
          go_ret
          exact ⟨by first | rfl | (simp [errW_none, errW_some] <;> rfl) | (simp [*, errW_none, errW_some] <;> rfl), by repeat (first | (with_reducible first | exact HB.out | apply below_alloc | apply pw_below_drewN | apply below_drew1) | exact HB.out)⟩
        · replace c8 := Bool.eq_false_iff.mpr c8
          subst c8
          have H1 : (if (wrap64 ((l0.length : Int) + 1)) = 0 then (none) else ((critical_Local.f kj4 l0 (Int.tmod (wrap64 (a1)) (wrap64 ((l0.length : Int) + 1)))).bind fun t263 => (if t263 ≥ 1 then ((suffix_Period.f kj4 l0).bind fun t264 => (some (decide (t263 ≤ t264)))) else (some false)))) = some r := by rw [if_neg (show ¬ (false = true) by decide)] at H; exact H
          clear H
          have H := H1
          clear H1
          by_cases c9 : (wrap64 ((l0.length : Int) + 1)) = 0
          · rw [if_pos c9] at H
            exact absurd H (by simp)
          · rw [if_neg c9] at H
            have c9b0 : ((wrap64 ((l0.length : Int) + 1)) == 0) = false := beq_eq_false_iff_ne.mpr c9
            have c9b1 : ((wrap64 ((l0.length : Int) + 1)) != 0) = true := bne_iff_ne.mpr c9
            replace H := Option.bind_eq_some_iff.mp H
            obtain ⟨t263, A100, H⟩ := H
            replace H : (if t263 ≥ 1 then ((suffix_Period.f kj4 l0).bind fun t264 => (some (decide (t263 ≤ t264)))) else (some false)) = some r := H
            have A10 := Aside0.mk A100
            clear A100
            by_cases c11 : t263 ≥ 1
            · rw [if_pos c11] at H
              have c11b0 : decide (1 ≤ t263) = true := decide_eq_true c11
              clear c11
              replace H := Option.bind_eq_some_iff.mp H
              obtain ⟨t264, A120, H⟩ := H
              replace H : (some (decide (t263 ≤ t264))) = some r := H
              have A12 := Aside0.mk A120
              clear A120
              obtain rfl := Option.some.inj H
              go_wp2_with (first | ((with_reducible refine gate_callee (f := 17) rfl ?_); refine goesL_ (some 27) rfl rfl Try.func17 (by kernel_rfl) rfl #[.slice A0 l0.length c0, .int .i64 (Int.tmod (wrap64 (a1)) (wrap64 ((l0.length : Int) + 1)))] rfl (by (try simp only [List.map_toArray, List.map_cons, List.map_nil]); first | done | rfl | (simp only [List.length_drop, List.length_take]; rfl)) ?_; (with_reducible refine (critical_Local.calls kj4 _ _ l0 (Int.tmod (wrap64 (a1)) (wrap64 ((l0.length : Int) + 1))) t263 _ ?side1 ?side2 A10.out).mono ?_); (case side1 => repeat (first | exact (Kd.C_below HR0.out HB.out) | (with_reducible refine Kd.C_alloc ?_ _) | (with_reducible refine Kd.C_drewN ?_ _) | (with_reducible refine Kd.C_drew ?_))); (case side2 => exact HC0.out); rintro e w13 ⟨rfl, hb⟩; refine ⟨_, rfl, ?_⟩; have n0_ := Aside0.mk (below_step (by repeat (first | (with_reducible first | exact HB.out | apply below_alloc | apply pw_below_drewN | apply below_drew1) | exact HB.out)) hb); clear HB; have HB := n0_; clear n0_; (try clear hb); (try clear hb2); (try clear hk); (try clear hi)) | (go_at_call 22; (with_reducible refine (suffix_Period.calls kj4 _ _ l0 t264 _ ?side1 ?side2 A12.out).mono ?_); (case side1 => repeat (first | exact (Kd.C_below HR0.out HB.out) | (with_reducible refine Kd.C_alloc ?_ _) | (with_reducible refine Kd.C_drewN ?_ _) | (with_reducible refine Kd.C_drew ?_))); (case side2 => exact HC0.out); rintro e w14 ⟨rfl, hb⟩; have n0_ := Aside0.mk (below_step (by repeat (first | (with_reducible first | exact HB.out | apply below_alloc | apply pw_below_drewN | apply below_drew1) | exact HB.out)) hb); clear HB; have HB := n0_; clear n0_; (try clear hb); (try clear hb2); (try clear hk); (try clear hi)))
              go_ret
              exact ⟨by first | rfl | (simp [errW_none, errW_some] <;> rfl) | (simp [*, errW_none, errW_some] <;> rfl), by repeat (first | (with_reducible first | exact HB.out | apply below_alloc | apply pw_below_drewN | apply below_drew1) | exact HB.out)⟩
            · rw [if_neg c11] at H
              have c11b0 : decide (1 ≤ t263) = false := decide_eq_false c11
              clear c11
              obtain rfl := Option.some.inj H
              go_wp2_with (first | ((with_reducible refine gate_callee (f := 17) rfl ?_); refine goesL_ (some 27) rfl rfl Try.func17 (by kernel_rfl) rfl #[.slice A0 l0.length c0, .int .i64 (Int.tmod (wrap64 (a1)) (wrap64 ((l0.length : Int) + 1)))] rfl (by (try simp only [List.map_toArray, List.map_cons, List.map_nil]); first | done | rfl | (simp only [List.length_drop, List.length_take]; rfl)) ?_; (with_reducible refine (critical_Local.calls kj4 _ _ l0 (Int.tmod (wrap64 (a1)) (wrap64 ((l0.length : Int) + 1))) t263 _ ?side1 ?side2 A10.out).mono ?_); (case side1 => repeat (first | exact (Kd.C_below HR0.out HB.out) | (with_reducible refine Kd.C_alloc ?_ _) | (with_reducible refine Kd.C_drewN ?_ _) | (with_reducible refine Kd.C_drew ?_))); (case side2 => exact HC0.out); rintro e w15 ⟨rfl, hb⟩; refine ⟨_, rfl, ?_⟩; have n0_ := Aside0.mk (below_step (by repeat (first | (with_reducible first | exact HB.out | apply below_alloc | apply pw_below_drewN | apply below_drew1) | exact HB.out)) hb); clear HB; have HB := n0_; clear n0_; (try clear hb); (try clear hb2); (try clear hk); (try clear hi)))
              go_ret
              exact ⟨by first | rfl | (simp [errW_none, errW_some] <;> rfl) | (simp [*, errW_none, errW_some] <;> rfl), by repeat (first | (with_reducible first | exact HB.out | apply below_alloc | apply pw_below_drewN | apply below_drew1) | exact HB.out)⟩
  · replace c4 := Bool.eq_false_iff.mpr c4
    subst c4
    have H1 : (some false) = some r := by rw [if_neg (show ¬ (false = true) by decide)] at H; exact H
    clear H
    have H := H1
    clear H1
    obtain rfl := Option.some.inj H
    go_enter Try.func13, Try.ntmps13
    go_wp2_with (first | ((with_reducible refine gate_callee (f := 14) rfl ?_); refine goesL_ (some 8) rfl rfl Try.func14 (by kernel_rfl) rfl #[] rfl (by (try simp only [List.map_toArray, List.map_cons, List.map_nil]); first | done | rfl | (simp only [List.length_drop, List.length_take]; rfl)) ?_; (with_reducible refine (seinelaw12_awake.calls k  false _ A3.out).mono ?_); rintro e w16 ⟨rfl, hb⟩; refine ⟨_, rfl, ?_⟩; have n0_ := Aside0.mk (below_step (by repeat (first | (with_reducible first | exact HB.out | apply below_alloc | apply pw_below_drewN | apply below_drew1) | exact HB.out)) hb); clear HB; have HB := n0_; clear n0_; (try clear hb); (try clear hb2); (try clear hk); (try clear hi)))
    go_ret
    exact ⟨by first | rfl | (simp [errW_none, errW_some] <;> rfl) | (simp [*, errW_none, errW_some] <;> rfl), by repeat (first | (with_reducible first | exact HB.out | apply below_alloc | apply pw_below_drewN | apply below_drew1) | exact HB.out)⟩

/-- THE ONE PURE STATEMENT of seinelaw12_CriticalBelow: yours. -/
def seinelaw12_CriticalBelow.Pure : Prop := ∀ (l0 : List Int) (a1 : Int), l0.length ≤ maxLen → l0.length * 1 ≤ 140737488351232 → (∀ x ∈ l0, (Lit.int .u8 x).wf = true) → (Lit.int .u16 a1).wf = true → ∃ k, seinelaw12_CriticalBelow.f k l0 a1 = some true
theorem seinelaw12_CriticalBelow.walk (P : seinelaw12_CriticalBelow.Pure) (a0 : Option Addr) (len0 cap0 : Nat) (z0 : List Int) (a1 : Int) (w : World) (w0 : (a0 = none ∧ len0 = 0 ∧ cap0 = 0 ∧ z0 = []) ∨ ∃ x, a0 = some x ∧ len0 ≤ cap0 ∧ cap0 ≤ maxLen ∧ z0.length = cap0 ∧ (∀ i, i < z0.length → w.cell? (x.add i) = some (.int .u8 (z0.getD i 0))) ∧ ∀ n ∈ z0, (Lit.int .u8 n).wf = true) (y0 : len0 * 1 ≤ 140737488351232) (w1 : (Lit.int .u16 a1).wf = true) :
    Calls Try.prog 13 #[.slice a0 len0 cap0, .int .u16 a1] w fun e w' => e = .returned (.bool true) ∧ Below w.heap.size w w' := by
  obtain ⟨l0, rfl, hr0, hm0, hw0, hc0⟩ := ReadsInt.ofRowC w0
  obtain ⟨k, h⟩ := P l0 a1 hm0 y0 hw0 w1
  refine (seinelaw12_CriticalBelow.calls k _ _ l0 a1 true w (Kd.C_of_reads (d := (0 : Int)) (h1 := fun _ => rfl) hr0) hc0 h).mono ?_
  rintro e w' ⟨rfl, hd⟩
  exact ⟨rfl, hd⟩

/-! ### seineref12_Factor: function 16 -/
def seineref12_Factor.j0 : Nat → ByteArray → Int → Int → Option (Int × Int × Bool)
  | 0, _, _, _ => none
  | k + 1, x0, x3, x4 => if 0 ≤ x3 then (if x3 ≤ (x0.size : Int) then (if 0 ≤ x4 then (if x4 ≤ (wrap64 (x4 + x3)) then (if (wrap64 (x4 + x3)) ≤ (x0.size : Int) then (if (x0.extract 0 (x3 : Int).toNat).toList = (x0.extract (x4 : Int).toNat ((wrap64 (x4 + x3)) : Int).toNat).toList then (some (x3, x4, true)) else (if (wrap64 ((x0.size : Int) - x3)) > x3 then (some (x3, wrap64 ((wrap64 ((x0.size : Int) - x3)) + 1), false)) else (some (x3, wrap64 (x3 + 1), false)))) else (none)) else (none)) else (none)) else (none)) else (none)
def seineref12_Factor.f (k : Nat) (a0 : ByteArray) : Option (Int × Int × Bool) := if a0.toList = ([] : List UInt8) then (some (0, 0, false)) else ((seineref11_Max.f k a0 false).bind fun bt266 => ((seineref11_Max.f k a0 true).bind fun bt268 => (if bt268.1 > bt266.1 then (seineref12_Factor.j0 k a0 bt268.1 bt268.2) else (seineref12_Factor.j0 k a0 bt266.1 bt266.2))))
theorem seineref12_Factor.mono_l : ∀ k, (∀ y0 y1 y2, LeO (seineref12_Factor.j0 k y0 y1 y2) (seineref12_Factor.j0 (k + 1) y0 y1 y2))
  | 0 => fun _ _ _ r h => by simp [seineref12_Factor.j0] at h
  | k + 1 => by
    have ih0 := seineref12_Factor.mono_l k
    · intro y0 y1 y2
      unfold seineref12_Factor.j0
      repeat' first
      | (with_reducible exact ih0 _ _ _)
      | (with_reducible exact seineref11_Max.mono _ _ _)
      | (with_reducible exact LeO.refl _)
      | (with_reducible exact LeO.none _)
      | (with_reducible refine LeO.ite ?_ ?_)
      | (with_reducible refine LeO.bind ?_ (fun _ => ?_))
      | exact ih0 _ _ _
      | exact seineref11_Max.mono _ _ _
      | exact LeO.none _
      | refine LeO.ite ?_ ?_
      | refine LeO.bind ?_ (fun _ => ?_)
theorem seineref12_Factor.mono : ∀ a0 k, LeO (seineref12_Factor.f k a0) (seineref12_Factor.f (k + 1) a0) := by
  intro a0 k
  have ih0 := seineref12_Factor.mono_l k
  unfold seineref12_Factor.f
  repeat' first
      | (with_reducible exact ih0 _ _ _)
      | (with_reducible exact seineref11_Max.mono _ _ _)
      | (with_reducible exact LeO.refl _)
      | (with_reducible exact LeO.none _)
      | (with_reducible refine LeO.ite ?_ ?_)
      | (with_reducible refine LeO.bind ?_ (fun _ => ?_))
      | exact ih0 _ _ _
      | exact seineref11_Max.mono _ _ _
      | exact LeO.none _
      | refine LeO.ite ?_ ?_
      | refine LeO.bind ?_ (fun _ => ?_)
set_option maxHeartbeats 8000000 in
set_option maxRecDepth 100000 in
theorem seineref12_Factor.calls (k : Nat) (a0 : ByteArray) (r1 : Int) (r2 : Int) (r3 : Bool) (w : World) (h : seineref12_Factor.f k a0 = some (r1, r2, r3)) :
    Calls Try.prog 16 #[.string a0] w fun e w' => e = .returned (.agg #[.int .i64 r1, .int .i64 r2, .bool r3]) ∧ Below w.heap.size w w' := by
  have hu27 := Try.underlying27
  have HB := Aside0.mk (Below.refl w.heap.size w)
  have H : (if a0.toList = ([] : List UInt8) then (some (0, 0, false)) else ((seineref11_Max.f k a0 false).bind fun bt266 => ((seineref11_Max.f k a0 true).bind fun bt268 => (if bt268.1 > bt266.1 then (seineref12_Factor.j0 k a0 bt268.1 bt268.2) else (seineref12_Factor.j0 k a0 bt266.1 bt266.2))))) = some (r1, r2, r3) := h
  clear h
  by_cases c2 : a0.toList = ([] : List UInt8)
  · rw [if_pos c2] at H
    have c2b0 : (a0.toList == ([] : List UInt8)) = true := beq_iff_eq.mpr c2
    have c2b1 : (a0.toList != ([] : List UInt8)) = false := bne_eq_false_iff_eq.mpr c2
    clear c2
    simp only [Option.some.injEq, Prod.mk.injEq] at H
    obtain ⟨rfl, rfl, rfl⟩ := H
    go_enter Try.func16, Try.ntmps16
    go_wp2_with (first | ((with_reducible refine gate_dst (N := 2) rfl ?_); refine box_event ?hg (N := 2) ?hd (cs := #[.int .i64 0, .int .i64 0, .bool false]) (t := 27) ?hr ?_; (case hd => rfl); (case hg => rfl); (case hr => first | (go_simp; done) | (go_simp; rfl)); intro gb265 hg w3 hbox hb; have n0_ := Aside0.mk (below_step (by repeat (first | (with_reducible first | exact HB.out | apply below_alloc | apply pw_below_drewN | apply below_drew1) | exact HB.out)) hb); have n1_ := Aside0.mk (hbox); have n2_ := Aside0.mk ((by rw [hg]; exact (below_size (by repeat (first | (with_reducible first | exact HB.out | apply below_alloc | apply pw_below_drewN | apply below_drew1) | exact HB.out))) : w.heap.size ≤ gb265)); have n3_ := Aside0.mk ((by rw [hg]; exact (below_size (by repeat (first | (with_reducible first | exact HB.out | apply below_alloc | apply pw_below_drewN | apply below_drew1) | exact HB.out))) : w.heap.size ≤ gb265)); clear HB; have HB := n0_; have BK265 := n1_; have GW265 := n2_; have GE265 := n3_; clear n0_ n1_ n2_ n3_; clear hb hbox hg; have hcz4_0 : w3.cell? ⟨gb265, 0, none⟩ = some (.int .i64 0) := (blk_cell BK265.out 0).trans rfl; have hcz4_1 : w3.cell? ⟨gb265, 1, none⟩ = some (.int .i64 0) := (blk_cell BK265.out 1).trans rfl; have hcz4_2 : w3.cell? ⟨gb265, 2, none⟩ = some (.bool false) := (blk_cell BK265.out 2).trans rfl; have hfz4_0 := blk_frozen BK265.out 0; have hfz4_1 := blk_frozen BK265.out 1; have hfz4_2 := blk_frozen BK265.out 2))
    repeat (go_quiet (first | ((with_reducible refine gate_dst (N := 2) rfl ?_); refine box_event ?hg (N := 2) ?hd (cs := #[.int .i64 0, .int .i64 0, .bool false]) (t := 27) ?hr ?_; (case hd => rfl); (case hg => rfl); (case hr => first | (go_simp; done) | (go_simp; rfl)); intro gb265 hg w3 hbox hb; have n0_ := Aside0.mk (below_step (by repeat (first | (with_reducible first | exact HB.out | apply below_alloc | apply pw_below_drewN | apply below_drew1) | exact HB.out)) hb); have n1_ := Aside0.mk (hbox); have n2_ := Aside0.mk ((by rw [hg]; exact (below_size (by repeat (first | (with_reducible first | exact HB.out | apply below_alloc | apply pw_below_drewN | apply below_drew1) | exact HB.out))) : w.heap.size ≤ gb265)); have n3_ := Aside0.mk ((by rw [hg]; exact (below_size (by repeat (first | (with_reducible first | exact HB.out | apply below_alloc | apply pw_below_drewN | apply below_drew1) | exact HB.out))) : w.heap.size ≤ gb265)); clear HB; have HB := n0_; have BK265 := n1_; have GW265 := n2_; have GE265 := n3_; clear n0_ n1_ n2_ n3_; clear hb hbox hg; have hcz4_0 : w3.cell? ⟨gb265, 0, none⟩ = some (.int .i64 0) := (blk_cell BK265.out 0).trans rfl; have hcz4_1 : w3.cell? ⟨gb265, 1, none⟩ = some (.int .i64 0) := (blk_cell BK265.out 1).trans rfl; have hcz4_2 : w3.cell? ⟨gb265, 2, none⟩ = some (.bool false) := (blk_cell BK265.out 2).trans rfl; have hfz4_0 := blk_frozen BK265.out 0; have hfz4_1 := blk_frozen BK265.out 1; have hfz4_2 := blk_frozen BK265.out 2)); try go_wp2_with (first | ((with_reducible refine gate_dst (N := 2) rfl ?_); refine box_event ?hg (N := 2) ?hd (cs := #[.int .i64 0, .int .i64 0, .bool false]) (t := 27) ?hr ?_; (case hd => rfl); (case hg => rfl); (case hr => first | (go_simp; done) | (go_simp; rfl)); intro gb265 hg w3 hbox hb; have n0_ := Aside0.mk (below_step (by repeat (first | (with_reducible first | exact HB.out | apply below_alloc | apply pw_below_drewN | apply below_drew1) | exact HB.out)) hb); have n1_ := Aside0.mk (hbox); have n2_ := Aside0.mk ((by rw [hg]; exact (below_size (by repeat (first | (with_reducible first | exact HB.out | apply below_alloc | apply pw_below_drewN | apply below_drew1) | exact HB.out))) : w.heap.size ≤ gb265)); have n3_ := Aside0.mk ((by rw [hg]; exact (below_size (by repeat (first | (with_reducible first | exact HB.out | apply below_alloc | apply pw_below_drewN | apply below_drew1) | exact HB.out))) : w.heap.size ≤ gb265)); clear HB; have HB := n0_; have BK265 := n1_; have GW265 := n2_; have GE265 := n3_; clear n0_ n1_ n2_ n3_; clear hb hbox hg; have hcz4_0 : w3.cell? ⟨gb265, 0, none⟩ = some (.int .i64 0) := (blk_cell BK265.out 0).trans rfl; have hcz4_1 : w3.cell? ⟨gb265, 1, none⟩ = some (.int .i64 0) := (blk_cell BK265.out 1).trans rfl; have hcz4_2 : w3.cell? ⟨gb265, 2, none⟩ = some (.bool false) := (blk_cell BK265.out 2).trans rfl; have hfz4_0 := blk_frozen BK265.out 0; have hfz4_1 := blk_frozen BK265.out 1; have hfz4_2 := blk_frozen BK265.out 2)))
    refine bodyPost_ret (results_cell_row rfl _ _ gb265 27 #[.int .i64 0, .int .i64 0, .bool false] (0, 0) _ rfl (by (with_reducible repeat (first | refine blk_drewN ?_ _ | refine blk_drew ?_ | refine blk_alloc ?_ _)); refine blk_put (cs := #[.int .i64 0, .int .i64 0, .bool false]) ?_ 2 _ rfl; (with_reducible repeat (first | refine blk_drewN ?_ _ | refine blk_drew ?_ | refine blk_alloc ?_ _)); refine blk_put (cs := #[.int .i64 0, .int .i64 0, .bool false]) ?_ 1 _ rfl; (with_reducible repeat (first | refine blk_drewN ?_ _ | refine blk_drew ?_ | refine blk_alloc ?_ _)); refine blk_put (cs := #[.int .i64 0, .int .i64 0, .bool false]) ?_ 0 _ rfl; (with_reducible repeat (first | refine blk_drewN ?_ _ | refine blk_drew ?_ | refine blk_alloc ?_ _)); exact BK265.out) Try.underlying27 rfl (by kernel_rfl)) rfl ?_
    exact ⟨by first | rfl | (simp [errW_none, errW_some] <;> rfl) | (simp [*, errW_none, errW_some] <;> rfl), by repeat (first | (with_reducible first | exact HB.out | apply below_alloc | apply pw_below_drewN | apply below_drew1 | refine below_set ?_ GE265.out) | exact HB.out)⟩
  · rw [if_neg c2] at H
    have c2b0 : (a0.toList == ([] : List UInt8)) = false := beq_eq_false_iff_ne.mpr c2
    have c2b1 : (a0.toList != ([] : List UInt8)) = true := bne_iff_ne.mpr c2
    replace H := Option.bind_eq_some_iff.mp H
    obtain ⟨⟨t266, t267⟩, A50, H⟩ := H
    replace H : ((seineref11_Max.f k a0 true).bind fun bt268 => (if bt268.1 > t266 then (seineref12_Factor.j0 k a0 bt268.1 bt268.2) else (seineref12_Factor.j0 k a0 t266 t267))) = some (r1, r2, r3) := H
    have A5 := Aside0.mk A50
    clear A50
    replace H := Option.bind_eq_some_iff.mp H
    obtain ⟨⟨t268, t269⟩, A60, H⟩ := H
    replace H : (if t268 > t266 then (seineref12_Factor.j0 k a0 t268 t269) else (seineref12_Factor.j0 k a0 t266 t267)) = some (r1, r2, r3) := H
    have A6 := Aside0.mk A60
    clear A60
    have HC7 := Aside0.mk H
    clear H
    go_enter Try.func16, Try.ntmps16
    go_upto_if 23 with (first | ((with_reducible refine gate_dst (N := 2) rfl ?_); refine box_event ?hg (N := 2) ?hd (cs := #[.int .i64 0, .int .i64 0, .bool false]) (t := 27) ?hr ?_; (case hd => rfl); (case hg => rfl); (case hr => first | (go_simp; done) | (go_simp; rfl)); intro gb265 hg w8 hbox hb; have n0_ := Aside0.mk (below_step (by repeat (first | (with_reducible first | exact HB.out | apply below_alloc | apply pw_below_drewN | apply below_drew1) | exact HB.out)) hb); have n1_ := Aside0.mk (hbox); have n2_ := Aside0.mk ((by rw [hg]; exact (below_size (by repeat (first | (with_reducible first | exact HB.out | apply below_alloc | apply pw_below_drewN | apply below_drew1) | exact HB.out))) : w.heap.size ≤ gb265)); have n3_ := Aside0.mk ((by rw [hg]; exact (below_size (by repeat (first | (with_reducible first | exact HB.out | apply below_alloc | apply pw_below_drewN | apply below_drew1) | exact HB.out))) : w.heap.size ≤ gb265)); clear HB; have HB := n0_; have BK265 := n1_; have GW265 := n2_; have GE265 := n3_; clear n0_ n1_ n2_ n3_; clear hb hbox hg) | (go_at_call 21; (with_reducible refine (seineref11_Max.calls k a0 false t266 t267 _ A5.out).mono ?_); rintro e w' ⟨rfl, ⟨nd, rfl⟩⟩; (try first | exact ⟨rfl, _, World.drewN_drewN _ _ _⟩ | exact ⟨rfl, _, Eq.trans (World.drewN_drewN _ _ _) (congrArg (World.drewN _) (Nat.add_assoc _ _ _))⟩)) | (go_at_call 21; (with_reducible refine (seineref11_Max.calls k a0 true t268 t269 _ A6.out).mono ?_); rintro e w' ⟨rfl, ⟨nd, rfl⟩⟩; (try first | exact ⟨rfl, _, World.drewN_drewN _ _ _⟩ | exact ⟨rfl, _, Eq.trans (World.drewN_drewN _ _ _) (congrArg (World.drewN _) (Nat.add_assoc _ _ _))⟩)))
    repeat (go_quiet (first | ((with_reducible refine gate_dst (N := 2) rfl ?_); refine box_event ?hg (N := 2) ?hd (cs := #[.int .i64 0, .int .i64 0, .bool false]) (t := 27) ?hr ?_; (case hd => rfl); (case hg => rfl); (case hr => first | (go_simp; done) | (go_simp; rfl)); intro gb265 hg w8 hbox hb; have n0_ := Aside0.mk (below_step (by repeat (first | (with_reducible first | exact HB.out | apply below_alloc | apply pw_below_drewN | apply below_drew1) | exact HB.out)) hb); have n1_ := Aside0.mk (hbox); have n2_ := Aside0.mk ((by rw [hg]; exact (below_size (by repeat (first | (with_reducible first | exact HB.out | apply below_alloc | apply pw_below_drewN | apply below_drew1) | exact HB.out))) : w.heap.size ≤ gb265)); have n3_ := Aside0.mk ((by rw [hg]; exact (below_size (by repeat (first | (with_reducible first | exact HB.out | apply below_alloc | apply pw_below_drewN | apply below_drew1) | exact HB.out))) : w.heap.size ≤ gb265)); clear HB; have HB := n0_; have BK265 := n1_; have GW265 := n2_; have GE265 := n3_; clear n0_ n1_ n2_ n3_; clear hb hbox hg) | (go_at_call 21; (with_reducible refine (seineref11_Max.calls k a0 false t266 t267 _ A5.out).mono ?_); rintro e w' ⟨rfl, ⟨nd, rfl⟩⟩; (try first | exact ⟨rfl, _, World.drewN_drewN _ _ _⟩ | exact ⟨rfl, _, Eq.trans (World.drewN_drewN _ _ _) (congrArg (World.drewN _) (Nat.add_assoc _ _ _))⟩)) | (go_at_call 21; (with_reducible refine (seineref11_Max.calls k a0 true t268 t269 _ A6.out).mono ?_); rintro e w' ⟨rfl, ⟨nd, rfl⟩⟩; (try first | exact ⟨rfl, _, World.drewN_drewN _ _ _⟩ | exact ⟨rfl, _, Eq.trans (World.drewN_drewN _ _ _) (congrArg (World.drewN _) (Nat.add_assoc _ _ _))⟩))); go_upto_if 23 with (first | ((with_reducible refine gate_dst (N := 2) rfl ?_); refine box_event ?hg (N := 2) ?hd (cs := #[.int .i64 0, .int .i64 0, .bool false]) (t := 27) ?hr ?_; (case hd => rfl); (case hg => rfl); (case hr => first | (go_simp; done) | (go_simp; rfl)); intro gb265 hg w8 hbox hb; have n0_ := Aside0.mk (below_step (by repeat (first | (with_reducible first | exact HB.out | apply below_alloc | apply pw_below_drewN | apply below_drew1) | exact HB.out)) hb); have n1_ := Aside0.mk (hbox); have n2_ := Aside0.mk ((by rw [hg]; exact (below_size (by repeat (first | (with_reducible first | exact HB.out | apply below_alloc | apply pw_below_drewN | apply below_drew1) | exact HB.out))) : w.heap.size ≤ gb265)); have n3_ := Aside0.mk ((by rw [hg]; exact (below_size (by repeat (first | (with_reducible first | exact HB.out | apply below_alloc | apply pw_below_drewN | apply below_drew1) | exact HB.out))) : w.heap.size ≤ gb265)); clear HB; have HB := n0_; have BK265 := n1_; have GW265 := n2_; have GE265 := n3_; clear n0_ n1_ n2_ n3_; clear hb hbox hg) | (go_at_call 21; (with_reducible refine (seineref11_Max.calls k a0 false t266 t267 _ A5.out).mono ?_); rintro e w' ⟨rfl, ⟨nd, rfl⟩⟩; (try first | exact ⟨rfl, _, World.drewN_drewN _ _ _⟩ | exact ⟨rfl, _, Eq.trans (World.drewN_drewN _ _ _) (congrArg (World.drewN _) (Nat.add_assoc _ _ _))⟩)) | (go_at_call 21; (with_reducible refine (seineref11_Max.calls k a0 true t268 t269 _ A6.out).mono ?_); rintro e w' ⟨rfl, ⟨nd, rfl⟩⟩; (try first | exact ⟨rfl, _, World.drewN_drewN _ _ _⟩ | exact ⟨rfl, _, Eq.trans (World.drewN_drewN _ _ _) (congrArg (World.drewN _) (Nat.add_assoc _ _ _))⟩))))
    (try simp only [Act.put, List.setIfInBounds_toArray, List.set_cons_zero, List.set_cons_succ])
    go_cut [3, 4] (fun v3 v4 wc => ∃ (kq : Nat) (x3_6 : Int) (x4_6 : Int), v3 = .int .i64 x3_6 ∧ v4 = .int .i64 x4_6 ∧ Aside0 (seineref12_Factor.j0 kq a0 x3_6 x4_6 = some (r1, r2, r3)) ∧ Aside0 (kq ≤ k) ∧ Aside0 (wc.heap[gb265]? = some (.cells #[.int .i64 0, .int .i64 0, .bool false] 27 (0, 0))) ∧ Aside0 (Below w.heap.size w wc))
    case first =>
      have H := HC7.out
      clear HC7
      by_cases c9 : t268 > t266
      · rw [if_pos c9] at H
        have c9b0 : decide (t266 < t268) = true := decide_eq_true c9
        clear c9
        (first | rw [c9b0] | (simp only [i64_w, i32_w]; rw [c9b0]) | skip)
        have H' := Aside0.mk H
        clear H
        go_wp2
        repeat (go_quiet (fail); try go_wp2)
        go_meet
        case rel => exact ⟨_, (t268), (t269), (by first | rfl | (simp; done) | (simp [*]; done)), (by first | rfl | (simp; done) | (simp [*]; done)), H', ⟨by first | omega | exact Nat.le_refl _⟩, ⟨by (with_reducible repeat (first | refine blk_drewN ?_ _ | refine blk_drew ?_ | refine blk_alloc ?_ _)); exact BK265.out⟩, ⟨by repeat (first | (with_reducible first | exact HB.out | apply below_alloc | apply pw_below_drewN | apply below_drew1 | refine below_set ?_ GE265.out) | exact HB.out)⟩⟩
      · rw [if_neg c9] at H
        have c9b0 : decide (t266 < t268) = false := decide_eq_false c9
        clear c9
        (first | rw [c9b0] | (simp only [i64_w, i32_w]; rw [c9b0]) | skip)
        have H' := Aside0.mk H
        clear H
        go_wp2
        repeat (go_quiet (fail); try go_wp2)
        go_meet
        case rel => exact ⟨_, (t266), (t267), (by first | rfl | (simp; done) | (simp [*]; done)), (by first | rfl | (simp; done) | (simp [*]; done)), H', ⟨by first | omega | exact Nat.le_refl _⟩, ⟨by (with_reducible repeat (first | refine blk_drewN ?_ _ | refine blk_drew ?_ | refine blk_alloc ?_ _)); exact BK265.out⟩, ⟨by repeat (first | (with_reducible first | exact HB.out | apply below_alloc | apply pw_below_drewN | apply below_drew1 | refine below_set ?_ GE265.out) | exact HB.out)⟩⟩
    case rest =>
      clear HC7
      try clear c1
      try clear c2
      try clear c2b0
      try clear c2b1
      try clear p2
      try clear c9
      try clear c9b0
      try clear hcz4_0
      try clear hcz4_1
      try clear hcz4_2
      try clear hfz4_0
      try clear hfz4_1
      try clear hfz4_2
      obtain ⟨kq, x3_6, x4_6, rfl, rfl, HA, HJ6, BK265, HB⟩ := hcut
      cases kq with
      | zero => exact absurd HA.out (by simp [seineref12_Factor.j0])
      | succ kj6 =>
        have H := HA.out
        clear HA
        simp only [seineref12_Factor.j0] at H
        by_cases c10 : 0 ≤ x3_6
        · rw [if_pos c10] at H
          have c10b0 := eq_true c10
          have c10b1 : decide (0 ≤ x3_6) = true := decide_eq_true c10
          clear c10
          by_cases c11 : x3_6 ≤ (a0.size : Int)
          · rw [if_pos c11] at H
            have c11b0 := eq_true c11
            have c11b1 : decide (x3_6 ≤ (a0.size : Int)) = true := decide_eq_true c11
            clear c11
            by_cases c12 : 0 ≤ x4_6
            · rw [if_pos c12] at H
              have c12b0 := eq_true c12
              have c12b1 : decide (0 ≤ x4_6) = true := decide_eq_true c12
              clear c12
              by_cases c13 : x4_6 ≤ (wrap64 (x4_6 + x3_6))
              · rw [if_pos c13] at H
                have c13b0 := eq_true c13
                have c13b1 : decide (x4_6 ≤ (wrap64 (x4_6 + x3_6))) = true := decide_eq_true c13
                by_cases c14 : (wrap64 (x4_6 + x3_6)) ≤ (a0.size : Int)
                · rw [if_pos c14] at H
                  have c14b0 := eq_true c14
                  have c14b1 : decide ((wrap64 (x4_6 + x3_6)) ≤ (a0.size : Int)) = true := decide_eq_true c14
                  by_cases c15 : (a0.extract 0 (x3_6 : Int).toNat).toList = (a0.extract (x4_6 : Int).toNat ((wrap64 (x4_6 + x3_6)) : Int).toNat).toList
                  · rw [if_pos c15] at H
                    have c15b0 : ((a0.extract 0 (x3_6 : Int).toNat).toList == (a0.extract (x4_6 : Int).toNat ((wrap64 (x4_6 + x3_6)) : Int).toNat).toList) = true := beq_iff_eq.mpr c15
                    have c15b1 : ((a0.extract 0 (x3_6 : Int).toNat).toList != (a0.extract (x4_6 : Int).toNat ((wrap64 (x4_6 + x3_6)) : Int).toNat).toList) = false := bne_eq_false_iff_eq.mpr c15
                    clear c15
                    simp only [Option.some.injEq, Prod.mk.injEq] at H
                    obtain ⟨rfl, rfl, rfl⟩ := H
                    have hcz16_0 : wc.cell? ⟨gb265, 0, none⟩ = some (.int .i64 0) := (blk_cell BK265.out 0).trans rfl
                    have hcz16_1 : wc.cell? ⟨gb265, 1, none⟩ = some (.int .i64 0) := (blk_cell BK265.out 1).trans rfl
                    have hcz16_2 : wc.cell? ⟨gb265, 2, none⟩ = some (.bool false) := (blk_cell BK265.out 2).trans rfl
                    have hfz16_0 := blk_frozen BK265.out 0
                    have hfz16_1 := blk_frozen BK265.out 1
                    have hfz16_2 := blk_frozen BK265.out 2
                    go_wp2
                    repeat (go_quiet (fail); try go_wp2)
                    refine bodyPost_ret (results_cell_row rfl _ _ gb265 27 #[.int .i64 x3_6, .int .i64 x4_6, .bool true] (0, 0) _ rfl (by (with_reducible repeat (first | refine blk_drewN ?_ _ | refine blk_drew ?_ | refine blk_alloc ?_ _)); refine blk_put (cs := #[.int .i64 x3_6, .int .i64 x4_6, .bool false]) ?_ 2 _ rfl; (with_reducible repeat (first | refine blk_drewN ?_ _ | refine blk_drew ?_ | refine blk_alloc ?_ _)); refine blk_put (cs := #[.int .i64 x3_6, .int .i64 0, .bool false]) ?_ 1 _ rfl; (with_reducible repeat (first | refine blk_drewN ?_ _ | refine blk_drew ?_ | refine blk_alloc ?_ _)); refine blk_put (cs := #[.int .i64 0, .int .i64 0, .bool false]) ?_ 0 _ rfl; (with_reducible repeat (first | refine blk_drewN ?_ _ | refine blk_drew ?_ | refine blk_alloc ?_ _)); exact BK265.out) Try.underlying27 rfl (by kernel_rfl)) rfl ?_
                    exact ⟨by first | rfl | (simp [errW_none, errW_some] <;> rfl) | (simp [*, errW_none, errW_some] <;> rfl), by repeat (first | (with_reducible first | exact HB.out | apply below_alloc | apply pw_below_drewN | apply below_drew1 | refine below_set ?_ GE265.out) | exact HB.out)⟩
                  · rw [if_neg c15] at H
                    have c15b0 : ((a0.extract 0 (x3_6 : Int).toNat).toList == (a0.extract (x4_6 : Int).toNat ((wrap64 (x4_6 + x3_6)) : Int).toNat).toList) = false := beq_eq_false_iff_ne.mpr c15
                    have c15b1 : ((a0.extract 0 (x3_6 : Int).toNat).toList != (a0.extract (x4_6 : Int).toNat ((wrap64 (x4_6 + x3_6)) : Int).toNat).toList) = true := bne_iff_ne.mpr c15
                    by_cases c17 : (wrap64 ((a0.size : Int) - x3_6)) > x3_6
                    · rw [if_pos c17] at H
                      have c17b0 : decide (x3_6 < (wrap64 ((a0.size : Int) - x3_6))) = true := decide_eq_true c17
                      clear c17
                      simp only [Option.some.injEq, Prod.mk.injEq] at H
                      obtain ⟨rfl, rfl, rfl⟩ := H
                      have hcz18_0 : wc.cell? ⟨gb265, 0, none⟩ = some (.int .i64 0) := (blk_cell BK265.out 0).trans rfl
                      have hcz18_1 : wc.cell? ⟨gb265, 1, none⟩ = some (.int .i64 0) := (blk_cell BK265.out 1).trans rfl
                      have hcz18_2 : wc.cell? ⟨gb265, 2, none⟩ = some (.bool false) := (blk_cell BK265.out 2).trans rfl
                      have hfz18_0 := blk_frozen BK265.out 0
                      have hfz18_1 := blk_frozen BK265.out 1
                      have hfz18_2 := blk_frozen BK265.out 2
                      go_wp2
                      repeat (go_quiet (fail); try go_wp2)
                      refine bodyPost_ret (results_cell_row rfl _ _ gb265 27 #[.int .i64 x3_6, .int .i64 (wrap64 ((wrap64 ((a0.size : Int) - x3_6)) + 1)), .bool false] (0, 0) _ rfl (by (with_reducible repeat (first | refine blk_drewN ?_ _ | refine blk_drew ?_ | refine blk_alloc ?_ _)); refine blk_put (cs := #[.int .i64 x3_6, .int .i64 (wrap64 ((wrap64 ((a0.size : Int) - x3_6)) + 1)), .bool false]) ?_ 2 _ rfl; (with_reducible repeat (first | refine blk_drewN ?_ _ | refine blk_drew ?_ | refine blk_alloc ?_ _)); refine blk_put (cs := #[.int .i64 x3_6, .int .i64 0, .bool false]) ?_ 1 _ rfl; (with_reducible repeat (first | refine blk_drewN ?_ _ | refine blk_drew ?_ | refine blk_alloc ?_ _)); refine blk_put (cs := #[.int .i64 0, .int .i64 0, .bool false]) ?_ 0 _ rfl; (with_reducible repeat (first | refine blk_drewN ?_ _ | refine blk_drew ?_ | refine blk_alloc ?_ _)); exact BK265.out) Try.underlying27 rfl (by kernel_rfl)) rfl ?_
                      exact ⟨by first | rfl | (simp [errW_none, errW_some] <;> rfl) | (simp [*, errW_none, errW_some] <;> rfl), by repeat (first | (with_reducible first | exact HB.out | apply below_alloc | apply pw_below_drewN | apply below_drew1 | refine below_set ?_ GE265.out) | exact HB.out)⟩
                    · rw [if_neg c17] at H
                      have c17b0 : decide (x3_6 < (wrap64 ((a0.size : Int) - x3_6))) = false := decide_eq_false c17
                      clear c17
                      simp only [Option.some.injEq, Prod.mk.injEq] at H
                      obtain ⟨rfl, rfl, rfl⟩ := H
                      have hcz19_0 : wc.cell? ⟨gb265, 0, none⟩ = some (.int .i64 0) := (blk_cell BK265.out 0).trans rfl
                      have hcz19_1 : wc.cell? ⟨gb265, 1, none⟩ = some (.int .i64 0) := (blk_cell BK265.out 1).trans rfl
                      have hcz19_2 : wc.cell? ⟨gb265, 2, none⟩ = some (.bool false) := (blk_cell BK265.out 2).trans rfl
                      have hfz19_0 := blk_frozen BK265.out 0
                      have hfz19_1 := blk_frozen BK265.out 1
                      have hfz19_2 := blk_frozen BK265.out 2
                      go_wp2
                      repeat (go_quiet (fail); try go_wp2)
                      refine bodyPost_ret (results_cell_row rfl _ _ gb265 27 #[.int .i64 x3_6, .int .i64 (wrap64 (x3_6 + 1)), .bool false] (0, 0) _ rfl (by (with_reducible repeat (first | refine blk_drewN ?_ _ | refine blk_drew ?_ | refine blk_alloc ?_ _)); refine blk_put (cs := #[.int .i64 x3_6, .int .i64 (wrap64 (x3_6 + 1)), .bool false]) ?_ 2 _ rfl; (with_reducible repeat (first | refine blk_drewN ?_ _ | refine blk_drew ?_ | refine blk_alloc ?_ _)); refine blk_put (cs := #[.int .i64 x3_6, .int .i64 0, .bool false]) ?_ 1 _ rfl; (with_reducible repeat (first | refine blk_drewN ?_ _ | refine blk_drew ?_ | refine blk_alloc ?_ _)); refine blk_put (cs := #[.int .i64 0, .int .i64 0, .bool false]) ?_ 0 _ rfl; (with_reducible repeat (first | refine blk_drewN ?_ _ | refine blk_drew ?_ | refine blk_alloc ?_ _)); exact BK265.out) Try.underlying27 rfl (by kernel_rfl)) rfl ?_
                      exact ⟨by first | rfl | (simp [errW_none, errW_some] <;> rfl) | (simp [*, errW_none, errW_some] <;> rfl), by repeat (first | (with_reducible first | exact HB.out | apply below_alloc | apply pw_below_drewN | apply below_drew1 | refine below_set ?_ GE265.out) | exact HB.out)⟩
                · rw [if_neg c14] at H
                  exact absurd H (by simp)
              · rw [if_neg c13] at H
                exact absurd H (by simp)
            · rw [if_neg c12] at H
              exact absurd H (by simp)
          · rw [if_neg c11] at H
            exact absurd H (by simp)
        · rw [if_neg c10] at H
          exact absurd H (by simp)

/-! ### seinelaw12_CriticalFactor: function 3 -/
def seinelaw12_CriticalFactor.f (k : Nat) (l0 : List Int) : Option (Bool) := (seinelaw12_awake.f k).bind fun t270 => (if t270 = true then (if (l0.length : Int) > 120 then (some true) else ((critical_Factor.f l0).bind fun bt271 => ((seineref12_Factor.f k (strOfNums l0)).bind fun bt275 => (if bt271.1 = bt275.1 then (if bt271.2.1 = bt275.2.1 then (some (bt271.2.2 == bt275.2.2)) else (some false)) else (some false))))) else (some false))
theorem seinelaw12_CriticalFactor.mono : ∀ a0 k, LeO (seinelaw12_CriticalFactor.f k a0) (seinelaw12_CriticalFactor.f (k + 1) a0) := by
  intro a0 k
  unfold seinelaw12_CriticalFactor.f
  repeat' first
      | (with_reducible exact seinelaw12_awake.mono _)
      | (with_reducible exact seineref12_Factor.mono _ _)
      | (with_reducible exact LeO.refl _)
      | (with_reducible exact LeO.none _)
      | (with_reducible refine LeO.ite ?_ ?_)
      | (with_reducible refine LeO.bind ?_ (fun _ => ?_))
      | exact seinelaw12_awake.mono _
      | exact seineref12_Factor.mono _ _
      | exact LeO.none _
      | refine LeO.ite ?_ ?_
      | refine LeO.bind ?_ (fun _ => ?_)
set_option maxHeartbeats 8000000 in
set_option maxRecDepth 100000 in
theorem seinelaw12_CriticalFactor.calls (k : Nat) (A0 : Option Addr) (c0 : Nat) (l0 : List Int) (r : Bool) (w : World) (hr0 : Kd.C (Kd.int .u8) w A0 l0.length l0) (hc0 : l0.length ≤ c0) (h : seinelaw12_CriticalFactor.f k l0 = some r) :
    Calls Try.prog 3 #[.slice A0 l0.length c0] w fun e w' => e = .returned (.bool r) ∧ Below w.heap.size w w' := by
  have hu25 := Try.underlying25
  have hu27 := Try.underlying27
  have HR0 := Aside0.mk hr0
  have HC0 := Aside0.mk hc0
  clear hr0 hc0
  have HB := Aside0.mk (Below.refl w.heap.size w)
  have H : ((seinelaw12_awake.f k).bind fun t270 => (if t270 = true then (if (l0.length : Int) > 120 then (some true) else ((critical_Factor.f l0).bind fun bt271 => ((seineref12_Factor.f k (strOfNums l0)).bind fun bt275 => (if bt271.1 = bt275.1 then (if bt271.2.1 = bt275.2.1 then (some (bt271.2.2 == bt275.2.2)) else (some false)) else (some false))))) else (some false))) = some r := h
  clear h
  replace H := Option.bind_eq_some_iff.mp H
  obtain ⟨t270, A20, H⟩ := H
  replace H : (if t270 = true then (if (l0.length : Int) > 120 then (some true) else ((critical_Factor.f l0).bind fun bt271 => ((seineref12_Factor.f k (strOfNums l0)).bind fun bt275 => (if bt271.1 = bt275.1 then (if bt271.2.1 = bt275.2.1 then (some (bt271.2.2 == bt275.2.2)) else (some false)) else (some false))))) else (some false)) = some r := H
  have A2 := Aside0.mk A20
  clear A20
  by_cases c3 : t270 = true
  · subst c3
    have H1 : (if (l0.length : Int) > 120 then (some true) else ((critical_Factor.f l0).bind fun bt271 => ((seineref12_Factor.f k (strOfNums l0)).bind fun bt275 => (if bt271.1 = bt275.1 then (if bt271.2.1 = bt275.2.1 then (some (bt271.2.2 == bt275.2.2)) else (some false)) else (some false))))) = some r := by rw [if_pos rfl] at H; exact H
    clear H
    have H := H1
    clear H1
    by_cases c4 : (l0.length : Int) > 120
    · rw [if_pos c4] at H
      have c4b0 : decide (120 < (l0.length : Int)) = true := decide_eq_true c4
      have c4b1 : decide (120 < l0.length) = true := decide_eq_true (by omega)
      clear c4
      obtain rfl := Option.some.inj H
      go_enter Try.func3, Try.ntmps3
      go_wp2_with (first | ((with_reducible refine gate_callee (f := 14) rfl ?_); refine goesL_ (some 6) rfl rfl Try.func14 (by kernel_rfl) rfl #[] rfl (by (try simp only [List.map_toArray, List.map_cons, List.map_nil]); first | done | rfl | (simp only [List.length_drop, List.length_take]; rfl)) ?_; (with_reducible refine (seinelaw12_awake.calls k  true _ A2.out).mono ?_); rintro e w5 ⟨rfl, hb⟩; refine ⟨_, rfl, ?_⟩; have n0_ := Aside0.mk (below_step (by repeat (first | (with_reducible first | exact HB.out | apply below_alloc | apply pw_below_drewN | apply below_drew1) | exact HB.out)) hb); clear HB; have HB := n0_; clear n0_; (try clear hb); (try clear hb2); (try clear hk); (try clear hi)))
      go_ret
      exact ⟨by first | rfl | (simp [errW_none, errW_some] <;> rfl) | (simp [*, errW_none, errW_some] <;> rfl), by repeat (first | (with_reducible first | exact HB.out | apply below_alloc | apply pw_below_drewN | apply below_drew1) | exact HB.out)⟩
    · rw [if_neg c4] at H
      have c4b0 : decide (120 < (l0.length : Int)) = false := decide_eq_false c4
      have c4b1 : decide (120 < l0.length) = false := decide_eq_false (by omega)
      clear c4
      replace H := Option.bind_eq_some_iff.mp H
      obtain ⟨⟨t271, t272, t273⟩, A60, H⟩ := H
      replace H : ((seineref12_Factor.f k (strOfNums l0)).bind fun bt275 => (if t271 = bt275.1 then (if t272 = bt275.2.1 then (some (t273 == bt275.2.2)) else (some false)) else (some false))) = some r := H
      have A6 := Aside0.mk A60
      clear A60
      replace H := Option.bind_eq_some_iff.mp H
      obtain ⟨⟨t275, t276, t277⟩, A70, H⟩ := H
      replace H : (if t271 = t275 then (if t272 = t276 then (some (t273 == t277)) else (some false)) else (some false)) = some r := H
      have A7 := Aside0.mk A70
      clear A70
      by_cases c8 : t271 = t275
      · rw [if_pos c8] at H
        have c8b0 : (t271 == t275) = true := beq_iff_eq.mpr c8
        have c8b1 : (t271 != t275) = false := bne_eq_false_iff_eq.mpr c8
        clear c8
        by_cases c9 : t272 = t276
        · rw [if_pos c9] at H
          have c9b0 : (t272 == t276) = true := beq_iff_eq.mpr c9
          have c9b1 : (t272 != t276) = false := bne_eq_false_iff_eq.mpr c9
          clear c9
          obtain rfl := Option.some.inj H
          go_enter Try.func3, Try.ntmps3
          go_wp2_with (first | ((with_reducible refine gate_callee (f := 14) rfl ?_); refine goesL_ (some 6) rfl rfl Try.func14 (by kernel_rfl) rfl #[] rfl (by (try simp only [List.map_toArray, List.map_cons, List.map_nil]); first | done | rfl | (simp only [List.length_drop, List.length_take]; rfl)) ?_; (with_reducible refine (seinelaw12_awake.calls k  true _ A2.out).mono ?_); rintro e w10 ⟨rfl, hb⟩; refine ⟨_, rfl, ?_⟩; have n0_ := Aside0.mk (below_step (by repeat (first | (with_reducible first | exact HB.out | apply below_alloc | apply pw_below_drewN | apply below_drew1) | exact HB.out)) hb); clear HB; have HB := n0_; clear n0_; (try clear hb); (try clear hb2); (try clear hk); (try clear hi)) | ((with_reducible refine gate_callee (f := 15) rfl ?_); refine goesL_ (some 13) rfl rfl Try.func15 (by kernel_rfl) rfl #[.slice A0 l0.length c0] rfl (by (try simp only [List.map_toArray, List.map_cons, List.map_nil]); first | done | rfl | (simp only [List.length_drop, List.length_take]; rfl)) ?_; (with_reducible refine (critical_Factor.calls _ _ l0 t271 t272 t273 _ ?side1 ?side2 A6.out).mono ?_); (case side1 => repeat (first | exact (Kd.C_below HR0.out HB.out) | (with_reducible refine Kd.C_alloc ?_ _) | (with_reducible refine Kd.C_drewN ?_ _) | (with_reducible refine Kd.C_drew ?_))); (case side2 => exact HC0.out); rintro e w11 ⟨rfl, hb⟩; refine ⟨_, rfl, ?_⟩; have n0_ := Aside0.mk (below_step (by repeat (first | (with_reducible first | exact HB.out | apply below_alloc | apply pw_below_drewN | apply below_drew1) | exact HB.out)) hb); clear HB; have HB := n0_; clear n0_; (try clear hb); (try clear hb2); (try clear hk); (try clear hi)) | ((with_reducible refine gate_dst (N := 4) rfl ?_); refine box_event ?hg (N := 4) ?hd (cs := #[.int .i64 0, .int .i64 0, .bool false]) (t := 25) ?hr ?_; (case hd => rfl); (case hg => rfl); (case hr => first | (go_simp; done) | (go_simp; rfl)); intro gb274 hg w12 hbox hb; have n0_ := Aside0.mk (below_step (by repeat (first | (with_reducible first | exact HB.out | apply below_alloc | apply pw_below_drewN | apply below_drew1) | exact HB.out)) hb); have n1_ := Aside0.mk (hbox); have n2_ := Aside0.mk ((by rw [hg]; exact (below_size (by repeat (first | (with_reducible first | exact HB.out | apply below_alloc | apply pw_below_drewN | apply below_drew1) | exact HB.out))) : w.heap.size ≤ gb274)); have n3_ := Aside0.mk ((by rw [hg]; exact (below_size (by repeat (first | (with_reducible first | exact HB.out | apply below_alloc | apply pw_below_drewN | apply below_drew1) | exact HB.out))) : w.heap.size ≤ gb274)); clear HB; have HB := n0_; have BK274 := n1_; have GW274 := n2_; have GE274 := n3_; clear n0_ n1_ n2_ n3_; clear hb hbox hg; have hcz13_0 : w12.cell? ⟨gb274, 0, none⟩ = some (.int .i64 0) := (blk_cell BK274.out 0).trans rfl; have hcz13_1 : w12.cell? ⟨gb274, 1, none⟩ = some (.int .i64 0) := (blk_cell BK274.out 1).trans rfl; have hcz13_2 : w12.cell? ⟨gb274, 2, none⟩ = some (.bool false) := (blk_cell BK274.out 2).trans rfl; have hfz13_0 := blk_frozen BK274.out 0; have hfz13_1 := blk_frozen BK274.out 1; have hfz13_2 := blk_frozen BK274.out 2; have hcv14 := Kd.C_string (P := Try.prog) (A := A0) (c := c0) Try.underlying22 Try.underlying5 Try.underlying9 (show Kd.C (Kd.int .u8) (((w12.setCell ⟨gb274, 0, none⟩ (.int .i64 t271)).setCell ⟨gb274, 1, none⟩ (.int .i64 t272)).setCell ⟨gb274, 2, none⟩ (.bool t273)) A0 l0.length l0 from Kd.C_below HR0.out (by repeat (first | (with_reducible first | exact HB.out | apply below_alloc | apply pw_below_drewN | apply below_drew1 | refine below_set ?_ GE274.out) | exact HB.out)))) | ((with_reducible refine gate_callee (f := 16) rfl ?_); refine goesL_ (some 16) rfl rfl Try.func16 (by kernel_rfl) rfl #[.string (strOfNums l0)] rfl (by (try simp only [List.map_toArray, List.map_cons, List.map_nil]); first | done | rfl | (simp only [List.length_drop, List.length_take]; rfl)) ?_; (with_reducible refine (seineref12_Factor.calls k (strOfNums l0) t275 t276 t277 _ A7.out).mono ?_); rintro e w15 ⟨rfl, hb⟩; refine ⟨_, rfl, ?_⟩; have n0_ := Aside0.mk (blk_below (g := gb274) (o := .cells #[.int .i64 t271, .int .i64 t272, .bool t273] 25 (0, 0)) (by (with_reducible repeat (first | refine blk_drewN ?_ _ | refine blk_drew ?_ | refine blk_alloc ?_ _)); refine blk_put (cs := #[.int .i64 t271, .int .i64 t272, .bool false]) ?_ 2 _ rfl; (with_reducible repeat (first | refine blk_drewN ?_ _ | refine blk_drew ?_ | refine blk_alloc ?_ _)); refine blk_put (cs := #[.int .i64 t271, .int .i64 0, .bool false]) ?_ 1 _ rfl; (with_reducible repeat (first | refine blk_drewN ?_ _ | refine blk_drew ?_ | refine blk_alloc ?_ _)); refine blk_put (cs := #[.int .i64 0, .int .i64 0, .bool false]) ?_ 0 _ rfl; (with_reducible repeat (first | refine blk_drewN ?_ _ | refine blk_drew ?_ | refine blk_alloc ?_ _)); exact BK274.out) hb); have n1_ := Aside0.mk (below_step (by repeat (first | (with_reducible first | exact HB.out | apply below_alloc | apply pw_below_drewN | apply below_drew1 | refine below_set ?_ GE274.out) | exact HB.out)) hb); clear BK274; clear HB; have BK274 := n0_; have HB := n1_; clear n0_ n1_; (try clear hb); (try clear hb2); (try clear hk); (try clear hi)) | ((with_reducible refine gate_dst (N := 5) rfl ?_); refine box_event ?hg (N := 5) ?hd (cs := #[.int .i64 0, .int .i64 0, .bool false]) (t := 27) ?hr ?_; (case hd => rfl); (case hg => rfl); (case hr => first | (go_simp; done) | (go_simp; rfl)); intro gb278 hg w16 hbox hb; have n0_ := Aside0.mk (blk_below (g := gb274) (o := .cells #[.int .i64 t271, .int .i64 t272, .bool t273] 25 (0, 0)) (by (with_reducible repeat (first | refine blk_drewN ?_ _ | refine blk_drew ?_ | refine blk_alloc ?_ _)); exact BK274.out) hb); have n1_ := Aside0.mk (below_step (by repeat (first | (with_reducible first | exact HB.out | apply below_alloc | apply pw_below_drewN | apply below_drew1 | refine below_set ?_ GE274.out) | exact HB.out)) hb); have n2_ := Aside0.mk (hbox); have n3_ := Aside0.mk ((by rw [hg]; exact (below_size (by repeat (first | (with_reducible first | exact HB.out | apply below_alloc | apply pw_below_drewN | apply below_drew1 | refine below_set ?_ GE274.out) | exact HB.out))) : w.heap.size ≤ gb278)); have n4_ := Aside0.mk ((by rw [hg]; exact (below_size (by repeat (first | (with_reducible first | exact HB.out | apply below_alloc | apply pw_below_drewN | apply below_drew1 | refine below_set ?_ GE274.out) | exact HB.out))) : w.heap.size ≤ gb278)); have n5_ := Aside0.mk ((by rw [hg]; exact Nat.ne_of_lt (blk_lt (g := gb274) (o := .cells #[.int .i64 t271, .int .i64 t272, .bool t273] 25 (0, 0)) (by (with_reducible repeat (first | refine blk_drewN ?_ _ | refine blk_drew ?_ | refine blk_alloc ?_ _)); exact BK274.out)) : gb274 ≠ gb278)); have n6_ := Aside0.mk ((by rw [hg]; exact Nat.ne_of_gt (blk_lt (g := gb274) (o := .cells #[.int .i64 t271, .int .i64 t272, .bool t273] 25 (0, 0)) (by (with_reducible repeat (first | refine blk_drewN ?_ _ | refine blk_drew ?_ | refine blk_alloc ?_ _)); exact BK274.out)) : gb278 ≠ gb274)); clear BK274; clear HB; have BK274 := n0_; have HB := n1_; have BK278 := n2_; have GW278 := n3_; have GE278 := n4_; have NB274_278 := n5_; have NB278_274 := n6_; clear n0_ n1_ n2_ n3_ n4_ n5_ n6_; clear hb hbox hg; have hnb17 := NB278_274.out; have hnc17 := NB274_278.out; have hcz18_0 : w16.cell? ⟨gb278, 0, none⟩ = some (.int .i64 0) := (blk_cell BK278.out 0).trans rfl; have hcz18_1 : w16.cell? ⟨gb278, 1, none⟩ = some (.int .i64 0) := (blk_cell BK278.out 1).trans rfl; have hcz18_2 : w16.cell? ⟨gb278, 2, none⟩ = some (.bool false) := (blk_cell BK278.out 2).trans rfl; have hfz18_0 := blk_frozen BK278.out 0; have hfz18_1 := blk_frozen BK278.out 1; have hfz18_2 := blk_frozen BK278.out 2; have hcz19_0 : w16.cell? ⟨gb274, 0, none⟩ = some (.int .i64 t271) := (blk_cell BK274.out 0).trans rfl; have hcz19_1 : w16.cell? ⟨gb274, 1, none⟩ = some (.int .i64 t272) := (blk_cell BK274.out 1).trans rfl; have hcz19_2 : w16.cell? ⟨gb274, 2, none⟩ = some (.bool t273) := (blk_cell BK274.out 2).trans rfl; have hfz19_0 := blk_frozen BK274.out 0; have hfz19_1 := blk_frozen BK274.out 1; have hfz19_2 := blk_frozen BK274.out 2))
          go_ret
          exact ⟨by first | rfl | (simp [errW_none, errW_some] <;> rfl) | (simp [*, errW_none, errW_some] <;> rfl), by repeat (first | (with_reducible first | exact HB.out | apply below_alloc | apply pw_below_drewN | apply below_drew1 | refine below_set ?_ GE274.out | refine below_set ?_ GE278.out) | exact HB.out)⟩
        · rw [if_neg c9] at H
          have c9b0 : (t272 == t276) = false := beq_eq_false_iff_ne.mpr c9
          have c9b1 : (t272 != t276) = true := bne_iff_ne.mpr c9
          obtain rfl := Option.some.inj H
          go_enter Try.func3, Try.ntmps3
          go_wp2_with (first | ((with_reducible refine gate_callee (f := 14) rfl ?_); refine goesL_ (some 6) rfl rfl Try.func14 (by kernel_rfl) rfl #[] rfl (by (try simp only [List.map_toArray, List.map_cons, List.map_nil]); first | done | rfl | (simp only [List.length_drop, List.length_take]; rfl)) ?_; (with_reducible refine (seinelaw12_awake.calls k  true _ A2.out).mono ?_); rintro e w20 ⟨rfl, hb⟩; refine ⟨_, rfl, ?_⟩; have n0_ := Aside0.mk (below_step (by repeat (first | (with_reducible first | exact HB.out | apply below_alloc | apply pw_below_drewN | apply below_drew1) | exact HB.out)) hb); clear HB; have HB := n0_; clear n0_; (try clear hb); (try clear hb2); (try clear hk); (try clear hi)) | ((with_reducible refine gate_callee (f := 15) rfl ?_); refine goesL_ (some 13) rfl rfl Try.func15 (by kernel_rfl) rfl #[.slice A0 l0.length c0] rfl (by (try simp only [List.map_toArray, List.map_cons, List.map_nil]); first | done | rfl | (simp only [List.length_drop, List.length_take]; rfl)) ?_; (with_reducible refine (critical_Factor.calls _ _ l0 t271 t272 t273 _ ?side1 ?side2 A6.out).mono ?_); (case side1 => repeat (first | exact (Kd.C_below HR0.out HB.out) | (with_reducible refine Kd.C_alloc ?_ _) | (with_reducible refine Kd.C_drewN ?_ _) | (with_reducible refine Kd.C_drew ?_))); (case side2 => exact HC0.out); rintro e w21 ⟨rfl, hb⟩; refine ⟨_, rfl, ?_⟩; have n0_ := Aside0.mk (below_step (by repeat (first | (with_reducible first | exact HB.out | apply below_alloc | apply pw_below_drewN | apply below_drew1) | exact HB.out)) hb); clear HB; have HB := n0_; clear n0_; (try clear hb); (try clear hb2); (try clear hk); (try clear hi)) | ((with_reducible refine gate_dst (N := 4) rfl ?_); refine box_event ?hg (N := 4) ?hd (cs := #[.int .i64 0, .int .i64 0, .bool false]) (t := 25) ?hr ?_; (case hd => rfl); (case hg => rfl); (case hr => first | (go_simp; done) | (go_simp; rfl)); intro gb274 hg w22 hbox hb; have n0_ := Aside0.mk (below_step (by repeat (first | (with_reducible first | exact HB.out | apply below_alloc | apply pw_below_drewN | apply below_drew1) | exact HB.out)) hb); have n1_ := Aside0.mk (hbox); have n2_ := Aside0.mk ((by rw [hg]; exact (below_size (by repeat (first | (with_reducible first | exact HB.out | apply below_alloc | apply pw_below_drewN | apply below_drew1) | exact HB.out))) : w.heap.size ≤ gb274)); have n3_ := Aside0.mk ((by rw [hg]; exact (below_size (by repeat (first | (with_reducible first | exact HB.out | apply below_alloc | apply pw_below_drewN | apply below_drew1) | exact HB.out))) : w.heap.size ≤ gb274)); clear HB; have HB := n0_; have BK274 := n1_; have GW274 := n2_; have GE274 := n3_; clear n0_ n1_ n2_ n3_; clear hb hbox hg; have hcz23_0 : w22.cell? ⟨gb274, 0, none⟩ = some (.int .i64 0) := (blk_cell BK274.out 0).trans rfl; have hcz23_1 : w22.cell? ⟨gb274, 1, none⟩ = some (.int .i64 0) := (blk_cell BK274.out 1).trans rfl; have hcz23_2 : w22.cell? ⟨gb274, 2, none⟩ = some (.bool false) := (blk_cell BK274.out 2).trans rfl; have hfz23_0 := blk_frozen BK274.out 0; have hfz23_1 := blk_frozen BK274.out 1; have hfz23_2 := blk_frozen BK274.out 2; have hcv24 := Kd.C_string (P := Try.prog) (A := A0) (c := c0) Try.underlying22 Try.underlying5 Try.underlying9 (show Kd.C (Kd.int .u8) (((w22.setCell ⟨gb274, 0, none⟩ (.int .i64 t271)).setCell ⟨gb274, 1, none⟩ (.int .i64 t272)).setCell ⟨gb274, 2, none⟩ (.bool t273)) A0 l0.length l0 from Kd.C_below HR0.out (by repeat (first | (with_reducible first | exact HB.out | apply below_alloc | apply pw_below_drewN | apply below_drew1 | refine below_set ?_ GE274.out) | exact HB.out)))) | ((with_reducible refine gate_callee (f := 16) rfl ?_); refine goesL_ (some 16) rfl rfl Try.func16 (by kernel_rfl) rfl #[.string (strOfNums l0)] rfl (by (try simp only [List.map_toArray, List.map_cons, List.map_nil]); first | done | rfl | (simp only [List.length_drop, List.length_take]; rfl)) ?_; (with_reducible refine (seineref12_Factor.calls k (strOfNums l0) t275 t276 t277 _ A7.out).mono ?_); rintro e w25 ⟨rfl, hb⟩; refine ⟨_, rfl, ?_⟩; have n0_ := Aside0.mk (blk_below (g := gb274) (o := .cells #[.int .i64 t271, .int .i64 t272, .bool t273] 25 (0, 0)) (by (with_reducible repeat (first | refine blk_drewN ?_ _ | refine blk_drew ?_ | refine blk_alloc ?_ _)); refine blk_put (cs := #[.int .i64 t271, .int .i64 t272, .bool false]) ?_ 2 _ rfl; (with_reducible repeat (first | refine blk_drewN ?_ _ | refine blk_drew ?_ | refine blk_alloc ?_ _)); refine blk_put (cs := #[.int .i64 t271, .int .i64 0, .bool false]) ?_ 1 _ rfl; (with_reducible repeat (first | refine blk_drewN ?_ _ | refine blk_drew ?_ | refine blk_alloc ?_ _)); refine blk_put (cs := #[.int .i64 0, .int .i64 0, .bool false]) ?_ 0 _ rfl; (with_reducible repeat (first | refine blk_drewN ?_ _ | refine blk_drew ?_ | refine blk_alloc ?_ _)); exact BK274.out) hb); have n1_ := Aside0.mk (below_step (by repeat (first | (with_reducible first | exact HB.out | apply below_alloc | apply pw_below_drewN | apply below_drew1 | refine below_set ?_ GE274.out) | exact HB.out)) hb); clear BK274; clear HB; have BK274 := n0_; have HB := n1_; clear n0_ n1_; (try clear hb); (try clear hb2); (try clear hk); (try clear hi)) | ((with_reducible refine gate_dst (N := 5) rfl ?_); refine box_event ?hg (N := 5) ?hd (cs := #[.int .i64 0, .int .i64 0, .bool false]) (t := 27) ?hr ?_; (case hd => rfl); (case hg => rfl); (case hr => first | (go_simp; done) | (go_simp; rfl)); intro gb278 hg w26 hbox hb; have n0_ := Aside0.mk (blk_below (g := gb274) (o := .cells #[.int .i64 t271, .int .i64 t272, .bool t273] 25 (0, 0)) (by (with_reducible repeat (first | refine blk_drewN ?_ _ | refine blk_drew ?_ | refine blk_alloc ?_ _)); exact BK274.out) hb); have n1_ := Aside0.mk (below_step (by repeat (first | (with_reducible first | exact HB.out | apply below_alloc | apply pw_below_drewN | apply below_drew1 | refine below_set ?_ GE274.out) | exact HB.out)) hb); have n2_ := Aside0.mk (hbox); have n3_ := Aside0.mk ((by rw [hg]; exact (below_size (by repeat (first | (with_reducible first | exact HB.out | apply below_alloc | apply pw_below_drewN | apply below_drew1 | refine below_set ?_ GE274.out) | exact HB.out))) : w.heap.size ≤ gb278)); have n4_ := Aside0.mk ((by rw [hg]; exact (below_size (by repeat (first | (with_reducible first | exact HB.out | apply below_alloc | apply pw_below_drewN | apply below_drew1 | refine below_set ?_ GE274.out) | exact HB.out))) : w.heap.size ≤ gb278)); have n5_ := Aside0.mk ((by rw [hg]; exact Nat.ne_of_lt (blk_lt (g := gb274) (o := .cells #[.int .i64 t271, .int .i64 t272, .bool t273] 25 (0, 0)) (by (with_reducible repeat (first | refine blk_drewN ?_ _ | refine blk_drew ?_ | refine blk_alloc ?_ _)); exact BK274.out)) : gb274 ≠ gb278)); have n6_ := Aside0.mk ((by rw [hg]; exact Nat.ne_of_gt (blk_lt (g := gb274) (o := .cells #[.int .i64 t271, .int .i64 t272, .bool t273] 25 (0, 0)) (by (with_reducible repeat (first | refine blk_drewN ?_ _ | refine blk_drew ?_ | refine blk_alloc ?_ _)); exact BK274.out)) : gb278 ≠ gb274)); clear BK274; clear HB; have BK274 := n0_; have HB := n1_; have BK278 := n2_; have GW278 := n3_; have GE278 := n4_; have NB274_278 := n5_; have NB278_274 := n6_; clear n0_ n1_ n2_ n3_ n4_ n5_ n6_; clear hb hbox hg; have hnb27 := NB278_274.out; have hnc27 := NB274_278.out; have hcz28_0 : w26.cell? ⟨gb278, 0, none⟩ = some (.int .i64 0) := (blk_cell BK278.out 0).trans rfl; have hcz28_1 : w26.cell? ⟨gb278, 1, none⟩ = some (.int .i64 0) := (blk_cell BK278.out 1).trans rfl; have hcz28_2 : w26.cell? ⟨gb278, 2, none⟩ = some (.bool false) := (blk_cell BK278.out 2).trans rfl; have hfz28_0 := blk_frozen BK278.out 0; have hfz28_1 := blk_frozen BK278.out 1; have hfz28_2 := blk_frozen BK278.out 2; have hcz29_0 : w26.cell? ⟨gb274, 0, none⟩ = some (.int .i64 t271) := (blk_cell BK274.out 0).trans rfl; have hcz29_1 : w26.cell? ⟨gb274, 1, none⟩ = some (.int .i64 t272) := (blk_cell BK274.out 1).trans rfl; have hcz29_2 : w26.cell? ⟨gb274, 2, none⟩ = some (.bool t273) := (blk_cell BK274.out 2).trans rfl; have hfz29_0 := blk_frozen BK274.out 0; have hfz29_1 := blk_frozen BK274.out 1; have hfz29_2 := blk_frozen BK274.out 2))
          go_ret
          exact ⟨by first | rfl | (simp [errW_none, errW_some] <;> rfl) | (simp [*, errW_none, errW_some] <;> rfl), by repeat (first | (with_reducible first | exact HB.out | apply below_alloc | apply pw_below_drewN | apply below_drew1 | refine below_set ?_ GE274.out | refine below_set ?_ GE278.out) | exact HB.out)⟩
      · rw [if_neg c8] at H
        have c8b0 : (t271 == t275) = false := beq_eq_false_iff_ne.mpr c8
        have c8b1 : (t271 != t275) = true := bne_iff_ne.mpr c8
        obtain rfl := Option.some.inj H
        go_enter Try.func3, Try.ntmps3
        go_wp2_with (first | ((with_reducible refine gate_callee (f := 14) rfl ?_); refine goesL_ (some 6) rfl rfl Try.func14 (by kernel_rfl) rfl #[] rfl (by (try simp only [List.map_toArray, List.map_cons, List.map_nil]); first | done | rfl | (simp only [List.length_drop, List.length_take]; rfl)) ?_; (with_reducible refine (seinelaw12_awake.calls k  true _ A2.out).mono ?_); rintro e w30 ⟨rfl, hb⟩; refine ⟨_, rfl, ?_⟩; have n0_ := Aside0.mk (below_step (by repeat (first | (with_reducible first | exact HB.out | apply below_alloc | apply pw_below_drewN | apply below_drew1) | exact HB.out)) hb); clear HB; have HB := n0_; clear n0_; (try clear hb); (try clear hb2); (try clear hk); (try clear hi)) | ((with_reducible refine gate_callee (f := 15) rfl ?_); refine goesL_ (some 13) rfl rfl Try.func15 (by kernel_rfl) rfl #[.slice A0 l0.length c0] rfl (by (try simp only [List.map_toArray, List.map_cons, List.map_nil]); first | done | rfl | (simp only [List.length_drop, List.length_take]; rfl)) ?_; (with_reducible refine (critical_Factor.calls _ _ l0 t271 t272 t273 _ ?side1 ?side2 A6.out).mono ?_); (case side1 => repeat (first | exact (Kd.C_below HR0.out HB.out) | (with_reducible refine Kd.C_alloc ?_ _) | (with_reducible refine Kd.C_drewN ?_ _) | (with_reducible refine Kd.C_drew ?_))); (case side2 => exact HC0.out); rintro e w31 ⟨rfl, hb⟩; refine ⟨_, rfl, ?_⟩; have n0_ := Aside0.mk (below_step (by repeat (first | (with_reducible first | exact HB.out | apply below_alloc | apply pw_below_drewN | apply below_drew1) | exact HB.out)) hb); clear HB; have HB := n0_; clear n0_; (try clear hb); (try clear hb2); (try clear hk); (try clear hi)) | ((with_reducible refine gate_dst (N := 4) rfl ?_); refine box_event ?hg (N := 4) ?hd (cs := #[.int .i64 0, .int .i64 0, .bool false]) (t := 25) ?hr ?_; (case hd => rfl); (case hg => rfl); (case hr => first | (go_simp; done) | (go_simp; rfl)); intro gb274 hg w32 hbox hb; have n0_ := Aside0.mk (below_step (by repeat (first | (with_reducible first | exact HB.out | apply below_alloc | apply pw_below_drewN | apply below_drew1) | exact HB.out)) hb); have n1_ := Aside0.mk (hbox); have n2_ := Aside0.mk ((by rw [hg]; exact (below_size (by repeat (first | (with_reducible first | exact HB.out | apply below_alloc | apply pw_below_drewN | apply below_drew1) | exact HB.out))) : w.heap.size ≤ gb274)); have n3_ := Aside0.mk ((by rw [hg]; exact (below_size (by repeat (first | (with_reducible first | exact HB.out | apply below_alloc | apply pw_below_drewN | apply below_drew1) | exact HB.out))) : w.heap.size ≤ gb274)); clear HB; have HB := n0_; have BK274 := n1_; have GW274 := n2_; have GE274 := n3_; clear n0_ n1_ n2_ n3_; clear hb hbox hg; have hcz33_0 : w32.cell? ⟨gb274, 0, none⟩ = some (.int .i64 0) := (blk_cell BK274.out 0).trans rfl; have hcz33_1 : w32.cell? ⟨gb274, 1, none⟩ = some (.int .i64 0) := (blk_cell BK274.out 1).trans rfl; have hcz33_2 : w32.cell? ⟨gb274, 2, none⟩ = some (.bool false) := (blk_cell BK274.out 2).trans rfl; have hfz33_0 := blk_frozen BK274.out 0; have hfz33_1 := blk_frozen BK274.out 1; have hfz33_2 := blk_frozen BK274.out 2; have hcv34 := Kd.C_string (P := Try.prog) (A := A0) (c := c0) Try.underlying22 Try.underlying5 Try.underlying9 (show Kd.C (Kd.int .u8) (((w32.setCell ⟨gb274, 0, none⟩ (.int .i64 t271)).setCell ⟨gb274, 1, none⟩ (.int .i64 t272)).setCell ⟨gb274, 2, none⟩ (.bool t273)) A0 l0.length l0 from Kd.C_below HR0.out (by repeat (first | (with_reducible first | exact HB.out | apply below_alloc | apply pw_below_drewN | apply below_drew1 | refine below_set ?_ GE274.out) | exact HB.out)))) | ((with_reducible refine gate_callee (f := 16) rfl ?_); refine goesL_ (some 16) rfl rfl Try.func16 (by kernel_rfl) rfl #[.string (strOfNums l0)] rfl (by (try simp only [List.map_toArray, List.map_cons, List.map_nil]); first | done | rfl | (simp only [List.length_drop, List.length_take]; rfl)) ?_; (with_reducible refine (seineref12_Factor.calls k (strOfNums l0) t275 t276 t277 _ A7.out).mono ?_); rintro e w35 ⟨rfl, hb⟩; refine ⟨_, rfl, ?_⟩; have n0_ := Aside0.mk (blk_below (g := gb274) (o := .cells #[.int .i64 t271, .int .i64 t272, .bool t273] 25 (0, 0)) (by (with_reducible repeat (first | refine blk_drewN ?_ _ | refine blk_drew ?_ | refine blk_alloc ?_ _)); refine blk_put (cs := #[.int .i64 t271, .int .i64 t272, .bool false]) ?_ 2 _ rfl; (with_reducible repeat (first | refine blk_drewN ?_ _ | refine blk_drew ?_ | refine blk_alloc ?_ _)); refine blk_put (cs := #[.int .i64 t271, .int .i64 0, .bool false]) ?_ 1 _ rfl; (with_reducible repeat (first | refine blk_drewN ?_ _ | refine blk_drew ?_ | refine blk_alloc ?_ _)); refine blk_put (cs := #[.int .i64 0, .int .i64 0, .bool false]) ?_ 0 _ rfl; (with_reducible repeat (first | refine blk_drewN ?_ _ | refine blk_drew ?_ | refine blk_alloc ?_ _)); exact BK274.out) hb); have n1_ := Aside0.mk (below_step (by repeat (first | (with_reducible first | exact HB.out | apply below_alloc | apply pw_below_drewN | apply below_drew1 | refine below_set ?_ GE274.out) | exact HB.out)) hb); clear BK274; clear HB; have BK274 := n0_; have HB := n1_; clear n0_ n1_; (try clear hb); (try clear hb2); (try clear hk); (try clear hi)) | ((with_reducible refine gate_dst (N := 5) rfl ?_); refine box_event ?hg (N := 5) ?hd (cs := #[.int .i64 0, .int .i64 0, .bool false]) (t := 27) ?hr ?_; (case hd => rfl); (case hg => rfl); (case hr => first | (go_simp; done) | (go_simp; rfl)); intro gb278 hg w36 hbox hb; have n0_ := Aside0.mk (blk_below (g := gb274) (o := .cells #[.int .i64 t271, .int .i64 t272, .bool t273] 25 (0, 0)) (by (with_reducible repeat (first | refine blk_drewN ?_ _ | refine blk_drew ?_ | refine blk_alloc ?_ _)); exact BK274.out) hb); have n1_ := Aside0.mk (below_step (by repeat (first | (with_reducible first | exact HB.out | apply below_alloc | apply pw_below_drewN | apply below_drew1 | refine below_set ?_ GE274.out) | exact HB.out)) hb); have n2_ := Aside0.mk (hbox); have n3_ := Aside0.mk ((by rw [hg]; exact (below_size (by repeat (first | (with_reducible first | exact HB.out | apply below_alloc | apply pw_below_drewN | apply below_drew1 | refine below_set ?_ GE274.out) | exact HB.out))) : w.heap.size ≤ gb278)); have n4_ := Aside0.mk ((by rw [hg]; exact (below_size (by repeat (first | (with_reducible first | exact HB.out | apply below_alloc | apply pw_below_drewN | apply below_drew1 | refine below_set ?_ GE274.out) | exact HB.out))) : w.heap.size ≤ gb278)); have n5_ := Aside0.mk ((by rw [hg]; exact Nat.ne_of_lt (blk_lt (g := gb274) (o := .cells #[.int .i64 t271, .int .i64 t272, .bool t273] 25 (0, 0)) (by (with_reducible repeat (first | refine blk_drewN ?_ _ | refine blk_drew ?_ | refine blk_alloc ?_ _)); exact BK274.out)) : gb274 ≠ gb278)); have n6_ := Aside0.mk ((by rw [hg]; exact Nat.ne_of_gt (blk_lt (g := gb274) (o := .cells #[.int .i64 t271, .int .i64 t272, .bool t273] 25 (0, 0)) (by (with_reducible repeat (first | refine blk_drewN ?_ _ | refine blk_drew ?_ | refine blk_alloc ?_ _)); exact BK274.out)) : gb278 ≠ gb274)); clear BK274; clear HB; have BK274 := n0_; have HB := n1_; have BK278 := n2_; have GW278 := n3_; have GE278 := n4_; have NB274_278 := n5_; have NB278_274 := n6_; clear n0_ n1_ n2_ n3_ n4_ n5_ n6_; clear hb hbox hg; have hnb37 := NB278_274.out; have hnc37 := NB274_278.out; have hcz38_0 : w36.cell? ⟨gb278, 0, none⟩ = some (.int .i64 0) := (blk_cell BK278.out 0).trans rfl; have hcz38_1 : w36.cell? ⟨gb278, 1, none⟩ = some (.int .i64 0) := (blk_cell BK278.out 1).trans rfl; have hcz38_2 : w36.cell? ⟨gb278, 2, none⟩ = some (.bool false) := (blk_cell BK278.out 2).trans rfl; have hfz38_0 := blk_frozen BK278.out 0; have hfz38_1 := blk_frozen BK278.out 1; have hfz38_2 := blk_frozen BK278.out 2; have hcz39_0 : w36.cell? ⟨gb274, 0, none⟩ = some (.int .i64 t271) := (blk_cell BK274.out 0).trans rfl; have hcz39_1 : w36.cell? ⟨gb274, 1, none⟩ = some (.int .i64 t272) := (blk_cell BK274.out 1).trans rfl; have hcz39_2 : w36.cell? ⟨gb274, 2, none⟩ = some (.bool t273) := (blk_cell BK274.out 2).trans rfl; have hfz39_0 := blk_frozen BK274.out 0; have hfz39_1 := blk_frozen BK274.out 1; have hfz39_2 := blk_frozen BK274.out 2))
        go_ret
        exact ⟨by first | rfl | (simp [errW_none, errW_some] <;> rfl) | (simp [*, errW_none, errW_some] <;> rfl), by repeat (first | (with_reducible first | exact HB.out | apply below_alloc | apply pw_below_drewN | apply below_drew1 | refine below_set ?_ GE274.out | refine below_set ?_ GE278.out) | exact HB.out)⟩
  · replace c3 := Bool.eq_false_iff.mpr c3
    subst c3
    have H1 : (some false) = some r := by rw [if_neg (show ¬ (false = true) by decide)] at H; exact H
    clear H
    have H := H1
    clear H1
    obtain rfl := Option.some.inj H
    go_enter Try.func3, Try.ntmps3
    go_wp2_with (first | ((with_reducible refine gate_callee (f := 14) rfl ?_); refine goesL_ (some 6) rfl rfl Try.func14 (by kernel_rfl) rfl #[] rfl (by (try simp only [List.map_toArray, List.map_cons, List.map_nil]); first | done | rfl | (simp only [List.length_drop, List.length_take]; rfl)) ?_; (with_reducible refine (seinelaw12_awake.calls k  false _ A2.out).mono ?_); rintro e w40 ⟨rfl, hb⟩; refine ⟨_, rfl, ?_⟩; have n0_ := Aside0.mk (below_step (by repeat (first | (with_reducible first | exact HB.out | apply below_alloc | apply pw_below_drewN | apply below_drew1) | exact HB.out)) hb); clear HB; have HB := n0_; clear n0_; (try clear hb); (try clear hb2); (try clear hk); (try clear hi)))
    go_ret
    exact ⟨by first | rfl | (simp [errW_none, errW_some] <;> rfl) | (simp [*, errW_none, errW_some] <;> rfl), by repeat (first | (with_reducible first | exact HB.out | apply below_alloc | apply pw_below_drewN | apply below_drew1) | exact HB.out)⟩

/-- THE ONE PURE STATEMENT of seinelaw12_CriticalFactor: yours. -/
def seinelaw12_CriticalFactor.Pure : Prop := ∀ (l0 : List Int), l0.length ≤ maxLen → l0.length * 1 ≤ 140737488351232 → (∀ x ∈ l0, (Lit.int .u8 x).wf = true) → ∃ k, seinelaw12_CriticalFactor.f k l0 = some true
theorem seinelaw12_CriticalFactor.walk (P : seinelaw12_CriticalFactor.Pure) (a0 : Option Addr) (len0 cap0 : Nat) (z0 : List Int) (w : World) (w0 : (a0 = none ∧ len0 = 0 ∧ cap0 = 0 ∧ z0 = []) ∨ ∃ x, a0 = some x ∧ len0 ≤ cap0 ∧ cap0 ≤ maxLen ∧ z0.length = cap0 ∧ (∀ i, i < z0.length → w.cell? (x.add i) = some (.int .u8 (z0.getD i 0))) ∧ ∀ n ∈ z0, (Lit.int .u8 n).wf = true) (y0 : len0 * 1 ≤ 140737488351232) :
    Calls Try.prog 3 #[.slice a0 len0 cap0] w fun e w' => e = .returned (.bool true) ∧ Below w.heap.size w w' := by
  obtain ⟨l0, rfl, hr0, hm0, hw0, hc0⟩ := ReadsInt.ofRowC w0
  obtain ⟨k, h⟩ := P l0 hm0 y0 hw0
  refine (seinelaw12_CriticalFactor.calls k _ _ l0 true w (Kd.C_of_reads (d := (0 : Int)) (h1 := fun _ => rfl) hr0) hc0 h).mono ?_
  rintro e w' ⟨rfl, hd⟩
  exact ⟨rfl, hd⟩

end Go.Proofs.Ytkoahbhiffahdaa.All
