/- By hand: the example of layer 14 (awake): it holds. No condition. -/
import Derived.Test.YtifbcboefopioaaBackE
set_option linter.unusedVariables false
namespace Go.Proofs.Ytifbcboefopioaa.Tri
open Go.RowKit Go.Maps Go.Proofs.YtifbcboefopioaaW.PrintWords Go.Proofs.YtifbcboefopioaaW.PrintLast Go.Proofs.YtifbcboefopioaaW.PrintMore Go.Proofs.Ytifbcboefopioaa.Kit Go.Proofs.Ytifbcboefopioaa.All
attribute [local go_sem] max2_int min2_int max_two min_two max_three min_three max_four min_four

theorem stays_backAt (g base b : Nat) (least : Int) (near : List Int) (P : List Txt) (wd : Txt → Int) : Stays (fun w => BackIs w g (.pointer (some ⟨b, 0, none⟩)) least near ∧ TreeAt w base b P wd) := fun w w' h hb => ⟨h.1.below hb, h.2.below hb⟩
/-- Two constant texts in a row. -/
theorem two_rows (w : World) (x y : Txt) (hx : x.length ≤ 1000) (hy : y.length ≤ 1000) (fx fy : Nat × Nat) (n : Nat) (hn : w.heap.size = n) : Kd.C (Kd.slice 5 (Kd.int .u8)) (((w.alloc (.cells (nums .u8 x).toArray 5 fx)).alloc (.cells (nums .u8 y).toArray 5 fy)).alloc (.cells #[.slice (some ⟨n, 0, none⟩) x.length x.length, .slice (some ⟨n + 1, 0, none⟩) y.length y.length] 32)) (some ⟨n + 1 + 1, 0, none⟩) 2 [x, y] := by
  subst hn
  have e1 : (w.alloc (.cells (nums .u8 x).toArray 5 fx)).heap.size = w.heap.size + 1 := by simp
  have e2 : ((w.alloc (.cells (nums .u8 x).toArray 5 fx)).alloc (.cells (nums .u8 y).toArray 5 fy)).heap.size = w.heap.size + 1 + 1 := by simp
  have h1 := lit_frozen w x (nums .u8 x) rfl hx fx
  have h2 := lit_frozen (w.alloc (.cells (nums .u8 x).toArray 5 fx)) y (nums .u8 y) rfl hy fy
  rw [e1] at h2
  have := rows_new ((w.alloc (.cells (nums .u8 x).toArray 5 fx)).alloc (.cells (nums .u8 y).toArray 5 fy)) [.slice (some ⟨w.heap.size, 0, none⟩) x.length x.length, .slice (some ⟨w.heap.size + 1, 0, none⟩) y.length y.length] [x, y] rfl (by simp) (by
    intro j z hj
    match j, hj with
    | 0, hj => cases hj; exact ⟨_, _, rfl, Nat.le_refl _, Kd.C_alloc h1 _⟩
    | 1, hj => cases hj; exact ⟨_, _, rfl, Nat.le_refl _, h2⟩
    | j + 2, hj => simp at hj) 32
  rw [e2] at this
  exact this
def exQ : List Txt := [[], [98], [98, 97], [98, 97, 99]]
def exW : Txt → Int := place [[98, 97, 99], [98]]
def exN : List Int := nearN [[98, 97, 99], [98]]
theorem exQ_good : Good exQ := by
  have := pathsL_good [[98, 97, 99], [98]]
  exact this
theorem bbuild2 (w : World) (c : Nat) {A : Option Addr} (hr : Kd.C (Kd.slice 5 (Kd.int .u8)) w A 2 [[99, 97, 98], [98]]) : Calls Try.prog 35 #[.slice A 2 c] w fun e w' => ∃ g base b, e = .returned (.pointer (some ⟨g, 0, none⟩)) ∧ (BackIs w' g (.pointer (some ⟨b, 0, none⟩)) 1 exN ∧ TreeAt w' base b exQ exW) ∧ Below w.heap.size w w' :=
  (bbuild_at w A c [[99, 97, 98], [98]] hr (by
    intro s hs x hx
    simp at hs
    rcases hs with rfl | rfl <;> simp at hx <;> omega) (by decide) (by decide)).mono fun e w' ⟨g, base, b, he, hk, ht, hb⟩ => ⟨g, base, b, he, ⟨hk, ht⟩, hb⟩
theorem exN97 : rd exN 97 = 2 := by decide +kernel
theorem exN120 : rd exN 120 = 0 := by decide +kernel
set_option maxRecDepth 100000 in
set_option maxHeartbeats 4000000 in
theorem awake14_at (w : World) : Calls Try.prog 33 #[] w fun e w' => e = .returned (.bool true) ∧ Below w.heap.size w w' := by
  have kc := conv_lit
  have TR : Aside0 (Kd.C (Kd.slice 5 (Kd.int .u8)) (((w.alloc (.cells #[.int .u8 99, .int .u8 97, .int .u8 98] 5 (3, 4))).alloc (.cells #[.int .u8 98] 5 (1, 2))).alloc (.cells #[.slice (some ⟨w.heap.size, 0, none⟩) 3 3, .slice (some ⟨w.heap.size + 1, 0, none⟩) 1 1] 32)) (some ⟨w.heap.size + 1 + 1, 0, none⟩) 2 [[99, 97, 98], [98]]) := ⟨two_rows w [99, 97, 98] [98] (by decide) (by decide) (3, 4) (1, 2) _ rfl⟩
  have bw := fun (w1 : World) (h : Below (w.heap.size + 1 + 1 + 1) (((w.alloc (.cells #[.int .u8 99, .int .u8 97, .int .u8 98] 5 (3, 4))).alloc (.cells #[.int .u8 98] 5 (1, 2))).alloc (.cells #[.slice (some ⟨w.heap.size, 0, none⟩) 3 3, .slice (some ⟨w.heap.size + 1, 0, none⟩) 1 1] 32)) w1) => (below_alloc (below_alloc (below_alloc (Below.refl w.heap.size w) (.cells #[.int .u8 99, .int .u8 97, .int .u8 98] 5 (3, 4))) (.cells #[.int .u8 98] 5 (1, 2))) (.cells #[.slice (some ⟨w.heap.size, 0, none⟩) 3 3, .slice (some ⟨w.heap.size + 1, 0, none⟩) 1 1] 32)).trans (h.mono (by omega))
  have BW := Aside0.mk bw
  clear bw
  go_enter Try.func33, Try.ntmps33
  go_upto_region 2 with (go_at_call 35; (refine (bbuild2 _ _ TR.out).mono ?_); rintro e w1 ⟨g, base, b, rfl, ht, hb⟩; have HT := Aside0.mk ht; have HB := Aside0.mk (BW.out _ (by simpa using hb)); clear ht hb)
  obtain ⟨G, SG, G1, GG⟩ := stays_pack ((stays_below w).and (stays_backAt g base b 1 exN exQ exW)) ⟨HB.out, HT.out⟩
  have X1 := HT.out.1.tr
  clear HT HB TR BW
  have WH1 := Aside0.mk (fun (w1 : World) (h : G w1) => whole_at (GG.out w1 h).2.1 (GG.out w1 h).2.2 1 [98] rfl)
  have WH2 := Aside0.mk (fun (w1 : World) (h : G w1) => whole_at (GG.out w1 h).2.1 (GG.out w1 h).2.2 2 [98, 97] rfl)
  have WH3 := Aside0.mk (fun (w1 : World) (h : G w1) => whole_at (GG.out w1 h).2.1 (GG.out w1 h).2.2 3 [98, 97, 99] rfl)
  have NR1 := Aside0.mk (fun (w1 : World) (h : G w1) => near_at (GG.out w1 h).2.1 97 (by decide))
  have NR2 := Aside0.mk (fun (w1 : World) (h : G w1) => near_at (GG.out w1 h).2.1 120 (by decide))
  have LS := Aside0.mk (fun (w1 : World) (h : G w1) => least_at (GG.out w1 h).2.1)
  have ND := Aside0.mk (fun (w1 : World) (h : G w1) => nodes_at (GG.out w1 h).2.2)
  have EN := Aside0.mk (fun (w1 : World) (h : G w1) => end_at (GG.out w1 h).2.1 exQ_good (GG.out w1 h).2.2 (by decide) 3 [98, 97, 99] rfl (by decide))
  simp only [show wholeB (exW [98]) = true by decide, show wholeB (exW [98, 97]) = false by decide, show wholeB (exW [98, 97, 99]) = true by decide, show ((97 : Nat) : Int) = 97 from rfl, show ((120 : Nat) : Int) = 120 from rfl, show ((1 : Nat) : Int) = 1 from rfl, show ((2 : Nat) : Int) = 2 from rfl, show ((3 : Nat) : Int) = 3 from rfl, exN97, exN120, show exQ.length = 4 from rfl, show ((4 : Nat) : Int) = 4 from rfl, show ([98, 97, 99] : Txt).reverse = [99, 97, 98] from rfl] at WH1 WH2 WH3 NR1 NR2 ND EN
  go_wp2_with (first
    | (go_at_call 23; (with_reducible refine (ND.out _ G1.out).mono ?_); rintro e w' ⟨rfl, hw⟩; subst hw)
    | (go_at_call 39; (with_reducible refine (EN.out _ G1.out).mono ?_); rintro e w2 ⟨v, rfl, ho, hb⟩; obtain ⟨A2, c2, rfl, hv2⟩ := row_text ho; have G2 := Aside0.mk (SG.out _ _ G1.out hb); change (convert 32 9 (.slice A2 3 c2)).run Try.prog w2 = .ok (.string ⟨#[99, 97, 98]⟩) w2 at hv2; clear ho hb)
    | (go_at_call 41; (with_reducible refine (WH1.out _ G2.out).mono ?_); rintro e w' ⟨rfl, hw⟩; subst hw)
    | (go_at_call 41; (with_reducible refine (WH2.out _ G2.out).mono ?_); rintro e w' ⟨rfl, hw⟩; subst hw)
    | (go_at_call 41; (with_reducible refine (WH3.out _ G2.out).mono ?_); rintro e w' ⟨rfl, hw⟩; subst hw)
    | (go_at_call 37; (with_reducible refine (LS.out _ G2.out).mono ?_); rintro e w' ⟨rfl, hw⟩; subst hw)
    | (go_at_call 42; (with_reducible refine (NR1.out _ G2.out).mono ?_); rintro e w' ⟨rfl, hw⟩; subst hw)
    | (go_at_call 42; (with_reducible refine (NR2.out _ G2.out).mono ?_); rintro e w' ⟨rfl, hw⟩; subst hw)
    | (go_at_call 44; (refine (turn_at _ _ [97, 98, 99] _ (lit_frozen _ [97, 98, 99] [.int .u8 97, .int .u8 98, .int .u8 99] rfl (by decide) _) (Nat.le_refl _) (by decide)).mono ?_); rintro e w3 ⟨v, rfl, ho, hb⟩; obtain ⟨A3, c3, rfl, hv3⟩ := row_text ho; have G3 := Aside0.mk (below_step (below_alloc (GG.out _ G2.out).1 _) hb); change (convert 32 9 (.slice A3 3 c3)).run Try.prog w3 = .ok (.string ⟨#[99, 98, 97]⟩) w3 at hv3; clear ho hb))
  go_ret
  exact ⟨rfl, G3.out⟩
end Go.Proofs.Ytifbcboefopioaa.Tri
