/- By hand: the law BackNear, walked whole. No condition. -/
import Derived.Test.YtifbcboefopioaaBackL
set_option linter.unusedVariables false
set_option linter.unusedSimpArgs false
namespace Go.Proofs.Ytifbcboefopioaa.Tri
open Go.RowKit Go.Maps Go.Proofs.YtifbcboefopioaaW.PrintWords Go.Proofs.YtifbcboefopioaaW.PrintLast Go.Proofs.YtifbcboefopioaaW.PrintMore Go.Proofs.Ytifbcboefopioaa.Kit Go.Proofs.Ytifbcboefopioaa.All
attribute [local go_sem] max2_int min2_int max_two min_two max_three min_three max_four min_four

set_option maxRecDepth 100000 in
set_option maxHeartbeats 4000000 in
theorem bnear_law (A0 : Option Addr) (c0 : Nat) (L : List Txt) (x : Int) (w : World)
    (hr0 : Kd.C (Kd.slice 5 (Kd.int .u8)) w A0 L.length L) (hc0 : L.length ≤ c0) (hB : ∀ s ∈ L, Bytes s) (hL : L.length ≤ 8000000000000) (x0 : 0 ≤ x) (x1 : x ≤ 255) :
    Calls Try.prog 10 #[.slice A0 L.length c0, .int .u8 x] w fun e w' => e = .returned (.bool true) ∧ Below w.heap.size w w' := by
  obtain ⟨k, r, bo, hT, hbo⟩ := texts14_two L (by omega)
  obtain ⟨F, SF, E0, FF⟩ := stays_pack ((stays_below w).and (stays_reads (Kd.slice 5 (Kd.int .u8)) A0 L.length L)) ⟨Below.refl _ _, hr0⟩
  have HC0 := Aside0.mk hc0
  have T0 := Aside0.mk hT
  have HBO := Aside0.mk hbo
  clear hr0 hc0 hT hbo
  cases bo with
  | false =>
    go_enter Try.func10, Try.ntmps10
    go_wp2_with (first
      | (go_at_call 33; (refine (awake14_at _).mono ?_); rintro e w1 ⟨rfl, hb⟩; have E1 := Aside0.mk (SF.out _ _ E0.out hb); clear hb)
      | (go_at_call 34; (refine (texts14_at _ A0 c0 L k r false (FF.out _ E1.out).2 HC0.out T0.out).mono ?_); rintro e w2 ⟨AW, cW, rfl, hcW, hW, hb⟩; have E2 := Aside0.mk (SF.out _ _ E1.out hb); clear hW hcW hb))
    go_ret
    exact ⟨rfl, (FF.out _ E2.out).1⟩
  | true =>
  obtain ⟨hrm, l12, l40⟩ := HBO.out rfl
  subst hrm
  clear HBO
  have hTl := Nat.le_trans (TL_len L) l12
  have hTB := TL_bytes hB
  have hTS := TL_short l40
  have hTN := TL_ne L
  have hPl := paths_len hTl hTS
  have hPB := pathsL_bytes hTB
  have hPS := paths_short hTS
  have hG := pathsL_good (TL L)
  have hPm := pathsL_mem (TL L)
  obtain ⟨P, hP⟩ : ∃ P, P = pathsL (TL L) := ⟨_, rfl⟩
  rw [← hP] at hPl hPB hPS hG hPm
  obtain ⟨T, hT⟩ : ∃ T, T = TL L := ⟨_, rfl⟩
  rw [← hT] at hTl hTB hTS hTN hPm hP
  have upT : ∀ x ∈ T, x.length ≤ 1000 := fun x hx => Nat.le_trans (hTS x hx) (show 40 ≤ 1000 by decide)
  have up := fun (x : Txt) (hx : x ∈ L) => Nat.le_trans (l40 x hx) (show 40 ≤ 1000 by decide)
  have L40 := Aside0.mk l40
  have HPB := Aside0.mk hPB
  have HPS := Aside0.mk hPS
  have HPM := Aside0.mk hPm
  have HG := Aside0.mk hG
  have HB := Aside0.mk hB
  have HP := Aside0.mk hP
  have HT := Aside0.mk hT
  have HTB := Aside0.mk hTB
  have HTS := Aside0.mk hTS
  have HTN := Aside0.mk hTN
  have UP := Aside0.mk up
  have UPT := Aside0.mk upT
  clear l40 hPB hPS hG hB hP hPm hT hTB hTS hTN up upT
  have hpl2 : P.length ≤ 4611686018427387904 := by omega
  obtain ⟨q, hq⟩ : ∃ q, rd (nearN T) x = q := ⟨_, rfl⟩
  have HQ0 := Aside0.mk hq
  have NA : Aside0 (∀ w1 g tp le, BackIs w1 g tp le (nearN T) → Calls Try.prog 42 #[.pointer (some ⟨g, 0, none⟩), .int .u8 x] w1 fun e w' => e = .returned (.int .i64 q) ∧ w' = w1) := ⟨fun w1 g tp le h => by
    have := near_at h x.toNat (by omega)
    rwa [Int.toNat_of_nonneg x0, hq] at this⟩
  clear hq
  go_enter Try.func10, Try.ntmps10
  go_wp2_with (first
      | (go_at_call 33; (refine (awake14_at _).mono ?_); rintro e w1 ⟨rfl, hb⟩; have E1 := Aside0.mk (SF.out _ _ E0.out hb); clear hb)
      | (go_at_call 34; (refine (texts14_ok _ A0 c0 L k (FF.out _ E1.out).2 HC0.out T0.out).mono ?_); rintro e w2 ⟨AW, cW, rfl, hcW, hW, hb⟩; have E2 := Aside0.mk (SF.out _ _ E1.out hb); have HW := Aside0.mk hW; have HCW := Aside0.mk hcW; clear hW hcW hb)
      | (go_at_call 35; (refine (bbuild_to _ A0 c0 L T P HT.out HP.out (FF.out _ E2.out).2 HB.out (by omega) UP.out).mono ?_); rintro e w3 ⟨g, base, b, rfl, hk, ht, hb⟩; have E3 := Aside0.mk (SF.out _ _ E2.out hb); have HW3 := Aside0.mk (Kd.C_below HW.out hb); have HK := Aside0.mk (And.intro hk ht); clear hk ht hb)
      | (go_at_call 42; (with_reducible refine (NA.out _ _ _ _ HK.out.1).mono ?_); rintro e w' ⟨rfl, hw⟩; subst hw)
      | (go_at_call 36; (refine (turned_at _ AW cW L T HT.out (by omega) UP.out HW3.out HCW.out).mono ?_); rintro e w4 ⟨AT, cT, rfl, hcT, hC, hb⟩; have E4 := Aside0.mk (SF.out _ _ E3.out hb); have HK4 := Aside0.mk (And.intro (HK.out.1.below hb) (HK.out.2.below hb)); have HCT := Aside0.mk hcT; have HQ := Aside0.mk hC; clear hcT hC hb)
      | (go_at_call 43; (refine (near14_at _ AT cT T (by omega) HTB.out UPT.out x x0 x1 HQ.out HCT.out).mono ?_); rintro e w5 ⟨rfl, hb⟩; have E5 := Aside0.mk (SF.out _ _ E4.out hb); rw [HQ0.out]; clear hb)
      | (go_at_call 42; (with_reducible refine (near_nil _ _).mono ?_); rintro e w' ⟨rfl, hw⟩; subst hw)
      | (go_at_call 37; (with_reducible refine (least_nil _).mono ?_); rintro e w' ⟨rfl, hw⟩; subst hw)
      | (go_at_call 41; (with_reducible refine (whole_nil _ _).mono ?_); rintro e w' ⟨rfl, hw⟩; subst hw)
      | (go_at_call 39; (with_reducible refine (end_nil _ _).mono ?_); rintro e w' ⟨rfl, hw⟩; subst hw))
  go_ret
  exact ⟨by simp, (FF.out _ E5.out).1⟩
end Go.Proofs.Ytifbcboefopioaa.Tri
