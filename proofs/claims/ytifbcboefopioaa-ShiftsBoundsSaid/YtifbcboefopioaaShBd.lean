/- By hand: the law ShiftsBounds, walked whole. No condition. -/
import Derived.Test.YtifbcboefopioaaMg3
set_option linter.unusedVariables false
set_option linter.unusedSimpArgs false
namespace Go.Proofs.Ytifbcboefopioaa.Tri
open Go.RowKit Go.Maps Go.Proofs.YtifbcboefopioaaW.PrintWords Go.Proofs.YtifbcboefopioaaW.PrintLast Go.Proofs.YtifbcboefopioaaW.PrintMore Go.Proofs.Ytifbcboefopioaa.Kit Go.Proofs.Ytifbcboefopioaa.All
attribute [local go_sem] max2_int min2_int max_two min_two max_three min_three max_four min_four

set_option maxRecDepth 100000 in
set_option maxHeartbeats 12000000 in
theorem bounds_law (A0 : Option Addr) (c0 : Nat) (L : List Txt) (x : Int) (w : World)
    (hr0 : Kd.C (Kd.slice 5 (Kd.int .u8)) w A0 L.length L) (hc0 : L.length ≤ c0) (hB : ∀ s ∈ L, Bytes s) (hL : L.length ≤ 8000000000000) (x0 : 0 ≤ x) (x1 : x ≤ 255) :
    Calls Try.prog 16 #[.slice A0 L.length c0, .int .u8 x] w fun e w' => e = .returned (.bool true) ∧ Below w.heap.size w w' := by
  obtain ⟨k, r, bo, hT, hbo⟩ := texts15_two L (by omega)
  obtain ⟨F, SF, E0, FF⟩ := stays_pack ((stays_below w).and (stays_reads (Kd.slice 5 (Kd.int .u8)) A0 L.length L)) ⟨Below.refl _ _, hr0⟩
  have HC0 := Aside0.mk hc0
  have T0 := Aside0.mk hT
  have HBO := Aside0.mk hbo
  clear hr0 hc0 hT hbo
  cases bo with
  | false =>
    go_enter Try.func16, Try.ntmps16
    go_wp2_with (first
      | (go_at_call 45; (refine (awake15_at _).mono ?_); rintro e w1 ⟨rfl, hb⟩; have E1 := Aside0.mk (SF.out _ _ E0.out hb); clear hb)
      | (go_at_call 46; (refine (texts15_at _ A0 c0 L k r false (FF.out _ E1.out).2 HC0.out T0.out).mono ?_); rintro e w2 ⟨AW, cW, rfl, hcW, hW, hb⟩; have E2 := Aside0.mk (SF.out _ _ E1.out hb); clear hW hcW hb))
    go_ret
    exact ⟨rfl, (FF.out _ E2.out).1⟩
  | true =>
  obtain ⟨hrm, l12, l40⟩ := HBO.out rfl
  subst hrm
  clear HBO
  have hTl := Nat.le_trans (TL_len L) l12
  have hTB := TL_bytes hB
  have hTS := TL_short l40
  have hTN := TL_ne L
  have hPl := paths_len hTl hTS
  have hPB := pathsL_bytes hTB
  have hPS := paths_short hTS
  have hG := pathsL_good (TL L)
  have hPm := pathsL_mem (TL L)
  obtain ⟨P, hP⟩ : ∃ P, P = pathsL (TL L) := ⟨_, rfl⟩
  rw [← hP] at hPl hPB hPS hG hPm
  obtain ⟨T, hT⟩ : ∃ T, T = TL L := ⟨_, rfl⟩
  rw [← hT] at hTl hTB hTS hTN hPm hP
  have upT : ∀ x ∈ T, x.length ≤ 1000 := fun x hx => Nat.le_trans (hTS x hx) (show 40 ≤ 1000 by decide)
  have upP : ∀ x ∈ P, x.length ≤ 1000 := fun x hx => Nat.le_trans (hPS x hx) (show 40 ≤ 1000 by decide)
  have up := fun (x : Txt) (hx : x ∈ L) => Nat.le_trans (l40 x hx) (show 40 ≤ 1000 by decide)
  have L40 := Aside0.mk l40
  have HPB := Aside0.mk hPB
  have HPS := Aside0.mk hPS
  have HPM := Aside0.mk hPm
  have HG := Aside0.mk hG
  have HB := Aside0.mk hB
  have HP := Aside0.mk hP
  have HT := Aside0.mk hT
  have HTB := Aside0.mk hTB
  have HTS := Aside0.mk hTS
  have HTN := Aside0.mk hTN
  have UP := Aside0.mk up
  have UPT := Aside0.mk upT
  have HPSU := Aside0.mk upP
  clear l40 hPB hPS hG hB hP hPm hT hTB hTS hTN up upT upP
  have hpl2 : P.length ≤ 4611686018427387904 := by omega
  obtain ⟨le, hle⟩ : ∃ le, leastN T = le := ⟨_, rfl⟩
  have HLE := Aside0.mk hle
  clear hle
  go_enter Try.func16, Try.ntmps16
  go_upto_region 9 with (first
      | (go_at_call 45; (refine (awake15_at _).mono ?_); rintro e w1 ⟨rfl, hb⟩; have E1 := Aside0.mk (SF.out _ _ E0.out hb); clear hb)
      | (go_at_call 46; (refine (texts15_ok _ A0 c0 L k (FF.out _ E1.out).2 HC0.out T0.out).mono ?_); rintro e w2 ⟨AW, cW, rfl, hcW, hW, hb⟩; have E2 := Aside0.mk (SF.out _ _ E1.out hb); have HW := Aside0.mk hW; have HCW := Aside0.mk hcW; clear hW hcW hb)
      | (go_at_call 35; (refine (bbuild_to _ A0 c0 L T P HT.out HP.out (FF.out _ E2.out).2 HB.out (by omega) UP.out).mono ?_); rintro e w3 ⟨g, base, b, rfl, hk, ht, hb⟩; have E3 := Aside0.mk (SF.out _ _ E2.out hb); have HW3 := Aside0.mk (Kd.C_below HW.out hb); have HK := Aside0.mk (And.intro hk ht); clear hk ht hb)
      | (go_at_call 47; (refine (shbuild_any _ g base b T P HP.out HK.out.1 HK.out.2 (by omega) HTN.out HTB.out HPSU.out).mono ?_); rintro e w4 ⟨h, basef, rfl, hf, hb⟩; have E4 := Aside0.mk (SF.out _ _ E3.out hb); have HW4 := Aside0.mk (Kd.C_below HW3.out hb); have HK4 := Aside0.mk (And.intro (And.intro (HK.out.1.below hb) (HK.out.2.below hb)) hf); clear hf hb))
  obtain ⟨G, SG, G4, GG⟩ := stays_pack ((stays_below w).and (stays_sh g base b h basef T P)) ⟨(FF.out _ E4.out).1, HK4.out⟩
  have FS := Aside0.mk (fun (w1 : World) (h0 : G w1) (n : Int) => first_any (GG.out w1 h0).2.2 n)
  have SC := Aside0.mk (fun (w1 : World) (h0 : G w1) (n : Int) => second_any (GG.out w1 h0).2.2 n)
  have ND := Aside0.mk (fun (w1 : World) (h0 : G w1) => nodes_at (GG.out w1 h0).2.1.2)
  have XG : Aside0 (∀ w1, G w1 → w1.cell? ⟨g, 0, none⟩ = some (.pointer (some ⟨b, 0, none⟩))) := ⟨fun w1 h0 => (GG.out w1 h0).2.1.1.tr⟩
  have LS := Aside0.mk (fun (w1 : World) (h0 : G w1) => least_at (GG.out w1 h0).2.1.1)
  rw [HLE.out] at LS
  clear E0 E1 E2 E3 E4 HK HK4 HW HW3 HW4
  go_wp2_with (go_at_call 37; (with_reducible refine (LS.out _ G4.out).mono ?_); rintro e w' ⟨rfl, hw⟩; subst hw)
  go_loopw [11] (fun v11 w' => ∃ i : Nat, v11 = .int .i64 i ∧ i ≤ P.length ∧ Aside0 (G w')) (fun v11 _ => P.length - (intOf v11).toNat)
  case atStart => exact ⟨0, rfl, Nat.zero_le _, G4⟩
  case round =>
    obtain ⟨i, rfl, hi, G5⟩ := hrel
    have xg := XG.out _ G5.out
    by_cases hlt : i < P.length
    · have k1 : ((i : Nat) : Int) < (P.length : Int) := by omega
      have k0 : (0 : Int) ≤ (i : Int) := by omega
      obtain ⟨s, hs⟩ : ∃ s, P[i]? = some s := ⟨_, List.getElem?_eq_getElem hlt⟩
      have hsm := List.mem_of_getElem? hs
      have hs40 := HPS.out s hsm
      have wk : IntKind.i64.wrap ((i : Int) + 1) = (i : Int) + 1 := IntWalk.i64_in _ (by omega)
      obtain ⟨m1, m2⟩ := two_spec HP.out hs
      have FS1 := Aside0.mk (fun (w1 : World) (h0 : G w1) => FS.out w1 h0 (i : Int))
      have SC1 := Aside0.mk (fun (w1 : World) (h0 : G w1) => SC.out w1 h0 (i : Int))
      have FR := Aside0.mk (fun (w1 : World) (h0 : G w1) => far_any HP.out HTN.out HTB.out UPT.out (GG.out w1 h0).2.2 (GG.out w1 h0).2.1.1 (GG.out w1 h0).2.1.2 i s hs (by omega) x x0 x1)
      by_cases h0 : T = []
      · have e1 : farsX T P = [] := if_pos h0
        have e2 : twoOf (farsX T P) (i : Int) = (0, 0) := by rw [e1]; exact twoOf_out (.inr k0)
        have e3 : farW T P i s x = 0 := if_pos h0
        have l0 : le = 0 := by rw [← HLE.out, h0]; rfl
        have l1 : (le == 0) = true := beq_iff_eq.2 l0
        rw [e2] at FS1 SC1
        rw [e3] at FR
        simp only at FS1 SC1
        clear hs hsm m1 m2 e1 e2 e3 l0 h0
        go_wp2_with (first
          | (go_at_call 23; (with_reducible refine (ND.out _ G5.out).mono ?_); rintro e w' ⟨rfl, hw⟩; subst hw)
          | (go_at_call 49; (with_reducible refine (FS1.out _ G5.out).mono ?_); rintro e w6 ⟨rfl, hb⟩; have G6 := Aside0.mk (SG.out _ _ G5.out hb); clear hb)
          | (go_at_call 51; (with_reducible refine (SC1.out _ G6.out).mono ?_); rintro e w7 ⟨rfl, hb⟩; have G7 := Aside0.mk (SG.out _ _ G6.out hb); clear hb)
          | (go_at_call 53; (with_reducible refine (FR.out _ G7.out).mono ?_); rintro e w8 ⟨rfl, hb⟩; have G8 := Aside0.mk (SG.out _ _ G7.out hb); have xg8 := XG.out _ G8.out; clear hb))
        go_roundw
        case rel => exact ⟨i + 1, by go_num, by omega, G8⟩
        case measure => simp [intOf]; omega
      · obtain ⟨b1, b2, b3, b4⟩ := two_bounds HP.out HTN.out h0 hs
        have hfw : farW T P i s x = farV (leastN T) (rd (nearN T) x) s.length (twoOf (farsX T P) i) := if_neg h0
        have f2 : farW T P i s x ≤ (twoOf (farsX T P) i).2 := by
          rw [hfw]
          unfold farV
          rw [Int.min_def]
          split <;> omega
        have f1 : 1 ≤ farW T P i s x := by
          rw [hfw]
          unfold farV
          rw [Int.min_def, Int.max_def]
          split <;> split <;> omega
        obtain ⟨qf, hqf⟩ : ∃ q, farW T P i s x = q := ⟨_, rfl⟩
        rw [hqf] at FR f1 f2
        rw [HLE.out] at b2 b4
        have l1 : (le == 0) = false := beq_eq_false_iff_ne.2 (by omega)
        obtain ⟨q1, hq1⟩ : ∃ q, (twoOf (farsX T P) (i : Int)).1 = q := ⟨_, rfl⟩
        rw [hq1] at FS1 b1 b2
        by_cases hi0 : 0 < i
        · have i2 : (0 : Int) < (i : Int) := by omega
          obtain ⟨hne, j, hj, hjs⟩ := HG.out.up i s hs hi0
          have hpr : par P s = (j : Int) := by rw [par, if_neg hne]; exact place_at HG.out.nodup hjs
          have PR : Aside0 (∀ w1, G w1 → Calls Try.prog 27 #[.pointer (some ⟨b, 0, none⟩), .int .i64 i] w1 fun e w' => e = .returned (.int .i64 j) ∧ w' = w1) := ⟨fun w1 h0 => by
            have := parent_at (GG.out w1 h0).2.1.2 i s hs
            rwa [hpr] at this⟩
          obtain ⟨_, n2⟩ := two_spec HP.out hjs
          have up := n2.wider m2 (Int.le_refl _) (fun k hk => (way_next (O1 T) hne k).2 (.inr hk))
          have SC3 := Aside0.mk (fun (w1 : World) (h0 : G w1) => SC.out w1 h0 (j : Int))
          obtain ⟨q2, hq2⟩ : ∃ q, (twoOf (farsX T P) (i : Int)).2 = q := ⟨_, rfl⟩
          rw [hq2] at SC1 b3 b4 f2 up
          obtain ⟨q3, hq3⟩ : ∃ q, (twoOf (farsX T P) (j : Int)).2 = q := ⟨_, rfl⟩
          rw [hq3] at SC3 up
          have t1 : decide (q1 < 1) = false := decide_eq_false (by omega)
          have t2 : decide (q1 > le) = false := decide_eq_false (by omega)
          have t3 : decide (q2 < 1) = false := decide_eq_false (by omega)
          have t4 : decide (q2 > le) = false := decide_eq_false (by omega)
          have t5 : decide (qf < 1) = false := decide_eq_false (by omega)
          have t6 : decide (qf > q2) = false := decide_eq_false (by omega)
          have t7 : decide (q2 > q3) = false := decide_eq_false (by omega)
          clear hs hsm m1 m2 hfw hq1 hq2 hq3 hne hjs hpr n2 hqf
          go_wp2_with (first
            | (go_at_call 23; (with_reducible refine (ND.out _ G5.out).mono ?_); rintro e w' ⟨rfl, hw⟩; subst hw)
            | (go_at_call 49; (with_reducible refine (FS1.out _ G5.out).mono ?_); rintro e w6 ⟨rfl, hb⟩; have G6 := Aside0.mk (SG.out _ _ G5.out hb); clear hb)
            | (go_at_call 51; (with_reducible refine (SC1.out _ G6.out).mono ?_); rintro e w7 ⟨rfl, hb⟩; have G7 := Aside0.mk (SG.out _ _ G6.out hb); clear hb)
            | (go_at_call 53; (with_reducible refine (FR.out _ G7.out).mono ?_); rintro e w8 ⟨rfl, hb⟩; have G8 := Aside0.mk (SG.out _ _ G7.out hb); have xg8 := XG.out _ G8.out; clear hb)
            | (go_at_call 27; (with_reducible refine (PR.out _ G8.out).mono ?_); rintro e w' ⟨rfl, hw⟩; subst hw)
            | (go_at_call 51; (with_reducible refine (SC3.out _ G8.out).mono ?_); rintro e w9 ⟨rfl, hb⟩; have G9 := Aside0.mk (SG.out _ _ G8.out hb); clear hb))
          go_roundw
          case rel => exact ⟨i + 1, by go_num, by omega, G9⟩
          case measure => simp [intOf]; omega
        · obtain rfl : i = 0 := by omega
          obtain ⟨q2, hq2⟩ : ∃ q, (twoOf (farsX T P) ((0 : Nat) : Int)).2 = q := ⟨_, rfl⟩
          rw [hq2] at SC1 b3 b4 f2
          rw [show ((0 : Nat) : Int) = 0 from rfl] at FS1 SC1 FR k1
          have t1 : decide (q1 < 1) = false := decide_eq_false (by omega)
          have t2 : decide (q1 > le) = false := decide_eq_false (by omega)
          have t3 : decide (q2 < 1) = false := decide_eq_false (by omega)
          have t4 : decide (q2 > le) = false := decide_eq_false (by omega)
          have t5 : decide (qf < 1) = false := decide_eq_false (by omega)
          have t6 : decide (qf > q2) = false := decide_eq_false (by omega)
          clear hs hsm m1 m2 hfw hq1 hq2 hi0 wk hqf
          go_wp2_with (first
            | (go_at_call 23; (with_reducible refine (ND.out _ G5.out).mono ?_); rintro e w' ⟨rfl, hw⟩; subst hw)
            | (go_at_call 49; (with_reducible refine (FS1.out _ G5.out).mono ?_); rintro e w6 ⟨rfl, hb⟩; have G6 := Aside0.mk (SG.out _ _ G5.out hb); clear hb)
            | (go_at_call 51; (with_reducible refine (SC1.out _ G6.out).mono ?_); rintro e w7 ⟨rfl, hb⟩; have G7 := Aside0.mk (SG.out _ _ G6.out hb); clear hb)
            | (go_at_call 53; (with_reducible refine (FR.out _ G7.out).mono ?_); rintro e w8 ⟨rfl, hb⟩; have G8 := Aside0.mk (SG.out _ _ G7.out hb); have xg8 := XG.out _ G8.out; clear hb))
          go_roundw
          case rel => exact ⟨1, by go_num, by omega, G8⟩
          case measure => simp [intOf]; omega
    · obtain rfl : i = P.length := by omega
      have k1 : ¬ ((P.length : Nat) : Int) < (P.length : Int) := by omega
      go_wp2_with (go_at_call 23; (with_reducible refine (ND.out _ G5.out).mono ?_); rintro e w' ⟨rfl, hw⟩; subst hw)
      go_ret
      exact ⟨rfl, (GG.out _ G5.out).1⟩
end Go.Proofs.Ytifbcboefopioaa.Tri
