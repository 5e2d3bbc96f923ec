/- By hand: the law TrieBack, walked whole. No condition. -/
import Derived.Test.YtifbcboefopioaaTriL
set_option linter.unusedVariables false
namespace Go.Proofs.Ytifbcboefopioaa.Tri
open Go.RowKit Go.Maps Go.Proofs.YtifbcboefopioaaW.PrintWords Go.Proofs.YtifbcboefopioaaW.PrintLast Go.Proofs.YtifbcboefopioaaW.PrintMore Go.Proofs.Ytifbcboefopioaa.Kit Go.Proofs.Ytifbcboefopioaa.All
attribute [local go_sem] max2_int min2_int max_two min_two max_three min_three max_four min_four

set_option maxHeartbeats 4000000 in
theorem back_law (A0 : Option Addr) (c0 : Nat) (L : List Txt) (w : World)
    (hr0 : Kd.C (Kd.slice 5 (Kd.int .u8)) w A0 L.length L) (hc0 : L.length ≤ c0) (hB : ∀ s ∈ L, Bytes s) (hL : L.length ≤ 8000000000000) :
    Calls Try.prog 5 #[.slice A0 L.length c0] w fun e w' => e = .returned (.bool true) ∧ Below w.heap.size w w' := by
  obtain ⟨k, r, bo, hT, hbo⟩ := texts06_two L (by omega)
  obtain ⟨F, SF, E0, FF⟩ := stays_pack ((stays_below w).and (stays_reads (Kd.slice 5 (Kd.int .u8)) A0 L.length L)) ⟨Below.refl _ _, hr0⟩
  have HC0 := Aside0.mk hc0
  have T := Aside0.mk hT
  have HBO := Aside0.mk hbo
  clear hr0 hc0 hT hbo
  cases bo with
  | false =>
    go_enter Try.func5, Try.ntmps5
    go_wp2_with (first
      | (go_at_call 19; (refine (awake_at _).mono ?_); rintro e w1 ⟨rfl, hb⟩; have E1 := Aside0.mk (SF.out _ _ E0.out hb); clear hb)
      | (go_at_call 20; (refine (texts06_at _ A0 c0 L k r false (FF.out _ E1.out).2 HC0.out T.out).mono ?_); rintro e w2 ⟨AW, cW, rfl, hcW, hW, hb⟩; have E2 := Aside0.mk (SF.out _ _ E1.out hb); clear hW hcW hb))
    go_ret
    exact ⟨rfl, (FF.out _ E2.out).1⟩
  | true =>
  obtain ⟨hrm, l12, l40⟩ := HBO.out rfl
  subst hrm
  clear HBO
  have hPl := paths_len l12 l40
  have hPB := pathsL_bytes hB
  have hPS := paths_short l40
  have hG := pathsL_good L
  have hPm := pathsL_mem L
  obtain ⟨P, hP⟩ : ∃ P, P = pathsL L := ⟨_, rfl⟩
  rw [← hP] at hPl hPB hPS hG hPm
  have L40 := Aside0.mk l40
  have HPB := Aside0.mk hPB
  have HPS := Aside0.mk hPS
  have HPM := Aside0.mk hPm
  have HG := Aside0.mk hG
  have HB := Aside0.mk hB
  have HP := Aside0.mk hP
  clear l40 hPB hPS hG hB hP hPm
  have up := fun (x : Txt) (hx : x ∈ L) => Nat.le_trans (L40.out x hx) (show 40 ≤ 1000 by decide)
  have UP := Aside0.mk up
  clear up
  have hpl2 : P.length ≤ 4611686018427387904 := by omega
  go_enter Try.func5, Try.ntmps5
  go_upto_region 8 with (first
      | (go_at_call 19; (refine (awake_at _).mono ?_); rintro e w1 ⟨rfl, hb⟩; have E1 := Aside0.mk (SF.out _ _ E0.out hb); clear hb)
      | (go_at_call 20; (refine (texts06_ok _ A0 c0 L k (FF.out _ E1.out).2 HC0.out T.out).mono ?_); rintro e w2 ⟨AW, cW, rfl, hcW, hW, hb⟩; have E2 := Aside0.mk (SF.out _ _ E1.out hb); have HW := Aside0.mk hW; have HCW := Aside0.mk hcW; clear hW hcW hb)
      | (go_at_call 21; (refine (build_to _ A0 c0 L P HP.out (FF.out _ E2.out).2 HB.out (by omega) UP.out).mono ?_); rintro e w3 ⟨b, base, rfl, ht, hb⟩; have E3 := Aside0.mk (SF.out _ _ E2.out hb); have HW3 := Aside0.mk (Kd.C_below HW.out hb); have HT := Aside0.mk ht; clear ht hb))
  obtain ⟨G, SG, G3, GG⟩ := stays_pack ((stays_below w).and (stays_tree base b P (place L))) ⟨(FF.out _ E3.out).1, HT.out⟩
  have p0 := HG.out.pos
  clear E0 E1 E2 E3 HT HW HW3
  go_wp2
  go_loopw [7] (fun v7 w' => ∃ i : Nat, v7 = .int .i64 i ∧ i ≤ P.length ∧ Aside0 (G w')) (fun v7 _ => P.length - (intOf v7).toNat)
  case atStart => exact ⟨0, rfl, Nat.zero_le _, G3⟩
  case round =>
    obtain ⟨i, rfl, hi, G4⟩ := hrel
    have ND := Aside0.mk (nodes_at (GG.out _ G4.out).2)
    by_cases hlt : i < P.length
    · have k1 : ((i : Nat) : Int) < (P.length : Int) := by omega
      obtain ⟨s, hs⟩ : ∃ s, P[i]? = some s := ⟨_, List.getElem?_eq_getElem hlt⟩
      have hsm := List.mem_of_getElem? hs
      have hs40 := HPS.out s hsm
      have hsB := HPB.out s hsm
      have hpl := place_at HG.out.nodup hs
      have wk : IntKind.i64.wrap ((i : Int) + 1) = (i : Int) + 1 := IntWalk.i64_in _ (by omega)
      have FNA : Aside0 (∀ w1, G w1 → ∀ A c, Kd.C (Kd.int .u8) w1 A s.length s → Calls Try.prog 32 #[.pointer (some ⟨b, 0, none⟩), .slice A s.length c] w1 fun e w' => e = .returned (.int .i64 i) ∧ w' = w1) := ⟨fun w1 h A c hr => by
        have := find_at HG.out (GG.out w1 h).2 hpl2 A c s hr hsB (by omega)
        rwa [hpl] at this⟩
      have DPA : Aside0 (∀ w1, G w1 → Calls Try.prog 26 #[.pointer (some ⟨b, 0, none⟩), .int .i64 i] w1 fun e w' => e = .returned (.int .i64 s.length) ∧ w' = w1) := ⟨fun w1 h => depth_at (GG.out w1 h).2 i s hs⟩
      have PT := Aside0.mk (path_at HG.out (GG.out _ G4.out).2 hpl2 i s hs (by omega))
      have hE : ((i : Int) == 0) = ((s.length : Int) == 0) := by
        rcases Nat.eq_zero_or_pos i with hi0 | hi0
        · subst hi0
          rw [HG.out.root] at hs
          rw [← Option.some.inj hs]
          rfl
        · have := (HG.out.up i s hs hi0).1
          have h0 : 0 < s.length := List.length_pos_iff.2 this
          rw [beq_eq_false_iff_ne.2 (by omega), beq_eq_false_iff_ne.2 (by omega)]
      by_cases hi0 : 0 < i
      · have i2 : (0 : Int) < (i : Int) := by omega
        obtain ⟨hne, j, hj, hjs⟩ := HG.out.up i s hs hi0
        have hpos : 0 < s.length := List.length_pos_iff.2 hne
        have hpr : par P s = (j : Int) := by rw [par, if_neg hne]; exact place_at HG.out.nodup hjs
        have PRA : Aside0 (∀ w1, G w1 → Calls Try.prog 27 #[.pointer (some ⟨b, 0, none⟩), .int .i64 i] w1 fun e w' => e = .returned (.int .i64 j) ∧ w' = w1) := ⟨fun w1 h => by
          have := parent_at (GG.out w1 h).2 i s hs
          rwa [hpr] at this⟩
        have dl : (s.dropLast.length : Int) = (s.length : Int) - 1 := by rw [List.length_dropLast]; omega
        have DJA : Aside0 (∀ w1, G w1 → Calls Try.prog 26 #[.pointer (some ⟨b, 0, none⟩), .int .i64 j] w1 fun e w' => e = .returned (.int .i64 ((s.length : Int) - 1)) ∧ w' = w1) := ⟨fun w1 h => by
          have := depth_at (GG.out w1 h).2 j s.dropLast hjs
          rwa [dl] at this⟩
        obtain ⟨x, hx⟩ : ∃ x, s[s.length - 1]? = some x := ⟨_, List.getElem?_eq_getElem (by omega)⟩
        have hxr : rd s ((s.length : Int) - 1) = x := by
          rw [show (s.length : Int) - 1 = ((s.length - 1 : Nat) : Int) by omega]
          simp [rd, List.getD_eq_getElem?_getD, hx]
        have hxb := hsB x (List.mem_of_getElem? hx)
        have hsx : s.dropLast ++ [x] = s := by
          have h1 := List.dropLast_concat_getLast hne
          rw [List.getLast_eq_getElem] at h1
          have h2 := (List.getElem?_eq_some_iff.1 hx).2
          rw [h2] at h1
          exact h1
        have STA : Aside0 (∀ w1, G w1 → Calls Try.prog 31 #[.pointer (some ⟨b, 0, none⟩), .int .i64 j, .int .u8 x] w1 fun e w' => e = .returned (.int .i64 i) ∧ w' = w1) := ⟨fun w1 h => by
          have := step_at (GG.out w1 h).2 hpl2 j s.dropLast hjs x hxb.1 hxb.2
          rwa [hsx, hpl] at this⟩
        have j0 : ¬ (j : Int) < 0 := by omega
        have j1 : ¬ (j : Int) ≥ (i : Int) := by omega
        have b0 : (0 : Int) ≤ (s.length : Int) - 1 := by omega
        have b1 : (s.length : Int) - 1 < (s.length : Int) := by omega
        have wl : IntKind.i64.wrap ((s.length : Int) - 1) = (s.length : Int) - 1 := IntWalk.i64_in _ (by omega)
        have HXR := Aside0.mk hxr
        have TN : Aside0 (((s.length : Int) - 1).toNat = s.length - 1) := ⟨by omega⟩
        clear hs hsB hsm hpl hpr dl hx hxb hsx hne hjs hxr hi0
        go_wp2_with (first
          | (go_at_call 23; refine ND.out.mono ?_; rintro e w5 ⟨rfl, hw⟩; subst hw)
          | (go_at_call 25; refine PT.out.mono ?_; rintro e w5 ⟨v, rfl, ho, hb⟩; obtain ⟨A5, c5, rfl, hc5, hC5⟩ := Kd.R_reads ho; have G5 := Aside0.mk (SG.out _ _ G4.out hb); have HC5 := Aside0.mk hC5; clear ho hb hC5)
          | (go_at_call 32; (with_reducible refine (FNA.out _ G5.out _ _ HC5.out).mono ?_); rintro e w6 ⟨rfl, hw⟩; subst hw)
          | (go_at_call 26; (with_reducible refine (DPA.out _ G5.out).mono ?_); rintro e w6 ⟨rfl, hw⟩; subst hw)
          | (go_at_call 27; (with_reducible refine (PRA.out _ G5.out).mono ?_); rintro e w6 ⟨rfl, hw⟩; subst hw; obtain ⟨ad, rfl, hxc⟩ := Kd.at_int HC5.out _ b0 b1; rw [HXR.out, TN.out] at hxc)
          | (go_at_call 26; (with_reducible refine (DJA.out _ G5.out).mono ?_); rintro e w6 ⟨rfl, hw⟩; subst hw)
          | (go_at_call 31; (with_reducible refine (STA.out _ G5.out).mono ?_); rintro e w6 ⟨rfl, hw⟩; subst hw))
        go_roundw
        case rel => exact ⟨i + 1, by go_num, by omega, G5⟩
        case measure => simp [intOf]; omega
      · obtain rfl : i = 0 := by omega
        have l1 : ((s.length : Int) == 0) = true := by rw [← hE]; rfl
        rw [show ((0 : Nat) : Int) = 0 from rfl] at PT DPA k1
        simp only [show ((0 : Nat) : Int) = 0 from rfl] at FNA
        clear hs hsB hsm hpl hi0 hE wk
        go_wp2_with (first
          | (go_at_call 23; refine ND.out.mono ?_; rintro e w5 ⟨rfl, hw⟩; subst hw)
          | (go_at_call 25; refine PT.out.mono ?_; rintro e w5 ⟨v, rfl, ho, hb⟩; obtain ⟨A5, c5, rfl, hc5, hC5⟩ := Kd.R_reads ho; have G5 := Aside0.mk (SG.out _ _ G4.out hb); have HC5 := Aside0.mk hC5; clear ho hb hC5)
          | (go_at_call 32; (with_reducible refine (FNA.out _ G5.out _ _ HC5.out).mono ?_); rintro e w6 ⟨rfl, hw⟩; subst hw)
          | (go_at_call 26; (with_reducible refine (DPA.out _ G5.out).mono ?_); rintro e w6 ⟨rfl, hw⟩; subst hw))
        go_roundw
        case rel => exact ⟨1, by go_num, by omega, G5⟩
        case measure => simp [intOf]; omega
    · obtain rfl : i = P.length := by omega
      have k1 : ¬ ((P.length : Nat) : Int) < (P.length : Int) := by omega
      have k2 : (0 : Int) < (P.length : Int) := by omega
      go_wp2_with (go_at_call 23; refine ND.out.mono ?_; rintro e w5 ⟨rfl, hw⟩; subst hw)
      go_ret
      exact ⟨by simp, (GG.out _ G4.out).1⟩
end Go.Proofs.Ytifbcboefopioaa.Tri
