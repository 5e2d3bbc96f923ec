/- By hand: the law ShiftsTell, walked whole. No condition. -/
import Derived.Test.YtifbcboefopioaaMg3
set_option linter.unusedVariables false
set_option linter.unusedSimpArgs false
namespace Go.Proofs.Ytifbcboefopioaa.Tri
open Go.RowKit Go.Maps Go.Proofs.YtifbcboefopioaaW.PrintWords Go.Proofs.YtifbcboefopioaaW.PrintLast Go.Proofs.YtifbcboefopioaaW.PrintMore Go.Proofs.Ytifbcboefopioaa.Kit Go.Proofs.Ytifbcboefopioaa.All
attribute [local go_sem] max2_int min2_int max_two min_two max_three min_three max_four min_four

set_option maxRecDepth 100000 in
set_option maxHeartbeats 12000000 in
theorem tell_law (A0 : Option Addr) (c0 : Nat) (L : List Txt) (n : Int) (w : World)
    (hr0 : Kd.C (Kd.slice 5 (Kd.int .u8)) w A0 L.length L) (hc0 : L.length ≤ c0) (hB : ∀ s ∈ L, Bytes s) (hL : L.length ≤ 8000000000000) :
    Calls Try.prog 14 #[.slice A0 L.length c0, .int .i64 n] w fun e w' => e = .returned (.bool true) ∧ Below w.heap.size w w' := by
  obtain ⟨k, r, bo, hT, hbo⟩ := texts15_two L (by omega)
  obtain ⟨F, SF, E0, FF⟩ := stays_pack ((stays_below w).and (stays_reads (Kd.slice 5 (Kd.int .u8)) A0 L.length L)) ⟨Below.refl _ _, hr0⟩
  have HC0 := Aside0.mk hc0
  have T0 := Aside0.mk hT
  have HBO := Aside0.mk hbo
  clear hr0 hc0 hT hbo
  cases bo with
  | false =>
    go_enter Try.func14, Try.ntmps14
    go_wp2_with (first
      | (go_at_call 45; (refine (awake15_at _).mono ?_); rintro e w1 ⟨rfl, hb⟩; have E1 := Aside0.mk (SF.out _ _ E0.out hb); clear hb)
      | (go_at_call 46; (refine (texts15_at _ A0 c0 L k r false (FF.out _ E1.out).2 HC0.out T0.out).mono ?_); rintro e w2 ⟨AW, cW, rfl, hcW, hW, hb⟩; have E2 := Aside0.mk (SF.out _ _ E1.out hb); clear hW hcW hb))
    go_ret
    exact ⟨rfl, (FF.out _ E2.out).1⟩
  | true =>
  obtain ⟨hrm, l12, l40⟩ := HBO.out rfl
  subst hrm
  clear HBO
  have hTl := Nat.le_trans (TL_len L) l12
  have hTB := TL_bytes hB
  have hTS := TL_short l40
  have hTN := TL_ne L
  have hPl := paths_len hTl hTS
  have hPB := pathsL_bytes hTB
  have hPS := paths_short hTS
  have hG := pathsL_good (TL L)
  have hPm := pathsL_mem (TL L)
  obtain ⟨P, hP⟩ : ∃ P, P = pathsL (TL L) := ⟨_, rfl⟩
  rw [← hP] at hPl hPB hPS hG hPm
  obtain ⟨T, hT⟩ : ∃ T, T = TL L := ⟨_, rfl⟩
  rw [← hT] at hTl hTB hTS hTN hPm hP
  have upT : ∀ x ∈ T, x.length ≤ 1000 := fun x hx => Nat.le_trans (hTS x hx) (show 40 ≤ 1000 by decide)
  have upP : ∀ x ∈ P, x.length ≤ 1000 := fun x hx => Nat.le_trans (hPS x hx) (show 40 ≤ 1000 by decide)
  have up := fun (x : Txt) (hx : x ∈ L) => Nat.le_trans (l40 x hx) (show 40 ≤ 1000 by decide)
  have L40 := Aside0.mk l40
  have HPB := Aside0.mk hPB
  have HPS := Aside0.mk hPS
  have HPM := Aside0.mk hPm
  have HG := Aside0.mk hG
  have HB := Aside0.mk hB
  have HP := Aside0.mk hP
  have HT := Aside0.mk hT
  have HTB := Aside0.mk hTB
  have HTS := Aside0.mk hTS
  have HTN := Aside0.mk hTN
  have UP := Aside0.mk up
  have UPT := Aside0.mk upT
  have HPSU := Aside0.mk upP
  clear l40 hPB hPS hG hB hP hPm hT hTB hTS hTN up upT upP
  have hpl2 : P.length ≤ 4611686018427387904 := by omega
  go_enter Try.func14, Try.ntmps14
  go_upto_region 10 with (first
      | (go_at_call 45; (refine (awake15_at _).mono ?_); rintro e w1 ⟨rfl, hb⟩; have E1 := Aside0.mk (SF.out _ _ E0.out hb); clear hb)
      | (go_at_call 46; (refine (texts15_ok _ A0 c0 L k (FF.out _ E1.out).2 HC0.out T0.out).mono ?_); rintro e w2 ⟨AW, cW, rfl, hcW, hW, hb⟩; have E2 := Aside0.mk (SF.out _ _ E1.out hb); have HW := Aside0.mk hW; have HCW := Aside0.mk hcW; clear hW hcW hb)
      | (go_at_call 35; (refine (bbuild_to _ A0 c0 L T P HT.out HP.out (FF.out _ E2.out).2 HB.out (by omega) UP.out).mono ?_); rintro e w3 ⟨g, base, b, rfl, hk, ht, hb⟩; have E3 := Aside0.mk (SF.out _ _ E2.out hb); have HW3 := Aside0.mk (Kd.C_below HW.out hb); have HK := Aside0.mk (And.intro hk ht); clear hk ht hb)
      | (go_at_call 47; (refine (shbuild_any _ g base b T P HP.out HK.out.1 HK.out.2 (by omega) HTN.out HTB.out HPSU.out).mono ?_); rintro e w4 ⟨h, basef, rfl, hf, hb⟩; have E4 := Aside0.mk (SF.out _ _ E3.out hb); have HW4 := Aside0.mk (Kd.C_below HW3.out hb); have HK4 := Aside0.mk (And.intro (And.intro (HK.out.1.below hb) (HK.out.2.below hb)) hf); clear hf hb)
      | (go_at_call 36; (refine (turned_at _ AW cW L T HT.out (by omega) UP.out HW4.out HCW.out).mono ?_); rintro e w5 ⟨AT, cT, rfl, hcT, hC, hb⟩; have E5 := Aside0.mk (SF.out _ _ E4.out hb); have HK5 := Aside0.mk (stays_sh g base b h basef T P _ _ HK4.out hb); have HCT := Aside0.mk hcT; have HQ := Aside0.mk hC; clear hcT hC hb)
      | (go_at_call 48; (refine (paths15_to _ AT cT T P HP.out HTB.out (by omega) UPT.out HQ.out HCT.out).mono ?_); rintro e w6 ⟨AP, cP, rfl, hcP, hC, hb⟩; have E6 := Aside0.mk (SF.out _ _ E5.out hb); have HK6 := Aside0.mk (stays_sh g base b h basef T P _ _ HK5.out hb); have HQ6 := Aside0.mk (Kd.C_below HQ.out hb); have HCP := Aside0.mk hcP; have HPP := Aside0.mk hC; clear hcP hC hb))
  obtain ⟨G, SG, G6, GG⟩ := stays_pack (((stays_below w).and (stays_sh g base b h basef T P)).and ((stays_reads Kd.string AT T.length (T.map strOfNums)).and (stays_reads Kd.string AP P.length (P.map strOfNums)))) ⟨⟨(FF.out _ E6.out).1, HK6.out⟩, HQ6.out, HPP.out⟩
  have FS := Aside0.mk (fun (w1 : World) (h0 : G w1) (n : Int) => first_any (GG.out w1 h0).1.2.2 n)
  have SC := Aside0.mk (fun (w1 : World) (h0 : G w1) (n : Int) => second_any (GG.out w1 h0).1.2.2 n)
  have flen : (farsX T P).length ≤ P.length := by
    unfold farsX
    split
    · exact Nat.zero_le _
    · rw [farsN_len]
      exact Nat.le_refl _
  have FO := Aside0.mk (fun (w1 : World) (h0 : G w1) (n c : Int) (hn : n < 0 ∨ (P.length : Int) ≤ n) => far_out (GG.out w1 h0).1.2.2 n c (by omega))
  have TO : Aside0 (∀ n : Int, n < 0 ∨ (P.length : Int) ≤ n → twoOf (farsX T P) n = (0, 0)) := ⟨fun n hn => twoOf_out (by omega)⟩
  clear E0 E1 E2 E3 E4 E5 E6 HK HK4 HK5 HK6 HQ HQ6 HPP HW HW3 HW4 flen
  go_wp2
  go_loopw [11] (fun v11 w' => ∃ i : Nat, v11 = .int .i64 i ∧ i ≤ P.length ∧ Aside0 (G w')) (fun v11 _ => P.length - (intOf v11).toNat)
  case atStart => exact ⟨0, rfl, Nat.zero_le _, G6⟩
  case round =>
    obtain ⟨i, rfl, hi, G6⟩ := hrel
    by_cases hlt : i < P.length
    · have k1 : ((i : Nat) : Int) < (P.length : Int) := by omega
      have k0 : (0 : Int) ≤ (i : Int) := by omega
      obtain ⟨s, hs⟩ : ∃ s, P[i]? = some s := ⟨_, List.getElem?_eq_getElem hlt⟩
      have hsm := List.mem_of_getElem? hs
      have hs40 := HPS.out s hsm
      have hsB := HPB.out s hsm
      obtain ⟨ad, rfl, _⟩ := str_at (GG.out _ G6.out).2.2 hs
      have XS : Aside0 (∀ w1, G w1 → w1.cell? (ad.add i) = some (.string (strOfNums s))) := ⟨fun w1 h0 => by
        obtain ⟨ad2, e2, hx⟩ := str_at (GG.out w1 h0).2.2 hs
        cases e2
        exact hx⟩
      have wk : IntKind.i64.wrap ((i : Int) + 1) = (i : Int) + 1 := IntWalk.i64_in _ (by omega)
      obtain ⟨m1, m2⟩ := two_spec HP.out hs
      have FS1 := Aside0.mk (fun (w1 : World) (h0 : G w1) => FS.out w1 h0 (i : Int))
      have SC1 := Aside0.mk (fun (w1 : World) (h0 : G w1) => SC.out w1 h0 (i : Int))
      obtain ⟨q1, hq1⟩ : ∃ q, (twoOf (farsX T P) (i : Int)).1 = q := ⟨_, rfl⟩
      obtain ⟨q2, hq2⟩ : ∃ q, (twoOf (farsX T P) (i : Int)).2 = q := ⟨_, rfl⟩
      rw [hq1] at FS1 m1
      rw [hq2] at SC1 m2
      have RF := Aside0.mk (fun (w1 : World) (h0 : G w1) => first15_at w1 AT cT (some ad) cP T P (by omega) HTN.out HTB.out UPT.out HPB.out HPSU.out (by omega) (GG.out w1 h0).2.1 HCT.out (GG.out w1 h0).2.2 HCP.out s hsB (by omega) q1 m1)
      have RS := Aside0.mk (fun (w1 : World) (h0 : G w1) => second15_at w1 AT cT T (by omega) HTN.out HTB.out UPT.out (GG.out w1 h0).2.1 HCT.out s hsB (by omega) q2 m2)
      clear hs hsm hsB hq1 hq2 m1 m2
      go_upto_region 13 with (fail)
      have G6d := Aside0.mk (stays_drew SG.out G6.out)
      refine start_ (n := 23) (S := G) (ds := []) #[false, false, false, false, false, false, false, false, false, false, false, false, false, false, false, false, false, false, false, false, false, false, false] (by kernel_rfl) rfl rfl G6d.out (fun _ => ?_)
      refine pure_ (i := 0) (N := (some 35)) (v := ?_) (a' := _) #[true, false, false, false, false, false, false, false, false, false, false, false, false, false, false, false, false, false, false, false, false, false, false] rfl rfl (by kernel_rfl) (fun _ _ _ h => h) (Or.inl ⟨by rfl, ?_⟩) rfl ?_
      rotate_left
      · intro w'; go_simp; with_reducible rfl
      simp only [Act.put, List.setIfInBounds_toArray, List.set_cons_zero, List.set_cons_succ]
      refine pure_ (i := 1) (N := (some 36)) (v := ?_) (a' := _) #[true, true, false, false, false, false, false, false, false, false, false, false, false, false, false, false, false, false, false, false, false, false, false] rfl rfl (by kernel_rfl) (fun _ _ _ h => h) (Or.inl ⟨by rfl, ?_⟩) rfl ?_
      rotate_left
      · intro w'; go_simp; with_reducible rfl
      simp only [Act.put, List.setIfInBounds_toArray, List.set_cons_zero, List.set_cons_succ]
      refine pure_ (i := 3) (N := (some 38)) (v := ?_) (a' := _) #[true, true, false, true, false, false, false, false, false, false, false, false, false, false, false, false, false, false, false, false, false, false, false] rfl rfl (by kernel_rfl) (fun _ _ _ h => h) (Or.inl ⟨by rfl, ?_⟩) rfl ?_
      rotate_left
      · intro w'; go_simp; with_reducible rfl
      simp only [Act.put, List.setIfInBounds_toArray, List.set_cons_zero, List.set_cons_succ]
      refine pure_ (i := 4) (N := (some 39)) (v := ?_) (a' := _) #[true, true, false, true, true, false, false, false, false, false, false, false, false, false, false, false, false, false, false, false, false, false, false] rfl rfl (by kernel_rfl) (fun _ _ _ h => h) (Or.inl ⟨by rfl, ?_⟩) rfl ?_
      rotate_left
      · intro w'; go_simp; with_reducible rfl
      simp only [Act.put, List.setIfInBounds_toArray, List.set_cons_zero, List.set_cons_succ]
      refine pure_ (i := 5) (N := (some 40)) (v := ?_) (a' := _) #[true, true, false, true, true, true, false, false, false, false, false, false, false, false, false, false, false, false, false, false, false, false, false] rfl rfl (by kernel_rfl) (fun _ _ _ h => h) (Or.inl ⟨by rfl, ?_⟩) rfl ?_
      rotate_left
      · intro w'; go_simp; with_reducible rfl
      simp only [Act.put, List.setIfInBounds_toArray, List.set_cons_zero, List.set_cons_succ]
      refine pure_ (i := 6) (N := (some 41)) (v := ?_) (a' := _) #[true, true, false, true, true, true, true, false, false, false, false, false, false, false, false, false, false, false, false, false, false, false, false] rfl rfl (by kernel_rfl) (fun _ _ _ h => h) (Or.inl ⟨by rfl, ?_⟩) rfl ?_
      rotate_left
      · intro w'; go_simp; with_reducible rfl
      simp only [Act.put, List.setIfInBounds_toArray, List.set_cons_zero, List.set_cons_succ]
      refine pure_ (i := 7) (N := (some 42)) (v := ?_) (a' := _) #[true, true, false, true, true, true, true, true, false, false, false, false, false, false, false, false, false, false, false, false, false, false, false] rfl rfl (by kernel_rfl) (fun _ _ _ h => h) (Or.inl ⟨by rfl, ?_⟩) rfl ?_
      rotate_left
      · intro w'; go_simp; with_reducible rfl
      simp only [Act.put, List.setIfInBounds_toArray, List.set_cons_zero, List.set_cons_succ]
      refine take_ (i := 8) (N := (some 43)) (v := ?_) (a' := _) #[true, true, false, true, true, true, true, true, true, false, false, false, false, false, false, false, false, false, false, false, false, false, false] rfl rfl (by kernel_rfl) (fun _ _ _ h => h) (Or.inl ⟨by rfl, ?_⟩) G6d.out rfl ?_
      rotate_left
      · intro w' s_; have f0_ := XS.out w' s_; go_simp; with_reducible rfl
      simp only [Act.put, List.setIfInBounds_toArray, List.set_cons_zero, List.set_cons_succ]
      refine one_ (i := 2) (N := (some 37)) #[true, true, true, true, true, true, true, true, true, false, false, false, false, false, false, false, false, false, false, false, false, false, false] rfl rfl (by kernel_rfl) (by decide) (fun K hK => ?_)
      go_simp
      (go_at_call 49; (with_reducible refine (FS1.out _ G6d.out).mono ?_); rintro e w7 ⟨rfl, hb⟩; have G7 := Aside0.mk (SG.out _ _ G6d.out hb); clear hb)
      refine hK.out _ _ G7.out (fun _ => ?_)
      clear hK K
      try simp only [Act.put, List.setIfInBounds_toArray, List.set_cons_zero, List.set_cons_succ]
      refine one_ (i := 9) (N := (some 44)) #[true, true, true, true, true, true, true, true, true, true, false, false, false, false, false, false, false, false, false, false, false, false, false] rfl rfl (by kernel_rfl) (by decide) (fun K hK => ?_)
      go_simp
      (go_at_call 50; (with_reducible refine (RF.out _ G7.out).mono ?_); rintro e w8 ⟨rfl, hb⟩; have G8 := Aside0.mk (SG.out _ _ G7.out hb); clear hb)
      refine hK.out _ _ G8.out (fun _ => ?_)
      clear hK K
      try simp only [Act.put, List.setIfInBounds_toArray, List.set_cons_zero, List.set_cons_succ]
      refine pure_ (i := 10) (N := (some 45)) (v := ?_) (a' := _) #[true, true, true, true, true, true, true, true, true, true, true, false, false, false, false, false, false, false, false, false, false, false, false] rfl rfl (by kernel_rfl) (fun _ _ _ h => h) (Or.inl ⟨by rfl, ?_⟩) rfl ?_
      rotate_left
      · intro w'; go_simp; with_reducible rfl
      simp only [Act.put, List.setIfInBounds_toArray, List.set_cons_zero, List.set_cons_succ]
      refine pure_ (i := 11) (N := (some 46)) (v := ?_) (a' := _) #[true, true, true, true, true, true, true, true, true, true, true, true, false, false, false, false, false, false, false, false, false, false, false] rfl rfl (by kernel_rfl) (fun _ _ _ h => h) (Or.inl ⟨by rfl, ?_⟩) rfl ?_
      rotate_left
      · intro w'; go_simp; with_reducible rfl
      simp only [Act.put, List.setIfInBounds_toArray, List.set_cons_zero, List.set_cons_succ]
      refine pure_ (i := 12) (N := (some 47)) (v := ?_) (a' := _) #[true, true, true, true, true, true, true, true, true, true, true, true, true, false, false, false, false, false, false, false, false, false, false] rfl rfl (by kernel_rfl) (fun _ _ _ h => h) (Or.inl ⟨by rfl, ?_⟩) rfl ?_
      rotate_left
      · intro w'; go_simp; with_reducible rfl
      simp only [Act.put, List.setIfInBounds_toArray, List.set_cons_zero, List.set_cons_succ]
      refine pure_ (i := 13) (N := (some 48)) (v := ?_) (a' := _) #[true, true, true, true, true, true, true, true, true, true, true, true, true, true, false, false, false, false, false, false, false, false, false] rfl rfl (by kernel_rfl) (fun _ _ _ h => h) (Or.inl ⟨by rfl, ?_⟩) rfl ?_
      rotate_left
      · intro w'; go_simp; with_reducible rfl
      simp only [Act.put, List.setIfInBounds_toArray, List.set_cons_zero, List.set_cons_succ]
      refine pure_ (i := 15) (N := (some 50)) (v := ?_) (a' := _) #[true, true, true, true, true, true, true, true, true, true, true, true, true, true, false, true, false, false, false, false, false, false, false] rfl rfl (by kernel_rfl) (fun _ _ _ h => h) (Or.inl ⟨by rfl, ?_⟩) rfl ?_
      rotate_left
      · intro w'; go_simp; with_reducible rfl
      simp only [Act.put, List.setIfInBounds_toArray, List.set_cons_zero, List.set_cons_succ]
      refine pure_ (i := 16) (N := (some 51)) (v := ?_) (a' := _) #[true, true, true, true, true, true, true, true, true, true, true, true, true, true, false, true, true, false, false, false, false, false, false] rfl rfl (by kernel_rfl) (fun _ _ _ h => h) (Or.inl ⟨by rfl, ?_⟩) rfl ?_
      rotate_left
      · intro w'; go_simp; with_reducible rfl
      simp only [Act.put, List.setIfInBounds_toArray, List.set_cons_zero, List.set_cons_succ]
      refine pure_ (i := 17) (N := (some 52)) (v := ?_) (a' := _) #[true, true, true, true, true, true, true, true, true, true, true, true, true, true, false, true, true, true, false, false, false, false, false] rfl rfl (by kernel_rfl) (fun _ _ _ h => h) (Or.inl ⟨by rfl, ?_⟩) rfl ?_
      rotate_left
      · intro w'; go_simp; with_reducible rfl
      simp only [Act.put, List.setIfInBounds_toArray, List.set_cons_zero, List.set_cons_succ]
      refine pure_ (i := 18) (N := (some 53)) (v := ?_) (a' := _) #[true, true, true, true, true, true, true, true, true, true, true, true, true, true, false, true, true, true, true, false, false, false, false] rfl rfl (by kernel_rfl) (fun _ _ _ h => h) (Or.inl ⟨by rfl, ?_⟩) rfl ?_
      rotate_left
      · intro w'; go_simp; with_reducible rfl
      simp only [Act.put, List.setIfInBounds_toArray, List.set_cons_zero, List.set_cons_succ]
      refine take_ (i := 19) (N := (some 54)) (v := ?_) (a' := _) #[true, true, true, true, true, true, true, true, true, true, true, true, true, true, false, true, true, true, true, true, false, false, false] rfl rfl (by kernel_rfl) (fun _ _ _ h => h) (Or.inl ⟨by rfl, ?_⟩) G8.out rfl ?_
      rotate_left
      · intro w' s_; have f0_ := XS.out w' s_; go_simp; with_reducible rfl
      simp only [Act.put, List.setIfInBounds_toArray, List.set_cons_zero, List.set_cons_succ]
      refine one_ (i := 14) (N := (some 49)) #[true, true, true, true, true, true, true, true, true, true, true, true, true, true, true, true, true, true, true, true, false, false, false] rfl rfl (by kernel_rfl) (by decide) (fun K hK => ?_)
      go_simp
      (go_at_call 51; (with_reducible refine (SC1.out _ G8.out).mono ?_); rintro e w9 ⟨rfl, hb⟩; have G9 := Aside0.mk (SG.out _ _ G8.out hb); clear hb)
      refine hK.out _ _ G9.out (fun _ => ?_)
      clear hK K
      try simp only [Act.put, List.setIfInBounds_toArray, List.set_cons_zero, List.set_cons_succ]
      refine one_ (i := 20) (N := (some 55)) #[true, true, true, true, true, true, true, true, true, true, true, true, true, true, true, true, true, true, true, true, true, false, false] rfl rfl (by kernel_rfl) (by decide) (fun K hK => ?_)
      go_simp
      (go_at_call 52; (with_reducible refine (RS.out _ G9.out).mono ?_); rintro e w10 ⟨rfl, hb⟩; have G10 := Aside0.mk (SG.out _ _ G9.out hb); clear hb)
      refine hK.out _ _ G10.out (fun _ => ?_)
      clear hK K
      try simp only [Act.put, List.setIfInBounds_toArray, List.set_cons_zero, List.set_cons_succ]
      refine pure_ (i := 21) (N := (some 56)) (v := ?_) (a' := _) #[true, true, true, true, true, true, true, true, true, true, true, true, true, true, true, true, true, true, true, true, true, true, false] rfl rfl (by kernel_rfl) (fun _ _ _ h => h) (Or.inl ⟨by rfl, ?_⟩) rfl ?_
      rotate_left
      · intro w'; go_simp; with_reducible rfl
      simp only [Act.put, List.setIfInBounds_toArray, List.set_cons_zero, List.set_cons_succ]
      refine pure_ (i := 22) (N := (some 57)) (v := ?_) (a' := _) #[true, true, true, true, true, true, true, true, true, true, true, true, true, true, true, true, true, true, true, true, true, true, true] rfl rfl (by kernel_rfl) (fun _ _ _ h => h) (Or.inl ⟨by rfl, ?_⟩) rfl ?_
      rotate_left
      · intro w'; go_simp; with_reducible rfl
      simp only [Act.put, List.setIfInBounds_toArray, List.set_cons_zero, List.set_cons_succ]
      refine done_ (by kernel_rfl) ?_
      go_wp2
      go_roundw
      case rel => exact ⟨i + 1, by go_num, by omega, G10⟩
      case measure => simp [intOf]; omega
    · obtain rfl : i = P.length := by omega
      have k1 : ¬ ((P.length : Nat) : Int) < (P.length : Int) := by omega
      by_cases n0 : 0 ≤ n
      · have d1 : decide (n ≥ 0) = true := decide_eq_true n0
        have d2 : decide (0 ≤ n) = true := decide_eq_true n0
        by_cases n1 : n < (P.length : Int)
        · have d3 : decide (n < (P.length : Int)) = true := decide_eq_true n1
          go_wp2
          go_ret
          exact ⟨rfl, (GG.out _ G6.out).1.1⟩
        · have d3 : decide (n < (P.length : Int)) = false := decide_eq_false n1
          go_wp2_with (first
          | (go_at_call 49; (with_reducible refine (FS.out _ G6.out n).mono ?_); rintro e w7 ⟨rfl, hb⟩; have G7 := Aside0.mk (SG.out _ _ G6.out hb); rw [TO.out n (.inr (by omega))]; clear hb)
          | (go_at_call 51; (with_reducible refine (SC.out _ G7.out n).mono ?_); rintro e w8 ⟨rfl, hb⟩; have G8 := Aside0.mk (SG.out _ _ G7.out hb); rw [TO.out n (.inr (by omega))]; clear hb)
          | (go_at_call 53; (with_reducible refine (FO.out _ G8.out n 97 (.inr (by omega))).mono ?_); rintro e w9 ⟨rfl, hb⟩; have G9 := Aside0.mk (SG.out _ _ G8.out hb); clear hb))
          go_ret
          exact ⟨rfl, (GG.out _ G9.out).1.1⟩
      · have d1 : decide (n ≥ 0) = false := decide_eq_false n0
        have d2 : decide (0 ≤ n) = false := decide_eq_false n0
        go_wp2_with (first
          | (go_at_call 49; (with_reducible refine (FS.out _ G6.out n).mono ?_); rintro e w7 ⟨rfl, hb⟩; have G7 := Aside0.mk (SG.out _ _ G6.out hb); rw [TO.out n (.inl (by omega))]; clear hb)
          | (go_at_call 51; (with_reducible refine (SC.out _ G7.out n).mono ?_); rintro e w8 ⟨rfl, hb⟩; have G8 := Aside0.mk (SG.out _ _ G7.out hb); rw [TO.out n (.inl (by omega))]; clear hb)
          | (go_at_call 53; (with_reducible refine (FO.out _ G8.out n 97 (.inl (by omega))).mono ?_); rintro e w9 ⟨rfl, hb⟩; have G9 := Aside0.mk (SG.out _ _ G8.out hb); clear hb))
        go_ret
        exact ⟨rfl, (GG.out _ G9.out).1.1⟩
end Go.Proofs.Ytifbcboefopioaa.Tri
