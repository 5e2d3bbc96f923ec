/- By hand: the law BackNodes, walked whole. No condition. -/
import Derived.Test.YtifbcboefopioaaBackL
set_option linter.unusedVariables false
set_option linter.unusedSimpArgs false
namespace Go.Proofs.Ytifbcboefopioaa.Tri
open Go.RowKit Go.Maps Go.Proofs.YtifbcboefopioaaW.PrintWords Go.Proofs.YtifbcboefopioaaW.PrintLast Go.Proofs.YtifbcboefopioaaW.PrintMore Go.Proofs.Ytifbcboefopioaa.Kit Go.Proofs.Ytifbcboefopioaa.All
attribute [local go_sem] max2_int min2_int max_two min_two max_three min_three max_four min_four

set_option maxRecDepth 100000 in
set_option maxHeartbeats 12000000 in
theorem bnodes_law (A0 : Option Addr) (c0 : Nat) (L : List Txt) (n : Int) (w : World)
    (hr0 : Kd.C (Kd.slice 5 (Kd.int .u8)) w A0 L.length L) (hc0 : L.length ≤ c0) (hB : ∀ s ∈ L, Bytes s) (hL : L.length ≤ 8000000000000) :
    Calls Try.prog 9 #[.slice A0 L.length c0, .int .i64 n] w fun e w' => e = .returned (.bool true) ∧ Below w.heap.size w w' := by
  obtain ⟨k, r, bo, hT, hbo⟩ := texts14_two L (by omega)
  obtain ⟨F, SF, E0, FF⟩ := stays_pack ((stays_below w).and (stays_reads (Kd.slice 5 (Kd.int .u8)) A0 L.length L)) ⟨Below.refl _ _, hr0⟩
  have HC0 := Aside0.mk hc0
  have T0 := Aside0.mk hT
  have HBO := Aside0.mk hbo
  clear hr0 hc0 hT hbo
  cases bo with
  | false =>
    go_enter Try.func9, Try.ntmps9
    go_wp2_with (first
      | (go_at_call 33; (refine (awake14_at _).mono ?_); rintro e w1 ⟨rfl, hb⟩; have E1 := Aside0.mk (SF.out _ _ E0.out hb); clear hb)
      | (go_at_call 34; (refine (texts14_at _ A0 c0 L k r false (FF.out _ E1.out).2 HC0.out T0.out).mono ?_); rintro e w2 ⟨AW, cW, rfl, hcW, hW, hb⟩; have E2 := Aside0.mk (SF.out _ _ E1.out hb); clear hW hcW hb))
    go_ret
    exact ⟨rfl, (FF.out _ E2.out).1⟩
  | true =>
  obtain ⟨hrm, l12, l40⟩ := HBO.out rfl
  subst hrm
  clear HBO
  have hTl := Nat.le_trans (TL_len L) l12
  have hTB := TL_bytes hB
  have hTS := TL_short l40
  have hTN := TL_ne L
  have hPl := paths_len hTl hTS
  have hPB := pathsL_bytes hTB
  have hPS := paths_short hTS
  have hG := pathsL_good (TL L)
  have hPm := pathsL_mem (TL L)
  obtain ⟨P, hP⟩ : ∃ P, P = pathsL (TL L) := ⟨_, rfl⟩
  rw [← hP] at hPl hPB hPS hG hPm
  obtain ⟨T, hT⟩ : ∃ T, T = TL L := ⟨_, rfl⟩
  rw [← hT] at hTl hTB hTS hTN hPm hP
  have upT : ∀ x ∈ T, x.length ≤ 1000 := fun x hx => Nat.le_trans (hTS x hx) (show 40 ≤ 1000 by decide)
  have up := fun (x : Txt) (hx : x ∈ L) => Nat.le_trans (l40 x hx) (show 40 ≤ 1000 by decide)
  have L40 := Aside0.mk l40
  have HPB := Aside0.mk hPB
  have HPS := Aside0.mk hPS
  have HPM := Aside0.mk hPm
  have HG := Aside0.mk hG
  have HB := Aside0.mk hB
  have HP := Aside0.mk hP
  have HT := Aside0.mk hT
  have HTB := Aside0.mk hTB
  have HTS := Aside0.mk hTS
  have HTN := Aside0.mk hTN
  have UP := Aside0.mk up
  have UPT := Aside0.mk upT
  clear l40 hPB hPS hG hB hP hPm hT hTB hTS hTN up upT
  have hpl2 : P.length ≤ 4611686018427387904 := by omega
  obtain ⟨le, hle⟩ : ∃ le, leastN T = le := ⟨_, rfl⟩
  have HLE := Aside0.mk hle
  clear hle
  go_enter Try.func9, Try.ntmps9
  go_upto_region 10 with (first
      | (go_at_call 33; (refine (awake14_at _).mono ?_); rintro e w1 ⟨rfl, hb⟩; have E1 := Aside0.mk (SF.out _ _ E0.out hb); clear hb)
      | (go_at_call 34; (refine (texts14_ok _ A0 c0 L k (FF.out _ E1.out).2 HC0.out T0.out).mono ?_); rintro e w2 ⟨AW, cW, rfl, hcW, hW, hb⟩; have E2 := Aside0.mk (SF.out _ _ E1.out hb); have HW := Aside0.mk hW; have HCW := Aside0.mk hcW; clear hW hcW hb)
      | (go_at_call 35; (refine (bbuild_to _ A0 c0 L T P HT.out HP.out (FF.out _ E2.out).2 HB.out (by omega) UP.out).mono ?_); rintro e w3 ⟨g, base, b, rfl, hk, ht, hb⟩; have E3 := Aside0.mk (SF.out _ _ E2.out hb); have HW3 := Aside0.mk (Kd.C_below HW.out hb); have HK := Aside0.mk (And.intro hk ht); clear hk ht hb)
      | (go_at_call 36; (refine (turned_at _ AW cW L T HT.out (by omega) UP.out HW3.out HCW.out).mono ?_); rintro e w4 ⟨AT, cT, rfl, hcT, hC, hb⟩; have E4 := Aside0.mk (SF.out _ _ E3.out hb); have HK4 := Aside0.mk (And.intro (HK.out.1.below hb) (HK.out.2.below hb)); have HCT := Aside0.mk hcT; have HQ := Aside0.mk hC; clear hcT hC hb)
      | (go_at_call 22; (refine (paths06_to _ AT cT T P HP.out HTB.out (by omega) UPT.out HQ.out HCT.out).mono ?_); rintro e w5 ⟨AP, cP, rfl, hcP, hC, hb⟩; have E5 := Aside0.mk (SF.out _ _ E4.out hb); have HK5 := Aside0.mk (And.intro (HK4.out.1.below hb) (HK4.out.2.below hb)); have HQ5 := Aside0.mk (Kd.C_below HQ.out hb); have HCP := Aside0.mk hcP; have HPP := Aside0.mk hC; clear hcP hC hb))
  rw [HLE.out] at HK HK4 HK5
  obtain ⟨G, SG, G5, GG⟩ := stays_pack (((stays_below w).and ((stays_is g (.pointer (some ⟨b, 0, none⟩)) le (nearN T)).and (stays_tree base b P (place T)))).and ((stays_reads Kd.string AT T.length (T.map strOfNums)).and (stays_reads Kd.string AP P.length (P.map strOfNums)))) ⟨⟨(FF.out _ E5.out).1, HK5.out⟩, HQ5.out, HPP.out⟩
  have XT : Aside0 (∀ w1, G w1 → w1.cell? ⟨g, 0, none⟩ = some (.pointer (some ⟨b, 0, none⟩))) := ⟨fun w1 h => (GG.out w1 h).1.2.1.tr⟩
  have ND := Aside0.mk (fun (w1 : World) (h : G w1) => nodes_at (GG.out w1 h).1.2.2)
  have LS := Aside0.mk (fun (w1 : World) (h : G w1) => least_at (GG.out w1 h).1.2.1)
  have RL := Aside0.mk (fun (w1 : World) (h : G w1) => least14_at w1 AT cT T (by omega) HTN.out UPT.out (GG.out w1 h).2.1 HCT.out)
  rw [HLE.out] at RL
  have x5 := XT.out _ G5.out
  have p0 := HG.out.pos
  clear E0 E1 E2 E3 E4 E5 HK HK4 HK5 HQ HQ5 HPP HW HW3 HLE
  go_wp2_with (first
      | (go_at_call 23; (with_reducible refine (ND.out _ G5.out).mono ?_); rintro e w' ⟨rfl, hw⟩; subst hw)
      | (go_at_call 37; (with_reducible refine (LS.out _ G5.out).mono ?_); rintro e w' ⟨rfl, hw⟩; subst hw)
      | (go_at_call 38; (with_reducible refine (RL.out _ G5.out).mono ?_); rintro e w6 ⟨rfl, hb⟩; have G6 := Aside0.mk (SG.out _ _ G5.out hb); clear hb))
  clear x5 ND LS RL G5
  go_loopw [11] (fun v11 w' => ∃ i : Nat, v11 = .int .i64 i ∧ i ≤ P.length ∧ Aside0 (G w')) (fun v11 _ => P.length - (intOf v11).toNat)
  case atStart => exact ⟨0, rfl, Nat.zero_le _, G6⟩
  case round =>
    obtain ⟨i, rfl, hi, G6⟩ := hrel
    by_cases hlt : i < P.length
    · have k1 : ((i : Nat) : Int) < (P.length : Int) := by omega
      have k0 : (0 : Int) ≤ (i : Int) := by omega
      obtain ⟨s, hs⟩ : ∃ s, P[i]? = some s := ⟨_, List.getElem?_eq_getElem hlt⟩
      have hsm := List.mem_of_getElem? hs
      have hs40 := HPS.out s hsm
      have hsB := HPB.out s hsm
      obtain ⟨ad, rfl, _⟩ := str_at (GG.out _ G6.out).2.2 hs
      have XS : Aside0 (∀ w1, G w1 → w1.cell? (ad.add i) = some (.string (strOfNums s))) := ⟨fun w1 h => by
        obtain ⟨ad2, e2, hx⟩ := str_at (GG.out w1 h).2.2 hs
        cases e2
        exact hx⟩
      have wk : IntKind.i64.wrap ((i : Int) + 1) = (i : Int) + 1 := IntWalk.i64_in _ (by omega)
      have PT := Aside0.mk (fun (w1 : World) (h : G w1) => path_at HG.out (GG.out w1 h).1.2.2 hpl2 i s hs (by omega))
      have EN := Aside0.mk (fun (w1 : World) (h : G w1) => end_at (GG.out w1 h).1.2.1 HG.out (GG.out w1 h).1.2.2 hpl2 i s hs (by omega))
      have WH := Aside0.mk (fun (w1 : World) (h : G w1) => whole_at (GG.out w1 h).1.2.1 (GG.out w1 h).1.2.2 i s hs)
      have PL := Aside0.mk (fun (w1 : World) (h : G w1) => place06_at w1 AT cT T s _ rfl HTB.out hsB (by omega) (GG.out w1 h).2.1 HCT.out)
      have TN := Aside0.mk (fun (w1 : World) => turn14_at w1 s (by omega))
      obtain ⟨rs, hrs⟩ : ∃ rs, s.reverse = rs := ⟨_, rfl⟩
      rw [hrs] at EN TN
      obtain ⟨q, hq⟩ : ∃ q, place T s = q := ⟨_, rfl⟩
      rw [hq] at WH PL
      obtain ⟨bq, hbq⟩ : ∃ bq, wholeB q = bq := ⟨_, rfl⟩
      have d1 : decide (q ≥ 0) = bq := hbq
      have d2 : decide (0 ≤ q) = bq := hbq
      rw [hbq] at WH
      clear hs hsm hsB hq hbq hrs
      go_upto_region 15 with (fail)
      have G6d := Aside0.mk (stays_drew SG.out G6.out)
      refine start_ (n := 37) (S := G) (ds := []) #[false, false, false, false, false, false, false, false, false, false, false, false, false, false, false, false, false, false, false, false, false, false, false, false, false, false, false, false, false, false, false, false, false, false, false, false, false] (by kernel_rfl) rfl rfl G6d.out (fun _ => ?_)
      refine pure_ (i := 0) (N := (some 49)) (v := ?_) (a' := _) #[true, false, false, false, false, false, false, false, false, false, false, false, false, false, false, false, false, false, false, false, false, false, false, false, false, false, false, false, false, false, false, false, false, false, false, false, false] rfl rfl (by kernel_rfl) (fun _ _ _ h => h) (Or.inl ⟨by rfl, ?_⟩) rfl ?_
      rotate_left
      · intro w'; go_simp; with_reducible rfl
      simp only [Act.put, List.setIfInBounds_toArray, List.set_cons_zero, List.set_cons_succ]
      refine pure_ (i := 1) (N := (some 50)) (v := ?_) (a' := _) #[true, true, false, false, false, false, false, false, false, false, false, false, false, false, false, false, false, false, false, false, false, false, false, false, false, false, false, false, false, false, false, false, false, false, false, false, false] rfl rfl (by kernel_rfl) (fun _ _ _ h => h) (Or.inl ⟨by rfl, ?_⟩) rfl ?_
      rotate_left
      · intro w'; go_simp; with_reducible rfl
      simp only [Act.put, List.setIfInBounds_toArray, List.set_cons_zero, List.set_cons_succ]
      refine pure_ (i := 2) (N := (some 51)) (v := ?_) (a' := _) #[true, true, true, false, false, false, false, false, false, false, false, false, false, false, false, false, false, false, false, false, false, false, false, false, false, false, false, false, false, false, false, false, false, false, false, false, false] rfl rfl (by kernel_rfl) (fun _ _ _ h => h) (Or.inl ⟨by rfl, ?_⟩) rfl ?_
      rotate_left
      · intro w'; go_simp; with_reducible rfl
      simp only [Act.put, List.setIfInBounds_toArray, List.set_cons_zero, List.set_cons_succ]
      refine take_ (i := 3) (N := (some 52)) (v := ?_) (a' := _) #[true, true, true, true, false, false, false, false, false, false, false, false, false, false, false, false, false, false, false, false, false, false, false, false, false, false, false, false, false, false, false, false, false, false, false, false, false] rfl rfl (by kernel_rfl) (fun _ _ _ h => h) (Or.inl ⟨by rfl, ?_⟩) G6d.out rfl ?_
      rotate_left
      · intro w' s_; have f0_ := XT.out w' s_; go_simp; with_reducible rfl
      simp only [Act.put, List.setIfInBounds_toArray, List.set_cons_zero, List.set_cons_succ]
      refine pure_ (i := 4) (N := (some 53)) (v := ?_) (a' := _) #[true, true, true, true, true, false, false, false, false, false, false, false, false, false, false, false, false, false, false, false, false, false, false, false, false, false, false, false, false, false, false, false, false, false, false, false, false] rfl rfl (by kernel_rfl) (fun _ _ _ h => h) (Or.inl ⟨by rfl, ?_⟩) rfl ?_
      rotate_left
      · intro w'; go_simp; with_reducible rfl
      simp only [Act.put, List.setIfInBounds_toArray, List.set_cons_zero, List.set_cons_succ]
      refine pure_ (i := 7) (N := (some 56)) (v := ?_) (a' := _) #[true, true, true, true, true, false, false, true, false, false, false, false, false, false, false, false, false, false, false, false, false, false, false, false, false, false, false, false, false, false, false, false, false, false, false, false, false] rfl rfl (by kernel_rfl) (fun _ _ _ h => h) (Or.inl ⟨by rfl, ?_⟩) rfl ?_
      rotate_left
      · intro w'; go_simp; with_reducible rfl
      simp only [Act.put, List.setIfInBounds_toArray, List.set_cons_zero, List.set_cons_succ]
      refine pure_ (i := 8) (N := (some 57)) (v := ?_) (a' := _) #[true, true, true, true, true, false, false, true, true, false, false, false, false, false, false, false, false, false, false, false, false, false, false, false, false, false, false, false, false, false, false, false, false, false, false, false, false] rfl rfl (by kernel_rfl) (fun _ _ _ h => h) (Or.inl ⟨by rfl, ?_⟩) rfl ?_
      rotate_left
      · intro w'; go_simp; with_reducible rfl
      simp only [Act.put, List.setIfInBounds_toArray, List.set_cons_zero, List.set_cons_succ]
      refine pure_ (i := 9) (N := (some 58)) (v := ?_) (a' := _) #[true, true, true, true, true, false, false, true, true, true, false, false, false, false, false, false, false, false, false, false, false, false, false, false, false, false, false, false, false, false, false, false, false, false, false, false, false] rfl rfl (by kernel_rfl) (fun _ _ _ h => h) (Or.inl ⟨by rfl, ?_⟩) rfl ?_
      rotate_left
      · intro w'; go_simp; with_reducible rfl
      simp only [Act.put, List.setIfInBounds_toArray, List.set_cons_zero, List.set_cons_succ]
      refine take_ (i := 10) (N := (some 59)) (v := ?_) (a' := _) #[true, true, true, true, true, false, false, true, true, true, true, false, false, false, false, false, false, false, false, false, false, false, false, false, false, false, false, false, false, false, false, false, false, false, false, false, false] rfl rfl (by kernel_rfl) (fun _ _ _ h => h) (Or.inl ⟨by rfl, ?_⟩) G6d.out rfl ?_
      rotate_left
      · intro w' s_; have f0_ := XS.out w' s_; go_simp; with_reducible rfl
      simp only [Act.put, List.setIfInBounds_toArray, List.set_cons_zero, List.set_cons_succ]
      refine one_ (i := 5) (N := (some 54)) #[true, true, true, true, true, true, false, true, true, true, true, false, false, false, false, false, false, false, false, false, false, false, false, false, false, false, false, false, false, false, false, false, false, false, false, false, false] rfl rfl (by kernel_rfl) (by decide) (fun K hK => ?_)
      go_simp
      (go_at_call 25; (with_reducible refine (PT.out _ G6d.out).mono ?_); rintro e w7 ⟨v, rfl, ho, hb⟩; obtain ⟨A7, c7, rfl, hv7⟩ := row_text ho; have G7 := Aside0.mk (SG.out _ _ G6d.out hb); clear ho hb)
      refine hK.out _ _ G7.out (fun _ => ?_)
      clear hK K
      try simp only [Act.put, List.setIfInBounds_toArray, List.set_cons_zero, List.set_cons_succ]
      refine one_ (i := 6) (N := (some 55)) #[true, true, true, true, true, true, true, true, true, true, true, false, false, false, false, false, false, false, false, false, false, false, false, false, false, false, false, false, false, false, false, false, false, false, false, false, false] rfl rfl (by kernel_rfl) (by decide) (fun K hK => ?_)
      go_simp
      refine hK.out _ _ G7.out (fun _ => ?_)
      clear hK K
      try simp only [Act.put, List.setIfInBounds_toArray, List.set_cons_zero, List.set_cons_succ]
      refine pure_ (i := 11) (N := (some 60)) (v := ?_) (a' := _) #[true, true, true, true, true, true, true, true, true, true, true, true, false, false, false, false, false, false, false, false, false, false, false, false, false, false, false, false, false, false, false, false, false, false, false, false, false] rfl rfl (by kernel_rfl) (fun _ _ _ h => h) (Or.inl ⟨by rfl, ?_⟩) rfl ?_
      rotate_left
      · intro w'; go_simp; with_reducible rfl
      simp only [Act.put, List.setIfInBounds_toArray, List.set_cons_zero, List.set_cons_succ]
      refine pure_ (i := 12) (N := (some 61)) (v := ?_) (a' := _) #[true, true, true, true, true, true, true, true, true, true, true, true, true, false, false, false, false, false, false, false, false, false, false, false, false, false, false, false, false, false, false, false, false, false, false, false, false] rfl rfl (by kernel_rfl) (fun _ _ _ h => h) (Or.inl ⟨by rfl, ?_⟩) rfl ?_
      rotate_left
      · intro w'; go_simp; with_reducible rfl
      simp only [Act.put, List.setIfInBounds_toArray, List.set_cons_zero, List.set_cons_succ]
      refine pure_ (i := 13) (N := (some 62)) (v := ?_) (a' := _) #[true, true, true, true, true, true, true, true, true, true, true, true, true, true, false, false, false, false, false, false, false, false, false, false, false, false, false, false, false, false, false, false, false, false, false, false, false] rfl rfl (by kernel_rfl) (fun _ _ _ h => h) (Or.inl ⟨by rfl, ?_⟩) rfl ?_
      rotate_left
      · intro w'; go_simp; with_reducible rfl
      simp only [Act.put, List.setIfInBounds_toArray, List.set_cons_zero, List.set_cons_succ]
      refine pure_ (i := 14) (N := (some 63)) (v := ?_) (a' := _) #[true, true, true, true, true, true, true, true, true, true, true, true, true, true, true, false, false, false, false, false, false, false, false, false, false, false, false, false, false, false, false, false, false, false, false, false, false] rfl rfl (by kernel_rfl) (fun _ _ _ h => h) (Or.inl ⟨by rfl, ?_⟩) rfl ?_
      rotate_left
      · intro w'; go_simp; with_reducible rfl
      simp only [Act.put, List.setIfInBounds_toArray, List.set_cons_zero, List.set_cons_succ]
      refine pure_ (i := 17) (N := (some 66)) (v := ?_) (a' := _) #[true, true, true, true, true, true, true, true, true, true, true, true, true, true, true, false, false, true, false, false, false, false, false, false, false, false, false, false, false, false, false, false, false, false, false, false, false] rfl rfl (by kernel_rfl) (fun _ _ _ h => h) (Or.inl ⟨by rfl, ?_⟩) rfl ?_
      rotate_left
      · intro w'; go_simp; with_reducible rfl
      simp only [Act.put, List.setIfInBounds_toArray, List.set_cons_zero, List.set_cons_succ]
      refine pure_ (i := 18) (N := (some 67)) (v := ?_) (a' := _) #[true, true, true, true, true, true, true, true, true, true, true, true, true, true, true, false, false, true, true, false, false, false, false, false, false, false, false, false, false, false, false, false, false, false, false, false, false] rfl rfl (by kernel_rfl) (fun _ _ _ h => h) (Or.inl ⟨by rfl, ?_⟩) rfl ?_
      rotate_left
      · intro w'; go_simp; with_reducible rfl
      simp only [Act.put, List.setIfInBounds_toArray, List.set_cons_zero, List.set_cons_succ]
      refine pure_ (i := 19) (N := (some 68)) (v := ?_) (a' := _) #[true, true, true, true, true, true, true, true, true, true, true, true, true, true, true, false, false, true, true, true, false, false, false, false, false, false, false, false, false, false, false, false, false, false, false, false, false] rfl rfl (by kernel_rfl) (fun _ _ _ h => h) (Or.inl ⟨by rfl, ?_⟩) rfl ?_
      rotate_left
      · intro w'; go_simp; with_reducible rfl
      simp only [Act.put, List.setIfInBounds_toArray, List.set_cons_zero, List.set_cons_succ]
      refine take_ (i := 20) (N := (some 69)) (v := ?_) (a' := _) #[true, true, true, true, true, true, true, true, true, true, true, true, true, true, true, false, false, true, true, true, true, false, false, false, false, false, false, false, false, false, false, false, false, false, false, false, false] rfl rfl (by kernel_rfl) (fun _ _ _ h => h) (Or.inl ⟨by rfl, ?_⟩) G7.out rfl ?_
      rotate_left
      · intro w' s_; have f0_ := XS.out w' s_; go_simp; with_reducible rfl
      simp only [Act.put, List.setIfInBounds_toArray, List.set_cons_zero, List.set_cons_succ]
      refine one_ (i := 15) (N := (some 64)) #[true, true, true, true, true, true, true, true, true, true, true, true, true, true, true, true, false, true, true, true, true, false, false, false, false, false, false, false, false, false, false, false, false, false, false, false, false] rfl rfl (by kernel_rfl) (by decide) (fun K hK => ?_)
      go_simp
      (go_at_call 39; (with_reducible refine (EN.out _ G7.out).mono ?_); rintro e w8 ⟨v, rfl, ho, hb⟩; obtain ⟨A8, c8, rfl, hv8⟩ := row_stays ho; have hv8a := hv8 w8 (Below.refl _ _); have G8 := Aside0.mk (SG.out _ _ G7.out hb); have HV8 := Aside0.mk hv8; clear ho hb hv8)
      refine hK.out _ _ G8.out (fun _ => ?_)
      clear hK K
      try simp only [Act.put, List.setIfInBounds_toArray, List.set_cons_zero, List.set_cons_succ]
      refine two_ (i := 16) (j := 21) (Ni := (some 65)) (Nj := (some 70)) #[true, true, true, true, true, true, true, true, true, true, true, true, true, true, true, true, true, true, true, true, true, false, false, false, false, false, false, false, false, false, false, false, false, false, false, false, false] #[true, true, true, true, true, true, true, true, true, true, true, true, true, true, true, true, false, true, true, true, true, true, false, false, false, false, false, false, false, false, false, false, false, false, false, false, false] rfl rfl rfl rfl (by kernel_rfl) (by decide) (by decide) (fun K hK => ?_) (fun K hK => ?_)
      · skip
        go_simp
        refine hK.out _ _ G8.out (fun _ => ?_)
        clear hK K
        try simp only [Act.put, List.setIfInBounds_toArray, List.set_cons_zero, List.set_cons_succ]
        refine one_ (i := 21) (N := (some 70)) #[true, true, true, true, true, true, true, true, true, true, true, true, true, true, true, true, true, true, true, true, true, true, false, false, false, false, false, false, false, false, false, false, false, false, false, false, false] rfl rfl (by kernel_rfl) (by decide) (fun K hK => ?_)
        go_simp
        (go_at_call 40; (with_reducible refine (TN.out _).mono ?_); rintro e w9 ⟨rfl, hb⟩; have hv9 := HV8.out w9 hb; have G9 := Aside0.mk (SG.out _ _ G8.out hb); clear hb)
        refine hK.out _ _ G9.out (fun _ => ?_)
        clear hK K
        try simp only [Act.put, List.setIfInBounds_toArray, List.set_cons_zero, List.set_cons_succ]
        refine pure_ (i := 22) (N := (some 71)) (v := ?_) (a' := _) #[true, true, true, true, true, true, true, true, true, true, true, true, true, true, true, true, true, true, true, true, true, true, true, false, false, false, false, false, false, false, false, false, false, false, false, false, false] rfl rfl (by kernel_rfl) (fun _ _ _ h => h) (Or.inl ⟨by rfl, ?_⟩) rfl ?_
        rotate_left
        · intro w'; go_simp; with_reducible rfl
        simp only [Act.put, List.setIfInBounds_toArray, List.set_cons_zero, List.set_cons_succ]
        refine pure_ (i := 23) (N := (some 72)) (v := ?_) (a' := _) #[true, true, true, true, true, true, true, true, true, true, true, true, true, true, true, true, true, true, true, true, true, true, true, true, false, false, false, false, false, false, false, false, false, false, false, false, false] rfl rfl (by kernel_rfl) (fun _ _ _ h => h) (Or.inl ⟨by rfl, ?_⟩) rfl ?_
        rotate_left
        · intro w'; go_simp; with_reducible rfl
        simp only [Act.put, List.setIfInBounds_toArray, List.set_cons_zero, List.set_cons_succ]
        refine pure_ (i := 24) (N := (some 73)) (v := ?_) (a' := _) #[true, true, true, true, true, true, true, true, true, true, true, true, true, true, true, true, true, true, true, true, true, true, true, true, true, false, false, false, false, false, false, false, false, false, false, false, false] rfl rfl (by kernel_rfl) (fun _ _ _ h => h) (Or.inl ⟨by rfl, ?_⟩) rfl ?_
        rotate_left
        · intro w'; go_simp; with_reducible rfl
        simp only [Act.put, List.setIfInBounds_toArray, List.set_cons_zero, List.set_cons_succ]
        refine pure_ (i := 25) (N := (some 74)) (v := ?_) (a' := _) #[true, true, true, true, true, true, true, true, true, true, true, true, true, true, true, true, true, true, true, true, true, true, true, true, true, true, false, false, false, false, false, false, false, false, false, false, false] rfl rfl (by kernel_rfl) (fun _ _ _ h => h) (Or.inl ⟨by rfl, ?_⟩) rfl ?_
        rotate_left
        · intro w'; go_simp; with_reducible rfl
        simp only [Act.put, List.setIfInBounds_toArray, List.set_cons_zero, List.set_cons_succ]
        refine pure_ (i := 26) (N := (some 75)) (v := ?_) (a' := _) #[true, true, true, true, true, true, true, true, true, true, true, true, true, true, true, true, true, true, true, true, true, true, true, true, true, true, true, false, false, false, false, false, false, false, false, false, false] rfl rfl (by kernel_rfl) (fun _ _ _ h => h) (Or.inl ⟨by rfl, ?_⟩) rfl ?_
        rotate_left
        · intro w'; go_simp; with_reducible rfl
        simp only [Act.put, List.setIfInBounds_toArray, List.set_cons_zero, List.set_cons_succ]
        refine pure_ (i := 28) (N := (some 77)) (v := ?_) (a' := _) #[true, true, true, true, true, true, true, true, true, true, true, true, true, true, true, true, true, true, true, true, true, true, true, true, true, true, true, false, true, false, false, false, false, false, false, false, false] rfl rfl (by kernel_rfl) (fun _ _ _ h => h) (Or.inl ⟨by rfl, ?_⟩) rfl ?_
        rotate_left
        · intro w'; go_simp; with_reducible rfl
        simp only [Act.put, List.setIfInBounds_toArray, List.set_cons_zero, List.set_cons_succ]
        refine pure_ (i := 29) (N := (some 78)) (v := ?_) (a' := _) #[true, true, true, true, true, true, true, true, true, true, true, true, true, true, true, true, true, true, true, true, true, true, true, true, true, true, true, false, true, true, false, false, false, false, false, false, false] rfl rfl (by kernel_rfl) (fun _ _ _ h => h) (Or.inl ⟨by rfl, ?_⟩) rfl ?_
        rotate_left
        · intro w'; go_simp; with_reducible rfl
        simp only [Act.put, List.setIfInBounds_toArray, List.set_cons_zero, List.set_cons_succ]
        refine pure_ (i := 30) (N := (some 79)) (v := ?_) (a' := _) #[true, true, true, true, true, true, true, true, true, true, true, true, true, true, true, true, true, true, true, true, true, true, true, true, true, true, true, false, true, true, true, false, false, false, false, false, false] rfl rfl (by kernel_rfl) (fun _ _ _ h => h) (Or.inl ⟨by rfl, ?_⟩) rfl ?_
        rotate_left
        · intro w'; go_simp; with_reducible rfl
        simp only [Act.put, List.setIfInBounds_toArray, List.set_cons_zero, List.set_cons_succ]
        refine pure_ (i := 31) (N := (some 80)) (v := ?_) (a' := _) #[true, true, true, true, true, true, true, true, true, true, true, true, true, true, true, true, true, true, true, true, true, true, true, true, true, true, true, false, true, true, true, true, false, false, false, false, false] rfl rfl (by kernel_rfl) (fun _ _ _ h => h) (Or.inl ⟨by rfl, ?_⟩) rfl ?_
        rotate_left
        · intro w'; go_simp; with_reducible rfl
        simp only [Act.put, List.setIfInBounds_toArray, List.set_cons_zero, List.set_cons_succ]
        refine take_ (i := 32) (N := (some 81)) (v := ?_) (a' := _) #[true, true, true, true, true, true, true, true, true, true, true, true, true, true, true, true, true, true, true, true, true, true, true, true, true, true, true, false, true, true, true, true, true, false, false, false, false] rfl rfl (by kernel_rfl) (fun _ _ _ h => h) (Or.inl ⟨by rfl, ?_⟩) G9.out rfl ?_
        rotate_left
        · intro w' s_; have f0_ := XS.out w' s_; go_simp; with_reducible rfl
        simp only [Act.put, List.setIfInBounds_toArray, List.set_cons_zero, List.set_cons_succ]
        refine one_ (i := 27) (N := (some 76)) #[true, true, true, true, true, true, true, true, true, true, true, true, true, true, true, true, true, true, true, true, true, true, true, true, true, true, true, true, true, true, true, true, true, false, false, false, false] rfl rfl (by kernel_rfl) (by decide) (fun K hK => ?_)
        go_simp
        (go_at_call 41; (with_reducible refine (WH.out _ G9.out).mono ?_); rintro e w' ⟨rfl, hw⟩; subst hw)
        refine hK.out _ _ G9.out (fun _ => ?_)
        clear hK K
        try simp only [Act.put, List.setIfInBounds_toArray, List.set_cons_zero, List.set_cons_succ]
        refine one_ (i := 33) (N := (some 82)) #[true, true, true, true, true, true, true, true, true, true, true, true, true, true, true, true, true, true, true, true, true, true, true, true, true, true, true, true, true, true, true, true, true, true, false, false, false] rfl rfl (by kernel_rfl) (by decide) (fun K hK => ?_)
        go_simp
        (go_at_call 24; (with_reducible refine (PL.out _ G9.out).mono ?_); rintro e w10 ⟨rfl, hb⟩; have G10 := Aside0.mk (SG.out _ _ G9.out hb); clear hb)
        refine hK.out _ _ G10.out (fun _ => ?_)
        clear hK K
        try simp only [Act.put, List.setIfInBounds_toArray, List.set_cons_zero, List.set_cons_succ]
        refine pure_ (i := 34) (N := (some 83)) (v := ?_) (a' := _) #[true, true, true, true, true, true, true, true, true, true, true, true, true, true, true, true, true, true, true, true, true, true, true, true, true, true, true, true, true, true, true, true, true, true, true, false, false] rfl rfl (by kernel_rfl) (fun _ _ _ h => h) (Or.inl ⟨by rfl, ?_⟩) rfl ?_
        rotate_left
        · intro w'; go_simp; with_reducible rfl
        simp only [Act.put, List.setIfInBounds_toArray, List.set_cons_zero, List.set_cons_succ]
        refine pure_ (i := 35) (N := (some 84)) (v := ?_) (a' := _) #[true, true, true, true, true, true, true, true, true, true, true, true, true, true, true, true, true, true, true, true, true, true, true, true, true, true, true, true, true, true, true, true, true, true, true, true, false] rfl rfl (by kernel_rfl) (fun _ _ _ h => h) (Or.inl ⟨by rfl, ?_⟩) rfl ?_
        rotate_left
        · intro w'; go_simp; with_reducible rfl
        simp only [Act.put, List.setIfInBounds_toArray, List.set_cons_zero, List.set_cons_succ]
        refine pure_ (i := 36) (N := (some 85)) (v := ?_) (a' := _) #[true, true, true, true, true, true, true, true, true, true, true, true, true, true, true, true, true, true, true, true, true, true, true, true, true, true, true, true, true, true, true, true, true, true, true, true, true] rfl rfl (by kernel_rfl) (fun _ _ _ h => h) (Or.inl ⟨by rfl, ?_⟩) rfl ?_
        rotate_left
        · intro w'; go_simp; with_reducible rfl
        simp only [Act.put, List.setIfInBounds_toArray, List.set_cons_zero, List.set_cons_succ]
        refine done_ (by kernel_rfl) ?_
        go_wp2
        go_roundw
        case rel => exact ⟨i + 1, by go_num, by omega, G10⟩
        case measure => simp [intOf]; omega
      · skip
        go_simp
        (go_at_call 40; (with_reducible refine (TN.out _).mono ?_); rintro e w9 ⟨rfl, hb⟩; have hv9 := HV8.out w9 hb; have G9 := Aside0.mk (SG.out _ _ G8.out hb); clear hb)
        refine hK.out _ _ G9.out (fun _ => ?_)
        clear hK K
        try simp only [Act.put, List.setIfInBounds_toArray, List.set_cons_zero, List.set_cons_succ]
        refine one_ (i := 16) (N := (some 65)) #[true, true, true, true, true, true, true, true, true, true, true, true, true, true, true, true, true, true, true, true, true, true, false, false, false, false, false, false, false, false, false, false, false, false, false, false, false] rfl rfl (by kernel_rfl) (by decide) (fun K hK => ?_)
        go_simp
        refine hK.out _ _ G9.out (fun _ => ?_)
        clear hK K
        try simp only [Act.put, List.setIfInBounds_toArray, List.set_cons_zero, List.set_cons_succ]
        refine pure_ (i := 22) (N := (some 71)) (v := ?_) (a' := _) #[true, true, true, true, true, true, true, true, true, true, true, true, true, true, true, true, true, true, true, true, true, true, true, false, false, false, false, false, false, false, false, false, false, false, false, false, false] rfl rfl (by kernel_rfl) (fun _ _ _ h => h) (Or.inl ⟨by rfl, ?_⟩) rfl ?_
        rotate_left
        · intro w'; go_simp; with_reducible rfl
        simp only [Act.put, List.setIfInBounds_toArray, List.set_cons_zero, List.set_cons_succ]
        refine pure_ (i := 23) (N := (some 72)) (v := ?_) (a' := _) #[true, true, true, true, true, true, true, true, true, true, true, true, true, true, true, true, true, true, true, true, true, true, true, true, false, false, false, false, false, false, false, false, false, false, false, false, false] rfl rfl (by kernel_rfl) (fun _ _ _ h => h) (Or.inl ⟨by rfl, ?_⟩) rfl ?_
        rotate_left
        · intro w'; go_simp; with_reducible rfl
        simp only [Act.put, List.setIfInBounds_toArray, List.set_cons_zero, List.set_cons_succ]
        refine pure_ (i := 24) (N := (some 73)) (v := ?_) (a' := _) #[true, true, true, true, true, true, true, true, true, true, true, true, true, true, true, true, true, true, true, true, true, true, true, true, true, false, false, false, false, false, false, false, false, false, false, false, false] rfl rfl (by kernel_rfl) (fun _ _ _ h => h) (Or.inl ⟨by rfl, ?_⟩) rfl ?_
        rotate_left
        · intro w'; go_simp; with_reducible rfl
        simp only [Act.put, List.setIfInBounds_toArray, List.set_cons_zero, List.set_cons_succ]
        refine pure_ (i := 25) (N := (some 74)) (v := ?_) (a' := _) #[true, true, true, true, true, true, true, true, true, true, true, true, true, true, true, true, true, true, true, true, true, true, true, true, true, true, false, false, false, false, false, false, false, false, false, false, false] rfl rfl (by kernel_rfl) (fun _ _ _ h => h) (Or.inl ⟨by rfl, ?_⟩) rfl ?_
        rotate_left
        · intro w'; go_simp; with_reducible rfl
        simp only [Act.put, List.setIfInBounds_toArray, List.set_cons_zero, List.set_cons_succ]
        refine pure_ (i := 26) (N := (some 75)) (v := ?_) (a' := _) #[true, true, true, true, true, true, true, true, true, true, true, true, true, true, true, true, true, true, true, true, true, true, true, true, true, true, true, false, false, false, false, false, false, false, false, false, false] rfl rfl (by kernel_rfl) (fun _ _ _ h => h) (Or.inl ⟨by rfl, ?_⟩) rfl ?_
        rotate_left
        · intro w'; go_simp; with_reducible rfl
        simp only [Act.put, List.setIfInBounds_toArray, List.set_cons_zero, List.set_cons_succ]
        refine pure_ (i := 28) (N := (some 77)) (v := ?_) (a' := _) #[true, true, true, true, true, true, true, true, true, true, true, true, true, true, true, true, true, true, true, true, true, true, true, true, true, true, true, false, true, false, false, false, false, false, false, false, false] rfl rfl (by kernel_rfl) (fun _ _ _ h => h) (Or.inl ⟨by rfl, ?_⟩) rfl ?_
        rotate_left
        · intro w'; go_simp; with_reducible rfl
        simp only [Act.put, List.setIfInBounds_toArray, List.set_cons_zero, List.set_cons_succ]
        refine pure_ (i := 29) (N := (some 78)) (v := ?_) (a' := _) #[true, true, true, true, true, true, true, true, true, true, true, true, true, true, true, true, true, true, true, true, true, true, true, true, true, true, true, false, true, true, false, false, false, false, false, false, false] rfl rfl (by kernel_rfl) (fun _ _ _ h => h) (Or.inl ⟨by rfl, ?_⟩) rfl ?_
        rotate_left
        · intro w'; go_simp; with_reducible rfl
        simp only [Act.put, List.setIfInBounds_toArray, List.set_cons_zero, List.set_cons_succ]
        refine pure_ (i := 30) (N := (some 79)) (v := ?_) (a' := _) #[true, true, true, true, true, true, true, true, true, true, true, true, true, true, true, true, true, true, true, true, true, true, true, true, true, true, true, false, true, true, true, false, false, false, false, false, false] rfl rfl (by kernel_rfl) (fun _ _ _ h => h) (Or.inl ⟨by rfl, ?_⟩) rfl ?_
        rotate_left
        · intro w'; go_simp; with_reducible rfl
        simp only [Act.put, List.setIfInBounds_toArray, List.set_cons_zero, List.set_cons_succ]
        refine pure_ (i := 31) (N := (some 80)) (v := ?_) (a' := _) #[true, true, true, true, true, true, true, true, true, true, true, true, true, true, true, true, true, true, true, true, true, true, true, true, true, true, true, false, true, true, true, true, false, false, false, false, false] rfl rfl (by kernel_rfl) (fun _ _ _ h => h) (Or.inl ⟨by rfl, ?_⟩) rfl ?_
        rotate_left
        · intro w'; go_simp; with_reducible rfl
        simp only [Act.put, List.setIfInBounds_toArray, List.set_cons_zero, List.set_cons_succ]
        refine take_ (i := 32) (N := (some 81)) (v := ?_) (a' := _) #[true, true, true, true, true, true, true, true, true, true, true, true, true, true, true, true, true, true, true, true, true, true, true, true, true, true, true, false, true, true, true, true, true, false, false, false, false] rfl rfl (by kernel_rfl) (fun _ _ _ h => h) (Or.inl ⟨by rfl, ?_⟩) G9.out rfl ?_
        rotate_left
        · intro w' s_; have f0_ := XS.out w' s_; go_simp; with_reducible rfl
        simp only [Act.put, List.setIfInBounds_toArray, List.set_cons_zero, List.set_cons_succ]
        refine one_ (i := 27) (N := (some 76)) #[true, true, true, true, true, true, true, true, true, true, true, true, true, true, true, true, true, true, true, true, true, true, true, true, true, true, true, true, true, true, true, true, true, false, false, false, false] rfl rfl (by kernel_rfl) (by decide) (fun K hK => ?_)
        go_simp
        (go_at_call 41; (with_reducible refine (WH.out _ G9.out).mono ?_); rintro e w' ⟨rfl, hw⟩; subst hw)
        refine hK.out _ _ G9.out (fun _ => ?_)
        clear hK K
        try simp only [Act.put, List.setIfInBounds_toArray, List.set_cons_zero, List.set_cons_succ]
        refine one_ (i := 33) (N := (some 82)) #[true, true, true, true, true, true, true, true, true, true, true, true, true, true, true, true, true, true, true, true, true, true, true, true, true, true, true, true, true, true, true, true, true, true, false, false, false] rfl rfl (by kernel_rfl) (by decide) (fun K hK => ?_)
        go_simp
        (go_at_call 24; (with_reducible refine (PL.out _ G9.out).mono ?_); rintro e w10 ⟨rfl, hb⟩; have G10 := Aside0.mk (SG.out _ _ G9.out hb); clear hb)
        refine hK.out _ _ G10.out (fun _ => ?_)
        clear hK K
        try simp only [Act.put, List.setIfInBounds_toArray, List.set_cons_zero, List.set_cons_succ]
        refine pure_ (i := 34) (N := (some 83)) (v := ?_) (a' := _) #[true, true, true, true, true, true, true, true, true, true, true, true, true, true, true, true, true, true, true, true, true, true, true, true, true, true, true, true, true, true, true, true, true, true, true, false, false] rfl rfl (by kernel_rfl) (fun _ _ _ h => h) (Or.inl ⟨by rfl, ?_⟩) rfl ?_
        rotate_left
        · intro w'; go_simp; with_reducible rfl
        simp only [Act.put, List.setIfInBounds_toArray, List.set_cons_zero, List.set_cons_succ]
        refine pure_ (i := 35) (N := (some 84)) (v := ?_) (a' := _) #[true, true, true, true, true, true, true, true, true, true, true, true, true, true, true, true, true, true, true, true, true, true, true, true, true, true, true, true, true, true, true, true, true, true, true, true, false] rfl rfl (by kernel_rfl) (fun _ _ _ h => h) (Or.inl ⟨by rfl, ?_⟩) rfl ?_
        rotate_left
        · intro w'; go_simp; with_reducible rfl
        simp only [Act.put, List.setIfInBounds_toArray, List.set_cons_zero, List.set_cons_succ]
        refine pure_ (i := 36) (N := (some 85)) (v := ?_) (a' := _) #[true, true, true, true, true, true, true, true, true, true, true, true, true, true, true, true, true, true, true, true, true, true, true, true, true, true, true, true, true, true, true, true, true, true, true, true, true] rfl rfl (by kernel_rfl) (fun _ _ _ h => h) (Or.inl ⟨by rfl, ?_⟩) rfl ?_
        rotate_left
        · intro w'; go_simp; with_reducible rfl
        simp only [Act.put, List.setIfInBounds_toArray, List.set_cons_zero, List.set_cons_succ]
        refine done_ (by kernel_rfl) ?_
        go_wp2
        go_roundw
        case rel => exact ⟨i + 1, by go_num, by omega, G10⟩
        case measure => simp [intOf]; omega
    · obtain rfl : i = P.length := by omega
      have k1 : ¬ ((P.length : Nat) : Int) < (P.length : Int) := by omega
      have GB := Aside0.mk (GG.out _ G6.out).1
      by_cases n0 : 0 ≤ n
      · have d1 : decide (n ≥ 0) = true := decide_eq_true n0
        have d2 : decide (0 ≤ n) = true := decide_eq_true n0
        by_cases n1 : n < (P.length : Int)
        · have d3 : decide (n < (P.length : Int)) = true := decide_eq_true n1
          go_wp2
          go_ret
          exact ⟨rfl, GB.out.1⟩
        · have d3 : decide (n < (P.length : Int)) = false := decide_eq_false n1
          go_wp2_with (first
            | (go_at_call 41; (with_reducible refine (whole_no GB.out.2.1 GB.out.2.2 n (.inr (by omega))).mono ?_); rintro e w' ⟨rfl, hw⟩; subst hw)
            | (go_at_call 39; (with_reducible refine (end_no GB.out.2.1 GB.out.2.2 n (.inr (by omega))).mono ?_); rintro e w7 ⟨A7, c7, rfl, hb⟩; have HB7 := Aside0.mk (below_step GB.out.1 hb); clear hb))
          go_ret
          exact ⟨rfl, HB7.out⟩
      · have d1 : decide (n ≥ 0) = false := decide_eq_false n0
        have d2 : decide (0 ≤ n) = false := decide_eq_false n0
        go_wp2_with (first
            | (go_at_call 41; (with_reducible refine (whole_no GB.out.2.1 GB.out.2.2 n (.inl (by omega))).mono ?_); rintro e w' ⟨rfl, hw⟩; subst hw)
            | (go_at_call 39; (with_reducible refine (end_no GB.out.2.1 GB.out.2.2 n (.inl (by omega))).mono ?_); rintro e w7 ⟨A7, c7, rfl, hb⟩; have HB7 := Aside0.mk (below_step GB.out.1 hb); clear hb))
        go_ret
        exact ⟨rfl, HB7.out⟩
end Go.Proofs.Ytifbcboefopioaa.Tri
