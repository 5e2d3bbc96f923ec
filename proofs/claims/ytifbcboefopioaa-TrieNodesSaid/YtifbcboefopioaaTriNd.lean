/- By hand: the law TrieNodes, walked whole. No condition. -/
import Derived.Test.YtifbcboefopioaaTriL
import Derived.Test.YtifbcboefopioaaTriL2
set_option linter.unusedSimpArgs false
set_option linter.unusedVariables false
namespace Go.Proofs.Ytifbcboefopioaa.Tri
open Go.RowKit Go.Maps Go.Proofs.YtifbcboefopioaaW.PrintWords Go.Proofs.YtifbcboefopioaaW.PrintLast Go.Proofs.YtifbcboefopioaaW.PrintMore Go.Proofs.Ytifbcboefopioaa.Kit Go.Proofs.Ytifbcboefopioaa.All
attribute [local go_sem] max2_int min2_int max_two min_two max_three min_three max_four min_four

set_option maxRecDepth 100000 in
set_option maxHeartbeats 4000000 in
theorem nodes_law (A0 : Option Addr) (c0 : Nat) (L : List Txt) (n : Int) (w : World)
    (hr0 : Kd.C (Kd.slice 5 (Kd.int .u8)) w A0 L.length L) (hc0 : L.length ≤ c0) (hB : ∀ s ∈ L, Bytes s) (hL : L.length ≤ 8000000000000) :
    Calls Try.prog 3 #[.slice A0 L.length c0, .int .i64 n] w fun e w' => e = .returned (.bool true) ∧ Below w.heap.size w w' := by
  obtain ⟨k, r, bo, hT, hbo⟩ := texts06_two L (by omega)
  obtain ⟨F, SF, E0, FF⟩ := stays_pack ((stays_below w).and (stays_reads (Kd.slice 5 (Kd.int .u8)) A0 L.length L)) ⟨Below.refl _ _, hr0⟩
  have HC0 := Aside0.mk hc0
  have T := Aside0.mk hT
  have HBO := Aside0.mk hbo
  clear hr0 hc0 hT hbo
  cases bo with
  | false =>
    go_enter Try.func3, Try.ntmps3
    go_wp2_with (first
      | (go_at_call 19; (refine (awake_at _).mono ?_); rintro e w1 ⟨rfl, hb⟩; have E1 := Aside0.mk (SF.out _ _ E0.out hb); clear hb)
      | (go_at_call 20; (refine (texts06_at _ A0 c0 L k r false (FF.out _ E1.out).2 HC0.out T.out).mono ?_); rintro e w2 ⟨AW, cW, rfl, hcW, hW, hb⟩; have E2 := Aside0.mk (SF.out _ _ E1.out hb); clear hW hcW hb))
    go_ret
    exact ⟨rfl, (FF.out _ E2.out).1⟩
  | true =>
  obtain ⟨hrm, l12, l40⟩ := HBO.out rfl
  subst hrm
  clear HBO
  have hPl := paths_len l12 l40
  have hPB := pathsL_bytes hB
  have hPS := paths_short l40
  have hG := pathsL_good L
  have hPm := pathsL_mem L
  obtain ⟨P, hP⟩ : ∃ P, P = pathsL L := ⟨_, rfl⟩
  rw [← hP] at hPl hPB hPS hG hPm
  have L40 := Aside0.mk l40
  have HPB := Aside0.mk hPB
  have HPS := Aside0.mk hPS
  have HPM := Aside0.mk hPm
  have HG := Aside0.mk hG
  have HB := Aside0.mk hB
  have HP := Aside0.mk hP
  clear l40 hPB hPS hG hB hP hPm
  have up := fun (x : Txt) (hx : x ∈ L) => Nat.le_trans (L40.out x hx) (show 40 ≤ 1000 by decide)
  have UP := Aside0.mk up
  clear up
  have hpl2 : P.length ≤ 4611686018427387904 := by omega
  go_enter Try.func3, Try.ntmps3
  go_upto_region 9 with (first
      | (go_at_call 19; (refine (awake_at _).mono ?_); rintro e w1 ⟨rfl, hb⟩; have E1 := Aside0.mk (SF.out _ _ E0.out hb); clear hb)
      | (go_at_call 20; (refine (texts06_ok _ A0 c0 L k (FF.out _ E1.out).2 HC0.out T.out).mono ?_); rintro e w2 ⟨AW, cW, rfl, hcW, hW, hb⟩; have E2 := Aside0.mk (SF.out _ _ E1.out hb); have HW := Aside0.mk hW; have HCW := Aside0.mk hcW; clear hW hcW hb)
      | (go_at_call 21; (refine (build_to _ A0 c0 L P HP.out (FF.out _ E2.out).2 HB.out (by omega) UP.out).mono ?_); rintro e w3 ⟨b, base, rfl, ht, hb⟩; have E3 := Aside0.mk (SF.out _ _ E2.out hb); have HW3 := Aside0.mk (Kd.C_below HW.out hb); have HT := Aside0.mk ht; clear ht hb)
      | (go_at_call 22; (refine (paths06_to _ AW cW L P HP.out HB.out (by omega) UP.out HW3.out HCW.out).mono ?_); rintro e w4 ⟨AP, cP, rfl, hcP, hC, hb⟩; have E4 := Aside0.mk (SF.out _ _ E3.out hb); have HT4 := Aside0.mk (HT.out.below hb); have HW4 := Aside0.mk (Kd.C_below HW3.out hb); have HCP := Aside0.mk hcP; have HQ := Aside0.mk hC; clear hcP hC hb))
  obtain ⟨G, SG, G4, GG⟩ := stays_pack ((stays_below w).and ((stays_tree base b P (place L)).and ((stays_reads Kd.string AW L.length (L.map strOfNums)).and (stays_reads Kd.string AP P.length (P.map strOfNums))))) ⟨(FF.out _ E4.out).1, HT4.out, HW4.out, HQ.out⟩
  have p0 := HG.out.pos
  have ND := Aside0.mk (nodes_at HT4.out)
  clear E0 E1 E2 E3 E4 HT HT4 HW HW3 HW4 HQ
  go_wp2_with (go_at_call 23; refine ND.out.mono ?_; rintro e w5 ⟨rfl, hw⟩; subst hw)
  clear ND
  go_loopw [10] (fun v10 w' => ∃ i : Nat, v10 = .int .i64 i ∧ i ≤ P.length ∧ Aside0 (G w')) (fun v10 _ => P.length - (intOf v10).toNat)
  case atStart => exact ⟨0, rfl, Nat.zero_le _, G4⟩
  case round =>
    obtain ⟨i, rfl, hi, G5⟩ := hrel
    by_cases hlt : i < P.length
    · have k1 : ((i : Nat) : Int) < (P.length : Int) := by omega
      have k0 : (0 : Int) ≤ (i : Int) := by omega
      obtain ⟨s, hs⟩ : ∃ s, P[i]? = some s := ⟨_, List.getElem?_eq_getElem hlt⟩
      have hsm := List.mem_of_getElem? hs
      have hs40 := HPS.out s hsm
      have hsB := HPB.out s hsm
      obtain ⟨ad, rfl, hxs⟩ := str_at (GG.out _ G5.out).2.2.2 hs
      have wk : IntKind.i64.wrap ((i : Int) + 1) = (i : Int) + 1 := IntWalk.i64_in _ (by omega)
      have hsz : (strOfNums s).size = s.length := size_str s
      go_upto_if 43 with (fail)
      go_cut [12, 43] from 135 (fun v _ w' => v = .int .i64 (par P s) ∧ Aside0 (G w'))
      case first =>
        by_cases hs0 : s = []
        · have he : (strOfNums s).toList.isEmpty = true := by rw [toList_str, hs0]; rfl
          have hpr : par P s = -1 := if_pos hs0
          clear hs hsB hsm hs0
          rw [he]
          go_wp2
          go_meet
          case rel => exact ⟨by rw [hpr], G5⟩
        · have he : (strOfNums s).toList.isEmpty = false := by rw [toList_str]; simpa using hs0
          have hpr : par P s = place P s.dropLast := if_neg hs0
          have h0 : 0 < s.length := List.length_pos_iff.2 hs0
          have wl : IntKind.i64.wrap ((s.length : Int) - 1) = (s.length : Int) - 1 := IntWalk.i64_in _ (by omega)
          have b0 : (0 : Int) ≤ (s.length : Int) - 1 := by omega
          have b1 : (s.length : Int) - 1 ≤ (s.length : Int) := by omega
          have tn : ((s.length : Int) - 1).toNat = s.length - 1 := by omega
          have hx : (strOfNums s).extract 0 (s.length - 1) = strOfNums s.dropLast := by rw [extract0, List.dropLast_eq_take]
          have hdB : Bytes s.dropLast := fun y hy => hsB y ((List.dropLast_sublist s).subset hy)
          have HX := Aside0.mk hx
          have HDB := Aside0.mk hdB
          clear hs hsB hsm hs0 hx hdB
          rw [he]
          go_wp2_with (go_at_call 24; (refine (place06_at _ _ cP P s.dropLast _ HX.out HPB.out HDB.out hpl2 (GG.out _ G5.out).2.2.2 HCP.out).mono ?_); rintro e w6 ⟨rfl, hb⟩; have G6 := Aside0.mk (SG.out _ _ G5.out hb); clear hb)
          go_meet
          case rel => exact ⟨by rw [hpr], G6⟩
      case rest =>
        obtain ⟨rfl, G6⟩ := hcut
        have G6d := Aside0.mk (stays_drew SG.out G6.out)
        have HS := Aside0.mk hs
        have HSB := Aside0.mk hsB
        clear hs hsB hsm
        have PT := Aside0.mk (fun (w1 : World) (h : G w1) => path_at HG.out (GG.out w1 h).2.1 hpl2 i s HS.out (by omega))
        have DP := Aside0.mk (fun (w1 : World) (h : G w1) => depth_at (GG.out w1 h).2.1 i s HS.out)
        have PR := Aside0.mk (fun (w1 : World) (h : G w1) => parent_at (GG.out w1 h).2.1 i s HS.out)
        have WD := Aside0.mk (fun (w1 : World) (h : G w1) => word_at (GG.out w1 h).2.1 i s HS.out)
        have PL := Aside0.mk (fun (w1 : World) (h : G w1) => place06_at w1 AW cW L s _ rfl HB.out HSB.out (by omega) (GG.out w1 h).2.2.1 HCW.out)
        have KD := Aside0.mk (fun (w1 : World) (h : G w1) => kids_at (GG.out w1 h).2.1 hpl2 i s HS.out)
        have RK := Aside0.mk (fun (w1 : World) (h : G w1) => kids06_at w1 (some ad) cP P s _ rfl HPB.out HSB.out hpl2 (by omega) (GG.out w1 h).2.2.2 HCP.out)
        go_upto_region 18 with (fail)
        refine start_ (n := 40) (S := fun w' => True) (ds := []) #[false, false, false, false, false, false, false, false, false, false, false, false, false, false, false, false, false, false, false, false, false, false, false, false, false, false, false, false, false, false, false, false, false, false, false, false, false, false, false, false] (by kernel_rfl) rfl rfl trivial (fun _ => ?_)
        refine pure_ (i := 0) (N := (some 51)) (v := ?_) (a' := _) #[true, false, false, false, false, false, false, false, false, false, false, false, false, false, false, false, false, false, false, false, false, false, false, false, false, false, false, false, false, false, false, false, false, false, false, false, false, false, false, false] rfl rfl (by kernel_rfl) (fun _ _ _ h => h) (Or.inl ⟨by rfl, ?_⟩) rfl ?_
        rotate_left
        · intro w'; go_simp; with_reducible rfl
        simp only [Act.put, List.setIfInBounds_toArray, List.set_cons_zero, List.set_cons_succ]
        refine pure_ (i := 1) (N := (some 52)) (v := ?_) (a' := _) #[true, true, false, false, false, false, false, false, false, false, false, false, false, false, false, false, false, false, false, false, false, false, false, false, false, false, false, false, false, false, false, false, false, false, false, false, false, false, false, false] rfl rfl (by kernel_rfl) (fun _ _ _ h => h) (Or.inl ⟨by rfl, ?_⟩) rfl ?_
        rotate_left
        · intro w'; go_simp; with_reducible rfl
        simp only [Act.put, List.setIfInBounds_toArray, List.set_cons_zero, List.set_cons_succ]
        refine pure_ (i := 4) (N := (some 55)) (v := ?_) (a' := _) #[true, true, false, false, true, false, false, false, false, false, false, false, false, false, false, false, false, false, false, false, false, false, false, false, false, false, false, false, false, false, false, false, false, false, false, false, false, false, false, false] rfl rfl (by kernel_rfl) (fun _ _ _ h => h) (Or.inl ⟨by rfl, ?_⟩) rfl ?_
        rotate_left
        · intro w'; go_simp; with_reducible rfl
        simp only [Act.put, List.setIfInBounds_toArray, List.set_cons_zero, List.set_cons_succ]
        refine one_ (i := 2) (N := (some 53)) #[true, true, true, false, true, false, false, false, false, false, false, false, false, false, false, false, false, false, false, false, false, false, false, false, false, false, false, false, false, false, false, false, false, false, false, false, false, false, false, false] rfl rfl (by kernel_rfl) (by decide) (fun K hK => ?_)
        go_simp
        (go_at_call 25; (with_reducible refine (PT.out _ G6d.out).mono ?_); rintro e w7 ⟨v, rfl, ho, hb⟩; obtain ⟨A7, c7, rfl, hv7⟩ := row_text ho; have G7 := Aside0.mk (SG.out _ _ G6d.out hb); clear ho hb)
        refine hK.out _ _ trivial (fun _ => ?_)
        clear hK K
        try simp only [Act.put, List.setIfInBounds_toArray, List.set_cons_zero, List.set_cons_succ]
        refine one_ (i := 3) (N := (some 54)) #[true, true, true, true, true, false, false, false, false, false, false, false, false, false, false, false, false, false, false, false, false, false, false, false, false, false, false, false, false, false, false, false, false, false, false, false, false, false, false, false] rfl rfl (by kernel_rfl) (by decide) (fun K hK => ?_)
        go_simp
        refine hK.out _ _ trivial (fun _ => ?_)
        clear hK K
        try simp only [Act.put, List.setIfInBounds_toArray, List.set_cons_zero, List.set_cons_succ]
        refine pure_ (i := 5) (N := (some 56)) (v := ?_) (a' := _) #[true, true, true, true, true, true, false, false, false, false, false, false, false, false, false, false, false, false, false, false, false, false, false, false, false, false, false, false, false, false, false, false, false, false, false, false, false, false, false, false] rfl rfl (by kernel_rfl) (fun _ _ _ h => h) (Or.inl ⟨by rfl, ?_⟩) rfl ?_
        rotate_left
        · intro w'; go_simp; with_reducible rfl
        simp only [Act.put, List.setIfInBounds_toArray, List.set_cons_zero, List.set_cons_succ]
        refine pure_ (i := 6) (N := (some 57)) (v := ?_) (a' := _) #[true, true, true, true, true, true, true, false, false, false, false, false, false, false, false, false, false, false, false, false, false, false, false, false, false, false, false, false, false, false, false, false, false, false, false, false, false, false, false, false] rfl rfl (by kernel_rfl) (fun _ _ _ h => h) (Or.inl ⟨by rfl, ?_⟩) rfl ?_
        rotate_left
        · intro w'; go_simp; with_reducible rfl
        simp only [Act.put, List.setIfInBounds_toArray, List.set_cons_zero, List.set_cons_succ]
        refine pure_ (i := 7) (N := (some 58)) (v := ?_) (a' := _) #[true, true, true, true, true, true, true, true, false, false, false, false, false, false, false, false, false, false, false, false, false, false, false, false, false, false, false, false, false, false, false, false, false, false, false, false, false, false, false, false] rfl rfl (by kernel_rfl) (fun _ _ _ h => h) (Or.inl ⟨by rfl, ?_⟩) rfl ?_
        rotate_left
        · intro w'; go_simp; with_reducible rfl
        simp only [Act.put, List.setIfInBounds_toArray, List.set_cons_zero, List.set_cons_succ]
        refine pure_ (i := 8) (N := (some 59)) (v := ?_) (a' := _) #[true, true, true, true, true, true, true, true, true, false, false, false, false, false, false, false, false, false, false, false, false, false, false, false, false, false, false, false, false, false, false, false, false, false, false, false, false, false, false, false] rfl rfl (by kernel_rfl) (fun _ _ _ h => h) (Or.inl ⟨by rfl, ?_⟩) rfl ?_
        rotate_left
        · intro w'; go_simp; with_reducible rfl
        simp only [Act.put, List.setIfInBounds_toArray, List.set_cons_zero, List.set_cons_succ]
        refine pure_ (i := 10) (N := (some 61)) (v := ?_) (a' := _) #[true, true, true, true, true, true, true, true, true, false, true, false, false, false, false, false, false, false, false, false, false, false, false, false, false, false, false, false, false, false, false, false, false, false, false, false, false, false, false, false] rfl rfl (by kernel_rfl) (fun _ _ _ h => h) (Or.inl ⟨by rfl, ?_⟩) rfl ?_
        rotate_left
        · intro w'; go_simp; with_reducible rfl
        simp only [Act.put, List.setIfInBounds_toArray, List.set_cons_zero, List.set_cons_succ]
        refine pure_ (i := 11) (N := (some 62)) (v := ?_) (a' := _) #[true, true, true, true, true, true, true, true, true, false, true, true, false, false, false, false, false, false, false, false, false, false, false, false, false, false, false, false, false, false, false, false, false, false, false, false, false, false, false, false] rfl rfl (by kernel_rfl) (fun _ _ _ h => h) (Or.inl ⟨by rfl, ?_⟩) rfl ?_
        rotate_left
        · intro w'; go_simp; with_reducible rfl
        simp only [Act.put, List.setIfInBounds_toArray, List.set_cons_zero, List.set_cons_succ]
        refine one_ (i := 9) (N := (some 60)) #[true, true, true, true, true, true, true, true, true, true, true, true, false, false, false, false, false, false, false, false, false, false, false, false, false, false, false, false, false, false, false, false, false, false, false, false, false, false, false, false] rfl rfl (by kernel_rfl) (by decide) (fun K hK => ?_)
        go_simp
        (go_at_call 26; (with_reducible refine (DP.out _ G7.out).mono ?_); rintro e w8 ⟨rfl, hw⟩; subst hw)
        refine hK.out _ _ trivial (fun _ => ?_)
        clear hK K
        try simp only [Act.put, List.setIfInBounds_toArray, List.set_cons_zero, List.set_cons_succ]
        refine pure_ (i := 12) (N := (some 63)) (v := ?_) (a' := _) #[true, true, true, true, true, true, true, true, true, true, true, true, true, false, false, false, false, false, false, false, false, false, false, false, false, false, false, false, false, false, false, false, false, false, false, false, false, false, false, false] rfl rfl (by kernel_rfl) (fun _ _ _ h => h) (Or.inl ⟨by rfl, ?_⟩) rfl ?_
        rotate_left
        · intro w'; go_simp; with_reducible rfl
        simp only [Act.put, List.setIfInBounds_toArray, List.set_cons_zero, List.set_cons_succ]
        refine pure_ (i := 13) (N := (some 64)) (v := ?_) (a' := _) #[true, true, true, true, true, true, true, true, true, true, true, true, true, true, false, false, false, false, false, false, false, false, false, false, false, false, false, false, false, false, false, false, false, false, false, false, false, false, false, false] rfl rfl (by kernel_rfl) (fun _ _ _ h => h) (Or.inl ⟨by rfl, ?_⟩) rfl ?_
        rotate_left
        · intro w'; go_simp; with_reducible rfl
        simp only [Act.put, List.setIfInBounds_toArray, List.set_cons_zero, List.set_cons_succ]
        refine pure_ (i := 14) (N := (some 65)) (v := ?_) (a' := _) #[true, true, true, true, true, true, true, true, true, true, true, true, true, true, true, false, false, false, false, false, false, false, false, false, false, false, false, false, false, false, false, false, false, false, false, false, false, false, false, false] rfl rfl (by kernel_rfl) (fun _ _ _ h => h) (Or.inl ⟨by rfl, ?_⟩) rfl ?_
        rotate_left
        · intro w'; go_simp; with_reducible rfl
        simp only [Act.put, List.setIfInBounds_toArray, List.set_cons_zero, List.set_cons_succ]
        refine pure_ (i := 15) (N := (some 66)) (v := ?_) (a' := _) #[true, true, true, true, true, true, true, true, true, true, true, true, true, true, true, true, false, false, false, false, false, false, false, false, false, false, false, false, false, false, false, false, false, false, false, false, false, false, false, false] rfl rfl (by kernel_rfl) (fun _ _ _ h => h) (Or.inl ⟨by rfl, ?_⟩) rfl ?_
        rotate_left
        · intro w'; go_simp; with_reducible rfl
        simp only [Act.put, List.setIfInBounds_toArray, List.set_cons_zero, List.set_cons_succ]
        refine pure_ (i := 16) (N := (some 67)) (v := ?_) (a' := _) #[true, true, true, true, true, true, true, true, true, true, true, true, true, true, true, true, true, false, false, false, false, false, false, false, false, false, false, false, false, false, false, false, false, false, false, false, false, false, false, false] rfl rfl (by kernel_rfl) (fun _ _ _ h => h) (Or.inl ⟨by rfl, ?_⟩) rfl ?_
        rotate_left
        · intro w'; go_simp; with_reducible rfl
        simp only [Act.put, List.setIfInBounds_toArray, List.set_cons_zero, List.set_cons_succ]
        refine pure_ (i := 18) (N := (some 69)) (v := ?_) (a' := _) #[true, true, true, true, true, true, true, true, true, true, true, true, true, true, true, true, true, false, true, false, false, false, false, false, false, false, false, false, false, false, false, false, false, false, false, false, false, false, false, false] rfl rfl (by kernel_rfl) (fun _ _ _ h => h) (Or.inl ⟨by rfl, ?_⟩) rfl ?_
        rotate_left
        · intro w'; go_simp; with_reducible rfl
        simp only [Act.put, List.setIfInBounds_toArray, List.set_cons_zero, List.set_cons_succ]
        refine one_ (i := 17) (N := (some 68)) #[true, true, true, true, true, true, true, true, true, true, true, true, true, true, true, true, true, true, true, false, false, false, false, false, false, false, false, false, false, false, false, false, false, false, false, false, false, false, false, false] rfl rfl (by kernel_rfl) (by decide) (fun K hK => ?_)
        go_simp
        (go_at_call 27; (with_reducible refine (PR.out _ G7.out).mono ?_); rintro e w8 ⟨rfl, hw⟩; subst hw)
        refine hK.out _ _ trivial (fun _ => ?_)
        clear hK K
        try simp only [Act.put, List.setIfInBounds_toArray, List.set_cons_zero, List.set_cons_succ]
        refine pure_ (i := 19) (N := (some 70)) (v := ?_) (a' := _) #[true, true, true, true, true, true, true, true, true, true, true, true, true, true, true, true, true, true, true, true, false, false, false, false, false, false, false, false, false, false, false, false, false, false, false, false, false, false, false, false] rfl rfl (by kernel_rfl) (fun _ _ _ h => h) (Or.inl ⟨by rfl, ?_⟩) rfl ?_
        rotate_left
        · intro w'; go_simp; with_reducible rfl
        simp only [Act.put, List.setIfInBounds_toArray, List.set_cons_zero, List.set_cons_succ]
        refine pure_ (i := 20) (N := (some 71)) (v := ?_) (a' := _) #[true, true, true, true, true, true, true, true, true, true, true, true, true, true, true, true, true, true, true, true, true, false, false, false, false, false, false, false, false, false, false, false, false, false, false, false, false, false, false, false] rfl rfl (by kernel_rfl) (fun _ _ _ h => h) (Or.inl ⟨by rfl, ?_⟩) rfl ?_
        rotate_left
        · intro w'; go_simp; with_reducible rfl
        simp only [Act.put, List.setIfInBounds_toArray, List.set_cons_zero, List.set_cons_succ]
        refine pure_ (i := 21) (N := (some 72)) (v := ?_) (a' := _) #[true, true, true, true, true, true, true, true, true, true, true, true, true, true, true, true, true, true, true, true, true, true, false, false, false, false, false, false, false, false, false, false, false, false, false, false, false, false, false, false] rfl rfl (by kernel_rfl) (fun _ _ _ h => h) (Or.inl ⟨by rfl, ?_⟩) rfl ?_
        rotate_left
        · intro w'; go_simp; with_reducible rfl
        simp only [Act.put, List.setIfInBounds_toArray, List.set_cons_zero, List.set_cons_succ]
        refine pure_ (i := 22) (N := (some 73)) (v := ?_) (a' := _) #[true, true, true, true, true, true, true, true, true, true, true, true, true, true, true, true, true, true, true, true, true, true, true, false, false, false, false, false, false, false, false, false, false, false, false, false, false, false, false, false] rfl rfl (by kernel_rfl) (fun _ _ _ h => h) (Or.inl ⟨by rfl, ?_⟩) rfl ?_
        rotate_left
        · intro w'; go_simp; with_reducible rfl
        simp only [Act.put, List.setIfInBounds_toArray, List.set_cons_zero, List.set_cons_succ]
        refine pure_ (i := 23) (N := (some 74)) (v := ?_) (a' := _) #[true, true, true, true, true, true, true, true, true, true, true, true, true, true, true, true, true, true, true, true, true, true, true, true, false, false, false, false, false, false, false, false, false, false, false, false, false, false, false, false] rfl rfl (by kernel_rfl) (fun _ _ _ h => h) (Or.inl ⟨by rfl, ?_⟩) rfl ?_
        rotate_left
        · intro w'; go_simp; with_reducible rfl
        simp only [Act.put, List.setIfInBounds_toArray, List.set_cons_zero, List.set_cons_succ]
        refine pure_ (i := 25) (N := (some 76)) (v := ?_) (a' := _) #[true, true, true, true, true, true, true, true, true, true, true, true, true, true, true, true, true, true, true, true, true, true, true, true, false, true, false, false, false, false, false, false, false, false, false, false, false, false, false, false] rfl rfl (by kernel_rfl) (fun _ _ _ h => h) (Or.inl ⟨by rfl, ?_⟩) rfl ?_
        rotate_left
        · intro w'; go_simp; with_reducible rfl
        simp only [Act.put, List.setIfInBounds_toArray, List.set_cons_zero, List.set_cons_succ]
        refine pure_ (i := 26) (N := (some 77)) (v := ?_) (a' := _) #[true, true, true, true, true, true, true, true, true, true, true, true, true, true, true, true, true, true, true, true, true, true, true, true, false, true, true, false, false, false, false, false, false, false, false, false, false, false, false, false] rfl rfl (by kernel_rfl) (fun _ _ _ h => h) (Or.inl ⟨by rfl, ?_⟩) rfl ?_
        rotate_left
        · intro w'; go_simp; with_reducible rfl
        simp only [Act.put, List.setIfInBounds_toArray, List.set_cons_zero, List.set_cons_succ]
        refine one_ (i := 24) (N := (some 75)) #[true, true, true, true, true, true, true, true, true, true, true, true, true, true, true, true, true, true, true, true, true, true, true, true, true, true, true, false, false, false, false, false, false, false, false, false, false, false, false, false] rfl rfl (by kernel_rfl) (by decide) (fun K hK => ?_)
        go_simp
        (go_at_call 28; (with_reducible refine (WD.out _ G7.out).mono ?_); rintro e w8 ⟨rfl, hw⟩; subst hw)
        refine hK.out _ _ trivial (fun _ => ?_)
        clear hK K
        try simp only [Act.put, List.setIfInBounds_toArray, List.set_cons_zero, List.set_cons_succ]
        refine one_ (i := 27) (N := (some 78)) #[true, true, true, true, true, true, true, true, true, true, true, true, true, true, true, true, true, true, true, true, true, true, true, true, true, true, true, true, false, false, false, false, false, false, false, false, false, false, false, false] rfl rfl (by kernel_rfl) (by decide) (fun K hK => ?_)
        go_simp
        (go_at_call 24; (with_reducible refine (PL.out _ G7.out).mono ?_); rintro e w9 ⟨rfl, hb⟩; have G9 := Aside0.mk (SG.out _ _ G7.out hb); clear hb)
        refine hK.out _ _ trivial (fun _ => ?_)
        clear hK K
        try simp only [Act.put, List.setIfInBounds_toArray, List.set_cons_zero, List.set_cons_succ]
        refine pure_ (i := 28) (N := (some 79)) (v := ?_) (a' := _) #[true, true, true, true, true, true, true, true, true, true, true, true, true, true, true, true, true, true, true, true, true, true, true, true, true, true, true, true, true, false, false, false, false, false, false, false, false, false, false, false] rfl rfl (by kernel_rfl) (fun _ _ _ h => h) (Or.inl ⟨by rfl, ?_⟩) rfl ?_
        rotate_left
        · intro w'; go_simp; with_reducible rfl
        simp only [Act.put, List.setIfInBounds_toArray, List.set_cons_zero, List.set_cons_succ]
        refine pure_ (i := 29) (N := (some 80)) (v := ?_) (a' := _) #[true, true, true, true, true, true, true, true, true, true, true, true, true, true, true, true, true, true, true, true, true, true, true, true, true, true, true, true, true, true, false, false, false, false, false, false, false, false, false, false] rfl rfl (by kernel_rfl) (fun _ _ _ h => h) (Or.inl ⟨by rfl, ?_⟩) rfl ?_
        rotate_left
        · intro w'; go_simp; with_reducible rfl
        simp only [Act.put, List.setIfInBounds_toArray, List.set_cons_zero, List.set_cons_succ]
        refine pure_ (i := 30) (N := (some 81)) (v := ?_) (a' := _) #[true, true, true, true, true, true, true, true, true, true, true, true, true, true, true, true, true, true, true, true, true, true, true, true, true, true, true, true, true, true, true, false, false, false, false, false, false, false, false, false] rfl rfl (by kernel_rfl) (fun _ _ _ h => h) (Or.inl ⟨by rfl, ?_⟩) rfl ?_
        rotate_left
        · intro w'; go_simp; with_reducible rfl
        simp only [Act.put, List.setIfInBounds_toArray, List.set_cons_zero, List.set_cons_succ]
        refine pure_ (i := 31) (N := (some 82)) (v := ?_) (a' := _) #[true, true, true, true, true, true, true, true, true, true, true, true, true, true, true, true, true, true, true, true, true, true, true, true, true, true, true, true, true, true, true, true, false, false, false, false, false, false, false, false] rfl rfl (by kernel_rfl) (fun _ _ _ h => h) (Or.inl ⟨by rfl, ?_⟩) rfl ?_
        rotate_left
        · intro w'; go_simp; with_reducible rfl
        simp only [Act.put, List.setIfInBounds_toArray, List.set_cons_zero, List.set_cons_succ]
        refine pure_ (i := 32) (N := (some 83)) (v := ?_) (a' := _) #[true, true, true, true, true, true, true, true, true, true, true, true, true, true, true, true, true, true, true, true, true, true, true, true, true, true, true, true, true, true, true, true, true, false, false, false, false, false, false, false] rfl rfl (by kernel_rfl) (fun _ _ _ h => h) (Or.inl ⟨by rfl, ?_⟩) rfl ?_
        rotate_left
        · intro w'; go_simp; with_reducible rfl
        simp only [Act.put, List.setIfInBounds_toArray, List.set_cons_zero, List.set_cons_succ]
        refine pure_ (i := 35) (N := (some 86)) (v := ?_) (a' := _) #[true, true, true, true, true, true, true, true, true, true, true, true, true, true, true, true, true, true, true, true, true, true, true, true, true, true, true, true, true, true, true, true, true, false, false, true, false, false, false, false] rfl rfl (by kernel_rfl) (fun _ _ _ h => h) (Or.inl ⟨by rfl, ?_⟩) rfl ?_
        rotate_left
        · intro w'; go_simp; with_reducible rfl
        simp only [Act.put, List.setIfInBounds_toArray, List.set_cons_zero, List.set_cons_succ]
        refine pure_ (i := 36) (N := (some 87)) (v := ?_) (a' := _) #[true, true, true, true, true, true, true, true, true, true, true, true, true, true, true, true, true, true, true, true, true, true, true, true, true, true, true, true, true, true, true, true, true, false, false, true, true, false, false, false] rfl rfl (by kernel_rfl) (fun _ _ _ h => h) (Or.inl ⟨by rfl, ?_⟩) rfl ?_
        rotate_left
        · intro w'; go_simp; with_reducible rfl
        simp only [Act.put, List.setIfInBounds_toArray, List.set_cons_zero, List.set_cons_succ]
        refine one_ (i := 33) (N := (some 84)) #[true, true, true, true, true, true, true, true, true, true, true, true, true, true, true, true, true, true, true, true, true, true, true, true, true, true, true, true, true, true, true, true, true, true, false, true, true, false, false, false] rfl rfl (by kernel_rfl) (by decide) (fun K hK => ?_)
        go_simp
        (go_at_call 29; (with_reducible refine (KD.out _ G9.out).mono ?_); rintro e w10 ⟨v, rfl, ho, hb⟩; obtain ⟨A10, c10, rfl, hv10⟩ := row_stays ho; have hv10a := hv10 w10 (Below.refl _ _); have G10 := Aside0.mk (SG.out _ _ G9.out hb); have HV10 := Aside0.mk hv10; clear ho hb hv10)
        refine hK.out _ _ trivial (fun _ => ?_)
        clear hK K
        try simp only [Act.put, List.setIfInBounds_toArray, List.set_cons_zero, List.set_cons_succ]
        refine two_ (i := 34) (j := 37) (Ni := (some 85)) (Nj := (some 88)) #[true, true, true, true, true, true, true, true, true, true, true, true, true, true, true, true, true, true, true, true, true, true, true, true, true, true, true, true, true, true, true, true, true, true, true, true, true, false, false, false] #[true, true, true, true, true, true, true, true, true, true, true, true, true, true, true, true, true, true, true, true, true, true, true, true, true, true, true, true, true, true, true, true, true, true, false, true, true, true, false, false] rfl rfl rfl rfl (by kernel_rfl) (by decide) (by decide) (fun K hK => ?_) (fun K hK => ?_)
        · skip
          go_simp
          refine hK.out _ _ trivial (fun _ => ?_)
          clear hK K
          try simp only [Act.put, List.setIfInBounds_toArray, List.set_cons_zero, List.set_cons_succ]
          refine one_ (i := 37) (N := (some 88)) #[true, true, true, true, true, true, true, true, true, true, true, true, true, true, true, true, true, true, true, true, true, true, true, true, true, true, true, true, true, true, true, true, true, true, true, true, true, true, false, false] rfl rfl (by kernel_rfl) (by decide) (fun K hK => ?_)
          go_simp
          (go_at_call 30; (with_reducible refine (RK.out _ G10.out).mono ?_); rintro e w11 ⟨rfl, hb⟩; have hv11 := HV10.out w11 hb; have G11 := Aside0.mk (SG.out _ _ G10.out hb); clear hb)
          refine hK.out _ _ trivial (fun _ => ?_)
          clear hK K
          try simp only [Act.put, List.setIfInBounds_toArray, List.set_cons_zero, List.set_cons_succ]
          refine pure_ (i := 38) (N := (some 89)) (v := ?_) (a' := _) #[true, true, true, true, true, true, true, true, true, true, true, true, true, true, true, true, true, true, true, true, true, true, true, true, true, true, true, true, true, true, true, true, true, true, true, true, true, true, true, false] rfl rfl (by kernel_rfl) (fun _ _ _ h => h) (Or.inl ⟨by rfl, ?_⟩) rfl ?_
          rotate_left
          · intro w'; go_simp; with_reducible rfl
          simp only [Act.put, List.setIfInBounds_toArray, List.set_cons_zero, List.set_cons_succ]
          refine pure_ (i := 39) (N := (some 90)) (v := ?_) (a' := _) #[true, true, true, true, true, true, true, true, true, true, true, true, true, true, true, true, true, true, true, true, true, true, true, true, true, true, true, true, true, true, true, true, true, true, true, true, true, true, true, true] rfl rfl (by kernel_rfl) (fun _ _ _ h => h) (Or.inl ⟨by rfl, ?_⟩) rfl ?_
          rotate_left
          · intro w'; go_simp; with_reducible rfl
          simp only [Act.put, List.setIfInBounds_toArray, List.set_cons_zero, List.set_cons_succ]
          refine done_ (by kernel_rfl) ?_
          go_wp2
          go_roundw
          case rel => exact ⟨i + 1, by go_num, by omega, G11⟩
          case measure => simp [intOf]; omega
        · skip
          go_simp
          (go_at_call 30; (with_reducible refine (RK.out _ G10.out).mono ?_); rintro e w11 ⟨rfl, hb⟩; have hv11 := HV10.out w11 hb; have G11 := Aside0.mk (SG.out _ _ G10.out hb); clear hb)
          refine hK.out _ _ trivial (fun _ => ?_)
          clear hK K
          try simp only [Act.put, List.setIfInBounds_toArray, List.set_cons_zero, List.set_cons_succ]
          refine one_ (i := 34) (N := (some 85)) #[true, true, true, true, true, true, true, true, true, true, true, true, true, true, true, true, true, true, true, true, true, true, true, true, true, true, true, true, true, true, true, true, true, true, true, true, true, true, false, false] rfl rfl (by kernel_rfl) (by decide) (fun K hK => ?_)
          go_simp
          refine hK.out _ _ trivial (fun _ => ?_)
          clear hK K
          try simp only [Act.put, List.setIfInBounds_toArray, List.set_cons_zero, List.set_cons_succ]
          refine pure_ (i := 38) (N := (some 89)) (v := ?_) (a' := _) #[true, true, true, true, true, true, true, true, true, true, true, true, true, true, true, true, true, true, true, true, true, true, true, true, true, true, true, true, true, true, true, true, true, true, true, true, true, true, true, false] rfl rfl (by kernel_rfl) (fun _ _ _ h => h) (Or.inl ⟨by rfl, ?_⟩) rfl ?_
          rotate_left
          · intro w'; go_simp; with_reducible rfl
          simp only [Act.put, List.setIfInBounds_toArray, List.set_cons_zero, List.set_cons_succ]
          refine pure_ (i := 39) (N := (some 90)) (v := ?_) (a' := _) #[true, true, true, true, true, true, true, true, true, true, true, true, true, true, true, true, true, true, true, true, true, true, true, true, true, true, true, true, true, true, true, true, true, true, true, true, true, true, true, true] rfl rfl (by kernel_rfl) (fun _ _ _ h => h) (Or.inl ⟨by rfl, ?_⟩) rfl ?_
          rotate_left
          · intro w'; go_simp; with_reducible rfl
          simp only [Act.put, List.setIfInBounds_toArray, List.set_cons_zero, List.set_cons_succ]
          refine done_ (by kernel_rfl) ?_
          go_wp2
          go_roundw
          case rel => exact ⟨i + 1, by go_num, by omega, G11⟩
          case measure => simp [intOf]; omega
    · obtain rfl : i = P.length := by omega
      have k1 : ¬ ((P.length : Nat) : Int) < (P.length : Int) := by omega
      by_cases hin : 0 ≤ n ∧ n < P.length
      · have n0 : (0 : Int) ≤ n := hin.1
        have n1 : n < (P.length : Int) := hin.2
        go_wp2
        go_ret
        exact ⟨rfl, (GG.out _ G5.out).1⟩
      · have hno : n < 0 ∨ (P.length : Int) ≤ n := by omega
        have PT := Aside0.mk (path_no (GG.out _ G5.out).2.1 n hno)
        have HN := Aside0.mk hno
        clear hno
        by_cases n0 : (0 : Int) ≤ n
        · have n1 : ¬ n < (P.length : Int) := fun h => hin ⟨n0, h⟩
          clear hin
          go_wp2_with (first
            | (go_at_call 25; (with_reducible refine PT.out.mono ?_); rintro e w6 ⟨rfl, hb⟩; have G6 := Aside0.mk (SG.out _ _ G5.out hb); clear hb)
            | (go_at_call 26; (with_reducible refine (depth_no (GG.out _ G6.out).2.1 n HN.out).mono ?_); rintro e w7 ⟨rfl, hw⟩; subst hw)
            | (go_at_call 27; (with_reducible refine (parent_no (GG.out _ G6.out).2.1 n HN.out).mono ?_); rintro e w7 ⟨rfl, hw⟩; subst hw)
            | (go_at_call 28; (with_reducible refine (word_no (GG.out _ G6.out).2.1 n HN.out).mono ?_); rintro e w7 ⟨rfl, hw⟩; subst hw)
            | (go_at_call 29; (with_reducible refine (kids_no (GG.out _ G6.out).2.1 n HN.out).mono ?_); rintro e w7 ⟨rfl, hw⟩; subst hw)
            | (go_at_call 31; (with_reducible refine (step_no (GG.out _ G6.out).2.1 n HN.out 97).mono ?_); rintro e w7 ⟨rfl, hw⟩; subst hw))
          go_ret
          exact ⟨rfl, (GG.out _ G6.out).1⟩
        · clear hin
          go_wp2_with (first
            | (go_at_call 25; (with_reducible refine PT.out.mono ?_); rintro e w6 ⟨rfl, hb⟩; have G6 := Aside0.mk (SG.out _ _ G5.out hb); clear hb)
            | (go_at_call 26; (with_reducible refine (depth_no (GG.out _ G6.out).2.1 n HN.out).mono ?_); rintro e w7 ⟨rfl, hw⟩; subst hw)
            | (go_at_call 27; (with_reducible refine (parent_no (GG.out _ G6.out).2.1 n HN.out).mono ?_); rintro e w7 ⟨rfl, hw⟩; subst hw)
            | (go_at_call 28; (with_reducible refine (word_no (GG.out _ G6.out).2.1 n HN.out).mono ?_); rintro e w7 ⟨rfl, hw⟩; subst hw)
            | (go_at_call 29; (with_reducible refine (kids_no (GG.out _ G6.out).2.1 n HN.out).mono ?_); rintro e w7 ⟨rfl, hw⟩; subst hw)
            | (go_at_call 31; (with_reducible refine (step_no (GG.out _ G6.out).2.1 n HN.out 97).mono ?_); rintro e w7 ⟨rfl, hw⟩; subst hw))
          go_ret
          exact ⟨rfl, (GG.out _ G6.out).1⟩
end Go.Proofs.Ytifbcboefopioaa.Tri
