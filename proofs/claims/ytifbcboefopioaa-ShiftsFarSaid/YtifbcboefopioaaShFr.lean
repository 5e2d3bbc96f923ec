/- By hand: the law ShiftsFar, walked whole. No condition. -/
import Derived.Test.YtifbcboefopioaaMg3
set_option linter.unusedVariables false
set_option linter.unusedSimpArgs false
namespace Go.Proofs.Ytifbcboefopioaa.Tri
open Go.RowKit Go.Maps Go.Proofs.YtifbcboefopioaaW.PrintWords Go.Proofs.YtifbcboefopioaaW.PrintLast Go.Proofs.YtifbcboefopioaaW.PrintMore Go.Proofs.Ytifbcboefopioaa.Kit Go.Proofs.Ytifbcboefopioaa.All
attribute [local go_sem] max2_int min2_int max_two min_two max_three min_three max_four min_four

set_option maxRecDepth 100000 in
set_option maxHeartbeats 12000000 in
theorem far_law (A0 : Option Addr) (c0 : Nat) (L : List Txt) (n1 x : Int) (w : World)
    (hr0 : Kd.C (Kd.slice 5 (Kd.int .u8)) w A0 L.length L) (hc0 : L.length ≤ c0) (hB : ∀ s ∈ L, Bytes s) (hL : L.length ≤ 8000000000000) (h10 : 0 ≤ n1) (h11 : n1 ≤ 255) (x0 : 0 ≤ x) (x1 : x ≤ 255) :
    Calls Try.prog 15 #[.slice A0 L.length c0, .int .u8 n1, .int .u8 x] w fun e w' => e = .returned (.bool true) ∧ Below w.heap.size w w' := by
  obtain ⟨k, r, bo, hT, hbo⟩ := texts15_two L (by omega)
  obtain ⟨F, SF, E0, FF⟩ := stays_pack ((stays_below w).and (stays_reads (Kd.slice 5 (Kd.int .u8)) A0 L.length L)) ⟨Below.refl _ _, hr0⟩
  have HC0 := Aside0.mk hc0
  have T0 := Aside0.mk hT
  have HBO := Aside0.mk hbo
  clear hr0 hc0 hT hbo
  cases bo with
  | false =>
    go_enter Try.func15, Try.ntmps15
    go_wp2_with (first
      | (go_at_call 45; (refine (awake15_at _).mono ?_); rintro e w1 ⟨rfl, hb⟩; have E1 := Aside0.mk (SF.out _ _ E0.out hb); clear hb)
      | (go_at_call 46; (refine (texts15_at _ A0 c0 L k r false (FF.out _ E1.out).2 HC0.out T0.out).mono ?_); rintro e w2 ⟨AW, cW, rfl, hcW, hW, hb⟩; have E2 := Aside0.mk (SF.out _ _ E1.out hb); clear hW hcW hb))
    go_ret
    exact ⟨rfl, (FF.out _ E2.out).1⟩
  | true =>
  obtain ⟨hrm, l12, l40⟩ := HBO.out rfl
  subst hrm
  clear HBO
  have hTl := Nat.le_trans (TL_len L) l12
  have hTB := TL_bytes hB
  have hTS := TL_short l40
  have hTN := TL_ne L
  have hPl := paths_len hTl hTS
  have hPB := pathsL_bytes hTB
  have hPS := paths_short hTS
  have hG := pathsL_good (TL L)
  have hPm := pathsL_mem (TL L)
  obtain ⟨P, hP⟩ : ∃ P, P = pathsL (TL L) := ⟨_, rfl⟩
  rw [← hP] at hPl hPB hPS hG hPm
  obtain ⟨T, hT⟩ : ∃ T, T = TL L := ⟨_, rfl⟩
  rw [← hT] at hTl hTB hTS hTN hPm hP
  have upT : ∀ x ∈ T, x.length ≤ 1000 := fun x hx => Nat.le_trans (hTS x hx) (show 40 ≤ 1000 by decide)
  have upP : ∀ x ∈ P, x.length ≤ 1000 := fun x hx => Nat.le_trans (hPS x hx) (show 40 ≤ 1000 by decide)
  have up := fun (x : Txt) (hx : x ∈ L) => Nat.le_trans (l40 x hx) (show 40 ≤ 1000 by decide)
  have L40 := Aside0.mk l40
  have HPB := Aside0.mk hPB
  have HPS := Aside0.mk hPS
  have HPM := Aside0.mk hPm
  have HG := Aside0.mk hG
  have HB := Aside0.mk hB
  have HP := Aside0.mk hP
  have HT := Aside0.mk hT
  have HTB := Aside0.mk hTB
  have HTS := Aside0.mk hTS
  have HTN := Aside0.mk hTN
  have UP := Aside0.mk up
  have UPT := Aside0.mk upT
  have HPSU := Aside0.mk upP
  clear l40 hPB hPS hG hB hP hPm hT hTB hTS hTN up upT upP
  have hpl2 : P.length ≤ 4611686018427387904 := by omega
  obtain ⟨tm, rfl⟩ : ∃ tm : Nat, n1 = (tm : Int) := ⟨n1.toNat, by omega⟩
  have p0 := HG.out.pos
  obtain ⟨i, hij⟩ : ∃ i, tm % P.length = i := ⟨_, rfl⟩
  have hil : i < P.length := by rw [← hij]; exact Nat.mod_lt _ p0
  obtain ⟨s, hs⟩ : ∃ s, P[i]? = some s := ⟨_, List.getElem?_eq_getElem hil⟩
  have hne : ¬ (P.length : Int) = 0 := by omega
  have wt : IntKind.i64.wrap (tm : Int) = (tm : Int) := IntWalk.i64_in _ (by omega)
  have wm : (tm : Int).tmod (P.length : Int) = (i : Int) := by
    rw [Int.tmod_eq_emod_of_nonneg (by omega), ← hij, Int.natCast_emod]
  have wi : IntKind.i64.wrap (i : Int) = (i : Int) := IntWalk.i64_in _ (by omega)
  have i0 : (0 : Int) ≤ (i : Int) := by omega
  have i1 : (i : Int) < (P.length : Int) := by omega
  have HS := Aside0.mk hs
  clear hij hs
  go_enter Try.func15, Try.ntmps15
  go_upto_region 10 with (first
      | (go_at_call 45; (refine (awake15_at _).mono ?_); rintro e w1 ⟨rfl, hb⟩; have E1 := Aside0.mk (SF.out _ _ E0.out hb); clear hb)
      | (go_at_call 46; (refine (texts15_ok _ A0 c0 L k (FF.out _ E1.out).2 HC0.out T0.out).mono ?_); rintro e w2 ⟨AW, cW, rfl, hcW, hW, hb⟩; have E2 := Aside0.mk (SF.out _ _ E1.out hb); have HW := Aside0.mk hW; have HCW := Aside0.mk hcW; clear hW hcW hb)
      | (go_at_call 35; (refine (bbuild_to _ A0 c0 L T P HT.out HP.out (FF.out _ E2.out).2 HB.out (by omega) UP.out).mono ?_); rintro e w3 ⟨g, base, b, rfl, hk, ht, hb⟩; have E3 := Aside0.mk (SF.out _ _ E2.out hb); have HW3 := Aside0.mk (Kd.C_below HW.out hb); have HK := Aside0.mk (And.intro hk ht); clear hk ht hb)
      | (go_at_call 47; (refine (shbuild_any _ g base b T P HP.out HK.out.1 HK.out.2 (by omega) HTN.out HTB.out HPSU.out).mono ?_); rintro e w4 ⟨h, basef, rfl, hf, hb⟩; have E4 := Aside0.mk (SF.out _ _ E3.out hb); have HW4 := Aside0.mk (Kd.C_below HW3.out hb); have HK4 := Aside0.mk (And.intro (And.intro (HK.out.1.below hb) (HK.out.2.below hb)) hf); clear hf hb)
      | (go_at_call 36; (refine (turned_at _ AW cW L T HT.out (by omega) UP.out HW4.out HCW.out).mono ?_); rintro e w5 ⟨AT, cT, rfl, hcT, hC, hb⟩; have E5 := Aside0.mk (SF.out _ _ E4.out hb); have HK5 := Aside0.mk (stays_sh g base b h basef T P _ _ HK4.out hb); have HCT := Aside0.mk hcT; have HQ := Aside0.mk hC; clear hcT hC hb)
      | (go_at_call 48; (refine (paths15_to _ AT cT T P HP.out HTB.out (by omega) UPT.out HQ.out HCT.out).mono ?_); rintro e w6 ⟨AP, cP, rfl, hcP, hC, hb⟩; have E6 := Aside0.mk (SF.out _ _ E5.out hb); have HK6 := Aside0.mk (stays_sh g base b h basef T P _ _ HK5.out hb); have HQ6 := Aside0.mk (Kd.C_below HQ.out hb); have HCP := Aside0.mk hcP; have HPP := Aside0.mk hC; clear hcP hC hb))
  obtain ⟨G, SG, G6, GG⟩ := stays_pack (((stays_below w).and (stays_sh g base b h basef T P)).and ((stays_reads Kd.string AT T.length (T.map strOfNums)).and (stays_reads Kd.string AP P.length (P.map strOfNums)))) ⟨⟨(FF.out _ E6.out).1, HK6.out⟩, HQ6.out, HPP.out⟩
  have FS := Aside0.mk (fun (w1 : World) (h0 : G w1) (n : Int) => first_any (GG.out w1 h0).1.2.2 n)
  have SC := Aside0.mk (fun (w1 : World) (h0 : G w1) (n : Int) => second_any (GG.out w1 h0).1.2.2 n)
  have flen : (farsX T P).length ≤ P.length := by
    unfold farsX
    split
    · exact Nat.zero_le _
    · rw [farsN_len]
      exact Nat.le_refl _
  have FO := Aside0.mk (fun (w1 : World) (h0 : G w1) (n c : Int) (hn : n < 0 ∨ (P.length : Int) ≤ n) => far_out (GG.out w1 h0).1.2.2 n c (by omega))
  have TO : Aside0 (∀ n : Int, n < 0 ∨ (P.length : Int) ≤ n → twoOf (farsX T P) n = (0, 0)) := ⟨fun n hn => twoOf_out (by omega)⟩
  clear E0 E1 E2 E3 E4 E5 E6 HK HK4 HK5 HK6 HQ HQ6 HPP HW HW3 HW4 flen
  go_upto_region 13 with (go_at_call 47; (with_reducible refine (shbuild_nil _).mono ?_); rintro e w7 ⟨h7, rfl, hf, hb⟩; have G7 := Aside0.mk (SG.out _ _ G6.out hb); have HX7 := Aside0.mk hf; have hb7 := Aside0.mk hb; clear hf hb)
  obtain ⟨b7, hb7e⟩ : ∃ b, w6.heap.size = b := ⟨_, rfl⟩
  rw [hb7e] at HX7
  obtain ⟨G2, SG2, G8, GG2⟩ := stays_pack (SG.out.and (stays_far b7 h7 (.pointer none) [])) ⟨G7.out, HX7.out⟩
  obtain ⟨ad, rfl, _⟩ := str_at (GG.out _ G6.out).2.2 HS.out
  have XS : Aside0 (∀ w1, G2 w1 → w1.cell? (ad.add i) = some (.string (strOfNums s))) := ⟨fun w1 h0 => by
    obtain ⟨ad2, e2, hx⟩ := str_at (GG.out w1 (GG2.out w1 h0).1).2.2 HS.out
    cases e2
    exact hx⟩
  have hsm := List.mem_of_getElem? HS.out
  have hs40 := HPS.out s hsm
  have hsB := HPB.out s hsm
  have FR := Aside0.mk (fun (w1 : World) (h0 : G2 w1) => far_any HP.out HTN.out HTB.out UPT.out (GG.out w1 (GG2.out w1 h0).1).1.2.2 (GG.out w1 (GG2.out w1 h0).1).1.2.1.1 (GG.out w1 (GG2.out w1 h0).1).1.2.1.2 i s HS.out (by omega) x x0 x1)
  have RW := Aside0.mk (fun (w1 : World) (h0 : G2 w1) => far15_at w1 AT cT (some ad) cP T P (by omega) HTN.out HTB.out UPT.out HPB.out HPSU.out (by omega) (GG.out w1 (GG2.out w1 h0).1).2.1 HCT.out (GG.out w1 (GG2.out w1 h0).1).2.2 HCP.out s hsB (by omega) HP.out i HS.out x x0 x1)
  have XF := Aside0.mk (fun (w1 : World) (h0 : G2 w1) => first_of _ 0 (0, 0) (of_no (GG2.out w1 h0).2 0 (.inr (Int.le_refl _))))
  have XR := Aside0.mk (fun (w1 : World) (h0 : G2 w1) => far_out (GG2.out w1 h0).2 0 x (.inr (Int.le_refl _)))
  obtain ⟨q, hq⟩ : ∃ q, farW T P i s x = q := ⟨_, rfl⟩
  rw [hq] at FR RW
  clear hb7e hb7 G7 HX7 G6 hsm hsB hq wt wm wi hne
  have G8d := Aside0.mk (stays_drew SG2.out G8.out)
  refine start_ (n := 41) (S := G2) (ds := []) #[false, false, false, false, false, false, false, false, false, false, false, false, false, false, false, false, false, false, false, false, false, false, false, false, false, false, false, false, false, false, false, false, false, false, false, false, false, false, false, false, false] (by kernel_rfl) rfl rfl G8d.out (fun _ => ?_)
  refine pure_ (i := 0) (N := (some 39)) (v := ?_) (a' := _) #[true, false, false, false, false, false, false, false, false, false, false, false, false, false, false, false, false, false, false, false, false, false, false, false, false, false, false, false, false, false, false, false, false, false, false, false, false, false, false, false, false] rfl rfl (by kernel_rfl) (fun _ _ _ h => h) (Or.inl ⟨by rfl, ?_⟩) rfl ?_
  rotate_left
  · intro w'; go_simp; with_reducible rfl
  simp only [Act.put, List.setIfInBounds_toArray, List.set_cons_zero, List.set_cons_succ]
  refine pure_ (i := 1) (N := (some 40)) (v := ?_) (a' := _) #[true, true, false, false, false, false, false, false, false, false, false, false, false, false, false, false, false, false, false, false, false, false, false, false, false, false, false, false, false, false, false, false, false, false, false, false, false, false, false, false, false] rfl rfl (by kernel_rfl) (fun _ _ _ h => h) (Or.inl ⟨by rfl, ?_⟩) rfl ?_
  rotate_left
  · intro w'; go_simp; with_reducible rfl
  simp only [Act.put, List.setIfInBounds_toArray, List.set_cons_zero, List.set_cons_succ]
  refine pure_ (i := 2) (N := (some 41)) (v := ?_) (a' := _) #[true, true, true, false, false, false, false, false, false, false, false, false, false, false, false, false, false, false, false, false, false, false, false, false, false, false, false, false, false, false, false, false, false, false, false, false, false, false, false, false, false] rfl rfl (by kernel_rfl) (fun _ _ _ h => h) (Or.inl ⟨by rfl, ?_⟩) rfl ?_
  rotate_left
  · intro w'; go_simp; with_reducible rfl
  simp only [Act.put, List.setIfInBounds_toArray, List.set_cons_zero, List.set_cons_succ]
  refine pure_ (i := 4) (N := (some 43)) (v := ?_) (a' := _) #[true, true, true, false, true, false, false, false, false, false, false, false, false, false, false, false, false, false, false, false, false, false, false, false, false, false, false, false, false, false, false, false, false, false, false, false, false, false, false, false, false] rfl rfl (by kernel_rfl) (fun _ _ _ h => h) (Or.inl ⟨by rfl, ?_⟩) rfl ?_
  rotate_left
  · intro w'; go_simp; with_reducible rfl
  simp only [Act.put, List.setIfInBounds_toArray, List.set_cons_zero, List.set_cons_succ]
  refine pure_ (i := 5) (N := (some 44)) (v := ?_) (a' := _) #[true, true, true, false, true, true, false, false, false, false, false, false, false, false, false, false, false, false, false, false, false, false, false, false, false, false, false, false, false, false, false, false, false, false, false, false, false, false, false, false, false] rfl rfl (by kernel_rfl) (fun _ _ _ h => h) (Or.inl ⟨by rfl, ?_⟩) rfl ?_
  rotate_left
  · intro w'; go_simp; with_reducible rfl
  simp only [Act.put, List.setIfInBounds_toArray, List.set_cons_zero, List.set_cons_succ]
  refine pure_ (i := 6) (N := (some 45)) (v := ?_) (a' := _) #[true, true, true, false, true, true, true, false, false, false, false, false, false, false, false, false, false, false, false, false, false, false, false, false, false, false, false, false, false, false, false, false, false, false, false, false, false, false, false, false, false] rfl rfl (by kernel_rfl) (fun _ _ _ h => h) (Or.inl ⟨by rfl, ?_⟩) rfl ?_
  rotate_left
  · intro w'; go_simp; with_reducible rfl
  simp only [Act.put, List.setIfInBounds_toArray, List.set_cons_zero, List.set_cons_succ]
  refine pure_ (i := 7) (N := (some 46)) (v := ?_) (a' := _) #[true, true, true, false, true, true, true, true, false, false, false, false, false, false, false, false, false, false, false, false, false, false, false, false, false, false, false, false, false, false, false, false, false, false, false, false, false, false, false, false, false] rfl rfl (by kernel_rfl) (fun _ _ _ h => h) (Or.inl ⟨by rfl, ?_⟩) rfl ?_
  rotate_left
  · intro w'; go_simp; with_reducible rfl
  simp only [Act.put, List.setIfInBounds_toArray, List.set_cons_zero, List.set_cons_succ]
  refine pure_ (i := 8) (N := (some 47)) (v := ?_) (a' := _) #[true, true, true, false, true, true, true, true, true, false, false, false, false, false, false, false, false, false, false, false, false, false, false, false, false, false, false, false, false, false, false, false, false, false, false, false, false, false, false, false, false] rfl rfl (by kernel_rfl) (fun _ _ _ h => h) (Or.inl ⟨by rfl, ?_⟩) rfl ?_
  rotate_left
  · intro w'; go_simp; with_reducible rfl
  simp only [Act.put, List.setIfInBounds_toArray, List.set_cons_zero, List.set_cons_succ]
  refine take_ (i := 9) (N := (some 48)) (v := ?_) (a' := _) #[true, true, true, false, true, true, true, true, true, true, false, false, false, false, false, false, false, false, false, false, false, false, false, false, false, false, false, false, false, false, false, false, false, false, false, false, false, false, false, false, false] rfl rfl (by kernel_rfl) (fun _ _ _ h => h) (Or.inl ⟨by rfl, ?_⟩) G8d.out rfl ?_
  rotate_left
  · intro w' s_; have f0_ := XS.out w' s_; go_simp; with_reducible rfl
  simp only [Act.put, List.setIfInBounds_toArray, List.set_cons_zero, List.set_cons_succ]
  refine pure_ (i := 10) (N := (some 49)) (v := ?_) (a' := _) #[true, true, true, false, true, true, true, true, true, true, true, false, false, false, false, false, false, false, false, false, false, false, false, false, false, false, false, false, false, false, false, false, false, false, false, false, false, false, false, false, false] rfl rfl (by kernel_rfl) (fun _ _ _ h => h) (Or.inl ⟨by rfl, ?_⟩) rfl ?_
  rotate_left
  · intro w'; go_simp; with_reducible rfl
  simp only [Act.put, List.setIfInBounds_toArray, List.set_cons_zero, List.set_cons_succ]
  refine one_ (i := 3) (N := (some 42)) #[true, true, true, true, true, true, true, true, true, true, true, false, false, false, false, false, false, false, false, false, false, false, false, false, false, false, false, false, false, false, false, false, false, false, false, false, false, false, false, false, false] rfl rfl (by kernel_rfl) (by decide) (fun K hK => ?_)
  go_simp
  (go_at_call 53; (with_reducible refine (FR.out _ G8d.out).mono ?_); rintro e w9 ⟨rfl, hb⟩; have G9 := Aside0.mk (SG2.out _ _ G8d.out hb); clear hb)
  refine hK.out _ _ G9.out (fun _ => ?_)
  clear hK K
  try simp only [Act.put, List.setIfInBounds_toArray, List.set_cons_zero, List.set_cons_succ]
  refine one_ (i := 11) (N := (some 50)) #[true, true, true, true, true, true, true, true, true, true, true, true, false, false, false, false, false, false, false, false, false, false, false, false, false, false, false, false, false, false, false, false, false, false, false, false, false, false, false, false, false] rfl rfl (by kernel_rfl) (by decide) (fun K hK => ?_)
  go_simp
  (go_at_call 54; (with_reducible refine (RW.out _ G9.out).mono ?_); rintro e w10 ⟨rfl, hb⟩; have G10 := Aside0.mk (SG2.out _ _ G9.out hb); clear hb)
  refine hK.out _ _ G10.out (fun _ => ?_)
  clear hK K
  try simp only [Act.put, List.setIfInBounds_toArray, List.set_cons_zero, List.set_cons_succ]
  refine pure_ (i := 12) (N := (some 51)) (v := ?_) (a' := _) #[true, true, true, true, true, true, true, true, true, true, true, true, true, false, false, false, false, false, false, false, false, false, false, false, false, false, false, false, false, false, false, false, false, false, false, false, false, false, false, false, false] rfl rfl (by kernel_rfl) (fun _ _ _ h => h) (Or.inl ⟨by rfl, ?_⟩) rfl ?_
  rotate_left
  · intro w'; go_simp; with_reducible rfl
  simp only [Act.put, List.setIfInBounds_toArray, List.set_cons_zero, List.set_cons_succ]
  refine pure_ (i := 13) (N := (some 52)) (v := ?_) (a' := _) #[true, true, true, true, true, true, true, true, true, true, true, true, true, true, false, false, false, false, false, false, false, false, false, false, false, false, false, false, false, false, false, false, false, false, false, false, false, false, false, false, false] rfl rfl (by kernel_rfl) (fun _ _ _ h => h) (Or.inl ⟨by rfl, ?_⟩) rfl ?_
  rotate_left
  · intro w'; go_simp; with_reducible rfl
  simp only [Act.put, List.setIfInBounds_toArray, List.set_cons_zero, List.set_cons_succ]
  refine pure_ (i := 14) (N := (some 53)) (v := ?_) (a' := _) #[true, true, true, true, true, true, true, true, true, true, true, true, true, true, true, false, false, false, false, false, false, false, false, false, false, false, false, false, false, false, false, false, false, false, false, false, false, false, false, false, false] rfl rfl (by kernel_rfl) (fun _ _ _ h => h) (Or.inl ⟨by rfl, ?_⟩) rfl ?_
  rotate_left
  · intro w'; go_simp; with_reducible rfl
  simp only [Act.put, List.setIfInBounds_toArray, List.set_cons_zero, List.set_cons_succ]
  refine one_ (i := 15) (N := (some 54)) #[true, true, true, true, true, true, true, true, true, true, true, true, true, true, true, true, false, false, false, false, false, false, false, false, false, false, false, false, false, false, false, false, false, false, false, false, false, false, false, false, false] rfl rfl (by kernel_rfl) (by decide) (fun K hK => ?_)
  go_simp
  (go_at_call 49; (with_reducible refine (XF.out _ G10.out).mono ?_); rintro e w11 ⟨rfl, hb⟩; have G11 := Aside0.mk (SG2.out _ _ G10.out hb); clear hb)
  refine hK.out _ _ G11.out (fun _ => ?_)
  clear hK K
  try simp only [Act.put, List.setIfInBounds_toArray, List.set_cons_zero, List.set_cons_succ]
  refine pure_ (i := 16) (N := (some 55)) (v := ?_) (a' := _) #[true, true, true, true, true, true, true, true, true, true, true, true, true, true, true, true, true, false, false, false, false, false, false, false, false, false, false, false, false, false, false, false, false, false, false, false, false, false, false, false, false] rfl rfl (by kernel_rfl) (fun _ _ _ h => h) (Or.inl ⟨by rfl, ?_⟩) rfl ?_
  rotate_left
  · intro w'; go_simp; with_reducible rfl
  simp only [Act.put, List.setIfInBounds_toArray, List.set_cons_zero, List.set_cons_succ]
  refine pure_ (i := 17) (N := (some 56)) (v := ?_) (a' := _) #[true, true, true, true, true, true, true, true, true, true, true, true, true, true, true, true, true, true, false, false, false, false, false, false, false, false, false, false, false, false, false, false, false, false, false, false, false, false, false, false, false] rfl rfl (by kernel_rfl) (fun _ _ _ h => h) (Or.inl ⟨by rfl, ?_⟩) rfl ?_
  rotate_left
  · intro w'; go_simp; with_reducible rfl
  simp only [Act.put, List.setIfInBounds_toArray, List.set_cons_zero, List.set_cons_succ]
  refine pure_ (i := 18) (N := (some 57)) (v := ?_) (a' := _) #[true, true, true, true, true, true, true, true, true, true, true, true, true, true, true, true, true, true, true, false, false, false, false, false, false, false, false, false, false, false, false, false, false, false, false, false, false, false, false, false, false] rfl rfl (by kernel_rfl) (fun _ _ _ h => h) (Or.inl ⟨by rfl, ?_⟩) rfl ?_
  rotate_left
  · intro w'; go_simp; with_reducible rfl
  simp only [Act.put, List.setIfInBounds_toArray, List.set_cons_zero, List.set_cons_succ]
  refine pure_ (i := 19) (N := (some 58)) (v := ?_) (a' := _) #[true, true, true, true, true, true, true, true, true, true, true, true, true, true, true, true, true, true, true, true, false, false, false, false, false, false, false, false, false, false, false, false, false, false, false, false, false, false, false, false, false] rfl rfl (by kernel_rfl) (fun _ _ _ h => h) (Or.inl ⟨by rfl, ?_⟩) rfl ?_
  rotate_left
  · intro w'; go_simp; with_reducible rfl
  simp only [Act.put, List.setIfInBounds_toArray, List.set_cons_zero, List.set_cons_succ]
  refine pure_ (i := 20) (N := (some 59)) (v := ?_) (a' := _) #[true, true, true, true, true, true, true, true, true, true, true, true, true, true, true, true, true, true, true, true, true, false, false, false, false, false, false, false, false, false, false, false, false, false, false, false, false, false, false, false, false] rfl rfl (by kernel_rfl) (fun _ _ _ h => h) (Or.inl ⟨by rfl, ?_⟩) rfl ?_
  rotate_left
  · intro w'; go_simp; with_reducible rfl
  simp only [Act.put, List.setIfInBounds_toArray, List.set_cons_zero, List.set_cons_succ]
  refine one_ (i := 21) (N := (some 60)) #[true, true, true, true, true, true, true, true, true, true, true, true, true, true, true, true, true, true, true, true, true, true, false, false, false, false, false, false, false, false, false, false, false, false, false, false, false, false, false, false, false] rfl rfl (by kernel_rfl) (by decide) (fun K hK => ?_)
  go_simp
  (go_at_call 53; (with_reducible refine (XR.out _ G11.out).mono ?_); rintro e w12 ⟨rfl, hb⟩; have G12 := Aside0.mk (SG2.out _ _ G11.out hb); clear hb)
  refine hK.out _ _ G12.out (fun _ => ?_)
  clear hK K
  try simp only [Act.put, List.setIfInBounds_toArray, List.set_cons_zero, List.set_cons_succ]
  refine pure_ (i := 22) (N := (some 61)) (v := ?_) (a' := _) #[true, true, true, true, true, true, true, true, true, true, true, true, true, true, true, true, true, true, true, true, true, true, true, false, false, false, false, false, false, false, false, false, false, false, false, false, false, false, false, false, false] rfl rfl (by kernel_rfl) (fun _ _ _ h => h) (Or.inl ⟨by rfl, ?_⟩) rfl ?_
  rotate_left
  · intro w'; go_simp; with_reducible rfl
  simp only [Act.put, List.setIfInBounds_toArray, List.set_cons_zero, List.set_cons_succ]
  refine pure_ (i := 23) (N := (some 62)) (v := ?_) (a' := _) #[true, true, true, true, true, true, true, true, true, true, true, true, true, true, true, true, true, true, true, true, true, true, true, true, false, false, false, false, false, false, false, false, false, false, false, false, false, false, false, false, false] rfl rfl (by kernel_rfl) (fun _ _ _ h => h) (Or.inl ⟨by rfl, ?_⟩) rfl ?_
  rotate_left
  · intro w'; go_simp; with_reducible rfl
  simp only [Act.put, List.setIfInBounds_toArray, List.set_cons_zero, List.set_cons_succ]
  refine pure_ (i := 24) (N := (some 63)) (v := ?_) (a' := _) #[true, true, true, true, true, true, true, true, true, true, true, true, true, true, true, true, true, true, true, true, true, true, true, true, true, false, false, false, false, false, false, false, false, false, false, false, false, false, false, false, false] rfl rfl (by kernel_rfl) (fun _ _ _ h => h) (Or.inl ⟨by rfl, ?_⟩) rfl ?_
  rotate_left
  · intro w'; go_simp; with_reducible rfl
  simp only [Act.put, List.setIfInBounds_toArray, List.set_cons_zero, List.set_cons_succ]
  refine pure_ (i := 25) (N := (some 64)) (v := ?_) (a' := _) #[true, true, true, true, true, true, true, true, true, true, true, true, true, true, true, true, true, true, true, true, true, true, true, true, true, true, false, false, false, false, false, false, false, false, false, false, false, false, false, false, false] rfl rfl (by kernel_rfl) (fun _ _ _ h => h) (Or.inl ⟨by rfl, ?_⟩) rfl ?_
  rotate_left
  · intro w'; go_simp; with_reducible rfl
  simp only [Act.put, List.setIfInBounds_toArray, List.set_cons_zero, List.set_cons_succ]
  refine one_ (i := 26) (N := (some 65)) #[true, true, true, true, true, true, true, true, true, true, true, true, true, true, true, true, true, true, true, true, true, true, true, true, true, true, true, false, false, false, false, false, false, false, false, false, false, false, false, false, false] rfl rfl (by kernel_rfl) (by decide) (fun K hK => ?_)
  go_simp
  (go_at_call 49; (with_reducible refine (first_nil 0 _).mono ?_); rintro e w13 ⟨rfl, hb⟩; have G13 := Aside0.mk (SG2.out _ _ G12.out hb); clear hb)
  refine hK.out _ _ G13.out (fun _ => ?_)
  clear hK K
  try simp only [Act.put, List.setIfInBounds_toArray, List.set_cons_zero, List.set_cons_succ]
  refine pure_ (i := 27) (N := (some 66)) (v := ?_) (a' := _) #[true, true, true, true, true, true, true, true, true, true, true, true, true, true, true, true, true, true, true, true, true, true, true, true, true, true, true, true, false, false, false, false, false, false, false, false, false, false, false, false, false] rfl rfl (by kernel_rfl) (fun _ _ _ h => h) (Or.inl ⟨by rfl, ?_⟩) rfl ?_
  rotate_left
  · intro w'; go_simp; with_reducible rfl
  simp only [Act.put, List.setIfInBounds_toArray, List.set_cons_zero, List.set_cons_succ]
  refine pure_ (i := 28) (N := (some 67)) (v := ?_) (a' := _) #[true, true, true, true, true, true, true, true, true, true, true, true, true, true, true, true, true, true, true, true, true, true, true, true, true, true, true, true, true, false, false, false, false, false, false, false, false, false, false, false, false] rfl rfl (by kernel_rfl) (fun _ _ _ h => h) (Or.inl ⟨by rfl, ?_⟩) rfl ?_
  rotate_left
  · intro w'; go_simp; with_reducible rfl
  simp only [Act.put, List.setIfInBounds_toArray, List.set_cons_zero, List.set_cons_succ]
  refine pure_ (i := 29) (N := (some 68)) (v := ?_) (a' := _) #[true, true, true, true, true, true, true, true, true, true, true, true, true, true, true, true, true, true, true, true, true, true, true, true, true, true, true, true, true, true, false, false, false, false, false, false, false, false, false, false, false] rfl rfl (by kernel_rfl) (fun _ _ _ h => h) (Or.inl ⟨by rfl, ?_⟩) rfl ?_
  rotate_left
  · intro w'; go_simp; with_reducible rfl
  simp only [Act.put, List.setIfInBounds_toArray, List.set_cons_zero, List.set_cons_succ]
  refine pure_ (i := 30) (N := (some 69)) (v := ?_) (a' := _) #[true, true, true, true, true, true, true, true, true, true, true, true, true, true, true, true, true, true, true, true, true, true, true, true, true, true, true, true, true, true, true, false, false, false, false, false, false, false, false, false, false] rfl rfl (by kernel_rfl) (fun _ _ _ h => h) (Or.inl ⟨by rfl, ?_⟩) rfl ?_
  rotate_left
  · intro w'; go_simp; with_reducible rfl
  simp only [Act.put, List.setIfInBounds_toArray, List.set_cons_zero, List.set_cons_succ]
  refine one_ (i := 31) (N := (some 70)) #[true, true, true, true, true, true, true, true, true, true, true, true, true, true, true, true, true, true, true, true, true, true, true, true, true, true, true, true, true, true, true, true, false, false, false, false, false, false, false, false, false] rfl rfl (by kernel_rfl) (by decide) (fun K hK => ?_)
  go_simp
  (go_at_call 51; (with_reducible refine (second_nil 0 _).mono ?_); rintro e w14 ⟨rfl, hb⟩; have G14 := Aside0.mk (SG2.out _ _ G13.out hb); clear hb)
  refine hK.out _ _ G14.out (fun _ => ?_)
  clear hK K
  try simp only [Act.put, List.setIfInBounds_toArray, List.set_cons_zero, List.set_cons_succ]
  refine pure_ (i := 32) (N := (some 71)) (v := ?_) (a' := _) #[true, true, true, true, true, true, true, true, true, true, true, true, true, true, true, true, true, true, true, true, true, true, true, true, true, true, true, true, true, true, true, true, true, false, false, false, false, false, false, false, false] rfl rfl (by kernel_rfl) (fun _ _ _ h => h) (Or.inl ⟨by rfl, ?_⟩) rfl ?_
  rotate_left
  · intro w'; go_simp; with_reducible rfl
  simp only [Act.put, List.setIfInBounds_toArray, List.set_cons_zero, List.set_cons_succ]
  refine pure_ (i := 33) (N := (some 72)) (v := ?_) (a' := _) #[true, true, true, true, true, true, true, true, true, true, true, true, true, true, true, true, true, true, true, true, true, true, true, true, true, true, true, true, true, true, true, true, true, true, false, false, false, false, false, false, false] rfl rfl (by kernel_rfl) (fun _ _ _ h => h) (Or.inl ⟨by rfl, ?_⟩) rfl ?_
  rotate_left
  · intro w'; go_simp; with_reducible rfl
  simp only [Act.put, List.setIfInBounds_toArray, List.set_cons_zero, List.set_cons_succ]
  refine pure_ (i := 34) (N := (some 73)) (v := ?_) (a' := _) #[true, true, true, true, true, true, true, true, true, true, true, true, true, true, true, true, true, true, true, true, true, true, true, true, true, true, true, true, true, true, true, true, true, true, true, false, false, false, false, false, false] rfl rfl (by kernel_rfl) (fun _ _ _ h => h) (Or.inl ⟨by rfl, ?_⟩) rfl ?_
  rotate_left
  · intro w'; go_simp; with_reducible rfl
  simp only [Act.put, List.setIfInBounds_toArray, List.set_cons_zero, List.set_cons_succ]
  refine pure_ (i := 35) (N := (some 74)) (v := ?_) (a' := _) #[true, true, true, true, true, true, true, true, true, true, true, true, true, true, true, true, true, true, true, true, true, true, true, true, true, true, true, true, true, true, true, true, true, true, true, true, false, false, false, false, false] rfl rfl (by kernel_rfl) (fun _ _ _ h => h) (Or.inl ⟨by rfl, ?_⟩) rfl ?_
  rotate_left
  · intro w'; go_simp; with_reducible rfl
  simp only [Act.put, List.setIfInBounds_toArray, List.set_cons_zero, List.set_cons_succ]
  refine pure_ (i := 36) (N := (some 75)) (v := ?_) (a' := _) #[true, true, true, true, true, true, true, true, true, true, true, true, true, true, true, true, true, true, true, true, true, true, true, true, true, true, true, true, true, true, true, true, true, true, true, true, true, false, false, false, false] rfl rfl (by kernel_rfl) (fun _ _ _ h => h) (Or.inl ⟨by rfl, ?_⟩) rfl ?_
  rotate_left
  · intro w'; go_simp; with_reducible rfl
  simp only [Act.put, List.setIfInBounds_toArray, List.set_cons_zero, List.set_cons_succ]
  refine one_ (i := 37) (N := (some 76)) #[true, true, true, true, true, true, true, true, true, true, true, true, true, true, true, true, true, true, true, true, true, true, true, true, true, true, true, true, true, true, true, true, true, true, true, true, true, true, false, false, false] rfl rfl (by kernel_rfl) (by decide) (fun K hK => ?_)
  go_simp
  (go_at_call 53; (with_reducible refine (far_nil 0 x _).mono ?_); rintro e w15 ⟨rfl, hb⟩; have G15 := Aside0.mk (SG2.out _ _ G14.out hb); clear hb)
  refine hK.out _ _ G15.out (fun _ => ?_)
  clear hK K
  try simp only [Act.put, List.setIfInBounds_toArray, List.set_cons_zero, List.set_cons_succ]
  refine pure_ (i := 38) (N := (some 77)) (v := ?_) (a' := _) #[true, true, true, true, true, true, true, true, true, true, true, true, true, true, true, true, true, true, true, true, true, true, true, true, true, true, true, true, true, true, true, true, true, true, true, true, true, true, true, false, false] rfl rfl (by kernel_rfl) (fun _ _ _ h => h) (Or.inl ⟨by rfl, ?_⟩) rfl ?_
  rotate_left
  · intro w'; go_simp; with_reducible rfl
  simp only [Act.put, List.setIfInBounds_toArray, List.set_cons_zero, List.set_cons_succ]
  refine pure_ (i := 39) (N := (some 78)) (v := ?_) (a' := _) #[true, true, true, true, true, true, true, true, true, true, true, true, true, true, true, true, true, true, true, true, true, true, true, true, true, true, true, true, true, true, true, true, true, true, true, true, true, true, true, true, false] rfl rfl (by kernel_rfl) (fun _ _ _ h => h) (Or.inl ⟨by rfl, ?_⟩) rfl ?_
  rotate_left
  · intro w'; go_simp; with_reducible rfl
  simp only [Act.put, List.setIfInBounds_toArray, List.set_cons_zero, List.set_cons_succ]
  refine pure_ (i := 40) (N := (some 6)) (v := ?_) (a' := _) #[true, true, true, true, true, true, true, true, true, true, true, true, true, true, true, true, true, true, true, true, true, true, true, true, true, true, true, true, true, true, true, true, true, true, true, true, true, true, true, true, true] rfl rfl (by kernel_rfl) (fun _ _ _ h => h) (Or.inl ⟨by rfl, ?_⟩) rfl ?_
  rotate_left
  · intro w'; go_simp; with_reducible rfl
  simp only [Act.put, List.setIfInBounds_toArray, List.set_cons_zero, List.set_cons_succ]
  refine done_ (by kernel_rfl) ?_
  go_wp2
  go_ret
  exact ⟨rfl, (GG.out _ (GG2.out _ G15.out).1).1.1⟩
end Go.Proofs.Ytifbcboefopioaa.Tri
