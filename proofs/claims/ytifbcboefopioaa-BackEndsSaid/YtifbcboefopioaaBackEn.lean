/- By hand: the law BackEnds, walked whole. No condition. -/
import Derived.Test.YtifbcboefopioaaBackL
import Derived.Test.YtifbcboefopioaaBackQ
set_option linter.unusedVariables false
set_option linter.unusedSimpArgs false
namespace Go.Proofs.Ytifbcboefopioaa.Tri
open Go.RowKit Go.Maps Go.Proofs.YtifbcboefopioaaW.PrintWords Go.Proofs.YtifbcboefopioaaW.PrintLast Go.Proofs.YtifbcboefopioaaW.PrintMore Go.Proofs.Ytifbcboefopioaa.Kit Go.Proofs.Ytifbcboefopioaa.All
attribute [local go_sem] max2_int min2_int max_two min_two max_three min_three max_four min_four

set_option maxRecDepth 100000 in
set_option maxHeartbeats 12000000 in
theorem bends_law (A0 : Option Addr) (c0 : Nat) (L : List Txt) (n1 n2 : Int) (w : World)
    (hr0 : Kd.C (Kd.slice 5 (Kd.int .u8)) w A0 L.length L) (hc0 : L.length ≤ c0) (hB : ∀ s ∈ L, Bytes s) (hL : L.length ≤ 8000000000000) (h10 : 0 ≤ n1) (h11 : n1 ≤ 255) (h20 : 0 ≤ n2) (h21 : n2 ≤ 255) :
    Calls Try.prog 13 #[.slice A0 L.length c0, .int .u8 n1, .int .u8 n2] w fun e w' => e = .returned (.bool true) ∧ Below w.heap.size w w' := by
  obtain ⟨k, r, bo, hT, hbo⟩ := texts14_two L (by omega)
  obtain ⟨F, SF, E0, FF⟩ := stays_pack ((stays_below w).and (stays_reads (Kd.slice 5 (Kd.int .u8)) A0 L.length L)) ⟨Below.refl _ _, hr0⟩
  have HC0 := Aside0.mk hc0
  have T0 := Aside0.mk hT
  have HBO := Aside0.mk hbo
  clear hr0 hc0 hT hbo
  cases bo with
  | false =>
    go_enter Try.func13, Try.ntmps13
    go_wp2_with (first
      | (go_at_call 33; (refine (awake14_at _).mono ?_); rintro e w1 ⟨rfl, hb⟩; have E1 := Aside0.mk (SF.out _ _ E0.out hb); clear hb)
      | (go_at_call 34; (refine (texts14_at _ A0 c0 L k r false (FF.out _ E1.out).2 HC0.out T0.out).mono ?_); rintro e w2 ⟨AW, cW, rfl, hcW, hW, hb⟩; have E2 := Aside0.mk (SF.out _ _ E1.out hb); clear hW hcW hb))
    go_ret
    exact ⟨rfl, (FF.out _ E2.out).1⟩
  | true =>
  obtain ⟨hrm, l12, l40⟩ := HBO.out rfl
  subst hrm
  clear HBO
  have hTl := Nat.le_trans (TL_len L) l12
  have hTB := TL_bytes hB
  have hTS := TL_short l40
  have hTN := TL_ne L
  have hPl := paths_len hTl hTS
  have hPB := pathsL_bytes hTB
  have hPS := paths_short hTS
  have hG := pathsL_good (TL L)
  have hPm := pathsL_mem (TL L)
  obtain ⟨P, hP⟩ : ∃ P, P = pathsL (TL L) := ⟨_, rfl⟩
  rw [← hP] at hPl hPB hPS hG hPm
  obtain ⟨T, hT⟩ : ∃ T, T = TL L := ⟨_, rfl⟩
  rw [← hT] at hTl hTB hTS hTN hPm hP
  have upT : ∀ x ∈ T, x.length ≤ 1000 := fun x hx => Nat.le_trans (hTS x hx) (show 40 ≤ 1000 by decide)
  have up := fun (x : Txt) (hx : x ∈ L) => Nat.le_trans (l40 x hx) (show 40 ≤ 1000 by decide)
  have L40 := Aside0.mk l40
  have HPB := Aside0.mk hPB
  have HPS := Aside0.mk hPS
  have HPM := Aside0.mk hPm
  have HG := Aside0.mk hG
  have HB := Aside0.mk hB
  have HP := Aside0.mk hP
  have HT := Aside0.mk hT
  have HTB := Aside0.mk hTB
  have HTS := Aside0.mk hTS
  have HTN := Aside0.mk hTN
  have UP := Aside0.mk up
  have UPT := Aside0.mk upT
  clear l40 hPB hPS hG hB hP hPm hT hTB hTS hTN up upT
  have hpl2 : P.length ≤ 4611686018427387904 := by omega
  by_cases g0 : L.length = 0
  · have g0b : ((L.length : Int) == 0) = true := beq_iff_eq.2 (by omega)
    clear g0
    go_enter Try.func13, Try.ntmps13
    go_wp2_with (first | (go_at_call 33; (refine (awake14_at _).mono ?_); rintro e w1 ⟨rfl, hb⟩; have E1 := Aside0.mk (SF.out _ _ E0.out hb); clear hb) | (go_at_call 34; (refine (texts14_ok _ A0 c0 L k (FF.out _ E1.out).2 HC0.out T0.out).mono ?_); rintro e w2 ⟨AW, cW, rfl, hcW, hW, hb⟩; have E2 := Aside0.mk (SF.out _ _ E1.out hb); have HW := Aside0.mk hW; have HCW := Aside0.mk hcW; clear hW hcW hb))
    go_ret
    exact ⟨rfl, (FF.out _ E2.out).1⟩
  have g0b : ((L.length : Int) == 0) = false := beq_eq_false_iff_ne.2 (by omega)
  obtain ⟨tm, rfl⟩ : ∃ tm : Nat, n1 = (tm : Int) := ⟨n1.toNat, by omega⟩
  obtain ⟨km, rfl⟩ : ∃ km : Nat, n2 = (km : Int) := ⟨n2.toNat, by omega⟩
  have hpos : 0 < L.length := by omega
  have hLne : L ≠ [] := List.length_pos_iff.1 hpos
  obtain ⟨j, hj⟩ : ∃ j, tm % L.length = j := ⟨_, rfl⟩
  have hjl : j < L.length := by rw [← hj]; exact Nat.mod_lt _ hpos
  obtain ⟨t, ht⟩ : ∃ t, L[j]? = some t := ⟨_, List.getElem?_eq_getElem hjl⟩
  have htm := List.mem_of_getElem? ht
  have t40 := L40.out t htm
  obtain ⟨n, hn⟩ : ∃ n, km % (t.length + 1) = n := ⟨_, rfl⟩
  have hnl : n ≤ t.length := by have := Nat.mod_lt km (show 0 < t.length + 1 by omega); omega
  have hrt : rd_L1 L (j : Int) = t := by simp [rd_L1, List.getD_eq_getElem?_getD, ht]
  have hmem := ends_mem htm n
  rw [← HT.out, ← HP.out] at hmem
  have hul : (t.drop n).length = t.length - n := List.length_drop
  have huB : Bytes (t.drop n) := fun x hx => HB.out t htm x (List.mem_of_mem_drop hx)
  obtain ⟨u, hu⟩ : ∃ u, t.drop n = u := ⟨_, rfl⟩
  have HU := Aside0.mk hu
  rw [hu] at hmem hul huB
  have hrr : u.reverse.reverse = u := List.reverse_reverse u
  obtain ⟨ru, hru⟩ : ∃ ru, u.reverse = ru := ⟨_, rfl⟩
  have hrul : ru.length = u.length := by rw [← hru, List.length_reverse]
  have hruB : Bytes ru := by rw [← hru]; exact Bytes.rev huB
  rw [hru] at hmem hrr
  obtain ⟨m, hm⟩ := List.mem_iff_getElem?.1 hmem
  have hpm := place_at HG.out.nodup hm
  have HM := Aside0.mk hm
  have HPMM := Aside0.mk hpm
  have HRR := Aside0.mk hrr
  have HRU := Aside0.mk hru
  have HRUL := Aside0.mk hrul
  have HRUB := Aside0.mk hruB
  have HUL := Aside0.mk hul
  have HRT := Aside0.mk hrt
  have HLN := Aside0.mk hLne
  have m0 : decide ((m : Int) < 0) = false := decide_eq_false (by omega)
  have hne : ¬ (L.length : Int) = 0 := by omega
  have wt : IntKind.i64.wrap (tm : Int) = (tm : Int) := IntWalk.i64_in _ (by omega)
  have wk2 : IntKind.i64.wrap (km : Int) = (km : Int) := IntWalk.i64_in _ (by omega)
  have wm : (tm : Int).tmod (L.length : Int) = (j : Int) := by
    rw [Int.tmod_eq_emod_of_nonneg (by omega), ← hj, Int.natCast_emod]
  have w1' : IntKind.i64.wrap ((t.length : Int) + 1) = (t.length : Int) + 1 := IntWalk.i64_in _ (by omega)
  have hne2 : ¬ (t.length : Int) + 1 = 0 := by omega
  have wn : (km : Int).tmod ((t.length : Int) + 1) = (n : Int) := by
    rw [Int.tmod_eq_emod_of_nonneg (by omega), ← hn, Int.natCast_emod]
    rfl
  have wj : IntKind.i64.wrap (j : Int) = (j : Int) := IntWalk.i64_in _ (by omega)
  have wn2 : IntKind.i64.wrap (n : Int) = (n : Int) := IntWalk.i64_in _ (by omega)
  have j0 : (0 : Int) ≤ (j : Int) := by omega
  have j1 : (j : Int) < (L.length : Int) := by omega
  clear hu hru hrul hruB hrr hm hpm hmem hul huB hrt ht htm hj hn hLne g0
  go_enter Try.func13, Try.ntmps13
  go_upto_region 8 with (first
      | (go_at_call 33; (refine (awake14_at _).mono ?_); rintro e w1 ⟨rfl, hb⟩; have E1 := Aside0.mk (SF.out _ _ E0.out hb); clear hb)
      | (go_at_call 34; (refine (texts14_ok _ A0 c0 L k (FF.out _ E1.out).2 HC0.out T0.out).mono ?_); rintro e w2 ⟨AW, cW, rfl, hcW, hW, hb⟩; have E2 := Aside0.mk (SF.out _ _ E1.out hb); have HW := Aside0.mk hW; have HCW := Aside0.mk hcW; clear hW hcW hb)
      | (go_at_call 35; (refine (bbuild_to _ A0 c0 L T P HT.out HP.out (FF.out _ E2.out).2 HB.out (by omega) UP.out).mono ?_); rintro e w3 ⟨g, base, b, rfl, hk, ht, hb⟩; have E3 := Aside0.mk (SF.out _ _ E2.out hb); have HW3 := Aside0.mk (Kd.C_below HW.out hb); have HK := Aside0.mk (And.intro hk ht); clear hk ht hb))
  obtain ⟨ad0, A', c', rfl, hx0, hc', hC'⟩ := at_L1 (FF.out _ E3.out).2 (j : Int) j0 j1
  rw [HRT.out, Int.toNat_natCast] at hx0
  rw [HRT.out] at hC' hc'
  have hCu := Kd.C_drop (m := n) hC' hnl hc'
  obtain ⟨i05, hi05, _, hsz5, _⟩ := info_parts All.info5
  have hcut := cut_from (P := Try.prog) 32 5 .i64 Try.underlying32 hi05 1 hsz5 A' t.length c' (n : Int) (by omega) (by omega)
  simp only [Int.toNat_natCast, Kd.int, Kd.scalar] at hcut hCu
  rw [HU.out, HUL.out] at hCu
  obtain ⟨A2, hA2⟩ : ∃ A2, (if c' = n then A' else A'.map (·.add (n * 1))) = A2 := ⟨_, rfl⟩
  rw [hA2] at hCu hcut
  rw [← HUL.out] at hCu hcut
  obtain ⟨G, SG, G3, GG⟩ := stays_pack (((stays_below w).and ((stays_is g (.pointer (some ⟨b, 0, none⟩)) (leastN T) (nearN T)).and (stays_tree base b P (place T)))).and ((stays_reads Kd.string AW L.length (L.map strOfNums)).and (stays_reads (Kd.int .u8) A2 u.length u))) ⟨⟨(FF.out _ E3.out).1, HK.out⟩, HW3.out, hCu⟩
  obtain ⟨c2, hc2⟩ : ∃ c2, c' - n = c2 := ⟨_, rfl⟩
  have HCU : Aside0 (u.length ≤ c2) := ⟨by have := HUL.out; omega⟩
  rw [hc2] at hcut
  have XT : Aside0 (∀ w1, G w1 → w1.cell? ⟨g, 0, none⟩ = some (.pointer (some ⟨b, 0, none⟩))) := ⟨fun w1 h => (GG.out w1 h).1.2.1.tr⟩
  have TU : Aside0 (∀ w1, G w1 → Calls Try.prog 44 #[.slice A2 u.length c2] w1 fun e w' => ∃ v, e = .returned v ∧ Kd.R (Kd.int .u8) 5 w' w1.heap.size (fun _ => True) v ru ∧ Below w1.heap.size w1 w') := ⟨fun w1 h => by
    have := turn_at A2 c2 u w1 (GG.out w1 h).2.2 HCU.out (by have := HUL.out; omega)
    rwa [HRU.out] at this⟩
  have FN : Aside0 (∀ w1, G w1 → ∀ A c, Kd.C (Kd.int .u8) w1 A ru.length ru → Calls Try.prog 32 #[.pointer (some ⟨b, 0, none⟩), .slice A ru.length c] w1 fun e w' => e = .returned (.int .i64 m) ∧ w' = w1) := ⟨fun w1 h A c hr => by
    have := find_at HG.out (GG.out w1 h).1.2.2 hpl2 A c ru hr HRUB.out (by have := HRUL.out; have := HUL.out; omega)
    rwa [HPMM.out] at this⟩
  have EN0 : Aside0 (∀ w1, G w1 → Calls Try.prog 39 #[.pointer (some ⟨g, 0, none⟩), .int .i64 m] w1 fun e w' => ∃ v, e = .returned v ∧ Kd.R (Kd.int .u8) 5 w' w1.heap.size (fun _ => True) v u ∧ Below w1.heap.size w1 w') := ⟨fun w1 h => by
    have := end_at (GG.out w1 h).1.2.1 HG.out (GG.out w1 h).1.2.2 hpl2 m ru HM.out (by have := HRUL.out; have := HUL.out; omega)
    rwa [HRR.out] at this⟩
  have DP0 : Aside0 (∀ w1, G w1 → Calls Try.prog 26 #[.pointer (some ⟨b, 0, none⟩), .int .i64 m] w1 fun e w' => e = .returned (.int .i64 (u.length : Int)) ∧ w' = w1) := ⟨fun w1 h => by
    have := depth_at (GG.out w1 h).1.2.2 m ru HM.out
    rwa [HRUL.out] at this⟩
  have CU : Aside0 (∀ w1, G w1 → (convert 32 9 (.slice A2 u.length c2)).run Try.prog w1 = .ok (.string (strOfNums u)) w1) := ⟨fun w1 h => text_of (GG.out w1 h).2.2⟩
  have wu : IntKind.i64.wrap ((t.length : Int) - (n : Int)) = (u.length : Int) := by
    have := HUL.out
    rw [show (t.length : Int) - (n : Int) = (u.length : Int) by omega]
    exact IntWalk.i64_in _ (by omega)
  have wu2 : (t.length : Int) - (n : Int) = (u.length : Int) := by have := HUL.out; omega
  have wu3 : IntKind.i64.wrap (u.length : Int) = (u.length : Int) := IntWalk.i64_in _ (by have := HUL.out; omega)
  have hnl2 : (n : Int) ≤ (t.length : Int) := by omega
  have hn0 : (0 : Int) ≤ (n : Int) := by omega
  clear E0 E1 E2 E3 HK HW HW3 hc' hC' hCu hA2 hc2 hi05 hsz5
  go_upto_region 10 with (fail)
  have G3d := Aside0.mk (stays_drew SG.out G3.out)
  refine start_ (n := 10) (S := G) (ds := []) #[false, false, false, false, false, false, false, false, false, false] (by kernel_rfl) rfl rfl G3d.out (fun _ => ?_)
  refine pure_ (i := 0) (N := (some 50)) (v := ?_) (a' := _) #[true, false, false, false, false, false, false, false, false, false] rfl rfl (by kernel_rfl) (fun _ _ _ h => h) (Or.inl ⟨by rfl, ?_⟩) rfl ?_
  rotate_left
  · intro w'; go_simp; with_reducible rfl
  simp only [Act.put, List.setIfInBounds_toArray, List.set_cons_zero, List.set_cons_succ]
  refine pure_ (i := 1) (N := (some 51)) (v := ?_) (a' := _) #[true, true, false, false, false, false, false, false, false, false] rfl rfl (by kernel_rfl) (fun _ _ _ h => h) (Or.inl ⟨by rfl, ?_⟩) rfl ?_
  rotate_left
  · intro w'; go_simp; with_reducible rfl
  simp only [Act.put, List.setIfInBounds_toArray, List.set_cons_zero, List.set_cons_succ]
  refine pure_ (i := 2) (N := (some 52)) (v := ?_) (a' := _) #[true, true, true, false, false, false, false, false, false, false] rfl rfl (by kernel_rfl) (fun _ _ _ h => h) (Or.inl ⟨by rfl, ?_⟩) rfl ?_
  rotate_left
  · intro w'; go_simp; with_reducible rfl
  simp only [Act.put, List.setIfInBounds_toArray, List.set_cons_zero, List.set_cons_succ]
  refine take_ (i := 3) (N := (some 53)) (v := ?_) (a' := _) #[true, true, true, true, false, false, false, false, false, false] rfl rfl (by kernel_rfl) (fun _ _ _ h => h) (Or.inl ⟨by rfl, ?_⟩) G3d.out rfl ?_
  rotate_left
  · intro w' s_; have f0_ := XT.out w' s_; go_simp; with_reducible rfl
  simp only [Act.put, List.setIfInBounds_toArray, List.set_cons_zero, List.set_cons_succ]
  refine pure_ (i := 4) (N := (some 54)) (v := ?_) (a' := _) #[true, true, true, true, true, false, false, false, false, false] rfl rfl (by kernel_rfl) (fun _ _ _ h => h) (Or.inl ⟨by rfl, ?_⟩) rfl ?_
  rotate_left
  · intro w'; go_simp; with_reducible rfl
  simp only [Act.put, List.setIfInBounds_toArray, List.set_cons_zero, List.set_cons_succ]
  refine pure_ (i := 5) (N := (some 55)) (v := ?_) (a' := _) #[true, true, true, true, true, true, false, false, false, false] rfl rfl (by kernel_rfl) (fun _ _ _ h => h) (Or.inl ⟨by rfl, ?_⟩) rfl ?_
  rotate_left
  · intro w'; go_simp; with_reducible rfl
  simp only [Act.put, List.setIfInBounds_toArray, List.set_cons_zero, List.set_cons_succ]
  refine pure_ (i := 6) (N := (some 56)) (v := ?_) (a' := _) #[true, true, true, true, true, true, true, false, false, false] rfl rfl (by kernel_rfl) (fun _ _ _ h => h) (Or.inl ⟨by rfl, ?_⟩) rfl ?_
  rotate_left
  · intro w'; go_simp; with_reducible rfl
  simp only [Act.put, List.setIfInBounds_toArray, List.set_cons_zero, List.set_cons_succ]
  refine one_ (i := 7) (N := (some 57)) #[true, true, true, true, true, true, true, true, false, false] rfl rfl (by kernel_rfl) (by decide) (fun K hK => ?_)
  go_simp
  (go_at_call 44; (with_reducible refine (TU.out _ G3d.out).mono ?_); rintro e w4 ⟨v, rfl, ho, hb⟩; obtain ⟨A4, c4, rfl, hc4, hC4⟩ := Kd.R_reads ho; have G4 := Aside0.mk (SG.out _ _ G3d.out hb); have F4 := Aside0.mk (FN.out w4 G4.out A4 c4 hC4); clear ho hb hc4 hC4)
  refine hK.out _ _ G4.out (fun _ => ?_)
  clear hK K
  try simp only [Act.put, List.setIfInBounds_toArray, List.set_cons_zero, List.set_cons_succ]
  refine one_ (i := 8) (N := (some 58)) #[true, true, true, true, true, true, true, true, true, false] rfl rfl (by kernel_rfl) (by decide) (fun K hK => ?_)
  go_simp
  (go_at_call 32; (with_reducible refine F4.out.mono ?_); rintro e w' ⟨rfl, hw⟩; subst hw)
  refine hK.out _ _ G4.out (fun _ => ?_)
  clear hK K
  try simp only [Act.put, List.setIfInBounds_toArray, List.set_cons_zero, List.set_cons_succ]
  refine pure_ (i := 9) (N := (some 13)) (v := ?_) (a' := _) #[true, true, true, true, true, true, true, true, true, true] rfl rfl (by kernel_rfl) (fun _ _ _ h => h) (Or.inl ⟨by rfl, ?_⟩) rfl ?_
  rotate_left
  · intro w'; go_simp; with_reducible rfl
  simp only [Act.put, List.setIfInBounds_toArray, List.set_cons_zero, List.set_cons_succ]
  refine done_ (by kernel_rfl) ?_
  go_upto_region 11 with (fail)
  have G4d := Aside0.mk (stays_drew SG.out G4.out)
  refine start_ (n := 26) (S := G) (ds := []) #[false, false, false, false, false, false, false, false, false, false, false, false, false, false, false, false, false, false, false, false, false, false, false, false, false, false] (by kernel_rfl) rfl rfl G4d.out (fun _ => ?_)
  refine pure_ (i := 0) (N := (some 59)) (v := ?_) (a' := _) #[true, false, false, false, false, false, false, false, false, false, false, false, false, false, false, false, false, false, false, false, false, false, false, false, false, false] rfl rfl (by kernel_rfl) (fun _ _ _ h => h) (Or.inl ⟨by rfl, ?_⟩) rfl ?_
  rotate_left
  · intro w'; go_simp; with_reducible rfl
  simp only [Act.put, List.setIfInBounds_toArray, List.set_cons_zero, List.set_cons_succ]
  refine pure_ (i := 1) (N := (some 60)) (v := ?_) (a' := _) #[true, true, false, false, false, false, false, false, false, false, false, false, false, false, false, false, false, false, false, false, false, false, false, false, false, false] rfl rfl (by kernel_rfl) (fun _ _ _ h => h) (Or.inl ⟨by rfl, ?_⟩) rfl ?_
  rotate_left
  · intro w'; go_simp; with_reducible rfl
  simp only [Act.put, List.setIfInBounds_toArray, List.set_cons_zero, List.set_cons_succ]
  refine pure_ (i := 2) (N := (some 61)) (v := ?_) (a' := _) #[true, true, true, false, false, false, false, false, false, false, false, false, false, false, false, false, false, false, false, false, false, false, false, false, false, false] rfl rfl (by kernel_rfl) (fun _ _ _ h => h) (Or.inl ⟨by rfl, ?_⟩) rfl ?_
  rotate_left
  · intro w'; go_simp; with_reducible rfl
  simp only [Act.put, List.setIfInBounds_toArray, List.set_cons_zero, List.set_cons_succ]
  refine pure_ (i := 3) (N := (some 62)) (v := ?_) (a' := _) #[true, true, true, true, false, false, false, false, false, false, false, false, false, false, false, false, false, false, false, false, false, false, false, false, false, false] rfl rfl (by kernel_rfl) (fun _ _ _ h => h) (Or.inl ⟨by rfl, ?_⟩) rfl ?_
  rotate_left
  · intro w'; go_simp; with_reducible rfl
  simp only [Act.put, List.setIfInBounds_toArray, List.set_cons_zero, List.set_cons_succ]
  refine pure_ (i := 4) (N := (some 63)) (v := ?_) (a' := _) #[true, true, true, true, true, false, false, false, false, false, false, false, false, false, false, false, false, false, false, false, false, false, false, false, false, false] rfl rfl (by kernel_rfl) (fun _ _ _ h => h) (Or.inl ⟨by rfl, ?_⟩) rfl ?_
  rotate_left
  · intro w'; go_simp; with_reducible rfl
  simp only [Act.put, List.setIfInBounds_toArray, List.set_cons_zero, List.set_cons_succ]
  refine pure_ (i := 7) (N := (some 66)) (v := ?_) (a' := _) #[true, true, true, true, true, false, false, true, false, false, false, false, false, false, false, false, false, false, false, false, false, false, false, false, false, false] rfl rfl (by kernel_rfl) (fun _ _ _ h => h) (Or.inl ⟨by rfl, ?_⟩) rfl ?_
  rotate_left
  · intro w'; go_simp; with_reducible rfl
  simp only [Act.put, List.setIfInBounds_toArray, List.set_cons_zero, List.set_cons_succ]
  refine pure_ (i := 8) (N := (some 67)) (v := ?_) (a' := _) #[true, true, true, true, true, false, false, true, true, false, false, false, false, false, false, false, false, false, false, false, false, false, false, false, false, false] rfl rfl (by kernel_rfl) (fun _ _ _ h => h) (Or.inl ⟨by rfl, ?_⟩) rfl ?_
  rotate_left
  · intro w'; go_simp; with_reducible rfl
  simp only [Act.put, List.setIfInBounds_toArray, List.set_cons_zero, List.set_cons_succ]
  refine pure_ (i := 9) (N := (some 68)) (v := ?_) (a' := _) #[true, true, true, true, true, false, false, true, true, true, false, false, false, false, false, false, false, false, false, false, false, false, false, false, false, false] rfl rfl (by kernel_rfl) (fun _ _ _ h => h) (Or.inl ⟨by rfl, ?_⟩) rfl ?_
  rotate_left
  · intro w'; go_simp; with_reducible rfl
  simp only [Act.put, List.setIfInBounds_toArray, List.set_cons_zero, List.set_cons_succ]
  refine take_ (i := 10) (N := (some 69)) (v := ?_) (a' := _) #[true, true, true, true, true, false, false, true, true, true, true, false, false, false, false, false, false, false, false, false, false, false, false, false, false, false] rfl rfl (by kernel_rfl) (fun _ _ _ h => h) (Or.inl ⟨by rfl, ?_⟩) G4d.out rfl ?_
  rotate_left
  · intro w' s_; have f0_ := CU.out w' s_; go_simp; with_reducible rfl
  simp only [Act.put, List.setIfInBounds_toArray, List.set_cons_zero, List.set_cons_succ]
  refine one_ (i := 5) (N := (some 64)) #[true, true, true, true, true, true, false, true, true, true, true, false, false, false, false, false, false, false, false, false, false, false, false, false, false, false] rfl rfl (by kernel_rfl) (by decide) (fun K hK => ?_)
  go_simp
  (go_at_call 39; (with_reducible refine (EN0.out _ G4d.out).mono ?_); rintro e w5 ⟨v, rfl, ho, hb⟩; obtain ⟨A5, c5, rfl, hv5⟩ := row_text ho; have G5 := Aside0.mk (SG.out _ _ G4d.out hb); clear ho hb)
  refine hK.out _ _ G5.out (fun _ => ?_)
  clear hK K
  try simp only [Act.put, List.setIfInBounds_toArray, List.set_cons_zero, List.set_cons_succ]
  refine one_ (i := 6) (N := (some 65)) #[true, true, true, true, true, true, true, true, true, true, true, false, false, false, false, false, false, false, false, false, false, false, false, false, false, false] rfl rfl (by kernel_rfl) (by decide) (fun K hK => ?_)
  go_simp
  refine hK.out _ _ G5.out (fun _ => ?_)
  clear hK K
  try simp only [Act.put, List.setIfInBounds_toArray, List.set_cons_zero, List.set_cons_succ]
  refine pure_ (i := 11) (N := (some 70)) (v := ?_) (a' := _) #[true, true, true, true, true, true, true, true, true, true, true, true, false, false, false, false, false, false, false, false, false, false, false, false, false, false] rfl rfl (by kernel_rfl) (fun _ _ _ h => h) (Or.inl ⟨by rfl, ?_⟩) rfl ?_
  rotate_left
  · intro w'; go_simp; with_reducible rfl
  simp only [Act.put, List.setIfInBounds_toArray, List.set_cons_zero, List.set_cons_succ]
  refine pure_ (i := 12) (N := (some 71)) (v := ?_) (a' := _) #[true, true, true, true, true, true, true, true, true, true, true, true, true, false, false, false, false, false, false, false, false, false, false, false, false, false] rfl rfl (by kernel_rfl) (fun _ _ _ h => h) (Or.inl ⟨by rfl, ?_⟩) rfl ?_
  rotate_left
  · intro w'; go_simp; with_reducible rfl
  simp only [Act.put, List.setIfInBounds_toArray, List.set_cons_zero, List.set_cons_succ]
  refine pure_ (i := 13) (N := (some 72)) (v := ?_) (a' := _) #[true, true, true, true, true, true, true, true, true, true, true, true, true, true, false, false, false, false, false, false, false, false, false, false, false, false] rfl rfl (by kernel_rfl) (fun _ _ _ h => h) (Or.inl ⟨by rfl, ?_⟩) rfl ?_
  rotate_left
  · intro w'; go_simp; with_reducible rfl
  simp only [Act.put, List.setIfInBounds_toArray, List.set_cons_zero, List.set_cons_succ]
  refine pure_ (i := 14) (N := (some 73)) (v := ?_) (a' := _) #[true, true, true, true, true, true, true, true, true, true, true, true, true, true, true, false, false, false, false, false, false, false, false, false, false, false] rfl rfl (by kernel_rfl) (fun _ _ _ h => h) (Or.inl ⟨by rfl, ?_⟩) rfl ?_
  rotate_left
  · intro w'; go_simp; with_reducible rfl
  simp only [Act.put, List.setIfInBounds_toArray, List.set_cons_zero, List.set_cons_succ]
  refine pure_ (i := 15) (N := (some 74)) (v := ?_) (a' := _) #[true, true, true, true, true, true, true, true, true, true, true, true, true, true, true, true, false, false, false, false, false, false, false, false, false, false] rfl rfl (by kernel_rfl) (fun _ _ _ h => h) (Or.inl ⟨by rfl, ?_⟩) rfl ?_
  rotate_left
  · intro w'; go_simp; with_reducible rfl
  simp only [Act.put, List.setIfInBounds_toArray, List.set_cons_zero, List.set_cons_succ]
  refine pure_ (i := 16) (N := (some 75)) (v := ?_) (a' := _) #[true, true, true, true, true, true, true, true, true, true, true, true, true, true, true, true, true, false, false, false, false, false, false, false, false, false] rfl rfl (by kernel_rfl) (fun _ _ _ h => h) (Or.inl ⟨by rfl, ?_⟩) rfl ?_
  rotate_left
  · intro w'; go_simp; with_reducible rfl
  simp only [Act.put, List.setIfInBounds_toArray, List.set_cons_zero, List.set_cons_succ]
  refine take_ (i := 17) (N := (some 76)) (v := ?_) (a' := _) #[true, true, true, true, true, true, true, true, true, true, true, true, true, true, true, true, true, true, false, false, false, false, false, false, false, false] rfl rfl (by kernel_rfl) (fun _ _ _ h => h) (Or.inl ⟨by rfl, ?_⟩) G5.out rfl ?_
  rotate_left
  · intro w' s_; have f0_ := XT.out w' s_; go_simp; with_reducible rfl
  simp only [Act.put, List.setIfInBounds_toArray, List.set_cons_zero, List.set_cons_succ]
  refine pure_ (i := 18) (N := (some 77)) (v := ?_) (a' := _) #[true, true, true, true, true, true, true, true, true, true, true, true, true, true, true, true, true, true, true, false, false, false, false, false, false, false] rfl rfl (by kernel_rfl) (fun _ _ _ h => h) (Or.inl ⟨by rfl, ?_⟩) rfl ?_
  rotate_left
  · intro w'; go_simp; with_reducible rfl
  simp only [Act.put, List.setIfInBounds_toArray, List.set_cons_zero, List.set_cons_succ]
  refine pure_ (i := 20) (N := (some 79)) (v := ?_) (a' := _) #[true, true, true, true, true, true, true, true, true, true, true, true, true, true, true, true, true, true, true, false, true, false, false, false, false, false] rfl rfl (by kernel_rfl) (fun _ _ _ h => h) (Or.inl ⟨by rfl, ?_⟩) rfl ?_
  rotate_left
  · intro w'; go_simp; with_reducible rfl
  simp only [Act.put, List.setIfInBounds_toArray, List.set_cons_zero, List.set_cons_succ]
  refine pure_ (i := 21) (N := (some 80)) (v := ?_) (a' := _) #[true, true, true, true, true, true, true, true, true, true, true, true, true, true, true, true, true, true, true, false, true, true, false, false, false, false] rfl rfl (by kernel_rfl) (fun _ _ _ h => h) (Or.inl ⟨by rfl, ?_⟩) rfl ?_
  rotate_left
  · intro w'; go_simp; with_reducible rfl
  simp only [Act.put, List.setIfInBounds_toArray, List.set_cons_zero, List.set_cons_succ]
  refine pure_ (i := 22) (N := (some 81)) (v := ?_) (a' := _) #[true, true, true, true, true, true, true, true, true, true, true, true, true, true, true, true, true, true, true, false, true, true, true, false, false, false] rfl rfl (by kernel_rfl) (fun _ _ _ h => h) (Or.inl ⟨by rfl, ?_⟩) rfl ?_
  rotate_left
  · intro w'; go_simp; with_reducible rfl
  simp only [Act.put, List.setIfInBounds_toArray, List.set_cons_zero, List.set_cons_succ]
  refine pure_ (i := 23) (N := (some 82)) (v := ?_) (a' := _) #[true, true, true, true, true, true, true, true, true, true, true, true, true, true, true, true, true, true, true, false, true, true, true, true, false, false] rfl rfl (by kernel_rfl) (fun _ _ _ h => h) (Or.inl ⟨by rfl, ?_⟩) rfl ?_
  rotate_left
  · intro w'; go_simp; with_reducible rfl
  simp only [Act.put, List.setIfInBounds_toArray, List.set_cons_zero, List.set_cons_succ]
  refine one_ (i := 19) (N := (some 78)) #[true, true, true, true, true, true, true, true, true, true, true, true, true, true, true, true, true, true, true, true, true, true, true, true, false, false] rfl rfl (by kernel_rfl) (by decide) (fun K hK => ?_)
  go_simp
  (go_at_call 26; (with_reducible refine (DP0.out _ G5.out).mono ?_); rintro e w' ⟨rfl, hw⟩; subst hw)
  refine hK.out _ _ G5.out (fun _ => ?_)
  clear hK K
  try simp only [Act.put, List.setIfInBounds_toArray, List.set_cons_zero, List.set_cons_succ]
  refine pure_ (i := 24) (N := (some 83)) (v := ?_) (a' := _) #[true, true, true, true, true, true, true, true, true, true, true, true, true, true, true, true, true, true, true, true, true, true, true, true, true, false] rfl rfl (by kernel_rfl) (fun _ _ _ h => h) (Or.inl ⟨by rfl, ?_⟩) rfl ?_
  rotate_left
  · intro w'; go_simp; with_reducible rfl
  simp only [Act.put, List.setIfInBounds_toArray, List.set_cons_zero, List.set_cons_succ]
  refine pure_ (i := 25) (N := (some 84)) (v := ?_) (a' := _) #[true, true, true, true, true, true, true, true, true, true, true, true, true, true, true, true, true, true, true, true, true, true, true, true, true, true] rfl rfl (by kernel_rfl) (fun _ _ _ h => h) (Or.inl ⟨by rfl, ?_⟩) rfl ?_
  rotate_left
  · intro w'; go_simp; with_reducible rfl
  simp only [Act.put, List.setIfInBounds_toArray, List.set_cons_zero, List.set_cons_succ]
  refine done_ (by kernel_rfl) ?_
  clear wu wu2 wu3 hcut m0 wt wk2 wm wn wj wn2 hne hne2 w1'
  go_wp2
  go_loopw [14] (fun v14 w' => ∃ i : Nat, v14 = .int .i64 i ∧ i ≤ P.length ∧ Aside0 (G w')) (fun v14 _ => P.length - (intOf v14).toNat)
  case atStart => exact ⟨0, rfl, Nat.zero_le _, G5⟩
  case round =>
    obtain ⟨i, rfl, hi, G6⟩ := hrel
    have ND := Aside0.mk (fun (w1 : World) (h : G w1) => nodes_at (GG.out w1 h).1.2.2)
    have x6 := XT.out _ G6.out
    by_cases hlt : i < P.length
    · have k1 : ((i : Nat) : Int) < (P.length : Int) := by omega
      obtain ⟨p, hp⟩ : ∃ p, P[i]? = some p := ⟨_, List.getElem?_eq_getElem hlt⟩
      have hpm := List.mem_of_getElem? hp
      have hp40 := HPS.out p hpm
      have hpB := HPB.out p hpm
      have EN := Aside0.mk (fun (w1 : World) (h : G w1) => end_at (GG.out w1 h).1.2.1 HG.out (GG.out w1 h).1.2.2 hpl2 i p hp (by omega))
      have WH := Aside0.mk (fun (w1 : World) (h : G w1) => whole_at (GG.out w1 h).1.2.1 (GG.out w1 h).1.2.2 i p hp)
      have wk : IntKind.i64.wrap ((i : Int) + 1) = (i : Int) + 1 := IntWalk.i64_in _ (by omega)
      have HIE : Aside0 (isE p.reverse L = true) := ⟨isE_all HLN.out (by rw [← HT.out, ← HP.out]; exact hpm)⟩
      have HWE : Aside0 (wholeE p.reverse L = wholeB (place T p)) := ⟨by rw [HT.out]; exact wholeE_all p⟩
      have heB := Bytes.rev hpB
      have hel : p.reverse.length = p.length := List.length_reverse
      obtain ⟨e, he⟩ : ∃ e, p.reverse = e := ⟨_, rfl⟩
      rw [he] at EN HIE HWE heB hel
      obtain ⟨bq, hbq⟩ : ∃ bq, wholeB (place T p) = bq := ⟨_, rfl⟩
      rw [hbq] at WH HWE
      have HEB := Aside0.mk heB
      have hsze : (strOfNums e).size = e.length := size_str e
      have e40 : e.length ≤ 40 := by omega
      clear hp hpm hp40 hpB he hbq heB hel
      go_upto_region 17 with (first
        | (go_at_call 23; (with_reducible refine (ND.out _ G6.out).mono ?_); rintro e w' ⟨rfl, hw⟩; subst hw)
        | (go_at_call 39; (with_reducible refine (EN.out _ G6.out).mono ?_); rintro e_ w7 ⟨v, rfl, ho, hb⟩; obtain ⟨A7, c7, rfl, hv7⟩ := row_text ho; have G7 := Aside0.mk (SG.out _ _ G6.out hb); clear ho hb))
      clear x6 EN ND G6
      go_wp2
      go_loopw [16, 17, 18] (fun v16 v17 v18 w' => ∃ (m : Nat) (β γ : Bool), v16 = .bool β ∧ v17 = .bool γ ∧ v18 = .int .i64 m ∧ m ≤ L.length ∧ Aside0 (β = isE e (L.take m)) ∧ Aside0 (γ = wholeE e (L.take m)) ∧ Aside0 (G w')) (fun _ _ v18 _ => L.length - (intOf v18).toNat)
      case atStart => exact ⟨0, false, false, rfl, rfl, rfl, Nat.zero_le _, ⟨rfl⟩, ⟨rfl⟩, G7⟩
      case round =>
        obtain ⟨m, β, γ, rfl, rfl, rfl, hm, HB1, HG1, G7⟩ := hrel
        by_cases hlm : m < L.length
        · have k2 : ((m : Nat) : Int) < (L.length : Int) := by omega
          have k3 : (0 : Int) ≤ (m : Int) := by omega
          obtain ⟨s, hs⟩ : ∃ s, L[m]? = some s := ⟨_, List.getElem?_eq_getElem hlm⟩
          have hsm := List.mem_of_getElem? hs
          have s40 := L40.out s hsm
          have SB := Aside0.mk (HB.out s hsm)
          obtain ⟨ad, rfl, _⟩ := str_at (GG.out _ G7.out).2.1 hs
          have XS : Aside0 (∀ w1, G w1 → w1.cell? (ad.add m) = some (.string (strOfNums s))) := ⟨fun w1 h => by
            obtain ⟨ad2, e2, hx⟩ := str_at (GG.out w1 h).2.1 hs
            cases e2
            exact hx⟩
          have htk : L.take (m + 1) = L.take m ++ [s] := by
            rw [List.take_add_one, hs]
            rfl
          have wk3 : IntKind.i64.wrap ((m : Int) + 1) = (m : Int) + 1 := IntWalk.i64_in _ (by omega)
          have hszs : (strOfNums s).size = s.length := size_str s
          have hE : isE e (L.take (m + 1)) = (β || endB e s) := by rw [htk, isE_snoc, HB1.out]
          have hW : wholeE e (L.take (m + 1)) = (γ || ((s == e) && !e.isEmpty)) := by rw [htk, wholeE_snoc, HG1.out]
          obtain ⟨β', hβ⟩ : ∃ β', isE e (L.take (m + 1)) = β' := ⟨_, rfl⟩
          rw [hβ] at hE
          have HBE := Aside0.mk hβ.symm
          have HE := Aside0.mk hE
          have HWN := Aside0.mk hW
          clear hs hsm htk hE hW hβ
          go_upto_region 22 with (fail)
          go_cut [16] from 154 (fun v w' => v = .bool β' ∧ Aside0 (G w'))
          case first =>
            cases β with
            | true =>
              have hb := HE.out
              rw [Bool.true_or] at hb
              subst hb
              have G7d := Aside0.mk (stays_drew SG.out G7.out)
              refine start_ (n := 29) (S := G) (ds := []) #[false, false, false, false, false, false, false, false, false, false, false, false, false, false, false, false, false, false, false, false, false, false, false, false, false, false, false, false, false] (by kernel_rfl) rfl rfl G7d.out (fun _ => ?_)
              refine pure_ (i := 0) (N := (some 104)) (v := ?_) (a' := _) #[true, false, false, false, false, false, false, false, false, false, false, false, false, false, false, false, false, false, false, false, false, false, false, false, false, false, false, false, false] rfl rfl (by kernel_rfl) (fun _ _ _ h => h) (Or.inl ⟨by rfl, ?_⟩) rfl ?_
              rotate_left
              · intro w'; go_simp; with_reducible rfl
              simp only [Act.put, List.setIfInBounds_toArray, List.set_cons_zero, List.set_cons_succ]
              refine pure_ (i := 1) (N := (some 105)) (v := ?_) (a' := _) #[true, true, false, false, false, false, false, false, false, false, false, false, false, false, false, false, false, false, false, false, false, false, false, false, false, false, false, false, false] rfl rfl (by kernel_rfl) (fun _ _ _ h => h) (Or.inl ⟨by rfl, ?_⟩) rfl ?_
              rotate_left
              · intro w'; go_simp; with_reducible rfl
              simp only [Act.put, List.setIfInBounds_toArray, List.set_cons_zero, List.set_cons_succ]
              refine pure_ (i := 2) (N := (some 106)) (v := undef) (a' := _) #[true, true, true, false, false, false, false, false, false, false, false, false, false, false, false, false, false, false, false, false, false, false, false, false, false, false, false, false, false] rfl rfl (by kernel_rfl) (fun _ _ _ h => h) (Or.inr ⟨by rfl, rfl⟩) rfl ?_
              simp only [Act.put, List.setIfInBounds_toArray, List.set_cons_zero, List.set_cons_succ]
              refine pure_ (i := 3) (N := (some 107)) (v := undef) (a' := _) #[true, true, true, true, false, false, false, false, false, false, false, false, false, false, false, false, false, false, false, false, false, false, false, false, false, false, false, false, false] rfl rfl (by kernel_rfl) (fun _ _ _ h => h) (Or.inr ⟨by rfl, rfl⟩) rfl ?_
              simp only [Act.put, List.setIfInBounds_toArray, List.set_cons_zero, List.set_cons_succ]
              refine pure_ (i := 4) (N := (some 108)) (v := undef) (a' := _) #[true, true, true, true, true, false, false, false, false, false, false, false, false, false, false, false, false, false, false, false, false, false, false, false, false, false, false, false, false] rfl rfl (by kernel_rfl) (fun _ _ _ h => h) (Or.inr ⟨by rfl, rfl⟩) rfl ?_
              simp only [Act.put, List.setIfInBounds_toArray, List.set_cons_zero, List.set_cons_succ]
              refine pure_ (i := 5) (N := (some 109)) (v := undef) (a' := _) #[true, true, true, true, true, true, false, false, false, false, false, false, false, false, false, false, false, false, false, false, false, false, false, false, false, false, false, false, false] rfl rfl (by kernel_rfl) (fun _ _ _ h => h) (Or.inr ⟨by rfl, rfl⟩) rfl ?_
              simp only [Act.put, List.setIfInBounds_toArray, List.set_cons_zero, List.set_cons_succ]
              refine pure_ (i := 6) (N := (some 110)) (v := undef) (a' := _) #[true, true, true, true, true, true, true, false, false, false, false, false, false, false, false, false, false, false, false, false, false, false, false, false, false, false, false, false, false] rfl rfl (by kernel_rfl) (fun _ _ _ h => h) (Or.inr ⟨by rfl, rfl⟩) rfl ?_
              simp only [Act.put, List.setIfInBounds_toArray, List.set_cons_zero, List.set_cons_succ]
              refine pure_ (i := 7) (N := (some 111)) (v := undef) (a' := _) #[true, true, true, true, true, true, true, true, false, false, false, false, false, false, false, false, false, false, false, false, false, false, false, false, false, false, false, false, false] rfl rfl (by kernel_rfl) (fun _ _ _ h => h) (Or.inr ⟨by rfl, rfl⟩) rfl ?_
              simp only [Act.put, List.setIfInBounds_toArray, List.set_cons_zero, List.set_cons_succ]
              refine pure_ (i := 8) (N := (some 112)) (v := undef) (a' := _) #[true, true, true, true, true, true, true, true, true, false, false, false, false, false, false, false, false, false, false, false, false, false, false, false, false, false, false, false, false] rfl rfl (by kernel_rfl) (fun _ _ _ h => h) (Or.inr ⟨by rfl, rfl⟩) rfl ?_
              simp only [Act.put, List.setIfInBounds_toArray, List.set_cons_zero, List.set_cons_succ]
              refine pure_ (i := 9) (N := (some 113)) (v := undef) (a' := _) #[true, true, true, true, true, true, true, true, true, true, false, false, false, false, false, false, false, false, false, false, false, false, false, false, false, false, false, false, false] rfl rfl (by kernel_rfl) (fun _ _ _ h => h) (Or.inr ⟨by rfl, rfl⟩) rfl ?_
              simp only [Act.put, List.setIfInBounds_toArray, List.set_cons_zero, List.set_cons_succ]
              refine pure_ (i := 10) (N := (some 114)) (v := undef) (a' := _) #[true, true, true, true, true, true, true, true, true, true, true, false, false, false, false, false, false, false, false, false, false, false, false, false, false, false, false, false, false] rfl rfl (by kernel_rfl) (fun _ _ _ h => h) (Or.inr ⟨by rfl, rfl⟩) rfl ?_
              simp only [Act.put, List.setIfInBounds_toArray, List.set_cons_zero, List.set_cons_succ]
              refine pure_ (i := 11) (N := (some 115)) (v := undef) (a' := _) #[true, true, true, true, true, true, true, true, true, true, true, true, false, false, false, false, false, false, false, false, false, false, false, false, false, false, false, false, false] rfl rfl (by kernel_rfl) (fun _ _ _ h => h) (Or.inr ⟨by rfl, rfl⟩) rfl ?_
              simp only [Act.put, List.setIfInBounds_toArray, List.set_cons_zero, List.set_cons_succ]
              refine pure_ (i := 12) (N := (some 116)) (v := undef) (a' := _) #[true, true, true, true, true, true, true, true, true, true, true, true, true, false, false, false, false, false, false, false, false, false, false, false, false, false, false, false, false] rfl rfl (by kernel_rfl) (fun _ _ _ h => h) (Or.inr ⟨by rfl, rfl⟩) rfl ?_
              simp only [Act.put, List.setIfInBounds_toArray, List.set_cons_zero, List.set_cons_succ]
              refine pure_ (i := 13) (N := (some 117)) (v := undef) (a' := _) #[true, true, true, true, true, true, true, true, true, true, true, true, true, true, false, false, false, false, false, false, false, false, false, false, false, false, false, false, false] rfl rfl (by kernel_rfl) (fun _ _ _ h => h) (Or.inr ⟨by rfl, rfl⟩) rfl ?_
              simp only [Act.put, List.setIfInBounds_toArray, List.set_cons_zero, List.set_cons_succ]
              refine pure_ (i := 14) (N := (some 118)) (v := undef) (a' := _) #[true, true, true, true, true, true, true, true, true, true, true, true, true, true, true, false, false, false, false, false, false, false, false, false, false, false, false, false, false] rfl rfl (by kernel_rfl) (fun _ _ _ h => h) (Or.inr ⟨by rfl, rfl⟩) rfl ?_
              simp only [Act.put, List.setIfInBounds_toArray, List.set_cons_zero, List.set_cons_succ]
              refine pure_ (i := 15) (N := (some 119)) (v := undef) (a' := _) #[true, true, true, true, true, true, true, true, true, true, true, true, true, true, true, true, false, false, false, false, false, false, false, false, false, false, false, false, false] rfl rfl (by kernel_rfl) (fun _ _ _ h => h) (Or.inr ⟨by rfl, rfl⟩) rfl ?_
              simp only [Act.put, List.setIfInBounds_toArray, List.set_cons_zero, List.set_cons_succ]
              refine pure_ (i := 16) (N := (some 120)) (v := undef) (a' := _) #[true, true, true, true, true, true, true, true, true, true, true, true, true, true, true, true, true, false, false, false, false, false, false, false, false, false, false, false, false] rfl rfl (by kernel_rfl) (fun _ _ _ h => h) (Or.inr ⟨by rfl, rfl⟩) rfl ?_
              simp only [Act.put, List.setIfInBounds_toArray, List.set_cons_zero, List.set_cons_succ]
              refine pure_ (i := 17) (N := (some 121)) (v := undef) (a' := _) #[true, true, true, true, true, true, true, true, true, true, true, true, true, true, true, true, true, true, false, false, false, false, false, false, false, false, false, false, false] rfl rfl (by kernel_rfl) (fun _ _ _ h => h) (Or.inr ⟨by rfl, rfl⟩) rfl ?_
              simp only [Act.put, List.setIfInBounds_toArray, List.set_cons_zero, List.set_cons_succ]
              refine pure_ (i := 18) (N := (some 122)) (v := undef) (a' := _) #[true, true, true, true, true, true, true, true, true, true, true, true, true, true, true, true, true, true, true, false, false, false, false, false, false, false, false, false, false] rfl rfl (by kernel_rfl) (fun _ _ _ h => h) (Or.inr ⟨by rfl, rfl⟩) rfl ?_
              simp only [Act.put, List.setIfInBounds_toArray, List.set_cons_zero, List.set_cons_succ]
              refine pure_ (i := 19) (N := (some 123)) (v := undef) (a' := _) #[true, true, true, true, true, true, true, true, true, true, true, true, true, true, true, true, true, true, true, true, false, false, false, false, false, false, false, false, false] rfl rfl (by kernel_rfl) (fun _ _ _ h => h) (Or.inr ⟨by rfl, rfl⟩) rfl ?_
              simp only [Act.put, List.setIfInBounds_toArray, List.set_cons_zero, List.set_cons_succ]
              refine pure_ (i := 20) (N := (some 124)) (v := undef) (a' := _) #[true, true, true, true, true, true, true, true, true, true, true, true, true, true, true, true, true, true, true, true, true, false, false, false, false, false, false, false, false] rfl rfl (by kernel_rfl) (fun _ _ _ h => h) (Or.inr ⟨by rfl, rfl⟩) rfl ?_
              simp only [Act.put, List.setIfInBounds_toArray, List.set_cons_zero, List.set_cons_succ]
              refine pure_ (i := 21) (N := (some 125)) (v := undef) (a' := _) #[true, true, true, true, true, true, true, true, true, true, true, true, true, true, true, true, true, true, true, true, true, true, false, false, false, false, false, false, false] rfl rfl (by kernel_rfl) (fun _ _ _ h => h) (Or.inr ⟨by rfl, rfl⟩) rfl ?_
              simp only [Act.put, List.setIfInBounds_toArray, List.set_cons_zero, List.set_cons_succ]
              refine pure_ (i := 22) (N := (some 126)) (v := undef) (a' := _) #[true, true, true, true, true, true, true, true, true, true, true, true, true, true, true, true, true, true, true, true, true, true, true, false, false, false, false, false, false] rfl rfl (by kernel_rfl) (fun _ _ _ h => h) (Or.inr ⟨by rfl, rfl⟩) rfl ?_
              simp only [Act.put, List.setIfInBounds_toArray, List.set_cons_zero, List.set_cons_succ]
              refine pure_ (i := 23) (N := (some 127)) (v := undef) (a' := _) #[true, true, true, true, true, true, true, true, true, true, true, true, true, true, true, true, true, true, true, true, true, true, true, true, false, false, false, false, false] rfl rfl (by kernel_rfl) (fun _ _ _ h => h) (Or.inr ⟨by rfl, rfl⟩) rfl ?_
              simp only [Act.put, List.setIfInBounds_toArray, List.set_cons_zero, List.set_cons_succ]
              refine pure_ (i := 24) (N := (some 128)) (v := undef) (a' := _) #[true, true, true, true, true, true, true, true, true, true, true, true, true, true, true, true, true, true, true, true, true, true, true, true, true, false, false, false, false] rfl rfl (by kernel_rfl) (fun _ _ _ h => h) (Or.inr ⟨by rfl, rfl⟩) rfl ?_
              simp only [Act.put, List.setIfInBounds_toArray, List.set_cons_zero, List.set_cons_succ]
              refine pure_ (i := 25) (N := (some 129)) (v := undef) (a' := _) #[true, true, true, true, true, true, true, true, true, true, true, true, true, true, true, true, true, true, true, true, true, true, true, true, true, true, false, false, false] rfl rfl (by kernel_rfl) (fun _ _ _ h => h) (Or.inr ⟨by rfl, rfl⟩) rfl ?_
              simp only [Act.put, List.setIfInBounds_toArray, List.set_cons_zero, List.set_cons_succ]
              refine pure_ (i := 26) (N := (some 130)) (v := undef) (a' := _) #[true, true, true, true, true, true, true, true, true, true, true, true, true, true, true, true, true, true, true, true, true, true, true, true, true, true, true, false, false] rfl rfl (by kernel_rfl) (fun _ _ _ h => h) (Or.inr ⟨by rfl, rfl⟩) rfl ?_
              simp only [Act.put, List.setIfInBounds_toArray, List.set_cons_zero, List.set_cons_succ]
              refine pure_ (i := 27) (N := (some 131)) (v := ?_) (a' := _) #[true, true, true, true, true, true, true, true, true, true, true, true, true, true, true, true, true, true, true, true, true, true, true, true, true, true, true, true, false] rfl rfl (by kernel_rfl) (fun _ _ _ h => h) (Or.inl ⟨by rfl, ?_⟩) rfl ?_
              rotate_left
              · intro w'; go_simp; with_reducible rfl
              simp only [Act.put, List.setIfInBounds_toArray, List.set_cons_zero, List.set_cons_succ]
              refine pure_ (i := 28) (N := (some 16)) (v := ?_) (a' := _) #[true, true, true, true, true, true, true, true, true, true, true, true, true, true, true, true, true, true, true, true, true, true, true, true, true, true, true, true, true] rfl rfl (by kernel_rfl) (fun _ _ _ h => h) (Or.inl ⟨by rfl, ?_⟩) rfl ?_
              rotate_left
              · intro w'; go_simp; with_reducible rfl
              simp only [Act.put, List.setIfInBounds_toArray, List.set_cons_zero, List.set_cons_succ]
              refine done_ (by kernel_rfl) ?_
              go_wp2
              go_meet
              case rel => exact ⟨rfl, G7d⟩
            | false =>
              have hb := HE.out
              rw [Bool.false_or] at hb
              by_cases hle : e.length ≤ s.length
              · have d1 : decide ((e.length : Int) ≤ (s.length : Int)) = true := decide_eq_true (by omega)
                obtain ⟨d, hd⟩ : ∃ d, s.length - e.length = d := ⟨_, rfl⟩
                have hd2 : (s.length : Int) - (e.length : Int) = (d : Int) := by omega
                have wd : IntKind.i64.wrap ((s.length : Int) - (e.length : Int)) = (d : Int) := by rw [hd2]; exact IntWalk.i64_in _ (by omega)
                have wd3 : IntKind.i64.wrap (d : Int) = (d : Int) := IntWalk.i64_in _ (by omega)
                have hsl : ∀ W : World, (Instr.slice 9 (.string (strOfNums s)) (some (.int .i64 (d : Int))) none none).run Try.prog W = .ok (.string (strOfNums (s.drop d))) W := fun W => by
                  rw [run_slice_string_l W 9 _ Try.underlying9 .i64 (d : Int) (by omega) (by rw [size_str]; omega), Int.toNat_natCast, extract_str, size_str, List.take_length]
                have hq : ((strOfNums (s.drop d)).toList == (strOfNums e).toList) = β' := by
                  rw [hb, endB, decide_eq_true hle, Bool.true_and, hd, Bool.eq_iff_iff, beq_iff_eq, beq_iff_eq]
                  exact toList_str_inj (fun x hx => SB.out x (List.mem_of_mem_drop hx)) HEB.out
                clear hb hd
                have G7d := Aside0.mk (stays_drew SG.out G7.out)
                refine start_ (n := 29) (S := G) (ds := []) #[false, false, false, false, false, false, false, false, false, false, false, false, false, false, false, false, false, false, false, false, false, false, false, false, false, false, false, false, false] (by kernel_rfl) rfl rfl G7d.out (fun _ => ?_)
                refine pure_ (i := 0) (N := (some 104)) (v := ?_) (a' := _) #[true, false, false, false, false, false, false, false, false, false, false, false, false, false, false, false, false, false, false, false, false, false, false, false, false, false, false, false, false] rfl rfl (by kernel_rfl) (fun _ _ _ h => h) (Or.inl ⟨by rfl, ?_⟩) rfl ?_
                rotate_left
                · intro w'; go_simp; with_reducible rfl
                simp only [Act.put, List.setIfInBounds_toArray, List.set_cons_zero, List.set_cons_succ]
                refine pure_ (i := 1) (N := (some 105)) (v := ?_) (a' := _) #[true, true, false, false, false, false, false, false, false, false, false, false, false, false, false, false, false, false, false, false, false, false, false, false, false, false, false, false, false] rfl rfl (by kernel_rfl) (fun _ _ _ h => h) (Or.inl ⟨by rfl, ?_⟩) rfl ?_
                rotate_left
                · intro w'; go_simp; with_reducible rfl
                simp only [Act.put, List.setIfInBounds_toArray, List.set_cons_zero, List.set_cons_succ]
                refine pure_ (i := 2) (N := (some 106)) (v := ?_) (a' := _) #[true, true, true, false, false, false, false, false, false, false, false, false, false, false, false, false, false, false, false, false, false, false, false, false, false, false, false, false, false] rfl rfl (by kernel_rfl) (fun _ _ _ h => h) (Or.inl ⟨by rfl, ?_⟩) rfl ?_
                rotate_left
                · intro w'; go_simp; with_reducible rfl
                simp only [Act.put, List.setIfInBounds_toArray, List.set_cons_zero, List.set_cons_succ]
                refine pure_ (i := 3) (N := (some 107)) (v := ?_) (a' := _) #[true, true, true, true, false, false, false, false, false, false, false, false, false, false, false, false, false, false, false, false, false, false, false, false, false, false, false, false, false] rfl rfl (by kernel_rfl) (fun _ _ _ h => h) (Or.inl ⟨by rfl, ?_⟩) rfl ?_
                rotate_left
                · intro w'; go_simp; with_reducible rfl
                simp only [Act.put, List.setIfInBounds_toArray, List.set_cons_zero, List.set_cons_succ]
                refine pure_ (i := 4) (N := (some 108)) (v := ?_) (a' := _) #[true, true, true, true, true, false, false, false, false, false, false, false, false, false, false, false, false, false, false, false, false, false, false, false, false, false, false, false, false] rfl rfl (by kernel_rfl) (fun _ _ _ h => h) (Or.inl ⟨by rfl, ?_⟩) rfl ?_
                rotate_left
                · intro w'; go_simp; with_reducible rfl
                simp only [Act.put, List.setIfInBounds_toArray, List.set_cons_zero, List.set_cons_succ]
                refine pure_ (i := 5) (N := (some 109)) (v := ?_) (a' := _) #[true, true, true, true, true, true, false, false, false, false, false, false, false, false, false, false, false, false, false, false, false, false, false, false, false, false, false, false, false] rfl rfl (by kernel_rfl) (fun _ _ _ h => h) (Or.inl ⟨by rfl, ?_⟩) rfl ?_
                rotate_left
                · intro w'; go_simp; with_reducible rfl
                simp only [Act.put, List.setIfInBounds_toArray, List.set_cons_zero, List.set_cons_succ]
                refine pure_ (i := 6) (N := (some 110)) (v := ?_) (a' := _) #[true, true, true, true, true, true, true, false, false, false, false, false, false, false, false, false, false, false, false, false, false, false, false, false, false, false, false, false, false] rfl rfl (by kernel_rfl) (fun _ _ _ h => h) (Or.inl ⟨by rfl, ?_⟩) rfl ?_
                rotate_left
                · intro w'; go_simp; with_reducible rfl
                simp only [Act.put, List.setIfInBounds_toArray, List.set_cons_zero, List.set_cons_succ]
                refine take_ (i := 7) (N := (some 111)) (v := ?_) (a' := _) #[true, true, true, true, true, true, true, true, false, false, false, false, false, false, false, false, false, false, false, false, false, false, false, false, false, false, false, false, false] rfl rfl (by kernel_rfl) (fun _ _ _ h => h) (Or.inl ⟨by rfl, ?_⟩) G7d.out rfl ?_
                rotate_left
                · intro w' s_; have f0_ := XS.out w' s_; go_simp; with_reducible rfl
                simp only [Act.put, List.setIfInBounds_toArray, List.set_cons_zero, List.set_cons_succ]
                refine pure_ (i := 8) (N := (some 112)) (v := ?_) (a' := _) #[true, true, true, true, true, true, true, true, true, false, false, false, false, false, false, false, false, false, false, false, false, false, false, false, false, false, false, false, false] rfl rfl (by kernel_rfl) (fun _ _ _ h => h) (Or.inl ⟨by rfl, ?_⟩) rfl ?_
                rotate_left
                · intro w'; go_simp; with_reducible rfl
                simp only [Act.put, List.setIfInBounds_toArray, List.set_cons_zero, List.set_cons_succ]
                refine pure_ (i := 9) (N := (some 113)) (v := ?_) (a' := _) #[true, true, true, true, true, true, true, true, true, true, false, false, false, false, false, false, false, false, false, false, false, false, false, false, false, false, false, false, false] rfl rfl (by kernel_rfl) (fun _ _ _ h => h) (Or.inl ⟨by rfl, ?_⟩) rfl ?_
                rotate_left
                · intro w'; go_simp; with_reducible rfl
                simp only [Act.put, List.setIfInBounds_toArray, List.set_cons_zero, List.set_cons_succ]
                refine pure_ (i := 10) (N := (some 114)) (v := ?_) (a' := _) #[true, true, true, true, true, true, true, true, true, true, true, false, false, false, false, false, false, false, false, false, false, false, false, false, false, false, false, false, false] rfl rfl (by kernel_rfl) (fun _ _ _ h => h) (Or.inl ⟨by rfl, ?_⟩) rfl ?_
                rotate_left
                · intro w'; go_simp; with_reducible rfl
                simp only [Act.put, List.setIfInBounds_toArray, List.set_cons_zero, List.set_cons_succ]
                refine pure_ (i := 11) (N := (some 115)) (v := ?_) (a' := _) #[true, true, true, true, true, true, true, true, true, true, true, true, false, false, false, false, false, false, false, false, false, false, false, false, false, false, false, false, false] rfl rfl (by kernel_rfl) (fun _ _ _ h => h) (Or.inl ⟨by rfl, ?_⟩) rfl ?_
                rotate_left
                · intro w'; go_simp; with_reducible rfl
                simp only [Act.put, List.setIfInBounds_toArray, List.set_cons_zero, List.set_cons_succ]
                refine pure_ (i := 12) (N := (some 116)) (v := ?_) (a' := _) #[true, true, true, true, true, true, true, true, true, true, true, true, true, false, false, false, false, false, false, false, false, false, false, false, false, false, false, false, false] rfl rfl (by kernel_rfl) (fun _ _ _ h => h) (Or.inl ⟨by rfl, ?_⟩) rfl ?_
                rotate_left
                · intro w'; go_simp; with_reducible rfl
                simp only [Act.put, List.setIfInBounds_toArray, List.set_cons_zero, List.set_cons_succ]
                refine pure_ (i := 13) (N := (some 117)) (v := ?_) (a' := _) #[true, true, true, true, true, true, true, true, true, true, true, true, true, true, false, false, false, false, false, false, false, false, false, false, false, false, false, false, false] rfl rfl (by kernel_rfl) (fun _ _ _ h => h) (Or.inl ⟨by rfl, ?_⟩) rfl ?_
                rotate_left
                · intro w'; go_simp; with_reducible rfl
                simp only [Act.put, List.setIfInBounds_toArray, List.set_cons_zero, List.set_cons_succ]
                refine take_ (i := 14) (N := (some 118)) (v := ?_) (a' := _) #[true, true, true, true, true, true, true, true, true, true, true, true, true, true, true, false, false, false, false, false, false, false, false, false, false, false, false, false, false] rfl rfl (by kernel_rfl) (fun _ _ _ h => h) (Or.inl ⟨by rfl, ?_⟩) G7d.out rfl ?_
                rotate_left
                · intro w' s_; have f0_ := XS.out w' s_; go_simp; with_reducible rfl
                simp only [Act.put, List.setIfInBounds_toArray, List.set_cons_zero, List.set_cons_succ]
                refine pure_ (i := 15) (N := (some 119)) (v := ?_) (a' := _) #[true, true, true, true, true, true, true, true, true, true, true, true, true, true, true, true, false, false, false, false, false, false, false, false, false, false, false, false, false] rfl rfl (by kernel_rfl) (fun _ _ _ h => h) (Or.inl ⟨by rfl, ?_⟩) rfl ?_
                rotate_left
                · intro w'; go_simp; with_reducible rfl
                simp only [Act.put, List.setIfInBounds_toArray, List.set_cons_zero, List.set_cons_succ]
                refine pure_ (i := 16) (N := (some 120)) (v := ?_) (a' := _) #[true, true, true, true, true, true, true, true, true, true, true, true, true, true, true, true, true, false, false, false, false, false, false, false, false, false, false, false, false] rfl rfl (by kernel_rfl) (fun _ _ _ h => h) (Or.inl ⟨by rfl, ?_⟩) rfl ?_
                rotate_left
                · intro w'; go_simp; with_reducible rfl
                simp only [Act.put, List.setIfInBounds_toArray, List.set_cons_zero, List.set_cons_succ]
                refine pure_ (i := 17) (N := (some 121)) (v := ?_) (a' := _) #[true, true, true, true, true, true, true, true, true, true, true, true, true, true, true, true, true, true, false, false, false, false, false, false, false, false, false, false, false] rfl rfl (by kernel_rfl) (fun _ _ _ h => h) (Or.inl ⟨by rfl, ?_⟩) rfl ?_
                rotate_left
                · intro w'; go_simp; with_reducible rfl
                simp only [Act.put, List.setIfInBounds_toArray, List.set_cons_zero, List.set_cons_succ]
                refine take_ (i := 18) (N := (some 122)) (v := ?_) (a' := _) #[true, true, true, true, true, true, true, true, true, true, true, true, true, true, true, true, true, true, true, false, false, false, false, false, false, false, false, false, false] rfl rfl (by kernel_rfl) (fun _ _ _ h => h) (Or.inl ⟨by rfl, ?_⟩) G7d.out rfl ?_
                rotate_left
                · intro w' s_; have f0_ := XS.out w' s_; go_simp; with_reducible rfl
                simp only [Act.put, List.setIfInBounds_toArray, List.set_cons_zero, List.set_cons_succ]
                refine pure_ (i := 19) (N := (some 123)) (v := ?_) (a' := _) #[true, true, true, true, true, true, true, true, true, true, true, true, true, true, true, true, true, true, true, true, false, false, false, false, false, false, false, false, false] rfl rfl (by kernel_rfl) (fun _ _ _ h => h) (Or.inl ⟨by rfl, ?_⟩) rfl ?_
                rotate_left
                · intro w'; go_simp; with_reducible rfl
                simp only [Act.put, List.setIfInBounds_toArray, List.set_cons_zero, List.set_cons_succ]
                refine pure_ (i := 20) (N := (some 124)) (v := ?_) (a' := _) #[true, true, true, true, true, true, true, true, true, true, true, true, true, true, true, true, true, true, true, true, true, false, false, false, false, false, false, false, false] rfl rfl (by kernel_rfl) (fun _ _ _ h => h) (Or.inl ⟨by rfl, ?_⟩) rfl ?_
                rotate_left
                · intro w'; go_simp; with_reducible rfl
                simp only [Act.put, List.setIfInBounds_toArray, List.set_cons_zero, List.set_cons_succ]
                refine pure_ (i := 21) (N := (some 125)) (v := ?_) (a' := _) #[true, true, true, true, true, true, true, true, true, true, true, true, true, true, true, true, true, true, true, true, true, true, false, false, false, false, false, false, false] rfl rfl (by kernel_rfl) (fun _ _ _ h => h) (Or.inl ⟨by rfl, ?_⟩) rfl ?_
                rotate_left
                · intro w'; go_simp; with_reducible rfl
                simp only [Act.put, List.setIfInBounds_toArray, List.set_cons_zero, List.set_cons_succ]
                refine pure_ (i := 22) (N := (some 126)) (v := ?_) (a' := _) #[true, true, true, true, true, true, true, true, true, true, true, true, true, true, true, true, true, true, true, true, true, true, true, false, false, false, false, false, false] rfl rfl (by kernel_rfl) (fun _ _ _ h => h) (Or.inl ⟨by rfl, ?_⟩) rfl ?_
                rotate_left
                · intro w'; go_simp; with_reducible rfl
                simp only [Act.put, List.setIfInBounds_toArray, List.set_cons_zero, List.set_cons_succ]
                refine pure_ (i := 23) (N := (some 127)) (v := ?_) (a' := _) #[true, true, true, true, true, true, true, true, true, true, true, true, true, true, true, true, true, true, true, true, true, true, true, true, false, false, false, false, false] rfl rfl (by kernel_rfl) (fun _ _ _ h => h) (Or.inl ⟨by rfl, ?_⟩) rfl ?_
                rotate_left
                · intro w'; go_simp; with_reducible rfl
                simp only [Act.put, List.setIfInBounds_toArray, List.set_cons_zero, List.set_cons_succ]
                refine pure_ (i := 24) (N := (some 128)) (v := ?_) (a' := _) #[true, true, true, true, true, true, true, true, true, true, true, true, true, true, true, true, true, true, true, true, true, true, true, true, true, false, false, false, false] rfl rfl (by kernel_rfl) (fun _ _ _ h => h) (Or.inl ⟨by rfl, ?_⟩) rfl ?_
                rotate_left
                · intro w'; go_simp; with_reducible rfl
                simp only [Act.put, List.setIfInBounds_toArray, List.set_cons_zero, List.set_cons_succ]
                refine pure_ (i := 25) (N := (some 129)) (v := ?_) (a' := _) #[true, true, true, true, true, true, true, true, true, true, true, true, true, true, true, true, true, true, true, true, true, true, true, true, true, true, false, false, false] rfl rfl (by kernel_rfl) (fun _ _ _ h => h) (Or.inl ⟨by rfl, ?_⟩) rfl ?_
                rotate_left
                · intro w'; go_simp; with_reducible rfl
                simp only [Act.put, List.setIfInBounds_toArray, List.set_cons_zero, List.set_cons_succ]
                refine pure_ (i := 26) (N := (some 130)) (v := ?_) (a' := _) #[true, true, true, true, true, true, true, true, true, true, true, true, true, true, true, true, true, true, true, true, true, true, true, true, true, true, true, false, false] rfl rfl (by kernel_rfl) (fun _ _ _ h => h) (Or.inl ⟨by rfl, ?_⟩) rfl ?_
                rotate_left
                · intro w'; go_simp; with_reducible rfl
                simp only [Act.put, List.setIfInBounds_toArray, List.set_cons_zero, List.set_cons_succ]
                refine pure_ (i := 27) (N := (some 131)) (v := ?_) (a' := _) #[true, true, true, true, true, true, true, true, true, true, true, true, true, true, true, true, true, true, true, true, true, true, true, true, true, true, true, true, false] rfl rfl (by kernel_rfl) (fun _ _ _ h => h) (Or.inl ⟨by rfl, ?_⟩) rfl ?_
                rotate_left
                · intro w'; go_simp; with_reducible rfl
                simp only [Act.put, List.setIfInBounds_toArray, List.set_cons_zero, List.set_cons_succ]
                refine pure_ (i := 28) (N := (some 16)) (v := ?_) (a' := _) #[true, true, true, true, true, true, true, true, true, true, true, true, true, true, true, true, true, true, true, true, true, true, true, true, true, true, true, true, true] rfl rfl (by kernel_rfl) (fun _ _ _ h => h) (Or.inl ⟨by rfl, ?_⟩) rfl ?_
                rotate_left
                · intro w'; go_simp; with_reducible rfl
                simp only [Act.put, List.setIfInBounds_toArray, List.set_cons_zero, List.set_cons_succ]
                refine done_ (by kernel_rfl) ?_
                go_wp2
                go_meet
                case rel => exact ⟨rfl, G7d⟩
              · have d1 : decide ((e.length : Int) ≤ (s.length : Int)) = false := decide_eq_false (by omega)
                rw [endB, decide_eq_false hle, Bool.false_and] at hb
                subst hb
                have G7d := Aside0.mk (stays_drew SG.out G7.out)
                refine start_ (n := 29) (S := G) (ds := []) #[false, false, false, false, false, false, false, false, false, false, false, false, false, false, false, false, false, false, false, false, false, false, false, false, false, false, false, false, false] (by kernel_rfl) rfl rfl G7d.out (fun _ => ?_)
                refine pure_ (i := 0) (N := (some 104)) (v := ?_) (a' := _) #[true, false, false, false, false, false, false, false, false, false, false, false, false, false, false, false, false, false, false, false, false, false, false, false, false, false, false, false, false] rfl rfl (by kernel_rfl) (fun _ _ _ h => h) (Or.inl ⟨by rfl, ?_⟩) rfl ?_
                rotate_left
                · intro w'; go_simp; with_reducible rfl
                simp only [Act.put, List.setIfInBounds_toArray, List.set_cons_zero, List.set_cons_succ]
                refine pure_ (i := 1) (N := (some 105)) (v := ?_) (a' := _) #[true, true, false, false, false, false, false, false, false, false, false, false, false, false, false, false, false, false, false, false, false, false, false, false, false, false, false, false, false] rfl rfl (by kernel_rfl) (fun _ _ _ h => h) (Or.inl ⟨by rfl, ?_⟩) rfl ?_
                rotate_left
                · intro w'; go_simp; with_reducible rfl
                simp only [Act.put, List.setIfInBounds_toArray, List.set_cons_zero, List.set_cons_succ]
                refine pure_ (i := 2) (N := (some 106)) (v := ?_) (a' := _) #[true, true, true, false, false, false, false, false, false, false, false, false, false, false, false, false, false, false, false, false, false, false, false, false, false, false, false, false, false] rfl rfl (by kernel_rfl) (fun _ _ _ h => h) (Or.inl ⟨by rfl, ?_⟩) rfl ?_
                rotate_left
                · intro w'; go_simp; with_reducible rfl
                simp only [Act.put, List.setIfInBounds_toArray, List.set_cons_zero, List.set_cons_succ]
                refine pure_ (i := 3) (N := (some 107)) (v := ?_) (a' := _) #[true, true, true, true, false, false, false, false, false, false, false, false, false, false, false, false, false, false, false, false, false, false, false, false, false, false, false, false, false] rfl rfl (by kernel_rfl) (fun _ _ _ h => h) (Or.inl ⟨by rfl, ?_⟩) rfl ?_
                rotate_left
                · intro w'; go_simp; with_reducible rfl
                simp only [Act.put, List.setIfInBounds_toArray, List.set_cons_zero, List.set_cons_succ]
                refine pure_ (i := 4) (N := (some 108)) (v := ?_) (a' := _) #[true, true, true, true, true, false, false, false, false, false, false, false, false, false, false, false, false, false, false, false, false, false, false, false, false, false, false, false, false] rfl rfl (by kernel_rfl) (fun _ _ _ h => h) (Or.inl ⟨by rfl, ?_⟩) rfl ?_
                rotate_left
                · intro w'; go_simp; with_reducible rfl
                simp only [Act.put, List.setIfInBounds_toArray, List.set_cons_zero, List.set_cons_succ]
                refine pure_ (i := 5) (N := (some 109)) (v := ?_) (a' := _) #[true, true, true, true, true, true, false, false, false, false, false, false, false, false, false, false, false, false, false, false, false, false, false, false, false, false, false, false, false] rfl rfl (by kernel_rfl) (fun _ _ _ h => h) (Or.inl ⟨by rfl, ?_⟩) rfl ?_
                rotate_left
                · intro w'; go_simp; with_reducible rfl
                simp only [Act.put, List.setIfInBounds_toArray, List.set_cons_zero, List.set_cons_succ]
                refine pure_ (i := 6) (N := (some 110)) (v := ?_) (a' := _) #[true, true, true, true, true, true, true, false, false, false, false, false, false, false, false, false, false, false, false, false, false, false, false, false, false, false, false, false, false] rfl rfl (by kernel_rfl) (fun _ _ _ h => h) (Or.inl ⟨by rfl, ?_⟩) rfl ?_
                rotate_left
                · intro w'; go_simp; with_reducible rfl
                simp only [Act.put, List.setIfInBounds_toArray, List.set_cons_zero, List.set_cons_succ]
                refine take_ (i := 7) (N := (some 111)) (v := ?_) (a' := _) #[true, true, true, true, true, true, true, true, false, false, false, false, false, false, false, false, false, false, false, false, false, false, false, false, false, false, false, false, false] rfl rfl (by kernel_rfl) (fun _ _ _ h => h) (Or.inl ⟨by rfl, ?_⟩) G7d.out rfl ?_
                rotate_left
                · intro w' s_; have f0_ := XS.out w' s_; go_simp; with_reducible rfl
                simp only [Act.put, List.setIfInBounds_toArray, List.set_cons_zero, List.set_cons_succ]
                refine pure_ (i := 8) (N := (some 112)) (v := ?_) (a' := _) #[true, true, true, true, true, true, true, true, true, false, false, false, false, false, false, false, false, false, false, false, false, false, false, false, false, false, false, false, false] rfl rfl (by kernel_rfl) (fun _ _ _ h => h) (Or.inl ⟨by rfl, ?_⟩) rfl ?_
                rotate_left
                · intro w'; go_simp; with_reducible rfl
                simp only [Act.put, List.setIfInBounds_toArray, List.set_cons_zero, List.set_cons_succ]
                refine pure_ (i := 9) (N := (some 113)) (v := ?_) (a' := _) #[true, true, true, true, true, true, true, true, true, true, false, false, false, false, false, false, false, false, false, false, false, false, false, false, false, false, false, false, false] rfl rfl (by kernel_rfl) (fun _ _ _ h => h) (Or.inl ⟨by rfl, ?_⟩) rfl ?_
                rotate_left
                · intro w'; go_simp; with_reducible rfl
                simp only [Act.put, List.setIfInBounds_toArray, List.set_cons_zero, List.set_cons_succ]
                refine pure_ (i := 10) (N := (some 114)) (v := ?_) (a' := _) #[true, true, true, true, true, true, true, true, true, true, true, false, false, false, false, false, false, false, false, false, false, false, false, false, false, false, false, false, false] rfl rfl (by kernel_rfl) (fun _ _ _ h => h) (Or.inl ⟨by rfl, ?_⟩) rfl ?_
                rotate_left
                · intro w'; go_simp; with_reducible rfl
                simp only [Act.put, List.setIfInBounds_toArray, List.set_cons_zero, List.set_cons_succ]
                refine pure_ (i := 11) (N := (some 115)) (v := undef) (a' := _) #[true, true, true, true, true, true, true, true, true, true, true, true, false, false, false, false, false, false, false, false, false, false, false, false, false, false, false, false, false] rfl rfl (by kernel_rfl) (fun _ _ _ h => h) (Or.inr ⟨by rfl, rfl⟩) rfl ?_
                simp only [Act.put, List.setIfInBounds_toArray, List.set_cons_zero, List.set_cons_succ]
                refine pure_ (i := 12) (N := (some 116)) (v := undef) (a' := _) #[true, true, true, true, true, true, true, true, true, true, true, true, true, false, false, false, false, false, false, false, false, false, false, false, false, false, false, false, false] rfl rfl (by kernel_rfl) (fun _ _ _ h => h) (Or.inr ⟨by rfl, rfl⟩) rfl ?_
                simp only [Act.put, List.setIfInBounds_toArray, List.set_cons_zero, List.set_cons_succ]
                refine pure_ (i := 13) (N := (some 117)) (v := undef) (a' := _) #[true, true, true, true, true, true, true, true, true, true, true, true, true, true, false, false, false, false, false, false, false, false, false, false, false, false, false, false, false] rfl rfl (by kernel_rfl) (fun _ _ _ h => h) (Or.inr ⟨by rfl, rfl⟩) rfl ?_
                simp only [Act.put, List.setIfInBounds_toArray, List.set_cons_zero, List.set_cons_succ]
                refine pure_ (i := 14) (N := (some 118)) (v := undef) (a' := _) #[true, true, true, true, true, true, true, true, true, true, true, true, true, true, true, false, false, false, false, false, false, false, false, false, false, false, false, false, false] rfl rfl (by kernel_rfl) (fun _ _ _ h => h) (Or.inr ⟨by rfl, rfl⟩) rfl ?_
                simp only [Act.put, List.setIfInBounds_toArray, List.set_cons_zero, List.set_cons_succ]
                refine pure_ (i := 15) (N := (some 119)) (v := undef) (a' := _) #[true, true, true, true, true, true, true, true, true, true, true, true, true, true, true, true, false, false, false, false, false, false, false, false, false, false, false, false, false] rfl rfl (by kernel_rfl) (fun _ _ _ h => h) (Or.inr ⟨by rfl, rfl⟩) rfl ?_
                simp only [Act.put, List.setIfInBounds_toArray, List.set_cons_zero, List.set_cons_succ]
                refine pure_ (i := 16) (N := (some 120)) (v := undef) (a' := _) #[true, true, true, true, true, true, true, true, true, true, true, true, true, true, true, true, true, false, false, false, false, false, false, false, false, false, false, false, false] rfl rfl (by kernel_rfl) (fun _ _ _ h => h) (Or.inr ⟨by rfl, rfl⟩) rfl ?_
                simp only [Act.put, List.setIfInBounds_toArray, List.set_cons_zero, List.set_cons_succ]
                refine pure_ (i := 17) (N := (some 121)) (v := undef) (a' := _) #[true, true, true, true, true, true, true, true, true, true, true, true, true, true, true, true, true, true, false, false, false, false, false, false, false, false, false, false, false] rfl rfl (by kernel_rfl) (fun _ _ _ h => h) (Or.inr ⟨by rfl, rfl⟩) rfl ?_
                simp only [Act.put, List.setIfInBounds_toArray, List.set_cons_zero, List.set_cons_succ]
                refine pure_ (i := 18) (N := (some 122)) (v := undef) (a' := _) #[true, true, true, true, true, true, true, true, true, true, true, true, true, true, true, true, true, true, true, false, false, false, false, false, false, false, false, false, false] rfl rfl (by kernel_rfl) (fun _ _ _ h => h) (Or.inr ⟨by rfl, rfl⟩) rfl ?_
                simp only [Act.put, List.setIfInBounds_toArray, List.set_cons_zero, List.set_cons_succ]
                refine pure_ (i := 19) (N := (some 123)) (v := undef) (a' := _) #[true, true, true, true, true, true, true, true, true, true, true, true, true, true, true, true, true, true, true, true, false, false, false, false, false, false, false, false, false] rfl rfl (by kernel_rfl) (fun _ _ _ h => h) (Or.inr ⟨by rfl, rfl⟩) rfl ?_
                simp only [Act.put, List.setIfInBounds_toArray, List.set_cons_zero, List.set_cons_succ]
                refine pure_ (i := 20) (N := (some 124)) (v := undef) (a' := _) #[true, true, true, true, true, true, true, true, true, true, true, true, true, true, true, true, true, true, true, true, true, false, false, false, false, false, false, false, false] rfl rfl (by kernel_rfl) (fun _ _ _ h => h) (Or.inr ⟨by rfl, rfl⟩) rfl ?_
                simp only [Act.put, List.setIfInBounds_toArray, List.set_cons_zero, List.set_cons_succ]
                refine pure_ (i := 21) (N := (some 125)) (v := undef) (a' := _) #[true, true, true, true, true, true, true, true, true, true, true, true, true, true, true, true, true, true, true, true, true, true, false, false, false, false, false, false, false] rfl rfl (by kernel_rfl) (fun _ _ _ h => h) (Or.inr ⟨by rfl, rfl⟩) rfl ?_
                simp only [Act.put, List.setIfInBounds_toArray, List.set_cons_zero, List.set_cons_succ]
                refine pure_ (i := 22) (N := (some 126)) (v := undef) (a' := _) #[true, true, true, true, true, true, true, true, true, true, true, true, true, true, true, true, true, true, true, true, true, true, true, false, false, false, false, false, false] rfl rfl (by kernel_rfl) (fun _ _ _ h => h) (Or.inr ⟨by rfl, rfl⟩) rfl ?_
                simp only [Act.put, List.setIfInBounds_toArray, List.set_cons_zero, List.set_cons_succ]
                refine pure_ (i := 23) (N := (some 127)) (v := undef) (a' := _) #[true, true, true, true, true, true, true, true, true, true, true, true, true, true, true, true, true, true, true, true, true, true, true, true, false, false, false, false, false] rfl rfl (by kernel_rfl) (fun _ _ _ h => h) (Or.inr ⟨by rfl, rfl⟩) rfl ?_
                simp only [Act.put, List.setIfInBounds_toArray, List.set_cons_zero, List.set_cons_succ]
                refine pure_ (i := 24) (N := (some 128)) (v := undef) (a' := _) #[true, true, true, true, true, true, true, true, true, true, true, true, true, true, true, true, true, true, true, true, true, true, true, true, true, false, false, false, false] rfl rfl (by kernel_rfl) (fun _ _ _ h => h) (Or.inr ⟨by rfl, rfl⟩) rfl ?_
                simp only [Act.put, List.setIfInBounds_toArray, List.set_cons_zero, List.set_cons_succ]
                refine pure_ (i := 25) (N := (some 129)) (v := undef) (a' := _) #[true, true, true, true, true, true, true, true, true, true, true, true, true, true, true, true, true, true, true, true, true, true, true, true, true, true, false, false, false] rfl rfl (by kernel_rfl) (fun _ _ _ h => h) (Or.inr ⟨by rfl, rfl⟩) rfl ?_
                simp only [Act.put, List.setIfInBounds_toArray, List.set_cons_zero, List.set_cons_succ]
                refine pure_ (i := 26) (N := (some 130)) (v := ?_) (a' := _) #[true, true, true, true, true, true, true, true, true, true, true, true, true, true, true, true, true, true, true, true, true, true, true, true, true, true, true, false, false] rfl rfl (by kernel_rfl) (fun _ _ _ h => h) (Or.inl ⟨by rfl, ?_⟩) rfl ?_
                rotate_left
                · intro w'; go_simp; with_reducible rfl
                simp only [Act.put, List.setIfInBounds_toArray, List.set_cons_zero, List.set_cons_succ]
                refine pure_ (i := 27) (N := (some 131)) (v := ?_) (a' := _) #[true, true, true, true, true, true, true, true, true, true, true, true, true, true, true, true, true, true, true, true, true, true, true, true, true, true, true, true, false] rfl rfl (by kernel_rfl) (fun _ _ _ h => h) (Or.inl ⟨by rfl, ?_⟩) rfl ?_
                rotate_left
                · intro w'; go_simp; with_reducible rfl
                simp only [Act.put, List.setIfInBounds_toArray, List.set_cons_zero, List.set_cons_succ]
                refine pure_ (i := 28) (N := (some 16)) (v := ?_) (a' := _) #[true, true, true, true, true, true, true, true, true, true, true, true, true, true, true, true, true, true, true, true, true, true, true, true, true, true, true, true, true] rfl rfl (by kernel_rfl) (fun _ _ _ h => h) (Or.inl ⟨by rfl, ?_⟩) rfl ?_
                rotate_left
                · intro w'; go_simp; with_reducible rfl
                simp only [Act.put, List.setIfInBounds_toArray, List.set_cons_zero, List.set_cons_succ]
                refine done_ (by kernel_rfl) ?_
                go_wp2
                go_meet
                case rel => exact ⟨rfl, G7d⟩
          case rest =>
            obtain ⟨rfl, G8⟩ := hcut
            have x8 := XS.out _ G8.out
            cases γ with
            | true =>
              go_wp2
              go_roundw
              case rel => exact ⟨m + 1, β', true, by rfl, by rfl, by go_num, by omega, HBE, ⟨by rw [HWN.out]; rfl⟩, G8⟩
              case measure => simp [intOf]; omega
            | false =>
              have hse : ((strOfNums s).toList == (strOfNums e).toList) = (s == e) := by
                rw [Bool.eq_iff_iff, beq_iff_eq, beq_iff_eq]
                exact toList_str_inj SB.out HEB.out
              obtain ⟨b1, hb1⟩ : ∃ b1, (s == e) = b1 := ⟨_, rfl⟩
              have hie : (strOfNums e).toList.isEmpty = e.isEmpty := by
                rw [toList_str]
                cases e <;> rfl
              obtain ⟨b2, hb2⟩ : ∃ b2, e.isEmpty = b2 := ⟨_, rfl⟩
              rw [hb1] at hse
              rw [hb2] at hie
              have hw := HWN.out
              rw [hb1, hb2, Bool.false_or] at hw
              have HW2 := Aside0.mk hw
              clear hb1 hb2 hw HWN HE
              cases b1 with
              | true =>
                go_wp2
                go_roundw
                case rel => exact ⟨m + 1, β', !b2, by rfl, by rfl, by go_num, by omega, HBE, ⟨by rw [HW2.out]; rfl⟩, G8⟩
                case measure => simp [intOf]; omega
              | false =>
                go_wp2
                go_roundw
                case rel => exact ⟨m + 1, β', false, by rfl, by rfl, by go_num, by omega, HBE, ⟨by rw [HW2.out]; rfl⟩, G8⟩
                case measure => simp [intOf]; omega
        · obtain rfl : m = L.length := by omega
          have k2 : ¬ ((L.length : Nat) : Int) < (L.length : Int) := by omega
          have b1 := HB1.out
          have b2 := HG1.out
          rw [List.take_length, HIE.out] at b1
          rw [List.take_length, HWE.out] at b2
          subst b1
          subst b2
          clear HB1 HG1
          go_wp2_with (go_at_call 41; (with_reducible refine (WH.out _ G7.out).mono ?_); rintro e w' ⟨rfl, hw⟩; subst hw)
          go_roundw
          case rel => exact ⟨i + 1, by go_num, by omega, G7⟩
          case measure => simp [intOf]; omega
    · obtain rfl : i = P.length := by omega
      have k1 : ¬ ((P.length : Nat) : Int) < (P.length : Int) := by omega
      go_wp2_with (go_at_call 23; (with_reducible refine (ND.out _ G6.out).mono ?_); rintro e w' ⟨rfl, hw⟩; subst hw)
      go_ret
      exact ⟨rfl, (GG.out _ G6.out).1.1⟩
end Go.Proofs.Ytifbcboefopioaa.Tri
