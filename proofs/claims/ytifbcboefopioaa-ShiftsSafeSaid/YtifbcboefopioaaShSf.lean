/- By hand: the law ShiftsSafe, walked whole. No condition. -/
import Derived.Test.YtifbcboefopioaaMg3
set_option linter.unusedVariables false
set_option linter.unusedSimpArgs false
namespace Go.Proofs.Ytifbcboefopioaa.Tri
open Go.RowKit Go.Maps Go.Proofs.YtifbcboefopioaaW.PrintWords Go.Proofs.YtifbcboefopioaaW.PrintLast Go.Proofs.YtifbcboefopioaaW.PrintMore Go.Proofs.Ytifbcboefopioaa.Kit Go.Proofs.Ytifbcboefopioaa.All
attribute [local go_sem] max2_int min2_int max_two min_two max_three min_three max_four min_four

/-- The last m bytes ahead of a place, from the last one on. -/
def backT (l : Txt) (e m : Nat) : Txt := ((l.take e).drop (e - m)).reverse
theorem backT_nil (l : Txt) (e : Nat) : backT l e 0 = [] := by
  unfold backT
  rw [List.drop_of_length_le (by rw [List.length_take]; omega)]
  rfl
theorem backT_len (l : Txt) (e m : Nat) (he : e ≤ l.length) (hm : m ≤ e) : (backT l e m).length = m := by
  unfold backT
  rw [List.length_reverse, List.length_drop, List.length_take]
  omega
theorem backT_next (l : Txt) (e m : Nat) (he : e ≤ l.length) (hm : m < e) : backT l e (m + 1) = backT l e m ++ [rd l ((e : Int) - 1 - (m : Int))] := by
  unfold backT
  have h1 : e - (m + 1) < (l.take e).length := by rw [List.length_take]; omega
  rw [List.drop_eq_getElem_cons h1, List.reverse_cons, show e - (m + 1) + 1 = e - m by omega]
  congr 2
  rw [List.getElem_take, rd_of (j := e - (m + 1)) (by omega)]
  simp [List.getD_eq_getElem?_getD, show e - (m + 1) < l.length by omega]
theorem backT_bytes {l : Txt} (h : Bytes l) (e m : Nat) : Bytes (backT l e m) := Bytes.rev (Bytes.drop (Bytes.take h _) _)
set_option maxRecDepth 100000 in
set_option maxHeartbeats 12000000 in
theorem safe_law (A0 : Option Addr) (c0 : Nat) (L : List Txt) (A1 : Option Addr) (c1 : Nat) (l : Txt) (n1 : Int) (w : World)
    (hr0 : Kd.C (Kd.slice 5 (Kd.int .u8)) w A0 L.length L) (hc0 : L.length ≤ c0) (hB : ∀ s ∈ L, Bytes s) (hL : L.length ≤ 8000000000000) (hr1 : Kd.C (Kd.int .u8) w A1 l.length l) (hc1 : l.length ≤ c1) (hlb : Bytes l) (hll : l.length ≤ 140737488351232) (h10 : 0 ≤ n1) (h11 : n1 ≤ 255) :
    Calls Try.prog 17 #[.slice A0 L.length c0, .slice A1 l.length c1, .int .u8 n1] w fun e w' => e = .returned (.bool true) ∧ Below w.heap.size w w' := by
  obtain ⟨k, r, bo, hT, hbo⟩ := texts15_two L (by omega)
  obtain ⟨F, SF, E0, FF⟩ := stays_pack ((stays_below w).and ((stays_reads (Kd.int .u8) A1 l.length l).and (stays_reads (Kd.slice 5 (Kd.int .u8)) A0 L.length L))) ⟨Below.refl _ _, hr1, hr0⟩
  have HC0 := Aside0.mk hc0
  have HC1 := Aside0.mk hc1
  have T0 := Aside0.mk hT
  have HBO := Aside0.mk hbo
  have HLB := Aside0.mk hlb
  clear hr0 hr1 hc0 hc1 hT hbo hlb
  cases bo with
  | false =>
    go_enter Try.func17, Try.ntmps17
    go_wp2_with (first
      | (go_at_call 45; (refine (awake15_at _).mono ?_); rintro e w1 ⟨rfl, hb⟩; have E1_ := Aside0.mk (SF.out _ _ E0.out hb); clear hb)
      | (go_at_call 46; (refine (texts15_at _ A0 c0 L k r false (FF.out _ E1_.out).2.2 HC0.out T0.out).mono ?_); rintro e w2 ⟨AW, cW, rfl, hcW, hW, hb⟩; have E2 := Aside0.mk (SF.out _ _ E1_.out hb); clear hW hcW hb))
    go_ret
    exact ⟨rfl, (FF.out _ E2.out).1⟩
  | true =>
  obtain ⟨hrm, l12, l40⟩ := HBO.out rfl
  subst hrm
  clear HBO
  have hTl := Nat.le_trans (TL_len L) l12
  have hTB := TL_bytes hB
  have hTS := TL_short l40
  have hTN := TL_ne L
  have hPl := paths_len hTl hTS
  have hPB := pathsL_bytes hTB
  have hPS := paths_short hTS
  have hG := pathsL_good (TL L)
  have hPm := pathsL_mem (TL L)
  obtain ⟨P, hP⟩ : ∃ P, P = pathsL (TL L) := ⟨_, rfl⟩
  rw [← hP] at hPl hPB hPS hG hPm
  obtain ⟨T, hT⟩ : ∃ T, T = TL L := ⟨_, rfl⟩
  rw [← hT] at hTl hTB hTS hTN hPm hP
  have upT : ∀ x ∈ T, x.length ≤ 1000 := fun x hx => Nat.le_trans (hTS x hx) (show 40 ≤ 1000 by decide)
  have upP : ∀ x ∈ P, x.length ≤ 1000 := fun x hx => Nat.le_trans (hPS x hx) (show 40 ≤ 1000 by decide)
  have up := fun (x : Txt) (hx : x ∈ L) => Nat.le_trans (l40 x hx) (show 40 ≤ 1000 by decide)
  have L40 := Aside0.mk l40
  have HPB := Aside0.mk hPB
  have HPS := Aside0.mk hPS
  have HPM := Aside0.mk hPm
  have HG := Aside0.mk hG
  have HB := Aside0.mk hB
  have HP := Aside0.mk hP
  have HT := Aside0.mk hT
  have HTB := Aside0.mk hTB
  have HTS := Aside0.mk hTS
  have HTN := Aside0.mk hTN
  have UP := Aside0.mk up
  have UPT := Aside0.mk upT
  have HPSU := Aside0.mk upP
  clear l40 hPB hPS hG hB hP hPm hT hTB hTS hTN up upT upP
  have hpl2 : P.length ≤ 4611686018427387904 := by omega
  by_cases g1 : (l.length : Int) > 100
  · have g1b : decide ((l.length : Int) > 100) = true := decide_eq_true g1
    go_enter Try.func17, Try.ntmps17
    go_wp2_with (first
      | (go_at_call 45; (refine (awake15_at _).mono ?_); rintro e w1 ⟨rfl, hb⟩; have E1_ := Aside0.mk (SF.out _ _ E0.out hb); clear hb)
      | (go_at_call 46; (refine (texts15_ok _ A0 c0 L k (FF.out _ E1_.out).2.2 HC0.out T0.out).mono ?_); rintro e w2 ⟨AW, cW, rfl, hcW, hW, hb⟩; have E2 := Aside0.mk (SF.out _ _ E1_.out hb); have HW := Aside0.mk hW; have HCW := Aside0.mk hcW; clear hW hcW hb))
    go_ret
    exact ⟨rfl, (FF.out _ E2.out).1⟩
  have g1b : decide ((l.length : Int) > 100) = false := decide_eq_false g1
  obtain ⟨tm, rfl⟩ : ∃ tm : Nat, n1 = (tm : Int) := ⟨n1.toNat, by omega⟩
  obtain ⟨en, hen⟩ : ∃ en, tm % (l.length + 1) = en := ⟨_, rfl⟩
  have enl : en ≤ l.length := by have := Nat.mod_lt tm (show 0 < l.length + 1 by omega); omega
  have wt : IntKind.i64.wrap (tm : Int) = (tm : Int) := IntWalk.i64_in _ (by omega)
  have w1' : IntKind.i64.wrap ((l.length : Int) + 1) = (l.length : Int) + 1 := IntWalk.i64_in _ (by omega)
  have hne2 : ¬ (l.length : Int) + 1 = 0 := by omega
  have wn : (tm : Int).tmod ((l.length : Int) + 1) = (en : Int) := by
    rw [Int.tmod_eq_emod_of_nonneg (by omega), ← hen, Int.natCast_emod]
    rfl
  have we : IntKind.i64.wrap (en : Int) = (en : Int) := IntWalk.i64_in _ (by omega)
  have p0 := HG.out.pos
  clear hen
  go_enter Try.func17, Try.ntmps17
  go_upto_region 10 with (first
      | (go_at_call 45; (refine (awake15_at _).mono ?_); rintro e w1 ⟨rfl, hb⟩; have E1_ := Aside0.mk (SF.out _ _ E0.out hb); clear hb)
      | (go_at_call 46; (refine (texts15_ok _ A0 c0 L k (FF.out _ E1_.out).2.2 HC0.out T0.out).mono ?_); rintro e w2 ⟨AW, cW, rfl, hcW, hW, hb⟩; have E2 := Aside0.mk (SF.out _ _ E1_.out hb); have HW := Aside0.mk hW; have HCW := Aside0.mk hcW; clear hW hcW hb)
      | (go_at_call 35; (refine (bbuild_to _ A0 c0 L T P HT.out HP.out (FF.out _ E2.out).2.2 HB.out (by omega) UP.out).mono ?_); rintro e w3 ⟨g, base, b, rfl, hk, ht, hb⟩; have E3 := Aside0.mk (SF.out _ _ E2.out hb); have HW3 := Aside0.mk (Kd.C_below HW.out hb); have HK := Aside0.mk (And.intro hk ht); clear hk ht hb)
      | (go_at_call 47; (refine (shbuild_any _ g base b T P HP.out HK.out.1 HK.out.2 (by omega) HTN.out HTB.out HPSU.out).mono ?_); rintro e w4 ⟨h, basef, rfl, hf, hb⟩; have E4 := Aside0.mk (SF.out _ _ E3.out hb); have HW4 := Aside0.mk (Kd.C_below HW3.out hb); have HK4 := Aside0.mk (And.intro (And.intro (HK.out.1.below hb) (HK.out.2.below hb)) hf); clear hf hb))
  obtain ⟨G, SG, G4, GG⟩ := stays_pack ((stays_below w).and ((stays_sh g base b h basef T P).and ((stays_reads (Kd.int .u8) A1 l.length l).and (stays_reads Kd.string AW L.length (L.map strOfNums))))) ⟨(FF.out _ E4.out).1, HK4.out, (FF.out _ E4.out).2.1, HW4.out⟩
  have SC := Aside0.mk (fun (w1 : World) (h0 : G w1) (n : Int) => second_any (GG.out w1 h0).2.1.2 n)
  have XG : Aside0 (∀ w1, G w1 → w1.cell? ⟨g, 0, none⟩ = some (.pointer (some ⟨b, 0, none⟩))) := ⟨fun w1 h0 => (GG.out w1 h0).2.1.1.1.tr⟩
  have CL : Aside0 (∀ w1, G w1 → (convert 32 9 (.slice A1 l.length c1)).run Try.prog w1 = .ok (.string (strOfNums l)) w1) := ⟨fun w1 h0 => text_of (GG.out w1 h0).2.2.1⟩
  obtain ⟨E1, hE1⟩ : ∃ E1, (en : Int) - 1 = E1 := ⟨_, rfl⟩
  have wE1 : IntKind.i64.wrap ((en : Int) - 1) = E1 := by rw [hE1]; exact IntWalk.i64_in _ (by omega)
  have HE1 := Aside0.mk hE1
  clear E0 E2 E3 E4 HK HK4 HW HW3 HW4 wt w1' hne2 wn we hE1
  clear E1_
  go_upto_block 0 with (fail)
  go_cut [13, 14] from 109 (fun v13 v14 w' => ∃ m i : Nat, v13 = .int .i64 i ∧ v14 = .int .i64 m ∧ m ≤ en ∧ Aside0 (P[i]? = some (backT l en m)) ∧ Aside0 (G w'))
  case first =>
    go_wp2
    go_loopw [13, 14] (fun v13 v14 w' => ∃ m i : Nat, v13 = .int .i64 i ∧ v14 = .int .i64 m ∧ m ≤ en ∧ Aside0 (P[i]? = some (backT l en m)) ∧ Aside0 (G w')) (fun _ v14 _ => en - (intOf v14).toNat)
    case atStart => exact ⟨0, 0, rfl, rfl, Nat.zero_le _, ⟨by rw [backT_nil]; exact HG.out.root⟩, G4⟩
    case round =>
      obtain ⟨m, i, rfl, rfl, hm, HI, G5⟩ := hrel
      by_cases hlt : m < en
      · have k1 : ((m : Nat) : Int) < (en : Int) := by omega
        have wk : IntKind.i64.wrap ((m : Int) + 1) = (m : Int) + 1 := IntWalk.i64_in _ (by omega)
        have hE := HE1.out
        obtain ⟨d, hd⟩ : ∃ d, E1 - (m : Int) = d := ⟨_, rfl⟩
        have d0 : 0 ≤ d := by omega
        have d1 : d < (l.length : Int) := by omega
        have wd : IntKind.i64.wrap (E1 - (m : Int)) = d := by rw [hd]; exact IntWalk.i64_in _ (by omega)
        obtain ⟨ad, rfl, hx⟩ := Kd.at_int (GG.out _ G5.out).2.2.1 d d0 d1
        have hbn := backT_next l en m enl hlt
        rw [show (en : Int) - 1 - (m : Int) = d by omega] at hbn
        have hcb := backT_bytes HLB.out en (m + 1)
        obtain ⟨c, hc⟩ : ∃ c, rd l d = c := ⟨_, rfl⟩
        rw [hc] at hx hbn
        rw [hbn] at hcb
        have hcb2 := hcb c (List.mem_append.2 (.inr (List.mem_singleton.2 rfl)))
        have GD : Aside0 (∀ n, G (wr.drewN n)) := ⟨fun n => SG.out _ _ G5.out (pw_below_drewN (Below.refl _ _) n)⟩
        have ST : Aside0 (∀ n, Calls Try.prog 31 #[.pointer (some ⟨b, 0, none⟩), .int .i64 i, .int .u8 c] (wr.drewN n) fun e w' => e = .returned (.int .i64 (place P (backT l en (m + 1)))) ∧ w' = wr.drewN n) := ⟨fun n => by
          have := step_at (GG.out _ (GD.out n)).2.1.1.2 hpl2 i _ HI.out c hcb2.1 hcb2.2
          rwa [← hbn] at this⟩
        have xg := XG.out _ G5.out
        clear hE hbn hcb hcb2 hc hd
        by_cases hmem : backT l en (m + 1) ∈ P
        · obtain ⟨j, hj⟩ := List.mem_iff_getElem?.1 hmem
          have HJ := Aside0.mk hj
          have hpj := place_at HG.out.nodup hj
          rw [hpj] at ST
          have m0 : decide ((j : Int) < 0) = false := decide_eq_false (by omega)
          clear hmem hj hpj
          go_upto_region 13 with (fail)
          go_quiet ((go_at_call 31; exact Calls.quiet_of_same (ST.out _)))
          go_wp2
          go_roundw
          case rel => exact ⟨m + 1, j, by rfl, by go_num, by omega, HJ, ⟨GD.out _⟩⟩
          case measure => simp [intOf]; omega
        · rw [place_no hmem] at ST
          clear hmem
          go_upto_region 13 with (fail)
          go_quiet ((go_at_call 31; exact Calls.quiet_of_same (ST.out _)))
          go_wp2
          go_meet
          case rel => exact ⟨m, i, rfl, rfl, hm, HI, ⟨GD.out _⟩⟩
      · obtain rfl : m = en := by omega
        have k1 : ¬ ((m : Nat) : Int) < (m : Int) := by omega
        go_wp2
        go_meet
        case rel => exact ⟨m, i, rfl, rfl, hm, HI, G5⟩
  case rest =>
    obtain ⟨m, i, rfl, rfl, hm, HI, G5⟩ := hcut
    have hsl := backT_len l en m enl hm
    have SAFE : Aside0 (∀ a E : Nat, a < E → E ≤ l.length → (l.take E).drop a ∈ L → en < E → (¬ m < en → (twoOf (farsX T P) i).2 ≤ ((E - en : Nat) : Int)) ∧ (∀ c : Int, m < en → c = rd l ((en : Int) - 1 - m) → farV (leastN T) (rd (nearN T) c) (backT l en m).length (twoOf (farsX T P) i) ≤ ((E - en : Nat) : Int))) := ⟨fun a E h1 h2 h3 h4 => safe HP.out HTB.out HLB.out en m enl hm HI.out rfl HT.out h1 h2 h3 h4⟩
    by_cases hme : m < en
    · have k1 : ((m : Nat) : Int) < (en : Int) := by omega
      have hE := HE1.out
      obtain ⟨d, hd⟩ : ∃ d, E1 - (m : Int) = d := ⟨_, rfl⟩
      have d0 : 0 ≤ d := by omega
      have d1 : d < (l.length : Int) := by omega
      have wd : IntKind.i64.wrap (E1 - (m : Int)) = d := by rw [hd]; exact IntWalk.i64_in _ (by omega)
      obtain ⟨ad, rfl, hx0⟩ := Kd.at_int (GG.out _ G5.out).2.2.1 d d0 d1
      have hbn := backT_next l en m enl hme
      have hdd : (en : Int) - 1 - (m : Int) = d := by omega
      rw [hdd] at hbn
      have hcb := backT_bytes HLB.out en (m + 1)
      obtain ⟨c, hc⟩ : ∃ c, rd l d = c := ⟨_, rfl⟩
      rw [hc] at hx0 hbn
      rw [hbn] at hcb
      have hcb2 := hcb c (List.mem_append.2 (.inr (List.mem_singleton.2 rfl)))
      have FR := Aside0.mk (fun (w1 : World) (h0 : G w1) => far_any HP.out HTN.out HTB.out UPT.out (GG.out w1 h0).2.1.2 (GG.out w1 h0).2.1.1.1 (GG.out w1 h0).2.1.1.2 i _ HI.out (by omega) c hcb2.1 hcb2.2)
      obtain ⟨fv, hfv⟩ : ∃ fv, farW T P i (backT l en m) c = fv := ⟨_, rfl⟩
      rw [hfv] at FR
      have HSAFE : Aside0 (∀ p : S64, OccP l L p → 0 ≤ p.f1 ∧ p.f1 ≤ 1000 ∧ (p.f1 > (en : Int) → fv ≤ p.f1 - (en : Int))) := ⟨by
        rintro p ⟨a, E, rfl, h1, h2, h3⟩
        refine ⟨by show (0 : Int) ≤ (E : Int); omega, by show (E : Int) ≤ 1000; omega, fun h4 => ?_⟩
        show fv ≤ (E : Int) - (en : Int)
        have h5 : en < E := by
          have : (E : Int) > (en : Int) := h4
          omega
        rw [← hfv]
        unfold farW
        split
        · omega
        · have := (SAFE.out a E h1 h2 h3 h5).2 c hme (by rw [hdd]; exact hc.symm)
          omega⟩
      have XL : Aside0 (∀ w1, G w1 → w1.cell? (ad.add d.toNat) = some (.int .u8 c)) := ⟨fun w1 h0 => by
        obtain ⟨ad2, e2, h2⟩ := Kd.at_int (GG.out w1 h0).2.2.1 d d0 d1
        cases e2
        rwa [hc] at h2⟩
      have SC1 := Aside0.mk (fun (w1 : World) (h0 : G w1) => SC.out w1 h0 (i : Int))
      clear hE hbn hcb hcb2 hc hd hdd hfv SAFE hx0 hsl
      go_upto_region 18 with (go_at_call 51; (with_reducible refine (SC1.out _ G5.out).mono ?_); rintro e_ w6 ⟨rfl, hb⟩; have G6 := Aside0.mk (SG.out _ _ G5.out hb); have hx := XL.out _ G6.out; clear hb)
      go_upto_region 21 with (first
        | (go_at_call 53; (with_reducible refine (FR.out _ G6.out).mono ?_); rintro e_ w7 ⟨rfl, hb⟩; have G7 := Aside0.mk (SG.out _ _ G6.out hb); have hcl := CL.out _ G7.out; clear hb)
        | (go_at_call 55; (refine (occ_at _ AW cW L l HLB.out (by omega) HB.out (by omega) (GG.out _ G7.out).2.2.2 HCW.out).mono ?_); rintro e_ w8 ⟨A8, c8, r, rfl, hr1, hr2, hC, hb⟩; have G8 := Aside0.mk (SG.out _ _ G7.out hb); have HR1 := Aside0.mk hr1; have HC8 := Aside0.mk hC; clear hb hr1 hC))
      obtain ⟨G2, SG2, G9, GG2⟩ := stays_pack (SG.out.and (stays_reads k64 A8 r.length r)) ⟨G8.out, HC8.out⟩
      go_wp2
      go_loopw [18] (fun v18 w' => ∃ i : Nat, v18 = .int .i64 i ∧ i ≤ r.length ∧ Aside0 (G2 w')) (fun v18 _ => r.length - (intOf v18).toNat)
      case atStart => exact ⟨0, rfl, Nat.zero_le _, G9⟩
      case round =>
        obtain ⟨i, rfl, hi, G10⟩ := hrel
        by_cases hlt : i < r.length
        · have k1 : ((i : Nat) : Int) < (r.length : Int) := by omega
          have k0 : (0 : Int) ≤ (i : Int) := by omega
          have wk : IntKind.i64.wrap ((i : Int) + 1) = (i : Int) + 1 := IntWalk.i64_in _ (by omega)
          obtain ⟨p, hp⟩ : ∃ p, r[i]? = some p := ⟨_, List.getElem?_eq_getElem hlt⟩
          obtain ⟨ad, rfl, _, hx⟩ := at_T64 (GG2.out _ G10.out).2 (i : Int) k0 k1
          have hrd : rd_T64 r (i : Int) = p := by simp [rd_T64, List.getD_eq_getElem?_getD, hp]
          rw [hrd, Int.toNat_natCast] at hx
          have hsf := HSAFE.out p (HR1.out p (List.mem_of_getElem? hp))
          obtain ⟨ee, hee⟩ : ∃ ee, p.f1 = ee := ⟨_, rfl⟩
          rw [hee] at hx hsf
          obtain ⟨s1, s2, s3⟩ := hsf
          clear hp hrd hee
          by_cases c : ee > (en : Int)
          · have c1 : decide (ee > (en : Int)) = true := decide_eq_true c
            obtain ⟨dd, hdd⟩ : ∃ dd, ee - (en : Int) = dd := ⟨_, rfl⟩
            have wdd : IntKind.i64.wrap (ee - (en : Int)) = dd := by rw [hdd]; exact IntWalk.i64_in _ (by omega)
            have s4 := s3 c
            rw [hdd] at s4
            have c2 : decide (dd < fv) = false := decide_eq_false (by omega)
            clear hdd s3 s4
            go_wp2
            go_roundw
            case rel => exact ⟨i + 1, by go_num, by omega, G10⟩
            case measure => simp [intOf]; omega
          · have c1 : decide (ee > (en : Int)) = false := decide_eq_false c
            clear s3
            go_wp2
            go_roundw
            case rel => exact ⟨i + 1, by go_num, by omega, G10⟩
            case measure => simp [intOf]; omega
        · obtain rfl : i = r.length := by omega
          have k1 : ¬ ((r.length : Nat) : Int) < (r.length : Int) := by omega
          go_wp2
          go_ret
          exact ⟨rfl, (GG.out _ (GG2.out _ G10.out).1).1⟩
    · obtain rfl : m = en := by omega
      have k1 : ¬ ((m : Nat) : Int) < (m : Int) := by omega
      have SC1 := Aside0.mk (fun (w1 : World) (h0 : G w1) => SC.out w1 h0 (i : Int))
      obtain ⟨fv, hfv⟩ : ∃ fv, (twoOf (farsX T P) (i : Int)).2 = fv := ⟨_, rfl⟩
      rw [hfv] at SC1
      have HSAFE : Aside0 (∀ p : S64, OccP l L p → 0 ≤ p.f1 ∧ p.f1 ≤ 1000 ∧ (p.f1 > (m : Int) → fv ≤ p.f1 - (m : Int))) := ⟨by
        rintro p ⟨a, E, rfl, h1, h2, h3⟩
        refine ⟨by show (0 : Int) ≤ (E : Int); omega, by show (E : Int) ≤ 1000; omega, fun h4 => ?_⟩
        show fv ≤ (E : Int) - (m : Int)
        have h5 : m < E := by
          have : (E : Int) > (m : Int) := h4
          omega
        have := (SAFE.out a E h1 h2 h3 h5).1 (by omega)
        rw [← hfv]
        omega⟩
      clear hfv SAFE hsl hme
      go_upto_region 20 with (go_at_call 51; (with_reducible refine (SC1.out _ G5.out).mono ?_); rintro e_ w6 ⟨rfl, hb⟩; have G7 := Aside0.mk (SG.out _ _ G5.out hb); have hcl := CL.out _ G7.out; clear hb)
      go_upto_region 21 with (first
        | (go_at_call 53; (with_reducible refine (FR.out _ G6.out).mono ?_); rintro e_ w7 ⟨rfl, hb⟩; have G7 := Aside0.mk (SG.out _ _ G6.out hb); have hcl := CL.out _ G7.out; clear hb)
        | (go_at_call 55; (refine (occ_at _ AW cW L l HLB.out (by omega) HB.out (by omega) (GG.out _ G7.out).2.2.2 HCW.out).mono ?_); rintro e_ w8 ⟨A8, c8, r, rfl, hr1, hr2, hC, hb⟩; have G8 := Aside0.mk (SG.out _ _ G7.out hb); have HR1 := Aside0.mk hr1; have HC8 := Aside0.mk hC; clear hb hr1 hC))
      obtain ⟨G2, SG2, G9, GG2⟩ := stays_pack (SG.out.and (stays_reads k64 A8 r.length r)) ⟨G8.out, HC8.out⟩
      go_wp2
      go_loopw [18] (fun v18 w' => ∃ i : Nat, v18 = .int .i64 i ∧ i ≤ r.length ∧ Aside0 (G2 w')) (fun v18 _ => r.length - (intOf v18).toNat)
      case atStart => exact ⟨0, rfl, Nat.zero_le _, G9⟩
      case round =>
        obtain ⟨i, rfl, hi, G10⟩ := hrel
        by_cases hlt : i < r.length
        · have k1 : ((i : Nat) : Int) < (r.length : Int) := by omega
          have k0 : (0 : Int) ≤ (i : Int) := by omega
          have wk : IntKind.i64.wrap ((i : Int) + 1) = (i : Int) + 1 := IntWalk.i64_in _ (by omega)
          obtain ⟨p, hp⟩ : ∃ p, r[i]? = some p := ⟨_, List.getElem?_eq_getElem hlt⟩
          obtain ⟨ad, rfl, _, hx⟩ := at_T64 (GG2.out _ G10.out).2 (i : Int) k0 k1
          have hrd : rd_T64 r (i : Int) = p := by simp [rd_T64, List.getD_eq_getElem?_getD, hp]
          rw [hrd, Int.toNat_natCast] at hx
          have hsf := HSAFE.out p (HR1.out p (List.mem_of_getElem? hp))
          obtain ⟨ee, hee⟩ : ∃ ee, p.f1 = ee := ⟨_, rfl⟩
          rw [hee] at hx hsf
          obtain ⟨s1, s2, s3⟩ := hsf
          clear hp hrd hee
          by_cases c : ee > (m : Int)
          · have c1 : decide (ee > (m : Int)) = true := decide_eq_true c
            obtain ⟨dd, hdd⟩ : ∃ dd, ee - (m : Int) = dd := ⟨_, rfl⟩
            have wdd : IntKind.i64.wrap (ee - (m : Int)) = dd := by rw [hdd]; exact IntWalk.i64_in _ (by omega)
            have s4 := s3 c
            rw [hdd] at s4
            have c2 : decide (dd < fv) = false := decide_eq_false (by omega)
            clear hdd s3 s4
            go_wp2
            go_roundw
            case rel => exact ⟨i + 1, by go_num, by omega, G10⟩
            case measure => simp [intOf]; omega
          · have c1 : decide (ee > (m : Int)) = false := decide_eq_false c
            clear s3
            go_wp2
            go_roundw
            case rel => exact ⟨i + 1, by go_num, by omega, G10⟩
            case measure => simp [intOf]; omega
        · obtain rfl : i = r.length := by omega
          have k1 : ¬ ((r.length : Nat) : Int) < (r.length : Int) := by omega
          go_wp2
          go_ret
          exact ⟨rfl, (GG.out _ (GG2.out _ G10.out).1).1⟩
end Go.Proofs.Ytifbcboefopioaa.Tri
