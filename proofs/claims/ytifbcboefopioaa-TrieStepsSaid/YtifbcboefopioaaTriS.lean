/- By hand: the law TrieSteps, walked whole. No condition. -/
import Derived.Test.YtifbcboefopioaaTriL
set_option linter.unusedVariables false
namespace Go.Proofs.Ytifbcboefopioaa.Tri
open Go.RowKit Go.Maps Go.Proofs.YtifbcboefopioaaW.PrintWords Go.Proofs.YtifbcboefopioaaW.PrintLast Go.Proofs.YtifbcboefopioaaW.PrintMore Go.Proofs.Ytifbcboefopioaa.Kit Go.Proofs.Ytifbcboefopioaa.All
attribute [local go_sem] max2_int min2_int max_two min_two max_three min_three max_four min_four

set_option maxHeartbeats 4000000 in
theorem steps_law (A0 : Option Addr) (c0 : Nat) (L : List Txt) (n c : Int) (A3 : Option Addr) (c3 : Nat) (bs : Txt) (w : World)
    (hr0 : Kd.C (Kd.slice 5 (Kd.int .u8)) w A0 L.length L) (hc0 : L.length ≤ c0) (hB : ∀ s ∈ L, Bytes s) (hL : L.length ≤ 8000000000000) (h20 : 0 ≤ c) (h21 : c ≤ 255)
    (hr3 : Kd.C (Kd.int .u8) w A3 bs.length bs) (hc3 : bs.length ≤ c3) (hbs : Bytes bs) (hbl : bs.length ≤ 140737488351232) :
    Calls Try.prog 4 #[.slice A0 L.length c0, .int .i64 n, .int .u8 c, .slice A3 bs.length c3] w fun e w' => e = .returned (.bool true) ∧ Below w.heap.size w w' := by
  obtain ⟨k, r, bo, hT, hbo⟩ := texts06_two L (by omega)
  obtain ⟨F, hF⟩ : ∃ F : World → Prop, F = fun w1 => (Below w.heap.size w w1 ∧ Kd.C (Kd.int .u8) w1 A3 bs.length bs) ∧ Kd.C (Kd.slice 5 (Kd.int .u8)) w1 A0 L.length L := ⟨_, rfl⟩
  have sF : Stays F := hF ▸ ((stays_below w).and (stays_reads _ _ _ _)).and (stays_reads _ _ _ _)
  have e0 : F w := by rw [hF]; exact ⟨⟨Below.refl _ _, hr3⟩, hr0⟩
  have E0 := Aside0.mk e0
  have SF := Aside0.mk sF
  have FB : ∀ w1, F w1 → (Below w.heap.size w w1 ∧ Kd.C (Kd.int .u8) w1 A3 bs.length bs) ∧ Kd.C (Kd.slice 5 (Kd.int .u8)) w1 A0 L.length L := fun w1 h => by rw [hF] at h; exact h
  have FF := Aside0.mk FB
  have HC0 := Aside0.mk hc0
  have T := Aside0.mk hT
  have HBO := Aside0.mk hbo
  clear hF sF e0 FB hr0 hc0 hr3 hT hbo
  cases bo with
  | false =>
    go_enter Try.func4, Try.ntmps4
    go_wp2_with (first
      | (go_at_call 19; (refine (awake_at _).mono ?_); rintro e w1 ⟨rfl, hb⟩; have E1 := Aside0.mk (SF.out _ _ E0.out hb); clear hb)
      | (go_at_call 20; (refine (texts06_at _ A0 c0 L k r false (FF.out _ E1.out).2 HC0.out T.out).mono ?_); rintro e w2 ⟨AW, cW, rfl, hcW, hW, hb⟩; have E2 := Aside0.mk (SF.out _ _ E1.out hb); clear hW hcW hb))
    go_ret
    exact ⟨rfl, (FF.out _ E2.out).1.1⟩
  | true =>
  obtain ⟨hrm, l12, l40⟩ := HBO.out rfl
  subst hrm
  by_cases g0 : (bs.length : Int) > 60
  · have g0b : decide ((bs.length : Int) > 60) = true := decide_eq_true g0
    go_enter Try.func4, Try.ntmps4
    go_wp2_with (first
      | (go_at_call 19; (refine (awake_at _).mono ?_); rintro e w1 ⟨rfl, hb⟩; have E1 := Aside0.mk (SF.out _ _ E0.out hb); clear hb)
      | (go_at_call 20; (refine (texts06_at _ A0 c0 L k _ true (FF.out _ E1.out).2 HC0.out T.out).mono ?_); rintro e w2 ⟨AW, cW, rfl, hcW, hW, hb⟩; have E2 := Aside0.mk (SF.out _ _ E1.out hb); clear hW hcW hb))
    go_ret
    exact ⟨rfl, (FF.out _ E2.out).1.1⟩
  have g0b : decide ((bs.length : Int) > 60) = false := decide_eq_false g0
  have hPl := paths_len l12 l40
  have hPB := pathsL_bytes hB
  have hPS := paths_short l40
  have hG := pathsL_good L
  obtain ⟨P, hP⟩ : ∃ P, P = pathsL L := ⟨_, rfl⟩
  rw [← hP] at hPl hPB hPS hG
  have L40 := Aside0.mk l40
  have HPB := Aside0.mk hPB
  have HPS := Aside0.mk hPS
  have HG := Aside0.mk hG
  have HB := Aside0.mk hB
  have HP := Aside0.mk hP
  have HBS := Aside0.mk hbs
  clear l40 hPB hPS hG hB hP hbs
  have up := fun (x : Txt) (hx : x ∈ L) => Nat.le_trans (L40.out x hx) (show 40 ≤ 1000 by decide)
  have UP := Aside0.mk up
  clear up
  go_enter Try.func4, Try.ntmps4
  go_upto_region 10 with (first
      | (go_at_call 19; (refine (awake_at _).mono ?_); rintro e w1 ⟨rfl, hb⟩; have E1 := Aside0.mk (SF.out _ _ E0.out hb); clear hb)
      | (go_at_call 20; (refine (texts06_ok _ A0 c0 L k (FF.out _ E1.out).2 HC0.out T.out).mono ?_); rintro e w2 ⟨AW, cW, rfl, hcW, hW, hb⟩; have E2 := Aside0.mk (SF.out _ _ E1.out hb); have HW := Aside0.mk hW; have HCW := Aside0.mk hcW; clear hW hcW hb)
      | (go_at_call 21; (refine (build_to _ A0 c0 L P HP.out (FF.out _ E2.out).2 HB.out (by omega) UP.out).mono ?_); rintro e w3 ⟨b, base, rfl, ht, hb⟩; have E3 := Aside0.mk (SF.out _ _ E2.out hb); have HW3 := Aside0.mk (Kd.C_below HW.out hb); have HT := Aside0.mk ht; clear ht hb)
      | (go_at_call 22; (refine (paths06_to _ AW cW L P HP.out HB.out (by omega) UP.out HW3.out HCW.out).mono ?_); rintro e w4 ⟨AP, cP, rfl, hcP, hC, hb⟩; have E4 := Aside0.mk (SF.out _ _ E3.out hb); have HT4 := Aside0.mk (HT.out.below hb); have HCP := Aside0.mk hcP; have HQ := Aside0.mk hC; clear hcP hC hb))
  obtain ⟨G, SG, G4, GG⟩ := stays_pack (((stays_below w).and (stays_reads (Kd.int .u8) A3 bs.length bs)).and ((stays_tree base b P (place L)).and (stays_reads Kd.string AP P.length (P.map strOfNums)))) ⟨⟨(FF.out _ E4.out).1.1, (FF.out _ E4.out).1.2⟩, HT4.out, HQ.out⟩
  have cvb := fun (w1 : World) (h : G w1) => text_of (c := c3) (GG.out w1 h).1.2
  have CVB := Aside0.mk cvb
  clear cvb
  have hbl2 : bs.length ≤ 4611686018427387904 := by omega
  have hpl2 : P.length ≤ 4611686018427387904 := by omega
  obtain ⟨tt, hto, hno, hstep⟩ : ∃ tt : Int, Aside0 (∀ (i : Nat) (s : Txt), n = (i : Int) → P[i]? = some s → tt = place P (s ++ [c])) ∧ Aside0 (¬ (0 ≤ n ∧ n < P.length) → tt = -1) ∧ Aside0 (∀ w1, TreeAt w1 base b P (place L) → Calls Try.prog 31 #[.pointer (some ⟨b, 0, none⟩), .int .i64 n, .int .u8 c] w1 fun e w' => e = .returned (.int .i64 tt) ∧ w' = w1) := by
    by_cases hin : 0 ≤ n ∧ n < P.length
    · obtain ⟨i, rfl⟩ : ∃ i : Nat, n = (i : Int) := ⟨n.toNat, by omega⟩
      obtain ⟨s, hs⟩ : ∃ s, P[i]? = some s := ⟨_, List.getElem?_eq_getElem (by omega)⟩
      refine ⟨place P (s ++ [c]), ⟨fun j s' hj hs' => ?_⟩, ⟨fun h => absurd hin h⟩, ⟨fun w1 h => step_at h hpl2 i s hs c h20 h21⟩⟩
      obtain rfl : i = j := by omega
      rw [hs] at hs'
      cases hs'
      rfl
    · refine ⟨-1, ⟨fun j s' hj hs' => ?_⟩, ⟨fun _ => rfl⟩, ⟨fun w1 h => step_no h n (by omega) c⟩⟩
      have := (List.getElem?_eq_some_iff.1 hs').1
      omega
  have HSTEP := hstep
  have HNO := hno
  clear hstep hno
  go_cut [41] from 15 (fun v w' => v = .bool (decide (0 ≤ n ∧ n < P.length)) ∧ w' = w4)
  case first =>
    by_cases hn0 : 0 ≤ n
    · by_cases hn1 : n < (P.length : Int)
      · go_wp2
        go_meet
        case rel => exact ⟨by simp [hn0, hn1], rfl⟩
      · go_wp2
        go_meet
        case rel => exact ⟨by simp [hn1], rfl⟩
    · go_wp2
      go_meet
      case rel => exact ⟨by rw [decide_eq_false (by omega)], rfl⟩
  case rest =>
    obtain ⟨rfl, rfl⟩ := hcut
    go_upto_if 41 with (fail)
    go_cut [14] from 15 (fun v w' => v = .int .i64 tt ∧ Aside0 (G w'))
    case first =>
      by_cases hin : 0 ≤ n ∧ n < P.length
      · have hd : decide (0 ≤ n ∧ n < P.length) = true := decide_eq_true hin
        obtain ⟨i, rfl⟩ : ∃ i : Nat, n = (i : Int) := ⟨n.toNat, by omega⟩
        obtain ⟨s, hs⟩ : ∃ s, P[i]? = some s := ⟨_, List.getElem?_eq_getElem (by omega)⟩
        have hsm := List.mem_of_getElem? hs
        have hs40 := HPS.out s hsm
        have hsB := HPB.out s hsm
        have ht := hto.out i s rfl hs
        subst ht
        obtain ⟨ad, rfl, hcell⟩ := str_at HQ.out hs
        have hsc : Bytes (s ++ [c]) := by
          intro x hx
          rcases List.mem_append.1 hx with h0 | h0
          · exact hsB x h0
          · simp at h0; subst h0; omega
        have HSC := Aside0.mk hsc
        clear hsm hsB hsc hs
        have hsz : (strOfNums s).size + (strOfNums [c]).size ≤ 9223372036854775807 := by rw [size_str, size_str, List.length_singleton]; omega
        have hcA : ∀ o, (wc.alloc o).cell? (ad.add i) = some (.string (strOfNums s)) := fun o => ((below_alloc (Below.refl wc.heap.size wc) o).cell (World.block_lt_of_cell? wc _ hcell)).trans hcell
        have hcB : ∀ o, (wc.alloc o).drew.cell? (ad.add i) = some (.string (strOfNums s)) := hcA
        have hcC : ∀ o, (wc.drew.alloc o).cell? (ad.add i) = some (.string (strOfNums s)) := hcA
        have hcD : wc.drew.cell? (ad.add i) = some (.string (strOfNums s)) := hcell
        have kc := conv_one
        have kd := conv_drew
        have k1 : (0 : Int) ≤ (i : Int) := by omega
        have k2 : (i : Int) < (P.length : Int) := by omega
        go_upto_region 11 with (fail)
        go_region_with (go_at_call 24; (refine (place06_at _ _ cP P (s ++ [c]) _ (append_str s [c]) HPB.out HSC.out hpl2 (Kd.C_drew (Kd.C_alloc HQ.out (.cells #[.int .u8 c] 5))) HCP.out).mono ?_); rintro e w5 ⟨rfl, hb⟩; have hb2 := below_step (below_drew1 (below_alloc (Below.refl wc.heap.size wc) (.cells #[.int .u8 c] 5))) hb; have G5 := Aside0.mk (SG.out _ _ G4.out hb2); clear hb hb2)
        all_goals go_wp2
        all_goals go_meet
        all_goals exact ⟨rfl, G5⟩
      · have hd : decide (0 ≤ n ∧ n < P.length) = false := decide_eq_false hin
        have ht := HNO.out hin
        subst ht
        go_wp2
        go_meet
        case rel => exact ⟨rfl, G4⟩
    case rest =>
      obtain ⟨rfl, G5⟩ := hcut
      have cvb := CVB.out _ G5.out
      have cvd := CVB.out _ (stays_drew SG.out G5.out)
      go_upto_region 12 with (fail)
      go_region_with (first
        | (go_at_call 31; (refine (HSTEP.out _ (GG.out _ (by first | exact G5.out | exact stays_drew SG.out G5.out)).2.1).mono ?_); rintro e w6 ⟨rfl, hw⟩; subst hw)
        | (go_at_call 32; (refine (find_at HG.out (GG.out _ (by first | exact G5.out | exact stays_drew SG.out G5.out)).2.1 hpl2 A3 c3 bs (GG.out _ (by first | exact G5.out | exact stays_drew SG.out G5.out)).1.2 HBS.out hbl2).mono ?_); rintro e w7 ⟨rfl, hw⟩; subst hw)
        | (go_at_call 24; (refine (place06_at _ _ cP P bs _ rfl HPB.out HBS.out hpl2 (GG.out _ (by first | exact G5.out | exact stays_drew SG.out G5.out)).2.2 HCP.out).mono ?_); rintro e w8 ⟨rfl, hb⟩; have G8 := Aside0.mk (SG.out _ _ (stays_drew SG.out G5.out) hb); clear hb))
      all_goals go_wp2
      all_goals go_ret
      all_goals refine ⟨?_, (GG.out _ G8.out).1.1⟩
      all_goals first | (go_simp; done) | (go_simp; rfl) | rfl
end Go.Proofs.Ytifbcboefopioaa.Tri
