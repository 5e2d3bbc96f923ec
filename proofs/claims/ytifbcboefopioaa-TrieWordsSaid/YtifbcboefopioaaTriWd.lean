/- By hand: the law TrieWords, walked whole. No condition. -/
import Derived.Test.YtifbcboefopioaaTriL
import Derived.Test.YtifbcboefopioaaTriCount
set_option linter.unusedVariables false
namespace Go.Proofs.Ytifbcboefopioaa.Tri
open Go.RowKit Go.Maps Go.Proofs.YtifbcboefopioaaW.PrintWords Go.Proofs.YtifbcboefopioaaW.PrintLast Go.Proofs.YtifbcboefopioaaW.PrintMore Go.Proofs.Ytifbcboefopioaa.Kit Go.Proofs.Ytifbcboefopioaa.All
attribute [local go_sem] max2_int min2_int max_two min_two max_three min_three max_four min_four

set_option maxHeartbeats 4000000 in
theorem words_law (A0 : Option Addr) (c0 : Nat) (L : List Txt) (w : World)
    (hr0 : Kd.C (Kd.slice 5 (Kd.int .u8)) w A0 L.length L) (hc0 : L.length ≤ c0) (hB : ∀ s ∈ L, Bytes s) (hL : L.length ≤ 8000000000000) :
    Calls Try.prog 6 #[.slice A0 L.length c0] w fun e w' => e = .returned (.bool true) ∧ Below w.heap.size w w' := by
  obtain ⟨k, r, bo, hT, hbo⟩ := texts06_two L (by omega)
  obtain ⟨F, SF, E0, FF⟩ := stays_pack ((stays_below w).and (stays_reads (Kd.slice 5 (Kd.int .u8)) A0 L.length L)) ⟨Below.refl _ _, hr0⟩
  have HC0 := Aside0.mk hc0
  have T := Aside0.mk hT
  have HBO := Aside0.mk hbo
  clear hr0 hc0 hT hbo
  cases bo with
  | false =>
    go_enter Try.func6, Try.ntmps6
    go_wp2_with (first
      | (go_at_call 19; (refine (awake_at _).mono ?_); rintro e w1 ⟨rfl, hb⟩; have E1 := Aside0.mk (SF.out _ _ E0.out hb); clear hb)
      | (go_at_call 20; (refine (texts06_at _ A0 c0 L k r false (FF.out _ E1.out).2 HC0.out T.out).mono ?_); rintro e w2 ⟨AW, cW, rfl, hcW, hW, hb⟩; have E2 := Aside0.mk (SF.out _ _ E1.out hb); clear hW hcW hb))
    go_ret
    exact ⟨rfl, (FF.out _ E2.out).1⟩
  | true =>
  obtain ⟨hrm, l12, l40⟩ := HBO.out rfl
  subst hrm
  clear HBO
  have hPl := paths_len l12 l40
  have hPB := pathsL_bytes hB
  have hPS := paths_short l40
  have hG := pathsL_good L
  have hPm := pathsL_mem L
  obtain ⟨P, hP⟩ : ∃ P, P = pathsL L := ⟨_, rfl⟩
  rw [← hP] at hPl hPB hPS hG hPm
  have L40 := Aside0.mk l40
  have HPB := Aside0.mk hPB
  have HPS := Aside0.mk hPS
  have HPM := Aside0.mk hPm
  have HG := Aside0.mk hG
  have HB := Aside0.mk hB
  have HP := Aside0.mk hP
  clear l40 hPB hPS hG hB hP hPm
  have up := fun (x : Txt) (hx : x ∈ L) => Nat.le_trans (L40.out x hx) (show 40 ≤ 1000 by decide)
  have UP := Aside0.mk up
  clear up
  have hpl2 : P.length ≤ 4611686018427387904 := by omega
  go_enter Try.func6, Try.ntmps6
  go_upto_region 8 with (first
      | (go_at_call 19; (refine (awake_at _).mono ?_); rintro e w1 ⟨rfl, hb⟩; have E1 := Aside0.mk (SF.out _ _ E0.out hb); clear hb)
      | (go_at_call 20; (refine (texts06_ok _ A0 c0 L k (FF.out _ E1.out).2 HC0.out T.out).mono ?_); rintro e w2 ⟨AW, cW, rfl, hcW, hW, hb⟩; have E2 := Aside0.mk (SF.out _ _ E1.out hb); have HW := Aside0.mk hW; have HCW := Aside0.mk hcW; clear hW hcW hb)
      | (go_at_call 21; (refine (build_to _ A0 c0 L P HP.out (FF.out _ E2.out).2 HB.out (by omega) UP.out).mono ?_); rintro e w3 ⟨b, base, rfl, ht, hb⟩; have E3 := Aside0.mk (SF.out _ _ E2.out hb); have HW3 := Aside0.mk (Kd.C_below HW.out hb); have HT := Aside0.mk ht; clear ht hb))
  obtain ⟨G, SG, G3, GG⟩ := stays_pack (((stays_below w).and (stays_reads (Kd.slice 5 (Kd.int .u8)) A0 L.length L)).and ((stays_tree base b P (place L)).and (stays_reads Kd.string AW L.length (L.map strOfNums)))) ⟨FF.out _ E3.out, HT.out, HW3.out⟩
  have p0 := HG.out.pos
  have CS := Aside0.mk (count_same HG.out.nodup HPM.out)
  clear E0 E1 E2 E3 HT HW HW3
  go_wp2
  go_loopw [7, 8] (fun v7 v8 w' => ∃ i : Nat, v7 = .int .i64 ((firsts L i).length : Nat) ∧ v8 = .int .i64 i ∧ i ≤ L.length ∧ Aside0 (G w')) (fun _ v8 _ => L.length - (intOf v8).toNat)
  case atStart => exact ⟨0, rfl, rfl, Nat.zero_le _, G3⟩
  case round =>
    obtain ⟨i, rfl, rfl, hi, G4⟩ := hrel
    by_cases hlt : i < L.length
    · have k1 : ((i : Nat) : Int) < (L.length : Int) := by omega
      have k0 : (0 : Int) ≤ (i : Int) := by omega
      obtain ⟨s, hs⟩ : ∃ s, L[i]? = some s := ⟨_, List.getElem?_eq_getElem hlt⟩
      have hsm := List.mem_of_getElem? hs
      have hsB := HB.out s hsm
      have hs40 := L40.out s hsm
      have hrs : rd_L1 L (i : Int) = s := by simp [rd_L1, List.getD_eq_getElem?_getD, hs]
      obtain ⟨ad0, A', c', rfl, hx0, hc', hC'⟩ := at_L1 (GG.out _ G4.out).1.2 (i : Int) k0 k1
      rw [hrs, Int.toNat_natCast] at hx0
      rw [hrs] at hC' hc'
      obtain ⟨adW, rfl, hxW⟩ := str_at (GG.out _ G4.out).2.2 hs
      obtain ⟨m, hm⟩ := List.mem_iff_getElem?.1 (HPM.out s hsm)
      have hpm := place_at HG.out.nodup hm
      have FN : Aside0 (Calls Try.prog 32 #[.pointer (some ⟨b, 0, none⟩), .slice A' s.length c'] wr fun e w' => e = .returned (.int .i64 m) ∧ w' = wr) := ⟨by
        have := find_at HG.out (GG.out _ G4.out).2.1 hpl2 A' c' s hC' hsB (by omega)
        rwa [hpm] at this⟩
      obtain ⟨q, hq⟩ : ∃ q, place L s = q := ⟨_, rfl⟩
      have PL : Aside0 (Calls Try.prog 24 #[.slice (some adW) L.length cW, .string (strOfNums s)] wr fun e w' => e = .returned (.int .i64 q) ∧ Below wr.heap.size wr w') := ⟨by
        have := place06_at wr (some adW) cW L s _ rfl HB.out hsB (by omega) (GG.out _ G4.out).2.2 HCW.out
        rwa [hq] at this⟩
      have WD : Aside0 (∀ w1, G w1 → Calls Try.prog 28 #[.pointer (some ⟨b, 0, none⟩), .int .i64 m] w1 fun e w' => e = .returned (.int .i64 q) ∧ w' = w1) := ⟨fun w1 h => by
        have := word_at (GG.out w1 h).2.1 m s hm
        rwa [hq] at this⟩
      have m0 : ¬ (m : Int) < 0 := by omega
      have wi : IntKind.i64.wrap ((i : Int) + 1) = (i : Int) + 1 := IntWalk.i64_in _ (by omega)
      have fl := firsts_len L i
      have wf : IntKind.i64.wrap (((firsts L i).length : Int) + 1) = ((firsts L i).length : Int) + 1 := IntWalk.i64_in _ (by omega)
      have fn := firsts_next hs
      rw [hq] at fn
      have FNX := Aside0.mk fn
      clear hs hsm hsB hrs hc' hC' hm hpm fn hq
      by_cases hqi : q = (i : Int)
      · subst hqi
        rw [if_pos rfl] at FNX
        go_wp2_with (first
          | (go_at_call 32; (with_reducible refine FN.out.mono ?_); rintro e w5 ⟨rfl, hw⟩; subst hw)
          | (go_at_call 24; (with_reducible refine PL.out.mono ?_); rintro e w6 ⟨rfl, hb⟩; have G6 := Aside0.mk (SG.out _ _ G4.out hb); clear hb)
          | (go_at_call 28; (with_reducible refine (WD.out _ G6.out).mono ?_); rintro e w7 ⟨rfl, hw⟩; subst hw))
        go_roundw
        case rel => exact ⟨i + 1, by rw [FNX.out, List.length_append]; rfl, by go_num, by omega, G6⟩
        case measure => simp [intOf]; omega
      · rw [if_neg hqi, List.append_nil] at FNX
        have q1 : (q == (i : Int)) = false := beq_eq_false_iff_ne.2 hqi
        have q2 : decide (q = (i : Int)) = false := decide_eq_false hqi
        go_wp2_with (first
          | (go_at_call 32; (with_reducible refine FN.out.mono ?_); rintro e w5 ⟨rfl, hw⟩; subst hw)
          | (go_at_call 24; (with_reducible refine PL.out.mono ?_); rintro e w6 ⟨rfl, hb⟩; have G6 := Aside0.mk (SG.out _ _ G4.out hb); clear hb)
          | (go_at_call 28; (with_reducible refine (WD.out _ G6.out).mono ?_); rintro e w7 ⟨rfl, hw⟩; subst hw))
        go_roundw
        case rel => exact ⟨i + 1, by rw [FNX.out], by go_num, by omega, G6⟩
        case measure => simp [intOf]; omega
    · obtain rfl : i = L.length := by omega
      have k1 : ¬ ((L.length : Nat) : Int) < (L.length : Int) := by omega
      go_wp2
      go_loopw [11, 12] (fun v11 v12 w' => ∃ i : Nat, v11 = .int .i64 ((wordsP L P i).length : Nat) ∧ v12 = .int .i64 i ∧ i ≤ P.length ∧ w' = wr) (fun _ v12 _ => P.length - (intOf v12).toNat)
      case atStart => exact ⟨0, rfl, rfl, Nat.zero_le _, rfl⟩
      case round =>
        obtain ⟨i, rfl, rfl, hi2, rfl⟩ := hrel
        have ND := Aside0.mk (nodes_at (GG.out _ G4.out).2.1)
        by_cases hlt2 : i < P.length
        · have k2 : ((i : Nat) : Int) < (P.length : Int) := by omega
          obtain ⟨s, hs⟩ : ∃ s, P[i]? = some s := ⟨_, List.getElem?_eq_getElem hlt2⟩
          have WD := Aside0.mk (word_at (GG.out _ G4.out).2.1 i s hs)
          have wl := wordsP_len L P i
          have wi : IntKind.i64.wrap ((i : Int) + 1) = (i : Int) + 1 := IntWalk.i64_in _ (by omega)
          have wf : IntKind.i64.wrap (((wordsP L P i).length : Int) + 1) = ((wordsP L P i).length : Int) + 1 := IntWalk.i64_in _ (by omega)
          have wn := wordsP_next (L := L) hs
          obtain ⟨q, hq⟩ : ∃ q, place L s = q := ⟨_, rfl⟩
          rw [hq] at wn WD
          have WN := Aside0.mk wn
          clear wn hs hq
          by_cases h0 : 0 ≤ q
          · rw [if_pos h0] at WN
            go_wp2_with (first
              | (go_at_call 23; (with_reducible refine ND.out.mono ?_); rintro e w5 ⟨rfl, hw⟩; subst hw)
              | (go_at_call 28; (with_reducible refine WD.out.mono ?_); rintro e w5 ⟨rfl, hw⟩; subst hw))
            go_roundw
            case rel => exact ⟨i + 1, by rw [WN.out, List.length_append]; rfl, by go_num, by omega, trivial⟩
            case measure => simp [intOf]; omega
          · rw [if_neg h0, List.append_nil] at WN
            go_wp2_with (first
              | (go_at_call 23; (with_reducible refine ND.out.mono ?_); rintro e w5 ⟨rfl, hw⟩; subst hw)
              | (go_at_call 28; (with_reducible refine WD.out.mono ?_); rintro e w5 ⟨rfl, hw⟩; subst hw))
            go_roundw
            case rel => exact ⟨i + 1, by rw [WN.out], by go_num, by omega, trivial⟩
            case measure => simp [intOf]; omega
        · obtain rfl : i = P.length := by omega
          have k2 : ¬ ((P.length : Nat) : Int) < (P.length : Int) := by omega
          go_wp2_with (go_at_call 23; (with_reducible refine ND.out.mono ?_); rintro e w5 ⟨rfl, hw⟩; subst hw)
          go_ret
          exact ⟨by rw [CS.out]; simp, (GG.out _ G4.out).1.1⟩
end Go.Proofs.Ytifbcboefopioaa.Tri
