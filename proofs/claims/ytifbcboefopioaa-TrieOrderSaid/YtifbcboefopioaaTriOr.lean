/- By hand: the law TrieOrder, walked whole. No condition. -/
import Derived.Test.YtifbcboefopioaaTriL
import Derived.Test.YtifbcboefopioaaTriOrd
set_option linter.unusedSimpArgs false
set_option linter.unusedVariables false
namespace Go.Proofs.Ytifbcboefopioaa.Tri
open Go.RowKit Go.Maps Go.Proofs.YtifbcboefopioaaW.PrintWords Go.Proofs.YtifbcboefopioaaW.PrintLast Go.Proofs.YtifbcboefopioaaW.PrintMore Go.Proofs.Ytifbcboefopioaa.Kit Go.Proofs.Ytifbcboefopioaa.All
attribute [local go_sem] max2_int min2_int max_two min_two max_three min_three max_four min_four

set_option maxRecDepth 100000 in
set_option maxHeartbeats 12000000 in
theorem order_law (A0 : Option Addr) (c0 : Nat) (L : List Txt) (tn : Int) (A2 : Option Addr) (c2 : Nat) (bs : Txt) (w : World)
    (hr0 : Kd.C (Kd.slice 5 (Kd.int .u8)) w A0 L.length L) (hc0 : L.length ≤ c0) (hB : ∀ s ∈ L, Bytes s) (hL : L.length ≤ 8000000000000) (h10 : 0 ≤ tn) (h11 : tn ≤ 255)
    (hr2 : Kd.C (Kd.int .u8) w A2 bs.length bs) (hc2 : bs.length ≤ c2) (hbs : Bytes bs) (hbl : bs.length ≤ 140737488351232) :
    Calls Try.prog 7 #[.slice A0 L.length c0, .int .u8 tn, .slice A2 bs.length c2] w fun e w' => e = .returned (.bool true) ∧ Below w.heap.size w w' := by
  obtain ⟨k, r, bo, hT, hbo⟩ := texts06_two L (by omega)
  obtain ⟨F, SF, E0, FF⟩ := stays_pack ((stays_below w).and ((stays_reads (Kd.int .u8) A2 bs.length bs).and (stays_reads (Kd.slice 5 (Kd.int .u8)) A0 L.length L))) ⟨Below.refl _ _, hr2, hr0⟩
  have HC0 := Aside0.mk hc0
  have T := Aside0.mk hT
  have HBO := Aside0.mk hbo
  have HBS := Aside0.mk hbs
  clear hr0 hc0 hT hbo hr2 hbs
  cases bo with
  | false =>
    go_enter Try.func7, Try.ntmps7
    go_wp2_with (first | (go_at_call 19; (refine (awake_at _).mono ?_); rintro e w1 ⟨rfl, hb⟩; have E1 := Aside0.mk (SF.out _ _ E0.out hb); clear hb) | (go_at_call 20; (refine (texts06_at _ A0 c0 L k r false (FF.out _ E1.out).2.2 HC0.out T.out).mono ?_); rintro e w2 ⟨AW, cW, rfl, hcW, hW, hb⟩; have E2 := Aside0.mk (SF.out _ _ E1.out hb); clear hW hcW hb))
    go_ret
    exact ⟨rfl, (FF.out _ E2.out).1⟩
  | true =>
  obtain ⟨hrm, l12, l40⟩ := HBO.out rfl
  clear hrm HBO
  by_cases g0 : L.length = 0
  · have g0b : ((L.length : Int) == 0) = true := beq_iff_eq.2 (by omega)
    clear g0 l40
    go_enter Try.func7, Try.ntmps7
    go_wp2_with (first | (go_at_call 19; (refine (awake_at _).mono ?_); rintro e w1 ⟨rfl, hb⟩; have E1 := Aside0.mk (SF.out _ _ E0.out hb); clear hb) | (go_at_call 20; (refine (texts06_at _ A0 c0 L k r true (FF.out _ E1.out).2.2 HC0.out T.out).mono ?_); rintro e w2 ⟨AW, cW, rfl, hcW, hW, hb⟩; have E2 := Aside0.mk (SF.out _ _ E1.out hb); clear hW hcW hb))
    go_ret
    exact ⟨rfl, (FF.out _ E2.out).1⟩
  have g0b : ((L.length : Int) == 0) = false := beq_eq_false_iff_ne.2 (by omega)
  by_cases g1 : (bs.length : Int) > 60
  · have g1b : decide ((bs.length : Int) > 60) = true := decide_eq_true g1
    clear l40
    go_enter Try.func7, Try.ntmps7
    go_wp2_with (first | (go_at_call 19; (refine (awake_at _).mono ?_); rintro e w1 ⟨rfl, hb⟩; have E1 := Aside0.mk (SF.out _ _ E0.out hb); clear hb) | (go_at_call 20; (refine (texts06_at _ A0 c0 L k r true (FF.out _ E1.out).2.2 HC0.out T.out).mono ?_); rintro e w2 ⟨AW, cW, rfl, hcW, hW, hb⟩; have E2 := Aside0.mk (SF.out _ _ E1.out hb); clear hW hcW hb))
    go_ret
    exact ⟨rfl, (FF.out _ E2.out).1⟩
  have g1b : decide ((bs.length : Int) > 60) = false := decide_eq_false g1
  obtain ⟨tm, rfl⟩ : ∃ tm : Nat, tn = (tm : Int) := ⟨tn.toNat, by omega⟩
  have hpos : 0 < L.length := by omega
  obtain ⟨s0, hs0⟩ : ∃ s, L[0]? = some s := ⟨_, List.getElem?_eq_getElem hpos⟩
  have hsame := order_mem tm hs0
  obtain ⟨O, hO⟩ : ∃ O, O = turned L tm L.length ++ [s0] := ⟨_, rfl⟩
  rw [← hO] at hsame
  have o13 : O.length ≤ 13 := by rw [hO, List.length_append, turned_len]; simp; omega
  have o40 : ∀ s ∈ O, s.length ≤ 40 := fun s hs => l40 s ((hsame s).2 hs)
  have hBO : ∀ s ∈ O, Bytes s := fun s hs => hB s ((hsame s).2 hs)
  have hPl := paths_len l12 l40
  have hPS := paths_short l40
  have hG := pathsL_good L
  have hG2 := pathsL_good O
  have hlen := paths_len_same hsame
  have hps := paths_same hsame
  obtain ⟨P, hP⟩ : ∃ P, P = pathsL L := ⟨_, rfl⟩
  obtain ⟨Q, hQ⟩ : ∃ Q, Q = pathsL O := ⟨_, rfl⟩
  rw [← hP] at hPl hPS hG hlen hps
  rw [← hQ] at hG2 hlen hps
  have up := fun (x : Txt) (hx : x ∈ L) => Nat.le_trans (l40 x hx) (show 40 ≤ 1000 by decide)
  have upO := fun (x : Txt) (hx : x ∈ O) => Nat.le_trans (o40 x hx) (show 40 ≤ 1000 by decide)
  have hql : Q.length ≤ 481 := by omega
  have UP := Aside0.mk up
  have UPO := Aside0.mk upO
  have HPS := Aside0.mk hPS
  have HG := Aside0.mk hG
  have HG2 := Aside0.mk hG2
  have HBL := Aside0.mk hB
  have HBQ := Aside0.mk hBO
  have HP := Aside0.mk hP
  have HQ := Aside0.mk hQ
  have HOO := Aside0.mk hO
  have HSM := Aside0.mk hsame
  have HLN := Aside0.mk hlen.symm
  have HPQ := Aside0.mk hps
  have HS0 := Aside0.mk hs0
  clear up upO hPS hG hG2 hB hBO hP hQ hO hsame hlen hps hs0 l40 o40 g0 g1
  have hpl2 : P.length ≤ 4611686018427387904 := by omega
  have hql2 : Q.length ≤ 4611686018427387904 := by omega
  have hbl2 : bs.length ≤ 4611686018427387904 := by omega
  go_enter Try.func7, Try.ntmps7
  go_upto_region 8 with (first | (go_at_call 19; (refine (awake_at _).mono ?_); rintro e w1 ⟨rfl, hb⟩; have E1 := Aside0.mk (SF.out _ _ E0.out hb); clear hb) | (go_at_call 20; (refine (texts06_at _ A0 c0 L k r true (FF.out _ E1.out).2.2 HC0.out T.out).mono ?_); rintro e w2 ⟨AW, cW, rfl, hcW, hW, hb⟩; have E2 := Aside0.mk (SF.out _ _ E1.out hb); clear hW hcW hb))
  go_wp2
  go_loopw [10, 11] (fun v10 v11 w' => ∃ (i : Nat) (us : List Value), v11 = .int .i64 i ∧ i ≤ L.length ∧ us.length = i ∧ Aside0 (Kd.R (Kd.raw 1) 32 w' w2.heap.size (fun _ => True) v10 (us.map fun x => [x])) ∧ Aside0 (RowsOf w2 us (turned L tm i)) ∧ Aside0 (Below w2.heap.size w2 w')) (fun _ v11 _ => L.length - (intOf v11).toNat)
  case atStart => exact ⟨0, [], rfl, Nat.zero_le _, rfl, ⟨Kd.R_nil _ _ _ _ _⟩, ⟨⟨rfl, fun j x hj => by simp [turned] at hj⟩⟩, ⟨Below.refl _ _⟩⟩
  case round =>
    obtain ⟨i, us, rfl, hi, hus, HX, HU, HB1⟩ := hrel
    have EF := FF.out _ E2.out
    have hrows := (FF.out _ (SF.out _ _ E2.out HB1.out)).2.2
    by_cases hlt : i < L.length
    · have k1 : ((i : Nat) : Int) < (L.length : Int) := by omega
      obtain ⟨j, hj⟩ : ∃ j, (i + tm) % L.length = j := ⟨_, rfl⟩
      have hjl : j < L.length := by rw [← hj]; exact Nat.mod_lt _ hpos
      obtain ⟨s, hs⟩ : ∃ s, L[j]? = some s := ⟨_, List.getElem?_eq_getElem hjl⟩
      have hrs : rd_L1 L (j : Int) = s := by simp [rd_L1, List.getD_eq_getElem?_getD, hs]
      obtain ⟨ad0, A', c', rfl, hx0, hc', hC'⟩ := at_L1 EF.2.2 (j : Int) (by omega) (by omega)
      rw [hrs, Int.toNat_natCast] at hx0
      rw [hrs] at hC' hc'
      replace hx0 := (HB1.out.cell (World.block_lt_of_cell? w2 _ hx0)).trans hx0
      have hnx := turned_next L tm i (by rw [hj]; exact hs)
      have HU2 : Aside0 (RowsOf w2 (us ++ [.slice A' s.length c']) (turned L tm (i + 1))) := ⟨by rw [hnx]; exact HU.out.append (RowsOf.one hc' hC')⟩
      have hj0 : (0 : Int) ≤ (j : Int) := by omega
      have hj1 : (j : Int) < (L.length : Int) := by omega
      have hne : ¬ (L.length : Int) = 0 := by omega
      have wt : IntKind.i64.wrap (tm : Int) = (tm : Int) := IntWalk.i64_in _ (by omega)
      have ws : IntKind.i64.wrap ((i : Int) + (tm : Int)) = (i : Int) + (tm : Int) := IntWalk.i64_in _ (by omega)
      have wm : ((i : Int) + (tm : Int)).tmod (L.length : Int) = (j : Int) := by
        rw [Int.tmod_eq_emod_of_nonneg (by omega), ← hj, Int.natCast_emod, Int.natCast_add]
      have wj : IntKind.i64.wrap (j : Int) = (j : Int) := IntWalk.i64_in _ (by omega)
      have wk : IntKind.i64.wrap ((i : Int) + 1) = (i : Int) + 1 := IntWalk.i64_in _ (by omega)
      clear hs hrs hc' hC' hnx hj EF hrows hjl
      go_wp2_with (((with_reducible refine gate_builtin (b := .append) (xs := #[.tmp 43, .tmp 54]) rfl ?_); at_builtin; refine Kd.R_append (Kd.raw 1) (w0 := w2) w2.heap.size rfl (.tmp 43) (.tmp 54) 22 32 (.slice none 0 0) 24 rfl Try.underlying22 info32 rfl (by decide) (by decide) u10 (us.map fun x => [x]) [.slice A' s.length c'] [.slice A' s.length c'] (fun _ => True) (fun _ => False) rfl rfl ?aP (fun _ hk => hk.elim) ?aF ?aO ?aB ?aS ?aL ?_; (case aP => exact ⟨rfl, rfl, by simp [Value.oneCell']⟩); (case aB => exact HB1.out); (case aF => exact (fun _ _ => trivial)); (case aO => exact HX.out); (case aS => exact below_size HB1.out); (case aL => simp; omega); intro v3 w3 ho hb hg hat; have HX3 := Aside0.mk ho; have HB3 := Aside0.mk hb; clear ho hb hg hat))
      go_roundw
      case rel => exact ⟨i + 1, us ++ [.slice A' s.length c'], by go_num, by omega, by simp [hus], ⟨by rw [List.map_append]; exact HX3.out⟩, HU2, HB3⟩
      case measure => simp [intOf]; omega
    · obtain rfl : i = L.length := by omega
      have k1 : ¬ ((L.length : Nat) : Int) < (L.length : Int) := by omega
      have hrs : rd_L1 L (0 : Int) = s0 := by
        have := HS0.out
        simp [rd_L1, List.getD_eq_getElem?_getD, this]
      obtain ⟨ad0, A', c', rfl, hx0, hc', hC'⟩ := at_L1 EF.2.2 (0 : Int) (by omega) (by omega)
      rw [hrs] at hx0 hC' hc'
      replace hx0 := (HB1.out.cell (World.block_lt_of_cell? w2 _ hx0)).trans hx0
      simp only [Int.toNat_zero] at hx0
      have hx1 : wr.cell? ad0 = some (.slice A' s0.length c') := by first | exact hx0 | (rw [← hx0]; congr 1; cases ad0; rfl) | simpa using hx0 | simpa [Addr.add] using hx0
      have hk0 : (0 : Int) < (L.length : Int) := by omega
      have hRA := HU.out.append (RowsOf.one hc' hC')
      rw [← HOO.out] at hRA
      have RA := Aside0.mk hRA
      clear hrs hc' hC' hRA EF hrows
      go_upto_region 13 with (((with_reducible refine gate_builtin (b := .append) (xs := #[.tmp 56, .tmp 60]) rfl ?_); at_builtin; refine Kd.R_append (Kd.raw 1) (w0 := w2) w2.heap.size rfl (.tmp 56) (.tmp 60) 22 32 (.slice none 0 0) 24 rfl Try.underlying22 info32 rfl (by decide) (by decide) u10 (us.map fun x => [x]) [.slice A' s0.length c'] [.slice A' s0.length c'] (fun _ => True) (fun _ => False) rfl rfl ?aP (fun _ hk => hk.elim) ?aF ?aO ?aB ?aS ?aL ?_; (case aP => exact ⟨rfl, rfl, by simp [Value.oneCell']⟩); (case aB => exact HB1.out); (case aF => exact (fun _ _ => trivial)); (case aO => exact HX.out); (case aS => exact below_size HB1.out); (case aL => simp; omega); intro v3 w3 ho hb hg hat; have HX3 := Aside0.mk ho; have HB3 := Aside0.mk hb; clear ho hb hg hat))
      have ho : Kd.R (Kd.raw 1) 32 w3 w2.heap.size (fun _ => True) v3 ((us ++ [Value.slice A' s0.length c']).map fun x => [x]) := by rw [List.map_append]; exact HX3.out
      obtain ⟨B, cB, hv, hcB, hCB⟩ := Kd.R_reads ho
      have hRB := RA.out.below HB3.out
      have hln : ((us ++ [Value.slice A' s0.length c']).map fun x => [x]).length = O.length := by rw [List.length_map, hRB.1]
      rw [hln] at hv hcB hCB
      subst hv
      have HR3 := Aside0.mk (raw_C hCB hRB.1.symm hRB.2)
      have E3 := Aside0.mk (SF.out _ _ E2.out HB3.out)
      have tok1 : True := trivial
      clear ho hcB hCB hRB hln HX HX3 HU RA
      go_upto_region 15 with (first
        | (go_at_call 21; have _t := tok1; (refine (build_to _ _ c0 L P HP.out (FF.out _ E3.out).2.2 HBL.out (by omega) UP.out).mono ?_); rintro e w4 ⟨b, base, rfl, ht, hb⟩; have E4 := Aside0.mk (SF.out _ _ E3.out hb); have HR4 := Aside0.mk (Kd.C_below HR3.out hb); have HT := Aside0.mk ht; clear ht hb tok1)
        | (go_at_call 21; (refine (build_to _ B cB O Q HQ.out HR4.out HBQ.out (by omega) UPO.out).mono ?_); rintro e w5 ⟨b2, base2, rfl, ht, hb⟩; have E5 := Aside0.mk (SF.out _ _ E4.out hb); have HT5 := Aside0.mk (HT.out.below hb); have HT2 := Aside0.mk ht; clear ht hb))
      obtain ⟨G, SG, G5, GG⟩ := stays_pack (((stays_below w).and (stays_reads (Kd.int .u8) A2 bs.length bs)).and ((stays_tree base b P (place L)).and (stays_tree base2 b2 Q (place O)))) ⟨⟨(FF.out _ E5.out).1, (FF.out _ E5.out).2.1⟩, HT5.out, HT2.out⟩
      clear HB1 HB3 E2 E3 E4 E5 HT HT5 HT2 HR3 HR4
      have hq := place_same HPQ.out bs
      have F1 := find_at HG.out (GG.out _ G5.out).2.1 hpl2 A2 c2 bs (GG.out _ G5.out).1.2 HBS.out hbl2
      have F2 := find_at HG2.out (GG.out _ G5.out).2.2 hql2 A2 c2 bs (GG.out _ G5.out).1.2 HBS.out hbl2
      have N1 := Aside0.mk (nodes_at (GG.out _ G5.out).2.1)
      have n2 := nodes_at (GG.out _ G5.out).2.2
      rw [HLN.out] at n2
      obtain ⟨q1, hq1⟩ : ∃ q, place P bs = q := ⟨_, rfl⟩
      obtain ⟨q2, hq2⟩ : ∃ q, place Q bs = q := ⟨_, rfl⟩
      rw [hq1] at hq F1
      rw [hq2] at hq F2
      have FA1 := Aside0.mk F1
      have FA2 := Aside0.mk F2
      have N2 := Aside0.mk n2
      have d0 : decide (q1 ≥ 0) = decide (q2 ≥ 0) := by rw [decide_eq_decide]; exact hq
      have d1 : decide (0 ≤ q1) = decide (0 ≤ q2) := d0
      clear hq hq1 hq2 F1 F2 n2
      go_wp2_with (first
        | (go_at_call 23; (with_reducible refine N1.out.mono ?_); rintro e w6 ⟨rfl, hw⟩; subst hw)
        | (go_at_call 23; (with_reducible refine N2.out.mono ?_); rintro e w6 ⟨rfl, hw⟩; subst hw)
        | (go_at_call 32; (with_reducible refine FA1.out.mono ?_); rintro e w6 ⟨rfl, hw⟩; subst hw)
        | (go_at_call 32; (with_reducible refine FA2.out.mono ?_); rintro e w6 ⟨rfl, hw⟩; subst hw))
      clear N1 N2 FA1 FA2 d0 d1
      go_loopw [14] (fun v14 w' => ∃ i : Nat, v14 = .int .i64 i ∧ i ≤ P.length ∧ Aside0 (G w')) (fun v14 _ => P.length - (intOf v14).toNat)
      case atStart => exact ⟨0, rfl, Nat.zero_le _, G5⟩
      case round =>
        obtain ⟨i, rfl, hi, G6⟩ := hrel
        have ND := Aside0.mk (nodes_at (GG.out _ G6.out).2.1)
        by_cases hlt : i < P.length
        · have k2 : ((i : Nat) : Int) < (P.length : Int) := by omega
          obtain ⟨s, hs⟩ : ∃ s, P[i]? = some s := ⟨_, List.getElem?_eq_getElem hlt⟩
          have hsm := List.mem_of_getElem? hs
          have hs40 := HPS.out s hsm
          have hsB : Bytes s := by
            have h1 := pathsL_bytes HBL.out
            rw [← HP.out] at h1
            exact h1 s hsm
          obtain ⟨m, hm⟩ := List.mem_iff_getElem?.1 ((HPQ.out s).1 hsm)
          have hpm := place_at HG2.out.nodup hm
          have PT := Aside0.mk (path_at HG.out (GG.out _ G6.out).2.1 hpl2 i s hs (by omega))
          have FN : Aside0 (∀ w1, G w1 → ∀ A c, Kd.C (Kd.int .u8) w1 A s.length s → Calls Try.prog 32 #[.pointer (some ⟨b2, 0, none⟩), .slice A s.length c] w1 fun e w' => e = .returned (.int .i64 m) ∧ w' = w1) := ⟨fun w1 h A c hr => by
            have := find_at HG2.out (GG.out w1 h).2.2 hql2 A c s hr hsB (by omega)
            rwa [hpm] at this⟩
          have D1 := Aside0.mk (fun (w1 : World) (h : G w1) => depth_at (GG.out w1 h).2.1 i s hs)
          have D2 := Aside0.mk (fun (w1 : World) (h : G w1) => depth_at (GG.out w1 h).2.2 m s hm)
          have W1 := Aside0.mk (fun (w1 : World) (h : G w1) => word_at (GG.out w1 h).2.1 i s hs)
          have W2 := Aside0.mk (fun (w1 : World) (h : G w1) => word_at (GG.out w1 h).2.2 m s hm)
          have K1 := Aside0.mk (fun (w1 : World) (h : G w1) => kids_at (GG.out w1 h).2.1 hpl2 i s hs)
          have K2 := Aside0.mk (fun (w1 : World) (h : G w1) => kids_at (GG.out w1 h).2.2 hql2 m s hm)
          rw [← kids_same HPQ.out s 256] at K2
          obtain ⟨ks, hks⟩ : ∃ ks, kidsN P s 256 = ks := ⟨_, rfl⟩
          rw [hks] at K1 K2
          have hq := place_same HSM.out s
          obtain ⟨q1, hq1⟩ : ∃ q, place L s = q := ⟨_, rfl⟩
          obtain ⟨q2, hq2⟩ : ∃ q, place O s = q := ⟨_, rfl⟩
          rw [hq1] at hq W1
          rw [hq2] at hq W2
          have wk : IntKind.i64.wrap ((i : Int) + 1) = (i : Int) + 1 := IntWalk.i64_in _ (by omega)
          have m0 : decide ((m : Int) < 0) = false := decide_eq_false (by omega)
          clear hs hsm hsB hm hpm hq1 hq2 hks
          by_cases c : 0 ≤ q1
          · have cq := hq.1 c
            have d1 : decide (q1 ≥ 0) = true := decide_eq_true c
            have d2 : decide (0 ≤ q1) = true := decide_eq_true c
            have d3 : decide (q2 ≥ 0) = true := decide_eq_true cq
            have d4 : decide (0 ≤ q2) = true := decide_eq_true cq
            clear hq
            go_upto_region 21 with (first
              | (go_at_call 23; (with_reducible refine ND.out.mono ?_); rintro e w6 ⟨rfl, hw⟩; subst hw)
              | (go_at_call 25; (with_reducible refine PT.out.mono ?_); rintro e w7 ⟨v, rfl, ho, hb⟩; obtain ⟨A7, c7, rfl, hc7, hC7⟩ := Kd.R_reads ho; have G7 := Aside0.mk (SG.out _ _ G6.out hb); have HC7 := Aside0.mk hC7; have G7d := Aside0.mk (stays_drew SG.out G7.out); clear ho hb hC7)
              | (go_at_call 32; (with_reducible refine (FN.out _ G7.out _ _ HC7.out).mono ?_); rintro e w8 ⟨rfl, hw⟩; subst hw))
            refine start_ (n := 33) (S := fun w' => True) (ds := []) #[false, false, false, false, false, false, false, false, false, false, false, false, false, false, false, false, false, false, false, false, false, false, false, false, false, false, false, false, false, false, false, false, false] (by kernel_rfl) rfl rfl trivial (fun _ => ?_)
            refine pure_ (i := 0) (N := (some 93)) (v := ?_) (a' := _) #[true, false, false, false, false, false, false, false, false, false, false, false, false, false, false, false, false, false, false, false, false, false, false, false, false, false, false, false, false, false, false, false, false] rfl rfl (by kernel_rfl) (fun _ _ _ h => h) (Or.inl ⟨by rfl, ?_⟩) rfl ?_
            rotate_left
            · intro w'; go_simp; with_reducible rfl
            simp only [Act.put, List.setIfInBounds_toArray, List.set_cons_zero, List.set_cons_succ]
            refine pure_ (i := 1) (N := (some 94)) (v := ?_) (a' := _) #[true, true, false, false, false, false, false, false, false, false, false, false, false, false, false, false, false, false, false, false, false, false, false, false, false, false, false, false, false, false, false, false, false] rfl rfl (by kernel_rfl) (fun _ _ _ h => h) (Or.inl ⟨by rfl, ?_⟩) rfl ?_
            rotate_left
            · intro w'; go_simp; with_reducible rfl
            simp only [Act.put, List.setIfInBounds_toArray, List.set_cons_zero, List.set_cons_succ]
            refine pure_ (i := 2) (N := (some 95)) (v := ?_) (a' := _) #[true, true, true, false, false, false, false, false, false, false, false, false, false, false, false, false, false, false, false, false, false, false, false, false, false, false, false, false, false, false, false, false, false] rfl rfl (by kernel_rfl) (fun _ _ _ h => h) (Or.inl ⟨by rfl, ?_⟩) rfl ?_
            rotate_left
            · intro w'; go_simp; with_reducible rfl
            simp only [Act.put, List.setIfInBounds_toArray, List.set_cons_zero, List.set_cons_succ]
            refine pure_ (i := 3) (N := (some 96)) (v := ?_) (a' := _) #[true, true, true, true, false, false, false, false, false, false, false, false, false, false, false, false, false, false, false, false, false, false, false, false, false, false, false, false, false, false, false, false, false] rfl rfl (by kernel_rfl) (fun _ _ _ h => h) (Or.inl ⟨by rfl, ?_⟩) rfl ?_
            rotate_left
            · intro w'; go_simp; with_reducible rfl
            simp only [Act.put, List.setIfInBounds_toArray, List.set_cons_zero, List.set_cons_succ]
            refine pure_ (i := 4) (N := (some 97)) (v := ?_) (a' := _) #[true, true, true, true, true, false, false, false, false, false, false, false, false, false, false, false, false, false, false, false, false, false, false, false, false, false, false, false, false, false, false, false, false] rfl rfl (by kernel_rfl) (fun _ _ _ h => h) (Or.inl ⟨by rfl, ?_⟩) rfl ?_
            rotate_left
            · intro w'; go_simp; with_reducible rfl
            simp only [Act.put, List.setIfInBounds_toArray, List.set_cons_zero, List.set_cons_succ]
            refine pure_ (i := 6) (N := (some 99)) (v := ?_) (a' := _) #[true, true, true, true, true, false, true, false, false, false, false, false, false, false, false, false, false, false, false, false, false, false, false, false, false, false, false, false, false, false, false, false, false] rfl rfl (by kernel_rfl) (fun _ _ _ h => h) (Or.inl ⟨by rfl, ?_⟩) rfl ?_
            rotate_left
            · intro w'; go_simp; with_reducible rfl
            simp only [Act.put, List.setIfInBounds_toArray, List.set_cons_zero, List.set_cons_succ]
            refine pure_ (i := 7) (N := (some 100)) (v := ?_) (a' := _) #[true, true, true, true, true, false, true, true, false, false, false, false, false, false, false, false, false, false, false, false, false, false, false, false, false, false, false, false, false, false, false, false, false] rfl rfl (by kernel_rfl) (fun _ _ _ h => h) (Or.inl ⟨by rfl, ?_⟩) rfl ?_
            rotate_left
            · intro w'; go_simp; with_reducible rfl
            simp only [Act.put, List.setIfInBounds_toArray, List.set_cons_zero, List.set_cons_succ]
            refine one_ (i := 5) (N := (some 98)) #[true, true, true, true, true, true, true, true, false, false, false, false, false, false, false, false, false, false, false, false, false, false, false, false, false, false, false, false, false, false, false, false, false] rfl rfl (by kernel_rfl) (by decide) (fun K hK => ?_)
            go_simp
            (go_at_call 26; (with_reducible refine (D2.out _ G7d.out).mono ?_); rintro e w8 ⟨rfl, hw⟩; subst hw)
            refine hK.out _ _ trivial (fun _ => ?_)
            clear hK K
            try simp only [Act.put, List.setIfInBounds_toArray, List.set_cons_zero, List.set_cons_succ]
            refine one_ (i := 8) (N := (some 101)) #[true, true, true, true, true, true, true, true, true, false, false, false, false, false, false, false, false, false, false, false, false, false, false, false, false, false, false, false, false, false, false, false, false] rfl rfl (by kernel_rfl) (by decide) (fun K hK => ?_)
            go_simp
            (go_at_call 26; (with_reducible refine (D1.out _ G7d.out).mono ?_); rintro e w8 ⟨rfl, hw⟩; subst hw)
            refine hK.out _ _ trivial (fun _ => ?_)
            clear hK K
            try simp only [Act.put, List.setIfInBounds_toArray, List.set_cons_zero, List.set_cons_succ]
            refine pure_ (i := 9) (N := (some 102)) (v := ?_) (a' := _) #[true, true, true, true, true, true, true, true, true, true, false, false, false, false, false, false, false, false, false, false, false, false, false, false, false, false, false, false, false, false, false, false, false] rfl rfl (by kernel_rfl) (fun _ _ _ h => h) (Or.inl ⟨by rfl, ?_⟩) rfl ?_
            rotate_left
            · intro w'; go_simp; with_reducible rfl
            simp only [Act.put, List.setIfInBounds_toArray, List.set_cons_zero, List.set_cons_succ]
            refine pure_ (i := 10) (N := (some 103)) (v := ?_) (a' := _) #[true, true, true, true, true, true, true, true, true, true, true, false, false, false, false, false, false, false, false, false, false, false, false, false, false, false, false, false, false, false, false, false, false] rfl rfl (by kernel_rfl) (fun _ _ _ h => h) (Or.inl ⟨by rfl, ?_⟩) rfl ?_
            rotate_left
            · intro w'; go_simp; with_reducible rfl
            simp only [Act.put, List.setIfInBounds_toArray, List.set_cons_zero, List.set_cons_succ]
            refine pure_ (i := 11) (N := (some 104)) (v := ?_) (a' := _) #[true, true, true, true, true, true, true, true, true, true, true, true, false, false, false, false, false, false, false, false, false, false, false, false, false, false, false, false, false, false, false, false, false] rfl rfl (by kernel_rfl) (fun _ _ _ h => h) (Or.inl ⟨by rfl, ?_⟩) rfl ?_
            rotate_left
            · intro w'; go_simp; with_reducible rfl
            simp only [Act.put, List.setIfInBounds_toArray, List.set_cons_zero, List.set_cons_succ]
            refine pure_ (i := 12) (N := (some 105)) (v := ?_) (a' := _) #[true, true, true, true, true, true, true, true, true, true, true, true, true, false, false, false, false, false, false, false, false, false, false, false, false, false, false, false, false, false, false, false, false] rfl rfl (by kernel_rfl) (fun _ _ _ h => h) (Or.inl ⟨by rfl, ?_⟩) rfl ?_
            rotate_left
            · intro w'; go_simp; with_reducible rfl
            simp only [Act.put, List.setIfInBounds_toArray, List.set_cons_zero, List.set_cons_succ]
            refine pure_ (i := 13) (N := (some 106)) (v := ?_) (a' := _) #[true, true, true, true, true, true, true, true, true, true, true, true, true, true, false, false, false, false, false, false, false, false, false, false, false, false, false, false, false, false, false, false, false] rfl rfl (by kernel_rfl) (fun _ _ _ h => h) (Or.inl ⟨by rfl, ?_⟩) rfl ?_
            rotate_left
            · intro w'; go_simp; with_reducible rfl
            simp only [Act.put, List.setIfInBounds_toArray, List.set_cons_zero, List.set_cons_succ]
            refine pure_ (i := 16) (N := (some 109)) (v := ?_) (a' := _) #[true, true, true, true, true, true, true, true, true, true, true, true, true, true, false, false, true, false, false, false, false, false, false, false, false, false, false, false, false, false, false, false, false] rfl rfl (by kernel_rfl) (fun _ _ _ h => h) (Or.inl ⟨by rfl, ?_⟩) rfl ?_
            rotate_left
            · intro w'; go_simp; with_reducible rfl
            simp only [Act.put, List.setIfInBounds_toArray, List.set_cons_zero, List.set_cons_succ]
            refine pure_ (i := 17) (N := (some 110)) (v := ?_) (a' := _) #[true, true, true, true, true, true, true, true, true, true, true, true, true, true, false, false, true, true, false, false, false, false, false, false, false, false, false, false, false, false, false, false, false] rfl rfl (by kernel_rfl) (fun _ _ _ h => h) (Or.inl ⟨by rfl, ?_⟩) rfl ?_
            rotate_left
            · intro w'; go_simp; with_reducible rfl
            simp only [Act.put, List.setIfInBounds_toArray, List.set_cons_zero, List.set_cons_succ]
            refine one_ (i := 14) (N := (some 107)) #[true, true, true, true, true, true, true, true, true, true, true, true, true, true, true, false, true, true, false, false, false, false, false, false, false, false, false, false, false, false, false, false, false] rfl rfl (by kernel_rfl) (by decide) (fun K hK => ?_)
            go_simp
            (go_at_call 28; (with_reducible refine (W2.out _ G7d.out).mono ?_); rintro e w8 ⟨rfl, hw⟩; subst hw)
            refine hK.out _ _ trivial (fun _ => ?_)
            clear hK K
            try simp only [Act.put, List.setIfInBounds_toArray, List.set_cons_zero, List.set_cons_succ]
            refine pure_ (i := 15) (N := (some 108)) (v := ?_) (a' := _) #[true, true, true, true, true, true, true, true, true, true, true, true, true, true, true, true, true, true, false, false, false, false, false, false, false, false, false, false, false, false, false, false, false] rfl rfl (by kernel_rfl) (fun _ _ _ h => h) (Or.inl ⟨by rfl, ?_⟩) rfl ?_
            rotate_left
            · intro w'; go_simp; with_reducible rfl
            simp only [Act.put, List.setIfInBounds_toArray, List.set_cons_zero, List.set_cons_succ]
            refine one_ (i := 18) (N := (some 111)) #[true, true, true, true, true, true, true, true, true, true, true, true, true, true, true, true, true, true, true, false, false, false, false, false, false, false, false, false, false, false, false, false, false] rfl rfl (by kernel_rfl) (by decide) (fun K hK => ?_)
            go_simp
            (go_at_call 28; (with_reducible refine (W1.out _ G7d.out).mono ?_); rintro e w8 ⟨rfl, hw⟩; subst hw)
            refine hK.out _ _ trivial (fun _ => ?_)
            clear hK K
            try simp only [Act.put, List.setIfInBounds_toArray, List.set_cons_zero, List.set_cons_succ]
            refine pure_ (i := 19) (N := (some 112)) (v := ?_) (a' := _) #[true, true, true, true, true, true, true, true, true, true, true, true, true, true, true, true, true, true, true, true, false, false, false, false, false, false, false, false, false, false, false, false, false] rfl rfl (by kernel_rfl) (fun _ _ _ h => h) (Or.inl ⟨by rfl, ?_⟩) rfl ?_
            rotate_left
            · intro w'; go_simp; with_reducible rfl
            simp only [Act.put, List.setIfInBounds_toArray, List.set_cons_zero, List.set_cons_succ]
            refine pure_ (i := 20) (N := (some 113)) (v := ?_) (a' := _) #[true, true, true, true, true, true, true, true, true, true, true, true, true, true, true, true, true, true, true, true, true, false, false, false, false, false, false, false, false, false, false, false, false] rfl rfl (by kernel_rfl) (fun _ _ _ h => h) (Or.inl ⟨by rfl, ?_⟩) rfl ?_
            rotate_left
            · intro w'; go_simp; with_reducible rfl
            simp only [Act.put, List.setIfInBounds_toArray, List.set_cons_zero, List.set_cons_succ]
            refine pure_ (i := 21) (N := (some 114)) (v := ?_) (a' := _) #[true, true, true, true, true, true, true, true, true, true, true, true, true, true, true, true, true, true, true, true, true, true, false, false, false, false, false, false, false, false, false, false, false] rfl rfl (by kernel_rfl) (fun _ _ _ h => h) (Or.inl ⟨by rfl, ?_⟩) rfl ?_
            rotate_left
            · intro w'; go_simp; with_reducible rfl
            simp only [Act.put, List.setIfInBounds_toArray, List.set_cons_zero, List.set_cons_succ]
            refine pure_ (i := 22) (N := (some 115)) (v := ?_) (a' := _) #[true, true, true, true, true, true, true, true, true, true, true, true, true, true, true, true, true, true, true, true, true, true, true, false, false, false, false, false, false, false, false, false, false] rfl rfl (by kernel_rfl) (fun _ _ _ h => h) (Or.inl ⟨by rfl, ?_⟩) rfl ?_
            rotate_left
            · intro w'; go_simp; with_reducible rfl
            simp only [Act.put, List.setIfInBounds_toArray, List.set_cons_zero, List.set_cons_succ]
            refine pure_ (i := 23) (N := (some 116)) (v := ?_) (a' := _) #[true, true, true, true, true, true, true, true, true, true, true, true, true, true, true, true, true, true, true, true, true, true, true, true, false, false, false, false, false, false, false, false, false] rfl rfl (by kernel_rfl) (fun _ _ _ h => h) (Or.inl ⟨by rfl, ?_⟩) rfl ?_
            rotate_left
            · intro w'; go_simp; with_reducible rfl
            simp only [Act.put, List.setIfInBounds_toArray, List.set_cons_zero, List.set_cons_succ]
            refine pure_ (i := 24) (N := (some 117)) (v := ?_) (a' := _) #[true, true, true, true, true, true, true, true, true, true, true, true, true, true, true, true, true, true, true, true, true, true, true, true, true, false, false, false, false, false, false, false, false] rfl rfl (by kernel_rfl) (fun _ _ _ h => h) (Or.inl ⟨by rfl, ?_⟩) rfl ?_
            rotate_left
            · intro w'; go_simp; with_reducible rfl
            simp only [Act.put, List.setIfInBounds_toArray, List.set_cons_zero, List.set_cons_succ]
            refine pure_ (i := 27) (N := (some 120)) (v := ?_) (a' := _) #[true, true, true, true, true, true, true, true, true, true, true, true, true, true, true, true, true, true, true, true, true, true, true, true, true, false, false, true, false, false, false, false, false] rfl rfl (by kernel_rfl) (fun _ _ _ h => h) (Or.inl ⟨by rfl, ?_⟩) rfl ?_
            rotate_left
            · intro w'; go_simp; with_reducible rfl
            simp only [Act.put, List.setIfInBounds_toArray, List.set_cons_zero, List.set_cons_succ]
            refine pure_ (i := 28) (N := (some 121)) (v := ?_) (a' := _) #[true, true, true, true, true, true, true, true, true, true, true, true, true, true, true, true, true, true, true, true, true, true, true, true, true, false, false, true, true, false, false, false, false] rfl rfl (by kernel_rfl) (fun _ _ _ h => h) (Or.inl ⟨by rfl, ?_⟩) rfl ?_
            rotate_left
            · intro w'; go_simp; with_reducible rfl
            simp only [Act.put, List.setIfInBounds_toArray, List.set_cons_zero, List.set_cons_succ]
            refine one_ (i := 25) (N := (some 118)) #[true, true, true, true, true, true, true, true, true, true, true, true, true, true, true, true, true, true, true, true, true, true, true, true, true, true, false, true, true, false, false, false, false] rfl rfl (by kernel_rfl) (by decide) (fun K hK => ?_)
            go_simp
            (go_at_call 29; (with_reducible refine (K2.out _ G7d.out).mono ?_); rintro e w9 ⟨v, rfl, ho, hb⟩; obtain ⟨A9, c9, rfl, hv9⟩ := row_stays ho; have hv9a := hv9 w9 (Below.refl _ _); have HV9 := Aside0.mk hv9; have G9 := Aside0.mk (SG.out _ _ G7d.out hb); clear ho hb hv9)
            refine hK.out _ _ trivial (fun _ => ?_)
            clear hK K
            try simp only [Act.put, List.setIfInBounds_toArray, List.set_cons_zero, List.set_cons_succ]
            refine two_ (i := 26) (j := 29) (Ni := (some 119)) (Nj := (some 122)) #[true, true, true, true, true, true, true, true, true, true, true, true, true, true, true, true, true, true, true, true, true, true, true, true, true, true, true, true, true, false, false, false, false] #[true, true, true, true, true, true, true, true, true, true, true, true, true, true, true, true, true, true, true, true, true, true, true, true, true, true, false, true, true, true, false, false, false] rfl rfl rfl rfl (by kernel_rfl) (by decide) (by decide) (fun K hK => ?_) (fun K hK => ?_)
            · skip
              go_simp
              refine hK.out _ _ trivial (fun _ => ?_)
              clear hK K
              try simp only [Act.put, List.setIfInBounds_toArray, List.set_cons_zero, List.set_cons_succ]
              refine one_ (i := 29) (N := (some 122)) #[true, true, true, true, true, true, true, true, true, true, true, true, true, true, true, true, true, true, true, true, true, true, true, true, true, true, true, true, true, true, false, false, false] rfl rfl (by kernel_rfl) (by decide) (fun K hK => ?_)
              go_simp
              (go_at_call 29; (with_reducible refine (K1.out _ G9.out).mono ?_); rintro e w10 ⟨v, rfl, ho, hb⟩; obtain ⟨A10, c10, rfl, hv10⟩ := row_text ho; have hv9b := HV9.out w10 hb; have G10 := Aside0.mk (SG.out _ _ G9.out hb); clear ho hb)
              refine hK.out _ _ trivial (fun _ => ?_)
              clear hK K
              try simp only [Act.put, List.setIfInBounds_toArray, List.set_cons_zero, List.set_cons_succ]
              refine one_ (i := 30) (N := (some 123)) #[true, true, true, true, true, true, true, true, true, true, true, true, true, true, true, true, true, true, true, true, true, true, true, true, true, true, true, true, true, true, true, false, false] rfl rfl (by kernel_rfl) (by decide) (fun K hK => ?_)
              go_simp
              refine hK.out _ _ trivial (fun _ => ?_)
              clear hK K
              try simp only [Act.put, List.setIfInBounds_toArray, List.set_cons_zero, List.set_cons_succ]
              refine pure_ (i := 31) (N := (some 124)) (v := ?_) (a' := _) #[true, true, true, true, true, true, true, true, true, true, true, true, true, true, true, true, true, true, true, true, true, true, true, true, true, true, true, true, true, true, true, true, false] rfl rfl (by kernel_rfl) (fun _ _ _ h => h) (Or.inl ⟨by rfl, ?_⟩) rfl ?_
              rotate_left
              · intro w'; go_simp; with_reducible rfl
              simp only [Act.put, List.setIfInBounds_toArray, List.set_cons_zero, List.set_cons_succ]
              refine pure_ (i := 32) (N := (some 125)) (v := ?_) (a' := _) #[true, true, true, true, true, true, true, true, true, true, true, true, true, true, true, true, true, true, true, true, true, true, true, true, true, true, true, true, true, true, true, true, true] rfl rfl (by kernel_rfl) (fun _ _ _ h => h) (Or.inl ⟨by rfl, ?_⟩) rfl ?_
              rotate_left
              · intro w'; go_simp; with_reducible rfl
              simp only [Act.put, List.setIfInBounds_toArray, List.set_cons_zero, List.set_cons_succ]
              refine done_ (by kernel_rfl) ?_
              go_wp2
              go_roundw
              case rel => exact ⟨i + 1, by go_num, by omega, G10⟩
              case measure => simp [intOf]; omega
            · skip
              go_simp
              (go_at_call 29; (with_reducible refine (K1.out _ G9.out).mono ?_); rintro e w10 ⟨v, rfl, ho, hb⟩; obtain ⟨A10, c10, rfl, hv10⟩ := row_text ho; have hv9b := HV9.out w10 hb; have G10 := Aside0.mk (SG.out _ _ G9.out hb); clear ho hb)
              refine hK.out _ _ trivial (fun _ => ?_)
              clear hK K
              try simp only [Act.put, List.setIfInBounds_toArray, List.set_cons_zero, List.set_cons_succ]
              refine two_ (i := 26) (j := 30) (Ni := (some 119)) (Nj := (some 123)) #[true, true, true, true, true, true, true, true, true, true, true, true, true, true, true, true, true, true, true, true, true, true, true, true, true, true, true, true, true, true, false, false, false] #[true, true, true, true, true, true, true, true, true, true, true, true, true, true, true, true, true, true, true, true, true, true, true, true, true, true, false, true, true, true, true, false, false] rfl rfl rfl rfl (by kernel_rfl) (by decide) (by decide) (fun K hK => ?_) (fun K hK => ?_)
              · skip
                go_simp
                refine hK.out _ _ trivial (fun _ => ?_)
                clear hK K
                try simp only [Act.put, List.setIfInBounds_toArray, List.set_cons_zero, List.set_cons_succ]
                refine one_ (i := 30) (N := (some 123)) #[true, true, true, true, true, true, true, true, true, true, true, true, true, true, true, true, true, true, true, true, true, true, true, true, true, true, true, true, true, true, true, false, false] rfl rfl (by kernel_rfl) (by decide) (fun K hK => ?_)
                go_simp
                refine hK.out _ _ trivial (fun _ => ?_)
                clear hK K
                try simp only [Act.put, List.setIfInBounds_toArray, List.set_cons_zero, List.set_cons_succ]
                refine pure_ (i := 31) (N := (some 124)) (v := ?_) (a' := _) #[true, true, true, true, true, true, true, true, true, true, true, true, true, true, true, true, true, true, true, true, true, true, true, true, true, true, true, true, true, true, true, true, false] rfl rfl (by kernel_rfl) (fun _ _ _ h => h) (Or.inl ⟨by rfl, ?_⟩) rfl ?_
                rotate_left
                · intro w'; go_simp; with_reducible rfl
                simp only [Act.put, List.setIfInBounds_toArray, List.set_cons_zero, List.set_cons_succ]
                refine pure_ (i := 32) (N := (some 125)) (v := ?_) (a' := _) #[true, true, true, true, true, true, true, true, true, true, true, true, true, true, true, true, true, true, true, true, true, true, true, true, true, true, true, true, true, true, true, true, true] rfl rfl (by kernel_rfl) (fun _ _ _ h => h) (Or.inl ⟨by rfl, ?_⟩) rfl ?_
                rotate_left
                · intro w'; go_simp; with_reducible rfl
                simp only [Act.put, List.setIfInBounds_toArray, List.set_cons_zero, List.set_cons_succ]
                refine done_ (by kernel_rfl) ?_
                go_wp2
                go_roundw
                case rel => exact ⟨i + 1, by go_num, by omega, G10⟩
                case measure => simp [intOf]; omega
              · skip
                go_simp
                refine hK.out _ _ trivial (fun _ => ?_)
                clear hK K
                try simp only [Act.put, List.setIfInBounds_toArray, List.set_cons_zero, List.set_cons_succ]
                refine one_ (i := 26) (N := (some 119)) #[true, true, true, true, true, true, true, true, true, true, true, true, true, true, true, true, true, true, true, true, true, true, true, true, true, true, true, true, true, true, true, false, false] rfl rfl (by kernel_rfl) (by decide) (fun K hK => ?_)
                go_simp
                refine hK.out _ _ trivial (fun _ => ?_)
                clear hK K
                try simp only [Act.put, List.setIfInBounds_toArray, List.set_cons_zero, List.set_cons_succ]
                refine pure_ (i := 31) (N := (some 124)) (v := ?_) (a' := _) #[true, true, true, true, true, true, true, true, true, true, true, true, true, true, true, true, true, true, true, true, true, true, true, true, true, true, true, true, true, true, true, true, false] rfl rfl (by kernel_rfl) (fun _ _ _ h => h) (Or.inl ⟨by rfl, ?_⟩) rfl ?_
                rotate_left
                · intro w'; go_simp; with_reducible rfl
                simp only [Act.put, List.setIfInBounds_toArray, List.set_cons_zero, List.set_cons_succ]
                refine pure_ (i := 32) (N := (some 125)) (v := ?_) (a' := _) #[true, true, true, true, true, true, true, true, true, true, true, true, true, true, true, true, true, true, true, true, true, true, true, true, true, true, true, true, true, true, true, true, true] rfl rfl (by kernel_rfl) (fun _ _ _ h => h) (Or.inl ⟨by rfl, ?_⟩) rfl ?_
                rotate_left
                · intro w'; go_simp; with_reducible rfl
                simp only [Act.put, List.setIfInBounds_toArray, List.set_cons_zero, List.set_cons_succ]
                refine done_ (by kernel_rfl) ?_
                go_wp2
                go_roundw
                case rel => exact ⟨i + 1, by go_num, by omega, G10⟩
                case measure => simp [intOf]; omega
          · have cq : ¬ 0 ≤ q2 := fun h => c (hq.2 h)
            have d1 : decide (q1 ≥ 0) = false := decide_eq_false c
            have d2 : decide (0 ≤ q1) = false := decide_eq_false c
            have d3 : decide (q2 ≥ 0) = false := decide_eq_false cq
            have d4 : decide (0 ≤ q2) = false := decide_eq_false cq
            clear hq
            go_upto_region 21 with (first
              | (go_at_call 23; (with_reducible refine ND.out.mono ?_); rintro e w6 ⟨rfl, hw⟩; subst hw)
              | (go_at_call 25; (with_reducible refine PT.out.mono ?_); rintro e w7 ⟨v, rfl, ho, hb⟩; obtain ⟨A7, c7, rfl, hc7, hC7⟩ := Kd.R_reads ho; have G7 := Aside0.mk (SG.out _ _ G6.out hb); have HC7 := Aside0.mk hC7; have G7d := Aside0.mk (stays_drew SG.out G7.out); clear ho hb hC7)
              | (go_at_call 32; (with_reducible refine (FN.out _ G7.out _ _ HC7.out).mono ?_); rintro e w8 ⟨rfl, hw⟩; subst hw))
            refine start_ (n := 33) (S := fun w' => True) (ds := []) #[false, false, false, false, false, false, false, false, false, false, false, false, false, false, false, false, false, false, false, false, false, false, false, false, false, false, false, false, false, false, false, false, false] (by kernel_rfl) rfl rfl trivial (fun _ => ?_)
            refine pure_ (i := 0) (N := (some 93)) (v := ?_) (a' := _) #[true, false, false, false, false, false, false, false, false, false, false, false, false, false, false, false, false, false, false, false, false, false, false, false, false, false, false, false, false, false, false, false, false] rfl rfl (by kernel_rfl) (fun _ _ _ h => h) (Or.inl ⟨by rfl, ?_⟩) rfl ?_
            rotate_left
            · intro w'; go_simp; with_reducible rfl
            simp only [Act.put, List.setIfInBounds_toArray, List.set_cons_zero, List.set_cons_succ]
            refine pure_ (i := 1) (N := (some 94)) (v := ?_) (a' := _) #[true, true, false, false, false, false, false, false, false, false, false, false, false, false, false, false, false, false, false, false, false, false, false, false, false, false, false, false, false, false, false, false, false] rfl rfl (by kernel_rfl) (fun _ _ _ h => h) (Or.inl ⟨by rfl, ?_⟩) rfl ?_
            rotate_left
            · intro w'; go_simp; with_reducible rfl
            simp only [Act.put, List.setIfInBounds_toArray, List.set_cons_zero, List.set_cons_succ]
            refine pure_ (i := 2) (N := (some 95)) (v := ?_) (a' := _) #[true, true, true, false, false, false, false, false, false, false, false, false, false, false, false, false, false, false, false, false, false, false, false, false, false, false, false, false, false, false, false, false, false] rfl rfl (by kernel_rfl) (fun _ _ _ h => h) (Or.inl ⟨by rfl, ?_⟩) rfl ?_
            rotate_left
            · intro w'; go_simp; with_reducible rfl
            simp only [Act.put, List.setIfInBounds_toArray, List.set_cons_zero, List.set_cons_succ]
            refine pure_ (i := 3) (N := (some 96)) (v := ?_) (a' := _) #[true, true, true, true, false, false, false, false, false, false, false, false, false, false, false, false, false, false, false, false, false, false, false, false, false, false, false, false, false, false, false, false, false] rfl rfl (by kernel_rfl) (fun _ _ _ h => h) (Or.inl ⟨by rfl, ?_⟩) rfl ?_
            rotate_left
            · intro w'; go_simp; with_reducible rfl
            simp only [Act.put, List.setIfInBounds_toArray, List.set_cons_zero, List.set_cons_succ]
            refine pure_ (i := 4) (N := (some 97)) (v := ?_) (a' := _) #[true, true, true, true, true, false, false, false, false, false, false, false, false, false, false, false, false, false, false, false, false, false, false, false, false, false, false, false, false, false, false, false, false] rfl rfl (by kernel_rfl) (fun _ _ _ h => h) (Or.inl ⟨by rfl, ?_⟩) rfl ?_
            rotate_left
            · intro w'; go_simp; with_reducible rfl
            simp only [Act.put, List.setIfInBounds_toArray, List.set_cons_zero, List.set_cons_succ]
            refine pure_ (i := 6) (N := (some 99)) (v := ?_) (a' := _) #[true, true, true, true, true, false, true, false, false, false, false, false, false, false, false, false, false, false, false, false, false, false, false, false, false, false, false, false, false, false, false, false, false] rfl rfl (by kernel_rfl) (fun _ _ _ h => h) (Or.inl ⟨by rfl, ?_⟩) rfl ?_
            rotate_left
            · intro w'; go_simp; with_reducible rfl
            simp only [Act.put, List.setIfInBounds_toArray, List.set_cons_zero, List.set_cons_succ]
            refine pure_ (i := 7) (N := (some 100)) (v := ?_) (a' := _) #[true, true, true, true, true, false, true, true, false, false, false, false, false, false, false, false, false, false, false, false, false, false, false, false, false, false, false, false, false, false, false, false, false] rfl rfl (by kernel_rfl) (fun _ _ _ h => h) (Or.inl ⟨by rfl, ?_⟩) rfl ?_
            rotate_left
            · intro w'; go_simp; with_reducible rfl
            simp only [Act.put, List.setIfInBounds_toArray, List.set_cons_zero, List.set_cons_succ]
            refine one_ (i := 5) (N := (some 98)) #[true, true, true, true, true, true, true, true, false, false, false, false, false, false, false, false, false, false, false, false, false, false, false, false, false, false, false, false, false, false, false, false, false] rfl rfl (by kernel_rfl) (by decide) (fun K hK => ?_)
            go_simp
            (go_at_call 26; (with_reducible refine (D2.out _ G7d.out).mono ?_); rintro e w8 ⟨rfl, hw⟩; subst hw)
            refine hK.out _ _ trivial (fun _ => ?_)
            clear hK K
            try simp only [Act.put, List.setIfInBounds_toArray, List.set_cons_zero, List.set_cons_succ]
            refine one_ (i := 8) (N := (some 101)) #[true, true, true, true, true, true, true, true, true, false, false, false, false, false, false, false, false, false, false, false, false, false, false, false, false, false, false, false, false, false, false, false, false] rfl rfl (by kernel_rfl) (by decide) (fun K hK => ?_)
            go_simp
            (go_at_call 26; (with_reducible refine (D1.out _ G7d.out).mono ?_); rintro e w8 ⟨rfl, hw⟩; subst hw)
            refine hK.out _ _ trivial (fun _ => ?_)
            clear hK K
            try simp only [Act.put, List.setIfInBounds_toArray, List.set_cons_zero, List.set_cons_succ]
            refine pure_ (i := 9) (N := (some 102)) (v := ?_) (a' := _) #[true, true, true, true, true, true, true, true, true, true, false, false, false, false, false, false, false, false, false, false, false, false, false, false, false, false, false, false, false, false, false, false, false] rfl rfl (by kernel_rfl) (fun _ _ _ h => h) (Or.inl ⟨by rfl, ?_⟩) rfl ?_
            rotate_left
            · intro w'; go_simp; with_reducible rfl
            simp only [Act.put, List.setIfInBounds_toArray, List.set_cons_zero, List.set_cons_succ]
            refine pure_ (i := 10) (N := (some 103)) (v := ?_) (a' := _) #[true, true, true, true, true, true, true, true, true, true, true, false, false, false, false, false, false, false, false, false, false, false, false, false, false, false, false, false, false, false, false, false, false] rfl rfl (by kernel_rfl) (fun _ _ _ h => h) (Or.inl ⟨by rfl, ?_⟩) rfl ?_
            rotate_left
            · intro w'; go_simp; with_reducible rfl
            simp only [Act.put, List.setIfInBounds_toArray, List.set_cons_zero, List.set_cons_succ]
            refine pure_ (i := 11) (N := (some 104)) (v := ?_) (a' := _) #[true, true, true, true, true, true, true, true, true, true, true, true, false, false, false, false, false, false, false, false, false, false, false, false, false, false, false, false, false, false, false, false, false] rfl rfl (by kernel_rfl) (fun _ _ _ h => h) (Or.inl ⟨by rfl, ?_⟩) rfl ?_
            rotate_left
            · intro w'; go_simp; with_reducible rfl
            simp only [Act.put, List.setIfInBounds_toArray, List.set_cons_zero, List.set_cons_succ]
            refine pure_ (i := 12) (N := (some 105)) (v := ?_) (a' := _) #[true, true, true, true, true, true, true, true, true, true, true, true, true, false, false, false, false, false, false, false, false, false, false, false, false, false, false, false, false, false, false, false, false] rfl rfl (by kernel_rfl) (fun _ _ _ h => h) (Or.inl ⟨by rfl, ?_⟩) rfl ?_
            rotate_left
            · intro w'; go_simp; with_reducible rfl
            simp only [Act.put, List.setIfInBounds_toArray, List.set_cons_zero, List.set_cons_succ]
            refine pure_ (i := 13) (N := (some 106)) (v := ?_) (a' := _) #[true, true, true, true, true, true, true, true, true, true, true, true, true, true, false, false, false, false, false, false, false, false, false, false, false, false, false, false, false, false, false, false, false] rfl rfl (by kernel_rfl) (fun _ _ _ h => h) (Or.inl ⟨by rfl, ?_⟩) rfl ?_
            rotate_left
            · intro w'; go_simp; with_reducible rfl
            simp only [Act.put, List.setIfInBounds_toArray, List.set_cons_zero, List.set_cons_succ]
            refine pure_ (i := 16) (N := (some 109)) (v := ?_) (a' := _) #[true, true, true, true, true, true, true, true, true, true, true, true, true, true, false, false, true, false, false, false, false, false, false, false, false, false, false, false, false, false, false, false, false] rfl rfl (by kernel_rfl) (fun _ _ _ h => h) (Or.inl ⟨by rfl, ?_⟩) rfl ?_
            rotate_left
            · intro w'; go_simp; with_reducible rfl
            simp only [Act.put, List.setIfInBounds_toArray, List.set_cons_zero, List.set_cons_succ]
            refine pure_ (i := 17) (N := (some 110)) (v := ?_) (a' := _) #[true, true, true, true, true, true, true, true, true, true, true, true, true, true, false, false, true, true, false, false, false, false, false, false, false, false, false, false, false, false, false, false, false] rfl rfl (by kernel_rfl) (fun _ _ _ h => h) (Or.inl ⟨by rfl, ?_⟩) rfl ?_
            rotate_left
            · intro w'; go_simp; with_reducible rfl
            simp only [Act.put, List.setIfInBounds_toArray, List.set_cons_zero, List.set_cons_succ]
            refine one_ (i := 14) (N := (some 107)) #[true, true, true, true, true, true, true, true, true, true, true, true, true, true, true, false, true, true, false, false, false, false, false, false, false, false, false, false, false, false, false, false, false] rfl rfl (by kernel_rfl) (by decide) (fun K hK => ?_)
            go_simp
            (go_at_call 28; (with_reducible refine (W2.out _ G7d.out).mono ?_); rintro e w8 ⟨rfl, hw⟩; subst hw)
            refine hK.out _ _ trivial (fun _ => ?_)
            clear hK K
            try simp only [Act.put, List.setIfInBounds_toArray, List.set_cons_zero, List.set_cons_succ]
            refine pure_ (i := 15) (N := (some 108)) (v := ?_) (a' := _) #[true, true, true, true, true, true, true, true, true, true, true, true, true, true, true, true, true, true, false, false, false, false, false, false, false, false, false, false, false, false, false, false, false] rfl rfl (by kernel_rfl) (fun _ _ _ h => h) (Or.inl ⟨by rfl, ?_⟩) rfl ?_
            rotate_left
            · intro w'; go_simp; with_reducible rfl
            simp only [Act.put, List.setIfInBounds_toArray, List.set_cons_zero, List.set_cons_succ]
            refine one_ (i := 18) (N := (some 111)) #[true, true, true, true, true, true, true, true, true, true, true, true, true, true, true, true, true, true, true, false, false, false, false, false, false, false, false, false, false, false, false, false, false] rfl rfl (by kernel_rfl) (by decide) (fun K hK => ?_)
            go_simp
            (go_at_call 28; (with_reducible refine (W1.out _ G7d.out).mono ?_); rintro e w8 ⟨rfl, hw⟩; subst hw)
            refine hK.out _ _ trivial (fun _ => ?_)
            clear hK K
            try simp only [Act.put, List.setIfInBounds_toArray, List.set_cons_zero, List.set_cons_succ]
            refine pure_ (i := 19) (N := (some 112)) (v := ?_) (a' := _) #[true, true, true, true, true, true, true, true, true, true, true, true, true, true, true, true, true, true, true, true, false, false, false, false, false, false, false, false, false, false, false, false, false] rfl rfl (by kernel_rfl) (fun _ _ _ h => h) (Or.inl ⟨by rfl, ?_⟩) rfl ?_
            rotate_left
            · intro w'; go_simp; with_reducible rfl
            simp only [Act.put, List.setIfInBounds_toArray, List.set_cons_zero, List.set_cons_succ]
            refine pure_ (i := 20) (N := (some 113)) (v := ?_) (a' := _) #[true, true, true, true, true, true, true, true, true, true, true, true, true, true, true, true, true, true, true, true, true, false, false, false, false, false, false, false, false, false, false, false, false] rfl rfl (by kernel_rfl) (fun _ _ _ h => h) (Or.inl ⟨by rfl, ?_⟩) rfl ?_
            rotate_left
            · intro w'; go_simp; with_reducible rfl
            simp only [Act.put, List.setIfInBounds_toArray, List.set_cons_zero, List.set_cons_succ]
            refine pure_ (i := 21) (N := (some 114)) (v := ?_) (a' := _) #[true, true, true, true, true, true, true, true, true, true, true, true, true, true, true, true, true, true, true, true, true, true, false, false, false, false, false, false, false, false, false, false, false] rfl rfl (by kernel_rfl) (fun _ _ _ h => h) (Or.inl ⟨by rfl, ?_⟩) rfl ?_
            rotate_left
            · intro w'; go_simp; with_reducible rfl
            simp only [Act.put, List.setIfInBounds_toArray, List.set_cons_zero, List.set_cons_succ]
            refine pure_ (i := 22) (N := (some 115)) (v := ?_) (a' := _) #[true, true, true, true, true, true, true, true, true, true, true, true, true, true, true, true, true, true, true, true, true, true, true, false, false, false, false, false, false, false, false, false, false] rfl rfl (by kernel_rfl) (fun _ _ _ h => h) (Or.inl ⟨by rfl, ?_⟩) rfl ?_
            rotate_left
            · intro w'; go_simp; with_reducible rfl
            simp only [Act.put, List.setIfInBounds_toArray, List.set_cons_zero, List.set_cons_succ]
            refine pure_ (i := 23) (N := (some 116)) (v := ?_) (a' := _) #[true, true, true, true, true, true, true, true, true, true, true, true, true, true, true, true, true, true, true, true, true, true, true, true, false, false, false, false, false, false, false, false, false] rfl rfl (by kernel_rfl) (fun _ _ _ h => h) (Or.inl ⟨by rfl, ?_⟩) rfl ?_
            rotate_left
            · intro w'; go_simp; with_reducible rfl
            simp only [Act.put, List.setIfInBounds_toArray, List.set_cons_zero, List.set_cons_succ]
            refine pure_ (i := 24) (N := (some 117)) (v := ?_) (a' := _) #[true, true, true, true, true, true, true, true, true, true, true, true, true, true, true, true, true, true, true, true, true, true, true, true, true, false, false, false, false, false, false, false, false] rfl rfl (by kernel_rfl) (fun _ _ _ h => h) (Or.inl ⟨by rfl, ?_⟩) rfl ?_
            rotate_left
            · intro w'; go_simp; with_reducible rfl
            simp only [Act.put, List.setIfInBounds_toArray, List.set_cons_zero, List.set_cons_succ]
            refine pure_ (i := 27) (N := (some 120)) (v := ?_) (a' := _) #[true, true, true, true, true, true, true, true, true, true, true, true, true, true, true, true, true, true, true, true, true, true, true, true, true, false, false, true, false, false, false, false, false] rfl rfl (by kernel_rfl) (fun _ _ _ h => h) (Or.inl ⟨by rfl, ?_⟩) rfl ?_
            rotate_left
            · intro w'; go_simp; with_reducible rfl
            simp only [Act.put, List.setIfInBounds_toArray, List.set_cons_zero, List.set_cons_succ]
            refine pure_ (i := 28) (N := (some 121)) (v := ?_) (a' := _) #[true, true, true, true, true, true, true, true, true, true, true, true, true, true, true, true, true, true, true, true, true, true, true, true, true, false, false, true, true, false, false, false, false] rfl rfl (by kernel_rfl) (fun _ _ _ h => h) (Or.inl ⟨by rfl, ?_⟩) rfl ?_
            rotate_left
            · intro w'; go_simp; with_reducible rfl
            simp only [Act.put, List.setIfInBounds_toArray, List.set_cons_zero, List.set_cons_succ]
            refine one_ (i := 25) (N := (some 118)) #[true, true, true, true, true, true, true, true, true, true, true, true, true, true, true, true, true, true, true, true, true, true, true, true, true, true, false, true, true, false, false, false, false] rfl rfl (by kernel_rfl) (by decide) (fun K hK => ?_)
            go_simp
            (go_at_call 29; (with_reducible refine (K2.out _ G7d.out).mono ?_); rintro e w9 ⟨v, rfl, ho, hb⟩; obtain ⟨A9, c9, rfl, hv9⟩ := row_stays ho; have hv9a := hv9 w9 (Below.refl _ _); have HV9 := Aside0.mk hv9; have G9 := Aside0.mk (SG.out _ _ G7d.out hb); clear ho hb hv9)
            refine hK.out _ _ trivial (fun _ => ?_)
            clear hK K
            try simp only [Act.put, List.setIfInBounds_toArray, List.set_cons_zero, List.set_cons_succ]
            refine two_ (i := 26) (j := 29) (Ni := (some 119)) (Nj := (some 122)) #[true, true, true, true, true, true, true, true, true, true, true, true, true, true, true, true, true, true, true, true, true, true, true, true, true, true, true, true, true, false, false, false, false] #[true, true, true, true, true, true, true, true, true, true, true, true, true, true, true, true, true, true, true, true, true, true, true, true, true, true, false, true, true, true, false, false, false] rfl rfl rfl rfl (by kernel_rfl) (by decide) (by decide) (fun K hK => ?_) (fun K hK => ?_)
            · skip
              go_simp
              refine hK.out _ _ trivial (fun _ => ?_)
              clear hK K
              try simp only [Act.put, List.setIfInBounds_toArray, List.set_cons_zero, List.set_cons_succ]
              refine one_ (i := 29) (N := (some 122)) #[true, true, true, true, true, true, true, true, true, true, true, true, true, true, true, true, true, true, true, true, true, true, true, true, true, true, true, true, true, true, false, false, false] rfl rfl (by kernel_rfl) (by decide) (fun K hK => ?_)
              go_simp
              (go_at_call 29; (with_reducible refine (K1.out _ G9.out).mono ?_); rintro e w10 ⟨v, rfl, ho, hb⟩; obtain ⟨A10, c10, rfl, hv10⟩ := row_text ho; have hv9b := HV9.out w10 hb; have G10 := Aside0.mk (SG.out _ _ G9.out hb); clear ho hb)
              refine hK.out _ _ trivial (fun _ => ?_)
              clear hK K
              try simp only [Act.put, List.setIfInBounds_toArray, List.set_cons_zero, List.set_cons_succ]
              refine one_ (i := 30) (N := (some 123)) #[true, true, true, true, true, true, true, true, true, true, true, true, true, true, true, true, true, true, true, true, true, true, true, true, true, true, true, true, true, true, true, false, false] rfl rfl (by kernel_rfl) (by decide) (fun K hK => ?_)
              go_simp
              refine hK.out _ _ trivial (fun _ => ?_)
              clear hK K
              try simp only [Act.put, List.setIfInBounds_toArray, List.set_cons_zero, List.set_cons_succ]
              refine pure_ (i := 31) (N := (some 124)) (v := ?_) (a' := _) #[true, true, true, true, true, true, true, true, true, true, true, true, true, true, true, true, true, true, true, true, true, true, true, true, true, true, true, true, true, true, true, true, false] rfl rfl (by kernel_rfl) (fun _ _ _ h => h) (Or.inl ⟨by rfl, ?_⟩) rfl ?_
              rotate_left
              · intro w'; go_simp; with_reducible rfl
              simp only [Act.put, List.setIfInBounds_toArray, List.set_cons_zero, List.set_cons_succ]
              refine pure_ (i := 32) (N := (some 125)) (v := ?_) (a' := _) #[true, true, true, true, true, true, true, true, true, true, true, true, true, true, true, true, true, true, true, true, true, true, true, true, true, true, true, true, true, true, true, true, true] rfl rfl (by kernel_rfl) (fun _ _ _ h => h) (Or.inl ⟨by rfl, ?_⟩) rfl ?_
              rotate_left
              · intro w'; go_simp; with_reducible rfl
              simp only [Act.put, List.setIfInBounds_toArray, List.set_cons_zero, List.set_cons_succ]
              refine done_ (by kernel_rfl) ?_
              go_wp2
              go_roundw
              case rel => exact ⟨i + 1, by go_num, by omega, G10⟩
              case measure => simp [intOf]; omega
            · skip
              go_simp
              (go_at_call 29; (with_reducible refine (K1.out _ G9.out).mono ?_); rintro e w10 ⟨v, rfl, ho, hb⟩; obtain ⟨A10, c10, rfl, hv10⟩ := row_text ho; have hv9b := HV9.out w10 hb; have G10 := Aside0.mk (SG.out _ _ G9.out hb); clear ho hb)
              refine hK.out _ _ trivial (fun _ => ?_)
              clear hK K
              try simp only [Act.put, List.setIfInBounds_toArray, List.set_cons_zero, List.set_cons_succ]
              refine two_ (i := 26) (j := 30) (Ni := (some 119)) (Nj := (some 123)) #[true, true, true, true, true, true, true, true, true, true, true, true, true, true, true, true, true, true, true, true, true, true, true, true, true, true, true, true, true, true, false, false, false] #[true, true, true, true, true, true, true, true, true, true, true, true, true, true, true, true, true, true, true, true, true, true, true, true, true, true, false, true, true, true, true, false, false] rfl rfl rfl rfl (by kernel_rfl) (by decide) (by decide) (fun K hK => ?_) (fun K hK => ?_)
              · skip
                go_simp
                refine hK.out _ _ trivial (fun _ => ?_)
                clear hK K
                try simp only [Act.put, List.setIfInBounds_toArray, List.set_cons_zero, List.set_cons_succ]
                refine one_ (i := 30) (N := (some 123)) #[true, true, true, true, true, true, true, true, true, true, true, true, true, true, true, true, true, true, true, true, true, true, true, true, true, true, true, true, true, true, true, false, false] rfl rfl (by kernel_rfl) (by decide) (fun K hK => ?_)
                go_simp
                refine hK.out _ _ trivial (fun _ => ?_)
                clear hK K
                try simp only [Act.put, List.setIfInBounds_toArray, List.set_cons_zero, List.set_cons_succ]
                refine pure_ (i := 31) (N := (some 124)) (v := ?_) (a' := _) #[true, true, true, true, true, true, true, true, true, true, true, true, true, true, true, true, true, true, true, true, true, true, true, true, true, true, true, true, true, true, true, true, false] rfl rfl (by kernel_rfl) (fun _ _ _ h => h) (Or.inl ⟨by rfl, ?_⟩) rfl ?_
                rotate_left
                · intro w'; go_simp; with_reducible rfl
                simp only [Act.put, List.setIfInBounds_toArray, List.set_cons_zero, List.set_cons_succ]
                refine pure_ (i := 32) (N := (some 125)) (v := ?_) (a' := _) #[true, true, true, true, true, true, true, true, true, true, true, true, true, true, true, true, true, true, true, true, true, true, true, true, true, true, true, true, true, true, true, true, true] rfl rfl (by kernel_rfl) (fun _ _ _ h => h) (Or.inl ⟨by rfl, ?_⟩) rfl ?_
                rotate_left
                · intro w'; go_simp; with_reducible rfl
                simp only [Act.put, List.setIfInBounds_toArray, List.set_cons_zero, List.set_cons_succ]
                refine done_ (by kernel_rfl) ?_
                go_wp2
                go_roundw
                case rel => exact ⟨i + 1, by go_num, by omega, G10⟩
                case measure => simp [intOf]; omega
              · skip
                go_simp
                refine hK.out _ _ trivial (fun _ => ?_)
                clear hK K
                try simp only [Act.put, List.setIfInBounds_toArray, List.set_cons_zero, List.set_cons_succ]
                refine one_ (i := 26) (N := (some 119)) #[true, true, true, true, true, true, true, true, true, true, true, true, true, true, true, true, true, true, true, true, true, true, true, true, true, true, true, true, true, true, true, false, false] rfl rfl (by kernel_rfl) (by decide) (fun K hK => ?_)
                go_simp
                refine hK.out _ _ trivial (fun _ => ?_)
                clear hK K
                try simp only [Act.put, List.setIfInBounds_toArray, List.set_cons_zero, List.set_cons_succ]
                refine pure_ (i := 31) (N := (some 124)) (v := ?_) (a' := _) #[true, true, true, true, true, true, true, true, true, true, true, true, true, true, true, true, true, true, true, true, true, true, true, true, true, true, true, true, true, true, true, true, false] rfl rfl (by kernel_rfl) (fun _ _ _ h => h) (Or.inl ⟨by rfl, ?_⟩) rfl ?_
                rotate_left
                · intro w'; go_simp; with_reducible rfl
                simp only [Act.put, List.setIfInBounds_toArray, List.set_cons_zero, List.set_cons_succ]
                refine pure_ (i := 32) (N := (some 125)) (v := ?_) (a' := _) #[true, true, true, true, true, true, true, true, true, true, true, true, true, true, true, true, true, true, true, true, true, true, true, true, true, true, true, true, true, true, true, true, true] rfl rfl (by kernel_rfl) (fun _ _ _ h => h) (Or.inl ⟨by rfl, ?_⟩) rfl ?_
                rotate_left
                · intro w'; go_simp; with_reducible rfl
                simp only [Act.put, List.setIfInBounds_toArray, List.set_cons_zero, List.set_cons_succ]
                refine done_ (by kernel_rfl) ?_
                go_wp2
                go_roundw
                case rel => exact ⟨i + 1, by go_num, by omega, G10⟩
                case measure => simp [intOf]; omega
        · obtain rfl : i = P.length := by omega
          have k2 : ¬ ((P.length : Nat) : Int) < (P.length : Int) := by omega
          have FNL := Aside0.mk (find_nil A2 c2 bs wr (GG.out _ G6.out).1.2 hbl2)
          have HBE := (GG.out _ G6.out).1.1
          have HBEA := Aside0.mk HBE
          clear HBE
          go_wp2_with (first
            | (go_at_call 23; (with_reducible refine ND.out.mono ?_); rintro e w6 ⟨rfl, hw⟩; subst hw)
            | (go_at_call 23; (with_reducible refine (nodes_nil _).mono ?_); rintro e w6 ⟨rfl, hw⟩; subst hw)
            | (go_at_call 32; (with_reducible refine FNL.out.mono ?_); rintro e w6 ⟨rfl, hw⟩; subst hw)
            | (go_at_call 31; (with_reducible refine (step_nil 0 97 _).mono ?_); rintro e w6 ⟨rfl, hw⟩; subst hw)
            | (go_at_call 26; (with_reducible refine (depth_nil 0 _).mono ?_); rintro e w6 ⟨rfl, hw⟩; subst hw)
            | (go_at_call 28; (with_reducible refine (word_nil 0 _).mono ?_); rintro e w6 ⟨rfl, hw⟩; subst hw))
          go_ret
          exact ⟨rfl, HBEA.out⟩
end Go.Proofs.Ytifbcboefopioaa.Tri
