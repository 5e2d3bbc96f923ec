/- By hand: the law ShiftsWider, walked whole. No condition. -/
import Derived.Test.YtifbcboefopioaaMg3
import Derived.Test.YtifbcboefopioaaTriApp
set_option linter.unusedVariables false
set_option linter.unusedSimpArgs false
namespace Go.Proofs.Ytifbcboefopioaa.Tri
open Go.RowKit Go.Maps Go.Proofs.YtifbcboefopioaaW.PrintWords Go.Proofs.YtifbcboefopioaaW.PrintLast Go.Proofs.YtifbcboefopioaaW.PrintMore Go.Proofs.Ytifbcboefopioaa.Kit Go.Proofs.Ytifbcboefopioaa.All
attribute [local go_sem] max2_int min2_int max_two min_two max_three min_three max_four min_four

theorem TL_append (L M : List Txt) : TL (L ++ M) = TL L ++ TL M := by simp [TL]
set_option maxRecDepth 100000 in
set_option maxHeartbeats 12000000 in
theorem wider_law (A0 : Option Addr) (c0 : Nat) (L : List Txt) (A1 : Option Addr) (c1 : Nat) (M : List Txt) (w : World)
    (hr0 : Kd.C (Kd.slice 5 (Kd.int .u8)) w A0 L.length L) (hc0 : L.length ≤ c0) (hB : ∀ s ∈ L, Bytes s) (hL : L.length ≤ 8000000000000)
    (hr1 : Kd.C (Kd.slice 5 (Kd.int .u8)) w A1 M.length M) (hc1 : M.length ≤ c1) (hB1 : ∀ s ∈ M, Bytes s) (hM : M.length ≤ 8000000000000) :
    Calls Try.prog 18 #[.slice A0 L.length c0, .slice A1 M.length c1] w fun e w' => e = .returned (.bool true) ∧ Below w.heap.size w w' := by
  obtain ⟨k, r, bo, hT, hbo⟩ := texts15_two L (by omega)
  obtain ⟨k', r', bo', hT', hbo'⟩ := texts15_two M (by omega)
  obtain ⟨F, SF, E0, FF⟩ := stays_pack ((stays_below w).and ((stays_reads (Kd.slice 5 (Kd.int .u8)) A0 L.length L).and (stays_reads (Kd.slice 5 (Kd.int .u8)) A1 M.length M))) ⟨Below.refl _ _, hr0, hr1⟩
  have HC0 := Aside0.mk hc0
  have HC1 := Aside0.mk hc1
  have T0 := Aside0.mk hT
  have T0' := Aside0.mk hT'
  have HBO := Aside0.mk hbo
  have HBO' := Aside0.mk hbo'
  have tok1 : True := trivial
  clear hr0 hc0 hT hbo hr1 hc1 hT' hbo'
  cases bo with
  | false =>
    cases bo' with
    | false =>
      go_enter Try.func18, Try.ntmps18
      go_wp2_with (first
        | (go_at_call 45; (refine (awake15_at _).mono ?_); rintro e w1 ⟨rfl, hb⟩; have E1 := Aside0.mk (SF.out _ _ E0.out hb); clear hb)
        | (go_at_call 46; have _t := tok1; (refine (texts15_at _ A0 c0 L k r false (FF.out _ E1.out).2.1 HC0.out T0.out).mono ?_); rintro e w2 ⟨AW, cW, rfl, hcW, hW, hb⟩; have E2 := Aside0.mk (SF.out _ _ E1.out hb); clear hW hcW hb tok1)
        | (go_at_call 46; (refine (texts15_at _ A1 c1 M k' r' false (FF.out _ E2.out).2.2 HC1.out T0'.out).mono ?_); rintro e w3 ⟨AV, cV, rfl, hcV, hV, hb⟩; have E3 := Aside0.mk (SF.out _ _ E2.out hb); clear hV hcV hb))
      go_ret
      exact ⟨rfl, (FF.out _ E3.out).1⟩
    | true =>
      go_enter Try.func18, Try.ntmps18
      go_wp2_with (first
        | (go_at_call 45; (refine (awake15_at _).mono ?_); rintro e w1 ⟨rfl, hb⟩; have E1 := Aside0.mk (SF.out _ _ E0.out hb); clear hb)
        | (go_at_call 46; have _t := tok1; (refine (texts15_at _ A0 c0 L k r false (FF.out _ E1.out).2.1 HC0.out T0.out).mono ?_); rintro e w2 ⟨AW, cW, rfl, hcW, hW, hb⟩; have E2 := Aside0.mk (SF.out _ _ E1.out hb); clear hW hcW hb tok1)
        | (go_at_call 46; (refine (texts15_at _ A1 c1 M k' r' true (FF.out _ E2.out).2.2 HC1.out T0'.out).mono ?_); rintro e w3 ⟨AV, cV, rfl, hcV, hV, hb⟩; have E3 := Aside0.mk (SF.out _ _ E2.out hb); clear hV hcV hb))
      go_ret
      exact ⟨rfl, (FF.out _ E3.out).1⟩
  | true =>
  cases bo' with
  | false =>
    go_enter Try.func18, Try.ntmps18
    go_wp2_with (first
        | (go_at_call 45; (refine (awake15_at _).mono ?_); rintro e w1 ⟨rfl, hb⟩; have E1 := Aside0.mk (SF.out _ _ E0.out hb); clear hb)
        | (go_at_call 46; have _t := tok1; (refine (texts15_at _ A0 c0 L k r true (FF.out _ E1.out).2.1 HC0.out T0.out).mono ?_); rintro e w2 ⟨AW, cW, rfl, hcW, hW, hb⟩; have E2 := Aside0.mk (SF.out _ _ E1.out hb); clear hW hcW hb tok1)
        | (go_at_call 46; (refine (texts15_at _ A1 c1 M k' r' false (FF.out _ E2.out).2.2 HC1.out T0'.out).mono ?_); rintro e w3 ⟨AV, cV, rfl, hcV, hV, hb⟩; have E3 := Aside0.mk (SF.out _ _ E2.out hb); clear hV hcV hb))
    go_ret
    exact ⟨rfl, (FF.out _ E3.out).1⟩
  | true =>
  obtain ⟨hrm, l12, l40⟩ := HBO.out rfl
  obtain ⟨hrm', l12', l40'⟩ := HBO'.out rfl
  clear hrm hrm' HBO HBO'
  have l24 : (L ++ M).length ≤ 24 := by rw [List.length_append]; omega
  have a40 : ∀ s ∈ L ++ M, s.length ≤ 40 := fun s hs => (List.mem_append.1 hs).elim (l40 s) (l40' s)
  have hBA : ∀ s ∈ L ++ M, Bytes s := fun s hs => (List.mem_append.1 hs).elim (hB s) (hB1 s)
  have happ := TL_append L M
  have hTl := Nat.le_trans (TL_len L) l12
  have hUl := Nat.le_trans (TL_len (L ++ M)) l24
  have hTB := TL_bytes hB
  have hUB := TL_bytes hBA
  have hTS := TL_short l40
  have hUS := TL_short a40
  have hTN := TL_ne L
  have hUN := TL_ne (L ++ M)
  obtain ⟨N, hN⟩ : ∃ N, N = L ++ M := ⟨_, rfl⟩
  rw [← hN] at l24 a40 hBA happ hUl hUB hUS hUN
  have HN := Aside0.mk hN
  obtain ⟨T, hT⟩ : ∃ T, T = TL L := ⟨_, rfl⟩
  obtain ⟨U, hU⟩ : ∃ U, U = TL N := ⟨_, rfl⟩
  rw [← hT] at happ hTl hTB hTS hTN
  rw [← hU] at happ hUl hUB hUS hUN
  have hTU : ∀ t ∈ T, t ∈ U := fun t ht => by rw [happ]; exact List.mem_append_left _ ht
  obtain ⟨pm, hpm⟩ := pathsL_append T (TL M)
  rw [← happ] at hpm
  have hPl := paths_len hTl hTS
  have hQl : (pathsL U).length ≤ 1 + U.length * 40 := pathsFrom_len U [[]] 40 hUS
  have hPS := paths_short hTS
  have hQS := paths_short hUS
  have hPB := pathsL_bytes hTB
  have hG := pathsL_good T
  have hG2 := pathsL_good U
  obtain ⟨P, hP⟩ : ∃ P, P = pathsL T := ⟨_, rfl⟩
  obtain ⟨Q, hQ⟩ : ∃ Q, Q = pathsL U := ⟨_, rfl⟩
  rw [← hP] at hPl hPS hPB hG hpm
  rw [← hQ] at hQl hQS hG2 hpm
  have q1000 : Q.length ≤ 1000 := by omega
  have up := fun (x : Txt) (hx : x ∈ L) => Nat.le_trans (l40 x hx) (show 40 ≤ 1000 by decide)
  have upA := fun (x : Txt) (hx : x ∈ N) => Nat.le_trans (a40 x hx) (show 40 ≤ 1000 by decide)
  have upP := fun (x : Txt) (hx : x ∈ P) => Nat.le_trans (hPS x hx) (show 40 ≤ 1000 by decide)
  have upQ := fun (x : Txt) (hx : x ∈ Q) => Nat.le_trans (hQS x hx) (show 40 ≤ 1000 by decide)
  obtain ⟨le, hle⟩ : ∃ le, leastN T = le := ⟨_, rfl⟩
  have HLE := Aside0.mk hle
  have UP := Aside0.mk up
  have UPA := Aside0.mk upA
  have HPSU := Aside0.mk upP
  have HQSU := Aside0.mk upQ
  have HPS := Aside0.mk hPS
  have HPB := Aside0.mk hPB
  have HG := Aside0.mk hG
  have HG2 := Aside0.mk hG2
  have HBL := Aside0.mk hB
  have HBA := Aside0.mk hBA
  have HP := Aside0.mk hP
  have HQ := Aside0.mk hQ
  have HT := Aside0.mk hT
  have HU := Aside0.mk hU
  have HTB := Aside0.mk hTB
  have HUB := Aside0.mk hUB
  have HTN := Aside0.mk hTN
  have HUN := Aside0.mk hUN
  have HTU := Aside0.mk hTU
  have HPM := Aside0.mk hpm
  clear hN up upA upP upQ hle hPS hQS hPB hG hG2 hB hB1 hBA hP hQ hT hU hTB hUB hTS hUS hTN hUN hTU hpm happ l40 l40' a40
  have hpl2 : P.length ≤ 4611686018427387904 := by omega
  have hql2 : Q.length ≤ 4611686018427387904 := by omega
  go_enter Try.func18, Try.ntmps18
  go_upto_region 9 with (first
        | (go_at_call 45; (refine (awake15_at _).mono ?_); rintro e w1 ⟨rfl, hb⟩; have E1 := Aside0.mk (SF.out _ _ E0.out hb); clear hb)
        | (go_at_call 46; have _t := tok1; (refine (texts15_at _ A0 c0 L k r true (FF.out _ E1.out).2.1 HC0.out T0.out).mono ?_); rintro e w2 ⟨AW, cW, rfl, hcW, hW, hb⟩; have E2 := Aside0.mk (SF.out _ _ E1.out hb); clear hW hcW hb tok1)
        | (go_at_call 46; (refine (texts15_at _ A1 c1 M k' r' true (FF.out _ E2.out).2.2 HC1.out T0'.out).mono ?_); rintro e w3 ⟨AV, cV, rfl, hcV, hV, hb⟩; have E3 := Aside0.mk (SF.out _ _ E2.out hb); clear hV hcV hb))
  obtain ⟨vs, hvC, hvR⟩ := rows_raw (FF.out _ E3.out).2.1
  obtain ⟨us, huC, huR⟩ := rows_raw (FF.out _ E3.out).2.2
  have VC := Aside0.mk hvC
  have UC := Aside0.mk huC
  have VR := Aside0.mk hvR
  have UR := Aside0.mk huR
  have VL := Aside0.mk hvR.1
  clear hvC huC hvR huR
  go_upto_region 11 with (first
      | ((with_reducible refine gate_builtin (b := .append) (xs := #[.tmp 36, .tmp 37]) rfl ?_); at_builtin; refine Kd.R_append_rows (Kd.raw 1) (Rr := (Kd.raw 1).K w3) (w0 := w3) w3.heap.size rfl (.tmp 36) (.tmp 37) 22 32 (.slice none 0 0) 24 rfl Try.underlying22 info32 rfl (by decide) (by decide) (.slice none 0 0) [] (vs.map fun x => [x]) A0 L.length c0 (fun _ => True) (fun _ => False) rfl rfl (Kd.R_nil _ _ _ _ _) VC.out (fun x cs hx => hx) (fun _ hk => hk.elim) (fun _ _ => trivial) (Below.refl _ _) (Nat.le_refl _) (by simp; omega) ?_; intro v1 w4 ho hb hg hat; have HO1 := Aside0.mk ho; have HB4 := Aside0.mk hb; have E4 := Aside0.mk (SF.out _ _ E3.out hb); clear ho hb hg hat)
      | ((with_reducible refine gate_builtin (b := .append) (xs := #[.tmp 39, .tmp 40]) rfl ?_); at_builtin; refine Kd.R_append_rows (Kd.raw 1) (Rr := (Kd.raw 1).K w4) (w0 := w3) w3.heap.size rfl (.tmp 39) (.tmp 40) 22 32 (.slice none 0 0) 24 rfl Try.underlying22 info32 rfl (by decide) (by decide) v1 ([] ++ vs.map fun x => [x]) (us.map fun x => [x]) A1 M.length c1 (fun _ => True) (fun _ => False) rfl rfl HO1.out (Kd.C_below UC.out HB4.out) (fun x cs hx => hx) (fun _ hk => hk.elim) (fun _ _ => trivial) HB4.out (below_size HB4.out) (by simp [VL.out]; omega) ?_; intro v2 w5 ho hb hg hat; have HO2 := Aside0.mk ho; have HB5 := Aside0.mk hb; have E5 := Aside0.mk (SF.out _ _ E3.out hb); clear ho hb hg hat))
  have ho := HO2.out
  rw [List.nil_append, ← List.map_append] at ho
  obtain ⟨B, cB, hv, hcB, hCB⟩ := Kd.R_reads ho
  have hRA := (VR.out.below HB5.out).append (UR.out.below HB5.out)
  rw [← HN.out] at hRA
  have hlen : ((vs ++ us).map fun x => [x]).length = N.length := by rw [List.length_map, hRA.1]
  rw [hlen] at hv hcB hCB
  subst hv
  have HR5 := Aside0.mk (raw_C hCB hRA.1.symm hRA.2)
  clear ho hCB hRA hlen hcB HO1 HO2
  go_upto_region 15 with (first
      | (go_at_call 35; (with_reducible refine (bbuild_to _ A0 c0 L T P HT.out HP.out (FF.out _ E5.out).2.1 HBL.out (by omega) UP.out).mono ?_); rintro e w6 ⟨g, base, b, rfl, hk, ht, hb⟩; have E6 := Aside0.mk (SF.out _ _ E5.out hb); have HR6 := Aside0.mk (Kd.C_below HR5.out hb); have HK := Aside0.mk (And.intro hk ht); clear hk ht hb)
      | (go_at_call 35; (with_reducible refine (bbuild_to _ B cB N U Q HU.out HQ.out HR6.out HBA.out (by omega) UPA.out).mono ?_); rintro e w7 ⟨g2, base2, b2, rfl, hk, ht, hb⟩; have E7 := Aside0.mk (SF.out _ _ E6.out hb); have HK7 := Aside0.mk (And.intro (HK.out.1.below hb) (HK.out.2.below hb)); have HK2 := Aside0.mk (And.intro hk ht); clear hk ht hb)
      | (go_at_call 47; (with_reducible refine (shbuild_any _ g base b T P HP.out HK7.out.1 HK7.out.2 (by omega) HTN.out HTB.out HPSU.out).mono ?_); rintro e w8 ⟨h, basef, rfl, hf, hb⟩; have E8 := Aside0.mk (SF.out _ _ E7.out hb); have HS8 := Aside0.mk (And.intro (And.intro (HK7.out.1.below hb) (HK7.out.2.below hb)) hf); have HK28 := Aside0.mk (And.intro (HK2.out.1.below hb) (HK2.out.2.below hb)); clear hf hb)
      | (go_at_call 47; (with_reducible refine (shbuild_any _ g2 base2 b2 U Q HQ.out HK28.out.1 HK28.out.2 (by omega) HUN.out HUB.out HQSU.out).mono ?_); rintro e w9 ⟨h2, basef2, rfl, hf, hb⟩; have E9 := Aside0.mk (SF.out _ _ E8.out hb); have HS9 := Aside0.mk (stays_sh g base b h basef T P _ _ HS8.out hb); have HS29 := Aside0.mk (And.intro (And.intro (HK28.out.1.below hb) (HK28.out.2.below hb)) hf); clear hf hb))
  obtain ⟨G, SG, G9, GG⟩ := stays_pack ((stays_below w).and ((stays_sh g base b h basef T P).and (stays_sh g2 base2 b2 h2 basef2 U Q))) ⟨(FF.out _ E9.out).1, HS9.out, HS29.out⟩
  have LS := Aside0.mk (fun (w1 : World) (h0 : G w1) => least_at (GG.out w1 h0).2.1.1.1)
  rw [HLE.out] at LS
  have XG : Aside0 (∀ w1, G w1 → w1.cell? ⟨g, 0, none⟩ = some (.pointer (some ⟨b, 0, none⟩))) := ⟨fun w1 h0 => (GG.out w1 h0).2.1.1.1.tr⟩
  have XG2 : Aside0 (∀ w1, G w1 → w1.cell? ⟨g2, 0, none⟩ = some (.pointer (some ⟨b2, 0, none⟩))) := ⟨fun w1 h0 => (GG.out w1 h0).2.2.1.1.tr⟩
  have ND := Aside0.mk (fun (w1 : World) (h0 : G w1) => nodes_at (GG.out w1 h0).2.1.1.2)
  clear E0 E1 E2 E3 E4 E5 E6 E7 E8 E9 HK HK7 HK2 HK28 HS8 HS9 HS29 HR5 HR6 VC UC VR UR VL HB4 HB5
  have p0 := HG.out.pos
  have hPQ : P.length ≤ Q.length := by rw [HPM.out, List.length_append]; omega
  by_cases h0 : T = []
  · have l0 : le = 0 := by rw [← HLE.out, h0]; rfl
    have l1 : (le == 0) = true := beq_iff_eq.2 l0
    clear h0 l0
    go_wp2_with (go_at_call 37; (with_reducible refine (LS.out _ G9.out).mono ?_); rintro e w' ⟨rfl, hw⟩; have hw2 := hw.symm; clear hw; subst hw2)
    go_ret
    exact ⟨rfl, (GG.out _ G9.out).1⟩
  have lepos := leastN_pos HTN.out h0
  have hlu : leastN U ≤ leastN T := by
    obtain ⟨_, ⟨t, ht, e⟩, _⟩ := lepos
    have hu := HTU.out t ht
    have := (leastN_pos HUN.out (List.ne_nil_of_mem hu)).2.2 t hu
    omega
  have HLU := Aside0.mk hlu
  have l1 : (le == 0) = false := beq_eq_false_iff_ne.2 (by have := HLE.out; omega)
  clear lepos hlu h0
  go_wp2_with (go_at_call 37; (with_reducible refine (LS.out _ G9.out).mono ?_); rintro e w' ⟨rfl, hw⟩; have hw2 := hw.symm; clear hw; subst hw2)
  go_loopw [15] (fun v15 w' => ∃ i : Nat, v15 = .int .i64 i ∧ i ≤ P.length ∧ Aside0 (G w')) (fun v15 _ => P.length - (intOf v15).toNat)
  case atStart => exact ⟨0, rfl, Nat.zero_le _, G9⟩
  case round =>
    obtain ⟨i, rfl, hi, G10⟩ := hrel
    have xg := XG.out _ G10.out
    by_cases hlt : i < P.length
    · have k1 : ((i : Nat) : Int) < (P.length : Int) := by omega
      obtain ⟨s, hs⟩ : ∃ s, P[i]? = some s := ⟨_, List.getElem?_eq_getElem hlt⟩
      have hsm := List.mem_of_getElem? hs
      have hs40 := HPS.out s hsm
      have hsB := HPB.out s hsm
      have hs2 : Q[i]? = some s := by rw [HPM.out, List.getElem?_append_left hlt]; exact hs
      have hpi := place_at HG2.out.nodup hs2
      have wk : IntKind.i64.wrap ((i : Int) + 1) = (i : Int) + 1 := IntWalk.i64_in _ (by omega)
      have PT := Aside0.mk (fun (w1 : World) (h0 : G w1) => path_at HG.out (GG.out w1 h0).2.1.1.2 hpl2 i s hs (by omega))
      have FN : Aside0 (∀ w1, G w1 → ∀ A c, Kd.C (Kd.int .u8) w1 A s.length s → Calls Try.prog 32 #[.pointer (some ⟨b2, 0, none⟩), .slice A s.length c] w1 fun e w' => e = .returned (.int .i64 i) ∧ w' = w1) := ⟨fun w1 h0 A c hr => by
        have := find_at HG2.out (GG.out w1 h0).2.2.1.2 hql2 A c s hr hsB (by omega)
        rwa [hpi] at this⟩
      obtain ⟨m1, m2⟩ := two_spec HP.out hs
      obtain ⟨n1, n2⟩ := two_spec HQ.out hs2
      have u1 := m1.wider n1 HLU.out (fun k ⟨x, hx, hk⟩ => ⟨x, by rw [HPM.out]; exact List.mem_append_left _ hx, hk⟩)
      have u2 := m2.wider n2 HLU.out (fun k ⟨q, hq, x, hx, hk⟩ => ⟨q, hq, x, HTU.out x hx, hk⟩)
      have F1 := Aside0.mk (fun (w1 : World) (h0 : G w1) => first_any (GG.out w1 h0).2.1.2 (i : Int))
      have F2 := Aside0.mk (fun (w1 : World) (h0 : G w1) => first_any (GG.out w1 h0).2.2.2 (i : Int))
      have S1 := Aside0.mk (fun (w1 : World) (h0 : G w1) => second_any (GG.out w1 h0).2.1.2 (i : Int))
      have S2 := Aside0.mk (fun (w1 : World) (h0 : G w1) => second_any (GG.out w1 h0).2.2.2 (i : Int))
      obtain ⟨a1, ha1⟩ : ∃ q, (twoOf (farsX T P) (i : Int)).1 = q := ⟨_, rfl⟩
      obtain ⟨a2, ha2⟩ : ∃ q, (twoOf (farsX U Q) (i : Int)).1 = q := ⟨_, rfl⟩
      obtain ⟨a3, ha3⟩ : ∃ q, (twoOf (farsX T P) (i : Int)).2 = q := ⟨_, rfl⟩
      obtain ⟨a4, ha4⟩ : ∃ q, (twoOf (farsX U Q) (i : Int)).2 = q := ⟨_, rfl⟩
      rw [ha1] at F1 u1
      rw [ha2] at F2 u1
      rw [ha3] at S1 u2
      rw [ha4] at S2 u2
      have t1 : decide (a2 > a1) = false := decide_eq_false (by omega)
      have t2 : decide (a4 > a3) = false := decide_eq_false (by omega)
      have t3 : decide ((i : Int) < 0) = false := decide_eq_false (by omega)
      clear hs hsm hs2 hsB hpi m1 m2 n1 n2 ha1 ha2 ha3 ha4
      go_upto_region 20 with (go_at_call 23; (with_reducible refine (ND.out _ G10.out).mono ?_); rintro e w' ⟨rfl, hw⟩; have hw2 := hw.symm; clear hw; subst hw2)
      have G10d := Aside0.mk (stays_drew SG.out G10.out)
      refine start_ (n := 12) (S := G) (ds := []) #[false, false, false, false, false, false, false, false, false, false, false, false] (by kernel_rfl) rfl rfl G10d.out (fun _ => ?_)
      refine pure_ (i := 0) (N := (some 62)) (v := ?_) (a' := _) #[true, false, false, false, false, false, false, false, false, false, false, false] rfl rfl (by kernel_rfl) (fun _ _ _ h => h) (Or.inl ⟨by rfl, ?_⟩) rfl ?_
      rotate_left
      · intro w'; go_simp; with_reducible rfl
      simp only [Act.put, List.setIfInBounds_toArray, List.set_cons_zero, List.set_cons_succ]
      refine pure_ (i := 1) (N := (some 63)) (v := ?_) (a' := _) #[true, true, false, false, false, false, false, false, false, false, false, false] rfl rfl (by kernel_rfl) (fun _ _ _ h => h) (Or.inl ⟨by rfl, ?_⟩) rfl ?_
      rotate_left
      · intro w'; go_simp; with_reducible rfl
      simp only [Act.put, List.setIfInBounds_toArray, List.set_cons_zero, List.set_cons_succ]
      refine pure_ (i := 2) (N := (some 64)) (v := ?_) (a' := _) #[true, true, true, false, false, false, false, false, false, false, false, false] rfl rfl (by kernel_rfl) (fun _ _ _ h => h) (Or.inl ⟨by rfl, ?_⟩) rfl ?_
      rotate_left
      · intro w'; go_simp; with_reducible rfl
      simp only [Act.put, List.setIfInBounds_toArray, List.set_cons_zero, List.set_cons_succ]
      refine take_ (i := 3) (N := (some 65)) (v := ?_) (a' := _) #[true, true, true, true, false, false, false, false, false, false, false, false] rfl rfl (by kernel_rfl) (fun _ _ _ h => h) (Or.inl ⟨by rfl, ?_⟩) G10d.out rfl ?_
      rotate_left
      · intro w' s_; have f0_ := XG2.out w' s_; go_simp; with_reducible rfl
      simp only [Act.put, List.setIfInBounds_toArray, List.set_cons_zero, List.set_cons_succ]
      refine pure_ (i := 4) (N := (some 66)) (v := ?_) (a' := _) #[true, true, true, true, true, false, false, false, false, false, false, false] rfl rfl (by kernel_rfl) (fun _ _ _ h => h) (Or.inl ⟨by rfl, ?_⟩) rfl ?_
      rotate_left
      · intro w'; go_simp; with_reducible rfl
      simp only [Act.put, List.setIfInBounds_toArray, List.set_cons_zero, List.set_cons_succ]
      refine pure_ (i := 5) (N := (some 67)) (v := ?_) (a' := _) #[true, true, true, true, true, true, false, false, false, false, false, false] rfl rfl (by kernel_rfl) (fun _ _ _ h => h) (Or.inl ⟨by rfl, ?_⟩) rfl ?_
      rotate_left
      · intro w'; go_simp; with_reducible rfl
      simp only [Act.put, List.setIfInBounds_toArray, List.set_cons_zero, List.set_cons_succ]
      refine pure_ (i := 6) (N := (some 68)) (v := ?_) (a' := _) #[true, true, true, true, true, true, true, false, false, false, false, false] rfl rfl (by kernel_rfl) (fun _ _ _ h => h) (Or.inl ⟨by rfl, ?_⟩) rfl ?_
      rotate_left
      · intro w'; go_simp; with_reducible rfl
      simp only [Act.put, List.setIfInBounds_toArray, List.set_cons_zero, List.set_cons_succ]
      refine take_ (i := 7) (N := (some 69)) (v := ?_) (a' := _) #[true, true, true, true, true, true, true, true, false, false, false, false] rfl rfl (by kernel_rfl) (fun _ _ _ h => h) (Or.inl ⟨by rfl, ?_⟩) G10d.out rfl ?_
      rotate_left
      · intro w' s_; have f0_ := XG.out w' s_; go_simp; with_reducible rfl
      simp only [Act.put, List.setIfInBounds_toArray, List.set_cons_zero, List.set_cons_succ]
      refine pure_ (i := 8) (N := (some 70)) (v := ?_) (a' := _) #[true, true, true, true, true, true, true, true, true, false, false, false] rfl rfl (by kernel_rfl) (fun _ _ _ h => h) (Or.inl ⟨by rfl, ?_⟩) rfl ?_
      rotate_left
      · intro w'; go_simp; with_reducible rfl
      simp only [Act.put, List.setIfInBounds_toArray, List.set_cons_zero, List.set_cons_succ]
      refine one_ (i := 9) (N := (some 71)) #[true, true, true, true, true, true, true, true, true, true, false, false] rfl rfl (by kernel_rfl) (by decide) (fun K hK => ?_)
      go_simp
      (go_at_call 25; (with_reducible refine (PT.out _ G10d.out).mono ?_); rintro e w11 ⟨v, rfl, ho, hb⟩; obtain ⟨A11, c11, rfl, hc11, hC11⟩ := Kd.R_reads ho; have G11 := Aside0.mk (SG.out _ _ G10d.out hb); have F11 := Aside0.mk (FN.out w11 G11.out A11 c11 hC11); clear ho hb hc11 hC11)
      refine hK.out _ _ G11.out (fun _ => ?_)
      clear hK K
      try simp only [Act.put, List.setIfInBounds_toArray, List.set_cons_zero, List.set_cons_succ]
      refine one_ (i := 10) (N := (some 72)) #[true, true, true, true, true, true, true, true, true, true, true, false] rfl rfl (by kernel_rfl) (by decide) (fun K hK => ?_)
      go_simp
      (go_at_call 32; (with_reducible refine F11.out.mono ?_); rintro e w' ⟨rfl, hw⟩; have hw2 := hw.symm; clear hw; subst hw2)
      refine hK.out _ _ G11.out (fun _ => ?_)
      clear hK K
      try simp only [Act.put, List.setIfInBounds_toArray, List.set_cons_zero, List.set_cons_succ]
      refine pure_ (i := 11) (N := (some 16)) (v := ?_) (a' := _) #[true, true, true, true, true, true, true, true, true, true, true, true] rfl rfl (by kernel_rfl) (fun _ _ _ h => h) (Or.inl ⟨by rfl, ?_⟩) rfl ?_
      rotate_left
      · intro w'; go_simp; with_reducible rfl
      simp only [Act.put, List.setIfInBounds_toArray, List.set_cons_zero, List.set_cons_succ]
      refine done_ (by kernel_rfl) ?_
      go_wp2_with (first
        | (go_at_call 49; (with_reducible refine (F2.out _ G11.out).mono ?_); rintro e w12 ⟨rfl, hb⟩; have G12 := Aside0.mk (SG.out _ _ G11.out hb); clear hb)
        | (go_at_call 49; (with_reducible refine (F1.out _ G12.out).mono ?_); rintro e w13 ⟨rfl, hb⟩; have G13 := Aside0.mk (SG.out _ _ G12.out hb); clear hb)
        | (go_at_call 51; (with_reducible refine (S2.out _ G13.out).mono ?_); rintro e w14 ⟨rfl, hb⟩; have G14 := Aside0.mk (SG.out _ _ G13.out hb); clear hb)
        | (go_at_call 51; (with_reducible refine (S1.out _ G14.out).mono ?_); rintro e w15 ⟨rfl, hb⟩; have G15 := Aside0.mk (SG.out _ _ G14.out hb); clear hb))
      go_roundw
      case rel => exact ⟨i + 1, by go_num, by omega, G15⟩
      case measure => simp [intOf]; omega
    · obtain rfl : i = P.length := by omega
      have k1 : ¬ ((P.length : Nat) : Int) < (P.length : Int) := by omega
      go_wp2_with (go_at_call 23; (with_reducible refine (ND.out _ G10.out).mono ?_); rintro e w' ⟨rfl, hw⟩; subst hw)
      go_ret
      exact ⟨rfl, (GG.out _ G10.out).1⟩
end Go.Proofs.Ytifbcboefopioaa.Tri
