/- By hand: back.Build. No condition. -/
import Derived.Test.YtifbcboefopioaaBackM
import Derived.Test.YtifbcboefopioaaBackP
import Derived.Test.YtifbcboefopioaaTriApp
set_option linter.unusedVariables false
namespace Go.Proofs.Ytifbcboefopioaa.Tri
open Go.RowKit Go.Maps Go.Proofs.YtifbcboefopioaaW.PrintWords Go.Proofs.YtifbcboefopioaaW.PrintLast Go.Proofs.YtifbcboefopioaaW.PrintMore Go.Proofs.Ytifbcboefopioaa.Kit Go.Proofs.Ytifbcboefopioaa.All
attribute [local go_sem] max2_int min2_int max_two min_two max_three min_three max_four min_four

theorem zero47 : Try.zeroCells47 = bArr (.pointer none) 0 near0 := by kernel_rfl
theorem bArr_least (tp : Value) (least x : Int) (near : List Int) : (bArr tp least near).setIfInBounds 1 (.int .i64 x) = bArr tp x near := by simp [bArr]
theorem bArr_tree (tp q : Value) (least : Int) (near : List Int) : (bArr tp least near).setIfInBounds 0 q = bArr q least near := by simp [bArr]
theorem bArr_near (tp : Value) (least x : Int) (near : List Int) (c : Nat) : (bArr tp least near).setIfInBounds (2 + c) (.int .i64 x) = bArr tp least (near.set c x) := by
  unfold bArr
  rw [List.setIfInBounds_toArray, show 2 + c = c + 1 + 1 by omega, List.set_cons_succ, List.set_cons_succ]
  simp [nums, List.map_set]
section
variable {w : World} {g : Nat} {tp : Value} {least : Int} {near : List Int}
theorem BackIs.setLeast (h : BackIs w g tp least near) (x : Int) : BackIs (w.setCell ⟨g, 1, none⟩ (.int .i64 x)) g tp x near := ⟨h.1, blk_put h.2 1 _ (bArr_least ..)⟩
theorem BackIs.setTree (h : BackIs w g tp least near) (q : Value) : BackIs (w.setCell ⟨g, 0, none⟩ q) g q least near := ⟨h.1, blk_put h.2 0 _ (bArr_tree ..)⟩
theorem BackIs.setNear (h : BackIs w g tp least near) (c : Nat) (x : Int) : BackIs (w.setCell ⟨g, 2 + c, none⟩ (.int .i64 x)) g tp least (near.set c x) := ⟨by rw [List.length_set]; exact h.1, blk_put h.2 (2 + c) _ (bArr_near ..)⟩
theorem BackIs.drew (h : BackIs w g tp least near) : BackIs w.drew g tp least near := ⟨h.1, h.2⟩
theorem BackIs.frozen (h : BackIs w g tp least near) (k : Nat) : w.frozen? ⟨g, k, none⟩ = false := blk_frozen h.2 k
end
theorem closer_c (old n : Int) (w : World) : Calls Try.prog 59 #[.int .i64 old, .int .i64 n] w fun e w' => e = .returned (.int .i64 (closer old n)) ∧ w' = w := closer_at old n w
theorem ty32 : ∀ q, q ∈ 32 :: (Kd.slice 5 (Kd.int .u8)).E → q ≠ 47 := by
  intro q hq
  simp [Kd.slice, Kd.int, Kd.scalar] at hq
  omega
/-- A store into an elder block. -/
theorem TreeAt.far {w : World} {base b : Nat} {P : List Txt} {wd : Txt → Int} (h : TreeAt w base b P wd) {p : Addr} (hp : p.block < base) (u : Value) : TreeAt (w.setCell p u) base b P wd := by
  have hg : w.grownBy (w.setCell p u) (some p.block) := ⟨rfl, rfl, rfl, by simp, fun k _ hk => heap_setCell_other w p k u (fun e => hk (by rw [e]))⟩
  obtain ⟨g, cap, mb, n, D, h1, h2, h3, h4, h5, h6⟩ := h
  refine ⟨g, cap, mb, n, D, h1, h2, blk_grown h3 hg (fun e => ?_), h4.kept hg (.inr (fun e => ?_)), h5.kept hg (fun e => ?_), h6⟩
  · have := Option.some.inj e
    omega
  · have := (h4.lt _ e).1
    omega
  · have := Option.some.inj e
    omega
theorem ty5 : ∀ q, q ∈ 5 :: (Kd.int .u8).E → q ≠ 47 := by
  intro q hq
  simp [Kd.int, Kd.scalar] at hq
  omega
set_option maxRecDepth 100000 in
set_option maxHeartbeats 1000000 in
theorem bbuild_at (w : World) (A : Option Addr) (c : Nat) (L : List Txt) (hr : Kd.C (Kd.slice 5 (Kd.int .u8)) w A L.length L) (hB : ∀ s ∈ L, Bytes s) (h1 : L.length ≤ 1000) (h2 : ∀ s ∈ L, s.length ≤ 1000) :
    Calls Try.prog 35 #[.slice A L.length c] w fun e w' => ∃ g base b, e = .returned (.pointer (some ⟨g, 0, none⟩)) ∧ BackIs w' g (.pointer (some ⟨b, 0, none⟩)) (leastN (TL L)) (nearN (TL L)) ∧ TreeAt w' base b (pathsL (TL L)) (place (TL L)) ∧ Below w.heap.size w w' := by
  have HR := Aside0.mk hr
  have HBB := Aside0.mk hB
  have H2 := Aside0.mk h2
  have bk0 : BackIs (w.alloc (.cells Try.zeroCells47 47)) w.heap.size (.pointer none) 0 near0 := ⟨List.length_replicate .., by rw [← zero47]; exact blk_new w _⟩
  have BK0 := Aside0.mk bk0
  clear hr hB h2 bk0
  go_enter Try.func35, Try.ntmps35
  go_upto_region 5 with (fail)
  go_loopw [5, 14] (fun v5 v14 w' => ∃ i : Nat, v14 = .int .i64 i ∧ i ≤ L.length ∧ Aside0 (Kd.R (Kd.slice 5 (Kd.int .u8)) 32 w' w.heap.size (fun _ => True) v5 (TL (L.take i))) ∧ Aside0 (BackIs w' w.heap.size (.pointer none) (leastN (TL (L.take i))) (nearN (TL (L.take i)))) ∧ Aside0 (Below w.heap.size w w')) (fun _ v14 _ => L.length - (intOf v14).toNat)
  case atStart => exact ⟨0, rfl, Nat.zero_le _, ⟨Kd.R_nil _ _ _ _ _⟩, BK0, ⟨below_alloc (Below.refl _ _) _⟩⟩
  case round =>
    obtain ⟨i, rfl, hi, HX, HK, HB⟩ := hrel
    by_cases hlt : i < L.length
    · have k1 : ((i : Nat) : Int) < (L.length : Int) := by omega
      have k0 : (0 : Int) ≤ (i : Int) := by omega
      obtain ⟨s, hs⟩ : ∃ s, L[i]? = some s := ⟨_, List.getElem?_eq_getElem hlt⟩
      have hsm := List.mem_of_getElem? hs
      have hs2 := H2.out s hsm
      have hrs : rd_L1 L (i : Int) = s := by simp [rd_L1, List.getD_eq_getElem?_getD, hs]
      obtain ⟨ad0, A', c', rfl, hx0, hc', hC'⟩ := at_L1 (Kd.C_below HR.out HB.out) (i : Int) k0 k1
      rw [hrs, Int.toNat_natCast] at hx0
      rw [hrs] at hC' hc'
      have htk : L.take (i + 1) = L.take i ++ [s] := by
        rw [List.take_add_one, hs]
        rfl
      have wk : IntKind.i64.wrap ((i : Int) + 1) = (i : Int) + 1 := IntWalk.i64_in _ (by omega)
      by_cases hs0 : s = []
      · have hl0 : ((s.length : Int) == 0) = true := by rw [hs0]; rfl
        have HT : Aside0 (TL (L.take (i + 1)) = TL (L.take i)) := ⟨by rw [htk, hs0, TL_skip]⟩
        clear hs hsm hrs hc' hC' htk hs0
        go_wp2
        go_roundw
        case rel => exact ⟨i + 1, by go_num, by omega, ⟨by rw [HT.out]; exact HX.out⟩, ⟨by rw [HT.out]; exact HK.out⟩, HB⟩
        case measure => simp [intOf]; omega
      · have hpos : 0 < s.length := List.length_pos_iff.2 hs0
        have hl0 : ((s.length : Int) == 0) = false := beq_eq_false_iff_ne.2 (by omega)
        have HT : Aside0 (TL (L.take (i + 1)) = TL (L.take i) ++ [s.reverse]) := ⟨by rw [htk, TL_snoc _ hs0]⟩
        have ta := turn_at A' c' s wr hC' hc' (by omega)
        obtain ⟨t, ht⟩ : ∃ t, t = s.reverse := ⟨_, rfl⟩
        have htl : t.length = s.length := by rw [ht, List.length_reverse]
        have htB : Bytes t := by
          intro x hx
          rw [ht, List.mem_reverse] at hx
          exact HBB.out s hsm x hx
        rw [← ht] at ta HT
        have TA := Aside0.mk ta
        have TB := Aside0.mk htB
        have tlen : t.length ≤ 1000 := by omega
        have hll := TL_len (L.take i)
        rw [List.length_take] at hll
        have XL : (TL (L.take i)).length ≤ 1000 := by omega
        clear hs hsm hrs hc' hC' htk hs0 ta ht htB hpos hll htl hs2
        go_upto_region 10 with (first
          | (go_at_call 44; (with_reducible refine TA.out.mono ?_); rintro e w1 ⟨v, rfl, ho, hb⟩; obtain ⟨_, hown⟩ := Kd.R_own HX.out; have HV1 := Aside0.mk (Kd.R_lower (Kd.R_new ho hown) (below_size HB.out)); have HX1 := Aside0.mk (Kd.R_below HX.out hb); have HK1 := Aside0.mk (HK.out.below hb); have HB1 := Aside0.mk (below_step HB.out hb); obtain ⟨A1, c1, rfl, hc1, _⟩ := Kd.R_reads ho; clear ho hb hown)
          | ((with_reducible refine gate_builtin (b := .append) (xs := #[.tmp 23, .tmp 25]) rfl ?_); at_builtin; refine Kd.R_append (Kd.slice 5 (Kd.int .u8)) (w0 := w) w.heap.size rfl (.tmp 23) (.tmp 25) 22 32 (.slice none 0 0) 24 rfl Try.underlying22 info32 rfl (by decide) (by decide) u5 (TL (L.take i)) t [.slice A1 t.length c1] (fun _ => True) (fun k => True ∧ some k ≠ u5.ownBlock) rfl rfl ?aP (fun _ hk => hk) (fun _ _ => trivial) HX1.out HB1.out (below_size HB1.out) (by omega) ?_; (case aP => exact ⟨_, rfl, HV1.out⟩); intro v3 w3 ho hb hg hat; have HV3 := Aside0.mk (Kd.R_grown HV1.out hg (fun k hk => hk.2)); have HK3 := Aside0.mk (show BackIs w3 w.heap.size (.pointer none) (leastN (TL (L.take i))) (nearN (TL (L.take i))) from ⟨HK1.out.1, blk_grown HK1.out.2 hg (Kd.R_ne HX1.out HK1.out.2 (by decide))⟩); have HX3 := Aside0.mk ho; have HB3 := Aside0.mk hb; clear ho hb hg hat))
        obtain ⟨lo, hlo⟩ : ∃ lo, leastN (TL (L.take i)) = lo := ⟨_, rfl⟩
        obtain ⟨N0, hN0⟩ : ∃ N0, nearN (TL (L.take i)) = N0 := ⟨_, rfl⟩
        rw [hlo, hN0] at HK3
        have HLO := Aside0.mk hlo
        have HN0 := Aside0.mk hN0
        have x1 := HK3.out.lst
        have fz := HK3.out.frozen 1
        have HX4 := Aside0.mk (Kd.R_set HX3.out HK3.out.2 ty32 1 (.int .i64 (closer lo t.length)))
        have HV4 := Aside0.mk (Kd.R_set HV3.out HK3.out.2 ty5 1 (.int .i64 (closer lo t.length)))
        have HK4 := Aside0.mk (HK3.out.setLeast (closer lo t.length))
        have HB4 := Aside0.mk (below_set (j := 1) (v := .int .i64 (closer lo t.length)) HB3.out (Nat.le_refl _))
        clear hlo hN0 HX1 HK1 HB1 HV1 HX3 HV3 HK3 HB3 TA
        go_wp2_with (first | (go_at_call 59; (with_reducible refine (closer_c _ _ _).mono ?_); rintro e w5 ⟨rfl, hw⟩; subst hw))
        go_loopw [40] (fun v40 w2 => ∃ k : Nat, v40 = .int .i64 k ∧ k ≤ t.length ∧ Aside0 (Kd.R (Kd.slice 5 (Kd.int .u8)) 32 w2 w.heap.size (fun _ => True) v3 (TL (L.take i) ++ [t])) ∧ Aside0 (Kd.R (Kd.int .u8) 5 w2 w.heap.size (fun k => True ∧ some k ≠ u5.ownBlock) (.slice A1 t.length c1) t) ∧ Aside0 (BackIs w2 w.heap.size (.pointer none) (closer lo t.length) (nearT N0 t k)) ∧ Aside0 (Below w.heap.size w w2)) (fun v40 _ => t.length - (intOf v40).toNat)
        case atStart => exact ⟨0, rfl, Nat.zero_le _, HX4, HV4, HK4, HB4⟩
        case round =>
          obtain ⟨k, rfl, hk, HX5, HV5, HK5, HB5⟩ := hrel
          by_cases hlk : k < t.length
          · have k2 : ((k : Nat) : Int) < (t.length : Int) := by omega
            obtain ⟨_, _, hC5⟩ := Kd.R_reads' HV5.out
            obtain ⟨ad, rfl, hx⟩ := Kd.at_int hC5 (k : Int) (by omega) k2
            rw [Int.toNat_natCast] at hx
            obtain ⟨x, hxk⟩ : ∃ x, t[k]? = some x := ⟨_, List.getElem?_eq_getElem hlk⟩
            have hrd : rd t (k : Int) = x := by simp [rd, List.getD_eq_getElem?_getD, hxk]
            have hxb := TB.out x (List.mem_of_getElem? hxk)
            obtain ⟨cn, rfl⟩ : ∃ cn : Nat, x = (cn : Int) := ⟨x.toNat, by omega⟩
            have cn256 : cn < 256 := by omega
            have hnt : nearT N0 t (k + 1) = (nearT N0 t k).set cn (closer (rd (nearT N0 t k) (cn : Int)) ((k : Int) + 1)) := by
              rw [nearT, show t.getD k 0 = (cn : Int) by simp [List.getD_eq_getElem?_getD, hxk], Int.toNat_natCast]
            have HNT := Aside0.mk hnt
            rw [hrd] at hx
            have y1 := HK5.out.nr cn cn256
            have fy := HK5.out.frozen (2 + cn)
            obtain ⟨q, hq⟩ : ∃ q, rd (nearT N0 t k) (cn : Int) = q := ⟨_, rfl⟩
            rw [hq] at y1 HNT
            have wk2 : IntKind.i64.wrap ((k : Int) + 1) = (k : Int) + 1 := IntWalk.i64_in _ (by omega)
            have c0 : (0 : Int) ≤ (cn : Int) := by omega
            have c1' : (cn : Int) < 256 := by omega
            have HK7 := HK5.out.drew
            have HX6 := Aside0.mk (Kd.R_set (Kd.R_drew HX5.out) HK7.2 ty32 (2 + cn) (.int .i64 (closer q ((k : Int) + 1))))
            have HV6 := Aside0.mk (Kd.R_set (Kd.R_drew HV5.out) HK7.2 ty5 (2 + cn) (.int .i64 (closer q ((k : Int) + 1))))
            have HK6 := Aside0.mk (HK7.setNear cn (closer q ((k : Int) + 1)))
            have HB6 := Aside0.mk (below_set (j := 2 + cn) (v := .int .i64 (closer q ((k : Int) + 1))) (below_drew HB5.out) (Nat.le_refl _))
            clear hC5 hxk hrd hxb hnt hq HX5 HV5 HK5 HB5 HK7
            go_upto_region 14 with (fail)
            refine wp_region_still_tail 14 (by kernel_rfl) (by kernel_rfl) ?_
            simp only [List.take_succ_cons, List.take_zero, List.drop_succ_cons, List.drop_zero]
            repeat still_step
            still_call (closer_c _ _ _)
            repeat still_step
            refine wpStill_nil ?_
            change wpList _ _ _ _ _ wr.drew
            have y2 : wr.drew.cell? ⟨w.heap.size, 2 + cn, none⟩ = some (.int .i64 q) := y1
            have fy2 : wr.drew.frozen? ⟨w.heap.size, 2 + cn, none⟩ = false := fy
            clear y1 fy hx
            obtain ⟨W2, hW2⟩ : ∃ W, wr.drew = W := ⟨_, rfl⟩
            rw [hW2] at HX6 HV6 HK6 HB6 y2 fy2 ⊢
            clear hW2
            go_wp2
            go_roundw
            case rel => exact ⟨k + 1, by go_num, by omega, HX6, HV6, ⟨by rw [HNT.out]; exact HK6.out⟩, HB6⟩
            case measure => simp [intOf]; omega
          · obtain rfl : k = t.length := by omega
            have k2 : ¬ ((t.length : Nat) : Int) < (t.length : Int) := by omega
            go_wp2
            go_roundw
            case rel => exact ⟨i + 1, by go_num, by omega, ⟨by rw [HT.out]; exact HX5.out⟩, ⟨by rw [HT.out, leastN_snoc, nearN_snoc, HLO.out, HN0.out]; exact HK5.out⟩, HB5⟩
            case measure => simp [intOf]; omega
    · obtain rfl : i = L.length := by omega
      have k1 : ¬ ((L.length : Nat) : Int) < (L.length : Int) := by omega
      rw [List.take_length] at HX HK
      obtain ⟨A5, c5, rfl, hc5, hC5⟩ := Kd.R_reads HX.out
      have tb : ∀ s ∈ TL L, Bytes s := fun s hs x hx => HBB.out _ (TL_mem.1 hs).2 x (List.mem_reverse.2 hx)
      have tl : ∀ s ∈ TL L, s.length ≤ 1000 := fun s hs => by
        have := H2.out _ (TL_mem.1 hs).2
        rwa [List.length_reverse] at this
      have ll := TL_len L
      have bl := build_at wr A5 c5 (TL L) hC5 tb (by omega) tl
      have BL := Aside0.mk bl
      have hlt0 : w.heap.size < wr.heap.size := blk_lt HK.out.2
      clear hC5 tb tl bl ll HX
      go_upto_region 17 with (fail)
      go_wp2_with (go_at_call 21; (refine BL.out.mono ?_); rintro e w1 ⟨b, rfl, ht, hb⟩; have HK1 := Aside0.mk (HK.out.below hb); have x1 := HK1.out.tr; have fz := HK1.out.frozen 0; have HT1 := Aside0.mk (ht.far (p := ⟨w.heap.size, 0, none⟩) hlt0 (.pointer (some ⟨b, 0, none⟩))); have HK2 := Aside0.mk (HK1.out.setTree (.pointer (some ⟨b, 0, none⟩))); have HB1 := Aside0.mk (below_set (j := 0) (v := .pointer (some ⟨b, 0, none⟩)) (below_step HB.out hb) (Nat.le_refl _)); clear ht hb)
      go_ret
      exact ⟨_, _, _, rfl, HK2.out, HT1.out, HB1.out⟩
end Go.Proofs.Ytifbcboefopioaa.Tri
