/- By hand: the law BackLeast, walked whole. No condition. -/
import Derived.Test.YtifbcboefopioaaBackL
import Derived.Test.YtifbcboefopioaaBackQ
set_option linter.unusedVariables false
set_option linter.unusedSimpArgs false
namespace Go.Proofs.Ytifbcboefopioaa.Tri
open Go.RowKit Go.Maps Go.Proofs.YtifbcboefopioaaW.PrintWords Go.Proofs.YtifbcboefopioaaW.PrintLast Go.Proofs.YtifbcboefopioaaW.PrintMore Go.Proofs.Ytifbcboefopioaa.Kit Go.Proofs.Ytifbcboefopioaa.All
attribute [local go_sem] max2_int min2_int max_two min_two max_three min_three max_four min_four

set_option maxRecDepth 100000 in
set_option maxHeartbeats 12000000 in
theorem bleast_law (A0 : Option Addr) (c0 : Nat) (L : List Txt) (x : Int) (w : World)
    (hr0 : Kd.C (Kd.slice 5 (Kd.int .u8)) w A0 L.length L) (hc0 : L.length ≤ c0) (hB : ∀ s ∈ L, Bytes s) (hL : L.length ≤ 8000000000000) (x0 : 0 ≤ x) (x1 : x ≤ 255) :
    Calls Try.prog 12 #[.slice A0 L.length c0, .int .u8 x] w fun e w' => e = .returned (.bool true) ∧ Below w.heap.size w w' := by
  have lr := Aside0.mk (fun (s : Txt) (h : s ∈ L) (h0 : s ≠ []) => least_round h h0)
  have nr := Aside0.mk (fun (s : Txt) (h : s ∈ L) => near_round hB x0 h)
  have ia := Aside0.mk (isB_all L)
  have ta := Aside0.mk (thereB_all hB x0)
  obtain ⟨k, r, bo, hT, hbo⟩ := texts14_two L (by omega)
  obtain ⟨F, SF, E0, FF⟩ := stays_pack ((stays_below w).and (stays_reads (Kd.slice 5 (Kd.int .u8)) A0 L.length L)) ⟨Below.refl _ _, hr0⟩
  have HC0 := Aside0.mk hc0
  have T0 := Aside0.mk hT
  have HBO := Aside0.mk hbo
  clear hr0 hc0 hT hbo
  cases bo with
  | false =>
    go_enter Try.func12, Try.ntmps12
    go_wp2_with (first
      | (go_at_call 33; (refine (awake14_at _).mono ?_); rintro e w1 ⟨rfl, hb⟩; have E1 := Aside0.mk (SF.out _ _ E0.out hb); clear hb)
      | (go_at_call 34; (refine (texts14_at _ A0 c0 L k r false (FF.out _ E1.out).2 HC0.out T0.out).mono ?_); rintro e w2 ⟨AW, cW, rfl, hcW, hW, hb⟩; have E2 := Aside0.mk (SF.out _ _ E1.out hb); clear hW hcW hb))
    go_ret
    exact ⟨rfl, (FF.out _ E2.out).1⟩
  | true =>
  obtain ⟨hrm, l12, l40⟩ := HBO.out rfl
  subst hrm
  clear HBO
  have hTl := Nat.le_trans (TL_len L) l12
  have hTB := TL_bytes hB
  have hTS := TL_short l40
  have hTN := TL_ne L
  have hPl := paths_len hTl hTS
  have hPB := pathsL_bytes hTB
  have hPS := paths_short hTS
  have hG := pathsL_good (TL L)
  have hPm := pathsL_mem (TL L)
  obtain ⟨P, hP⟩ : ∃ P, P = pathsL (TL L) := ⟨_, rfl⟩
  rw [← hP] at hPl hPB hPS hG hPm
  obtain ⟨T, hT⟩ : ∃ T, T = TL L := ⟨_, rfl⟩
  rw [← hT] at hTl hTB hTS hTN hPm hP
  have upT : ∀ x ∈ T, x.length ≤ 1000 := fun x hx => Nat.le_trans (hTS x hx) (show 40 ≤ 1000 by decide)
  have up := fun (x : Txt) (hx : x ∈ L) => Nat.le_trans (l40 x hx) (show 40 ≤ 1000 by decide)
  have L40 := Aside0.mk l40
  have HPB := Aside0.mk hPB
  have HPS := Aside0.mk hPS
  have HPM := Aside0.mk hPm
  have HG := Aside0.mk hG
  have HB := Aside0.mk hB
  have HP := Aside0.mk hP
  have HT := Aside0.mk hT
  have HTB := Aside0.mk hTB
  have HTS := Aside0.mk hTS
  have HTN := Aside0.mk hTN
  have UP := Aside0.mk up
  have UPT := Aside0.mk upT
  clear l40 hPB hPS hG hB hP hPm hT hTB hTS hTN up upT
  have hpl2 : P.length ≤ 4611686018427387904 := by omega
  rw [← HT.out] at lr nr ia ta
  obtain ⟨n0, hn0⟩ : ∃ n0, leastN T = n0 := ⟨_, rfl⟩
  obtain ⟨k0, hk0⟩ : ∃ k0, rd (nearN T) x = k0 := ⟨_, rfl⟩
  rw [hn0] at lr ia
  rw [hk0] at nr ta
  have HN0 := Aside0.mk hn0
  have HK0 := Aside0.mk hk0
  have NA : Aside0 (∀ w1 g tp le, BackIs w1 g tp le (nearN T) → Calls Try.prog 42 #[.pointer (some ⟨g, 0, none⟩), .int .u8 x] w1 fun e w' => e = .returned (.int .i64 k0) ∧ w' = w1) := ⟨fun w1 g tp le h => by
    have := near_at h x.toNat (by omega)
    rwa [Int.toNat_of_nonneg x0, hk0] at this⟩
  clear hn0 hk0
  go_enter Try.func12, Try.ntmps12
  go_wp2_with (first
      | (go_at_call 33; (refine (awake14_at _).mono ?_); rintro e w1 ⟨rfl, hb⟩; have E1 := Aside0.mk (SF.out _ _ E0.out hb); clear hb)
      | (go_at_call 34; (refine (texts14_ok _ A0 c0 L k (FF.out _ E1.out).2 HC0.out T0.out).mono ?_); rintro e w2 ⟨AW, cW, rfl, hcW, hW, hb⟩; have E2 := Aside0.mk (SF.out _ _ E1.out hb); have HW := Aside0.mk hW; have HCW := Aside0.mk hcW; clear hW hcW hb)
      | (go_at_call 35; (refine (bbuild_to _ A0 c0 L T P HT.out HP.out (FF.out _ E2.out).2 HB.out (by omega) UP.out).mono ?_); rintro e w3 ⟨g, base, b, rfl, hk, ht, hb⟩; have E3 := Aside0.mk (SF.out _ _ E2.out hb); have HW3 := Aside0.mk (Kd.C_below HW.out hb); have HK := Aside0.mk (And.intro hk ht); clear hk ht hb)
      | (go_at_call 37; (with_reducible refine (least_at HK.out.1).mono ?_); rintro e w' ⟨rfl, hw⟩; subst hw; rw [HN0.out])
      | (go_at_call 42; (with_reducible refine (NA.out _ _ _ _ HK.out.1).mono ?_); rintro e w' ⟨rfl, hw⟩; subst hw))
  obtain ⟨G, SG, G5, GG⟩ := stays_pack ((stays_below w).and (stays_reads Kd.string AW L.length (L.map strOfNums))) ⟨(FF.out _ E3.out).1, HW3.out⟩
  clear E0 E1 E2 E3 HK HW HW3 NA HN0 HK0
  go_loopw [11, 12, 13] (fun v11 v12 v13 w' => ∃ (i : Nat) (β γ : Bool), v11 = .bool β ∧ v12 = .bool γ ∧ v13 = .int .i64 i ∧ i ≤ L.length ∧ Aside0 (β = isB n0 (L.take i)) ∧ Aside0 (γ = thereB x k0 (L.take i)) ∧ Aside0 (G w')) (fun _ _ v13 _ => L.length - (intOf v13).toNat)
  case atStart => exact ⟨0, n0 == 0, k0 == 0, rfl, rfl, rfl, Nat.zero_le _, ⟨by simp [isB]⟩, ⟨by simp [thereB]⟩, G5⟩
  case round =>
    obtain ⟨i, β, γ0, rfl, rfl, rfl, hi, HB1, HG1, G6⟩ := hrel
    by_cases hlt : i < L.length
    · have k1 : ((i : Nat) : Int) < (L.length : Int) := by omega
      have k0' : (0 : Int) ≤ (i : Int) := by omega
      obtain ⟨s, hs⟩ : ∃ s, L[i]? = some s := ⟨_, List.getElem?_eq_getElem hlt⟩
      have hsm := List.mem_of_getElem? hs
      have hs40 := L40.out s hsm
      have SB := Aside0.mk (HB.out s hsm)
      obtain ⟨ad, rfl, hxs⟩ := str_at (GG.out _ G6.out).2 hs
      have wk : IntKind.i64.wrap ((i : Int) + 1) = (i : Int) + 1 := IntWalk.i64_in _ (by omega)
      have htk : L.take (i + 1) = L.take i ++ [s] := by
        rw [List.take_add_one, hs]
        rfl
      have hsz : (strOfNums s).size = s.length := size_str s
      by_cases hs0 : s = []
      · have he : (strOfNums s).toList.isEmpty = true := by rw [toList_str, hs0]; rfl
        have he2 : (strOfNums s).toList = [] := (toList_str_nil s).2 hs0
        have HI2 : Aside0 (β = isB n0 (L.take (i + 1))) := ⟨by rw [htk, hs0, isB_skip]; exact HB1.out⟩
        have HG2 : Aside0 (γ0 = thereB x k0 (L.take (i + 1))) := ⟨by rw [htk, hs0, thereB_skip]; exact HG1.out⟩
        clear hs hsm hs0 htk hsz
        go_wp2
        go_roundw
        case rel => exact ⟨i + 1, β, γ0, by rfl, by rfl, by go_num, by omega, HI2, HG2, G6⟩
        case measure => simp [intOf]; omega
      · have he : (strOfNums s).toList.isEmpty = false := by
          cases h : (strOfNums s).toList with
          | nil => exact absurd ((toList_str_nil s).1 h) hs0
          | cons => rfl
        obtain ⟨r0, r1⟩ := lr.out s hsm hs0
        have d1 : decide ((s.length : Int) < n0) = false := decide_eq_false (by omega)
        have d2 : (n0 == 0) = false := beq_eq_false_iff_ne.2 (by omega)
        have NR := Aside0.mk (nr.out s hsm)
        have HI1 : Aside0 (isB n0 (L.take (i + 1)) = (β || ((s.length : Int) == n0))) := ⟨by rw [htk, isB_snoc _ _ hs0, HB1.out]⟩
        replace HG1 : Aside0 (thereB x k0 (L.take (i + 1)) = (γ0 || hitB s x k0 s.length)) := ⟨by rw [htk, thereB_snoc, HG1.out]⟩
        clear hs hsm hs0 htk HB1
        cases β with
        | true =>
          go_wp2
          go_loopw [12, 15] (fun v12 v15 w' => ∃ (m : Nat) (j : Int) (e : Bool), v15 = .int .i64 j ∧ v12 = .bool e ∧ m ≤ s.length ∧ Aside0 (j = (m : Int) + 1) ∧ Aside0 (e = (γ0 || hitB s x k0 m)) ∧ Aside0 (G w')) (fun _ v15 _ => s.length + 1 - (intOf v15).toNat)
          case atStart => exact ⟨0, 1, γ0, rfl, rfl, Nat.zero_le _, ⟨rfl⟩, ⟨by simp [hitB]⟩, G6⟩
          case round =>
            obtain ⟨m, j, e, rfl, rfl, hm, HJ, HE, G7⟩ := hrel
            have hj := HJ.out
            have j0 : 0 < j := by omega
            have j1 : j ≤ 41 := by omega
            have wj : IntKind.i64.wrap (j + 1) = j + 1 := IntWalk.i64_in _ (by omega)
            by_cases hlm : m < s.length
            · have dj : decide (j ≤ (s.length : Int)) = true := decide_eq_true (by omega)
              obtain ⟨d, hd⟩ : ∃ d, (s.length : Int) - j = d := ⟨_, rfl⟩
              have d0 : 0 ≤ d := by omega
              have d1 : d < (s.length : Int) := by omega
              have wl : IntKind.i64.wrap ((s.length : Int) - j) = d := by rw [hd]; exact IntWalk.i64_in _ (by omega)
              obtain ⟨y, hy⟩ : ∃ y, rd s d = y := ⟨_, rfl⟩
              have hby : bt (strOfNums s) d = y := (bt_str SB.out d).trans hy
              have hbt := bt_at (strOfNums s) d
              rw [hby] at hbt
              have hnx := hitB_next s x k0 m
              rw [← hj, hd, hy] at hnx
              have HNX := Aside0.mk hnx
              have NRY : Aside0 (y = x → 0 < k0 ∧ k0 ≤ j) := ⟨fun e => by
                have := NR.out m hlm (by rw [← hj, hd, hy, e])
                omega⟩
              clear hby hnx hy hj
              by_cases hyx : y = x
              · obtain ⟨q0, q1⟩ := NRY.out hyx
                have y1 : (y == x) = true := beq_iff_eq.2 hyx
                have y2 : decide (j < k0) = false := decide_eq_false (by omega)
                have y3 : (k0 == 0) = false := beq_eq_false_iff_ne.2 (by omega)
                rw [y1] at HNX
                clear hyx NRY
                cases e with
                | true =>
                  go_wp2
                  go_roundw
                  case rel => exact ⟨m + 1, j + 1, true, by rfl, by rfl, by omega, ⟨by have := HJ.out; omega⟩, ⟨by rw [HNX.out, ← Bool.or_assoc, ← HE.out]; rfl⟩, G7⟩
                  case measure => simp [intOf]; omega
                | false =>
                  go_wp2
                  go_roundw
                  case rel => exact ⟨m + 1, j + 1, _, by rfl, by rfl, by omega, ⟨by have := HJ.out; omega⟩, ⟨by rw [HNX.out, ← Bool.or_assoc, ← HE.out]; rfl⟩, G7⟩
                  case measure => simp [intOf]; omega
              · have y1 : (y == x) = false := beq_eq_false_iff_ne.2 hyx
                rw [y1] at HNX
                clear hyx NRY
                go_wp2
                go_roundw
                case rel => exact ⟨m + 1, j + 1, e, by rfl, by rfl, by omega, ⟨by have := HJ.out; omega⟩, ⟨by rw [HNX.out, Bool.false_and, Bool.or_false]; exact HE.out⟩, G7⟩
                case measure => simp [intOf]; omega
            · obtain rfl : m = s.length := by omega
              have dj : decide (j ≤ (s.length : Int)) = false := decide_eq_false (by omega)
              clear hj
              go_wp2
              go_roundw
              case rel => exact ⟨i + 1, true, e, by rfl, by rfl, by go_num, by omega, ⟨by rw [HI1.out]; rfl⟩, ⟨by rw [HG1.out]; exact HE.out⟩, G7⟩
              case measure => simp [intOf]; omega
        | false =>
          go_wp2
          go_loopw [12, 15] (fun v12 v15 w' => ∃ (m : Nat) (j : Int) (e : Bool), v15 = .int .i64 j ∧ v12 = .bool e ∧ m ≤ s.length ∧ Aside0 (j = (m : Int) + 1) ∧ Aside0 (e = (γ0 || hitB s x k0 m)) ∧ Aside0 (G w')) (fun _ v15 _ => s.length + 1 - (intOf v15).toNat)
          case atStart => exact ⟨0, 1, γ0, rfl, rfl, Nat.zero_le _, ⟨rfl⟩, ⟨by simp [hitB]⟩, G6⟩
          case round =>
            obtain ⟨m, j, e, rfl, rfl, hm, HJ, HE, G7⟩ := hrel
            have hj := HJ.out
            have j0 : 0 < j := by omega
            have j1 : j ≤ 41 := by omega
            have wj : IntKind.i64.wrap (j + 1) = j + 1 := IntWalk.i64_in _ (by omega)
            by_cases hlm : m < s.length
            · have dj : decide (j ≤ (s.length : Int)) = true := decide_eq_true (by omega)
              obtain ⟨d, hd⟩ : ∃ d, (s.length : Int) - j = d := ⟨_, rfl⟩
              have d0 : 0 ≤ d := by omega
              have d1 : d < (s.length : Int) := by omega
              have wl : IntKind.i64.wrap ((s.length : Int) - j) = d := by rw [hd]; exact IntWalk.i64_in _ (by omega)
              obtain ⟨y, hy⟩ : ∃ y, rd s d = y := ⟨_, rfl⟩
              have hby : bt (strOfNums s) d = y := (bt_str SB.out d).trans hy
              have hbt := bt_at (strOfNums s) d
              rw [hby] at hbt
              have hnx := hitB_next s x k0 m
              rw [← hj, hd, hy] at hnx
              have HNX := Aside0.mk hnx
              have NRY : Aside0 (y = x → 0 < k0 ∧ k0 ≤ j) := ⟨fun e => by
                have := NR.out m hlm (by rw [← hj, hd, hy, e])
                omega⟩
              clear hby hnx hy hj
              by_cases hyx : y = x
              · obtain ⟨q0, q1⟩ := NRY.out hyx
                have y1 : (y == x) = true := beq_iff_eq.2 hyx
                have y2 : decide (j < k0) = false := decide_eq_false (by omega)
                have y3 : (k0 == 0) = false := beq_eq_false_iff_ne.2 (by omega)
                rw [y1] at HNX
                clear hyx NRY
                cases e with
                | true =>
                  go_wp2
                  go_roundw
                  case rel => exact ⟨m + 1, j + 1, true, by rfl, by rfl, by omega, ⟨by have := HJ.out; omega⟩, ⟨by rw [HNX.out, ← Bool.or_assoc, ← HE.out]; rfl⟩, G7⟩
                  case measure => simp [intOf]; omega
                | false =>
                  go_wp2
                  go_roundw
                  case rel => exact ⟨m + 1, j + 1, _, by rfl, by rfl, by omega, ⟨by have := HJ.out; omega⟩, ⟨by rw [HNX.out, ← Bool.or_assoc, ← HE.out]; rfl⟩, G7⟩
                  case measure => simp [intOf]; omega
              · have y1 : (y == x) = false := beq_eq_false_iff_ne.2 hyx
                rw [y1] at HNX
                clear hyx NRY
                go_wp2
                go_roundw
                case rel => exact ⟨m + 1, j + 1, e, by rfl, by rfl, by omega, ⟨by have := HJ.out; omega⟩, ⟨by rw [HNX.out, Bool.false_and, Bool.or_false]; exact HE.out⟩, G7⟩
                case measure => simp [intOf]; omega
            · obtain rfl : m = s.length := by omega
              have dj : decide (j ≤ (s.length : Int)) = false := decide_eq_false (by omega)
              clear hj
              go_wp2
              go_roundw
              case rel => exact ⟨i + 1, _, e, by rfl, by rfl, by go_num, by omega, ⟨by rw [HI1.out]; rfl⟩, ⟨by rw [HG1.out]; exact HE.out⟩, G7⟩
              case measure => simp [intOf]; omega
    · obtain rfl : i = L.length := by omega
      have k1 : ¬ ((L.length : Nat) : Int) < (L.length : Int) := by omega
      have b1 := HB1.out
      have b2 := HG1.out
      rw [List.take_length, ia.out] at b1
      rw [List.take_length, ta.out] at b2
      subst b1
      subst b2
      clear HB1 HG1
      go_wp2
      go_ret
      exact ⟨rfl, (GG.out _ G6.out).1⟩
end Go.Proofs.Ytifbcboefopioaa.Tri
