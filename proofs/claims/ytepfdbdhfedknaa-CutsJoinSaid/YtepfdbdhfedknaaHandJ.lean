/- By hand: the law CutsJoin, walked whole: whatever the text, the cuts and the number it answers true, and makes new memory alone. No condition. -/
import Derived.Test.YtepfdbdhfedknaaAllx2
import Derived.Test.YtepfdbdhfedknaaHand
import Derived.Test.YtepfdbdhfedknaaHandE
import Derived.Test.YtepfdbdhfedknaaKit
namespace Go.Proofs.Ytepfdbdhfedknaa.All
open Go.RowKit Go.Proofs.YtepfdbdhfedknaaW.PrintWords Go.Proofs.YtepfdbdhfedknaaW.PrintLast Go.Proofs.YtepfdbdhfedknaaW.PrintMore
attribute [local go_sem] max2_int min2_int max_two min_two max_three min_three max_four min_four

theorem pieces_flat (l : List Int) : ∀ (ps : List Int) (last : Int), 0 ≤ last → Up l.length last (ps ++ [(l.length : Int)]) → (piecesP l last (ps ++ [(l.length : Int)])).flatten = l.drop last.toNat
  | [], last, h0, hu => by simp [piecesP]
  | p :: ps, last, h0, hu => by
    obtain ⟨u1, u2, u3⟩ := hu
    rw [List.cons_append, piecesP, List.flatten_cons, pieces_flat l ps p (by omega) u3]
    have e : last.toNat ≤ p.toNat := by omega
    have e2 : p.toNat ≤ l.length := by omega
    rw [List.drop_take]
    have : l.drop p.toNat = (l.drop last.toNat).drop (p.toNat - last.toNat) := by rw [List.drop_drop]; congr 1; omega
    rw [this, List.take_append_drop]
/-- What one call of cuts.Pieces leaves: a row of rows, each with its own room alone. -/
def Told (W : World) (A : Option Addr) (c : Nat) (xs : List (List Int)) : Prop :=
  xs.length ≤ c ∧ ∀ i : Nat, i < xs.length → ∃ ad A', A = some ad ∧ W.cell? (ad.add i) = some (.slice A' (rd_L1 xs i).length (rd_L1 xs i).length) ∧ Kd.C (Kd.int .u8) W A' (rd_L1 xs i).length (rd_L1 xs i)
theorem Told.below {W W1 : World} {A : Option Addr} {c : Nat} {xs : List (List Int)} (h : Told W A c xs) (hb : Below W.heap.size W W1) : Told W1 A c xs :=
  ⟨h.1, fun i hi => by
    obtain ⟨ad, A', e, hx, hC⟩ := h.2 i hi
    exact ⟨ad, A', e, (hb.cell (World.block_lt_of_cell? W _ hx)).trans hx, Kd.C_below hC hb⟩⟩
theorem cuts_Pieces.told (A0 : Option Addr) (c0 : Nat) (l0 : List Int) (A1 : Option Addr) (c1 : Nat) (l1 : List Int) (w : World) (hr0 : Kd.C (Kd.int .u8) w A0 l0.length l0) (hc0 : l0.length ≤ c0) (hr1 : Kd.C (Kd.int .i64) w A1 l1.length l1) (hc1 : l1.length ≤ c1) (h0 : l0.length < 1099511627776) (h1 : l1.length < 1099511627776)
    {xs : List (List Int)} (hx : xs = piecesP l0 0 (placesL l0.length 0 l1 ++ [(l0.length : Int)])) :
    Calls Try.prog 9 #[.slice A0 l0.length c0, .slice A1 l1.length c1] w fun e w' => ∃ (A : Option Addr) (c : Nat), e = .returned (.slice A xs.length c) ∧ Told w' A c xs ∧ Below w.heap.size w w' := by
  refine (cuts_Pieces.raw A0 c0 l0 A1 c1 l1 w hr0 hc0 hr1 hc1 h0 h1).mono fun e w' ⟨v, A, he, hR, hF, hB⟩ => ?_
  have hlen := pvs_length A l0 (placesL l0.length 0 l1 ++ [(l0.length : Int)]) 0
  rw [← hx] at hlen
  obtain ⟨B, c, rfl, hc, _⟩ := Kd.R_reads hR
  obtain ⟨_, _, hC⟩ := Kd.R_reads' hR
  rw [List.length_map] at he hc
  rw [hlen.1, ← hlen.2] at he hc
  refine ⟨B, c, he, ⟨hc, fun i hi => ?_⟩, hB⟩
  have hC0 := Kd.F_now hF
  have er : xs[i]? = some (rd_L1 xs i) := by simp [rd_L1, List.getD_eq_getElem?_getD, hi]
  obtain ⟨A', e', hC'⟩ := pvs_get hC0 _ 0 (Int.le_refl _) (up_places _ l1 0 (by omega) (by omega) (by omega)) i _ (by rw [← hx]; exact er)
  have hn : 0 < ((pvs A 0 (placesL l0.length 0 l1 ++ [(l0.length : Int)])).map fun x => [x]).length := by rw [List.length_map, hlen.1, ← hlen.2]; omega
  obtain ⟨ad, rfl, hcell⟩ := hC.2.2 hn
  obtain ⟨cs, _, hr, hcc⟩ := hcell i [_] (by rw [List.getElem?_map, e']; rfl)
  obtain ⟨rfl, _, _⟩ := hr
  exact ⟨ad, A', rfl, by have := hcc 0 _ rfl; simpa [Kd.raw] using this, hC'⟩

theorem none_len {W : World} {A : Option Addr} {x : List Int} (h : Kd.C (Kd.int .u8) W A x.length x) (e : A = none) : x.length = 0 ∧ x.length = 0 := by
  have h0 : x.length = 0 := by
    rcases Nat.eq_zero_or_pos x.length with h0 | h0
    · exact h0
    · obtain ⟨ad', e', _⟩ := h.2.2 h0
      rw [e] at e'
      cases e'
  exact ⟨h0, h0⟩
theorem nums_cells {W : World} {A : Option Addr} {x : List Int} (h : Kd.C (Kd.int .u8) W A x.length x) : ∀ b, A = some b → ∀ (j : Nat) (u : Value), (nums .u8 x)[j]? = some u → W.cell? (b.add j) = some u := by
  intro b hb j u hj
  have hl : j < x.length := by
    have := (List.getElem?_eq_some_iff.1 hj).1
    simpa [nums] using this
  obtain ⟨ad, e, hx⟩ := Kd.at_int h (j : Int) (by omega) (by omega)
  rw [hb] at e
  cases e
  simp only [Int.toNat_natCast] at hx
  rw [hx]
  rw [← hj]
  simp [nums, rd, List.getD_eq_getElem?_getD, hl]
set_option maxHeartbeats 8000000 in
set_option maxRecDepth 100000 in
theorem seinelaw19_CutsJoin.calls (A0 : Option Addr) (c0 : Nat) (l0 : List Int) (A1 : Option Addr) (c1 : Nat) (l1 : List Int) (a2 : Int) (w : World) (hr0 : Kd.C (Kd.int .u8) w A0 l0.length l0) (hc0 : l0.length ≤ c0) (hr1 : Kd.C (Kd.int .i64) w A1 l1.length l1) (hc1 : l1.length ≤ c1) (h20 : 0 ≤ a2) (h21 : a2 ≤ 255) :
    Calls Try.prog 4 #[.slice A0 l0.length c0, .slice A1 l1.length c1, .int .u8 a2] w fun e w' => e = .returned (.bool true) ∧ Below w.heap.size w w' := by
  have n0 : l0.length ≤ 9223372036854775807 := hr0.2.1
  have n1 : l1.length ≤ 9223372036854775807 := hr1.2.1
  have HR0 := Aside0.mk hr0
  have HC0 := Aside0.mk hc0
  have HR1 := Aside0.mk hr1
  have HC1 := Aside0.mk hc1
  clear hr0 hc0 hr1 hc1
  have aw : seinelaw19_awake.f 60 = some true := by decide +kernel
  have AW := Aside0.mk aw
  clear aw
  by_cases g0 : (l0.length : Int) > 400
  · have g0b : decide ((l0.length : Int) > 400) = true := decide_eq_true g0
    go_enter Try.func4, Try.ntmps4
    go_wp2_with (go_at_call 7; (refine (seinelaw19_awake.calls 60 true _ AW.out).mono ?_); rintro e w1 ⟨rfl, hb⟩; have HB1 := Aside0.mk hb; clear hb)
    go_ret
    exact ⟨rfl, HB1.out⟩
  · have g0b : decide ((l0.length : Int) > 400) = false := decide_eq_false g0
    by_cases g1 : (l1.length : Int) > 60
    · have g1b : decide ((l1.length : Int) > 60) = true := decide_eq_true g1
      go_enter Try.func4, Try.ntmps4
      go_wp2_with (go_at_call 7; (refine (seinelaw19_awake.calls 60 true _ AW.out).mono ?_); rintro e w1 ⟨rfl, hb⟩; have HB1 := Aside0.mk hb; clear hb)
      go_ret
      exact ⟨rfl, HB1.out⟩
    · have g1b : decide ((l1.length : Int) > 60) = false := decide_eq_false g1
      obtain ⟨xs, hxs⟩ : ∃ xs, xs = piecesP l0 0 (placesL l0.length 0 l1 ++ [(l0.length : Int)]) := ⟨_, rfl⟩
      have hxl : xs.length = l1.length + 1 := by rw [hxs, (pvs_length none l0 _ _).2, List.length_append, placesL_length]; rfl
      have hxf : xs.flatten = l0 := by rw [hxs]; simpa using pieces_flat l0 (placesL l0.length 0 l1) 0 (Int.le_refl _) (up_places _ l1 0 (by omega) (by omega) (by omega))
      have HX := Aside0.mk hxs
      clear hxs
      go_enter Try.func4, Try.ntmps4
      go_wp2_with (first | (go_at_call 7; (refine (seinelaw19_awake.calls 60 true _ AW.out).mono ?_); rintro e w1 ⟨rfl, hb⟩; have HB1 := Aside0.mk hb; clear hb) | (go_at_call 9; (refine (cuts_Pieces.told _ _ l0 _ _ l1 _ ?side1 ?side2 ?side3 ?side4 ?side5 ?side6 HX.out).mono ?_); (case side1 => exact Kd.C_below HR0.out HB1.out); (case side2 => exact HC0.out); (case side3 => exact Kd.C_below HR1.out HB1.out); (case side4 => exact HC1.out); (case side5 => omega); (case side6 => omega); rintro e w2 ⟨AP, cP, rfl, ht, hb⟩; have HT2 := Aside0.mk ht; have HB2 := Aside0.mk (below_step HB1.out hb); clear ht hb HB1))
      go_loopw [9, 10] (fun v9 v10 w' => ∃ (i : Nat) (acc : List Int), v9 = .string (strOfNums acc) ∧ v10 = .int .i64 i ∧ i ≤ xs.length ∧ Aside0 (acc ++ (xs.drop i).flatten = l0) ∧ Aside0 (Below w2.heap.size w2 w')) (fun _ v10 _ => xs.length - (intOf v10).toNat)
      case atStart => exact ⟨0, [], rfl, rfl, Nat.zero_le _, ⟨by simpa using hxf⟩, ⟨Below.refl _ _⟩⟩
      case round =>
        obtain ⟨i, acc, rfl, rfl, hi, HA, HW⟩ := hrel
        by_cases hlt : i < xs.length
        · have k1 : ((i : Nat) : Int) < (xs.length : Int) := by omega
          obtain ⟨ad, A', rfl, hx0, hC⟩ := HT2.out.2 i hlt
          obtain ⟨x, hx⟩ : ∃ x, x = rd_L1 xs i := ⟨_, rfl⟩
          have hf : acc ++ (x ++ (xs.drop (i + 1)).flatten) = l0 := by
            have := HA.out
            rw [List.drop_eq_getElem_cons hlt, List.flatten_cons] at this
            rw [hx]
            simpa [rd_L1, List.getD_eq_getElem?_getD, hlt] using this
          rw [← hx] at hx0 hC
          clear hx
          have hlen : acc.length + x.length ≤ 400 := by have := congrArg List.length hf; simp at this; omega
          have HA2 : Aside0 ((acc ++ x) ++ (xs.drop (i + 1)).flatten = l0) := ⟨by rw [List.append_assoc]; exact hf⟩
          clear hf HA
          replace hx0 := (HW.out.cell (World.block_lt_of_cell? w2 _ hx0)).trans hx0
          have hcv := Kd.C_string (P := Try.prog) (A := A') (c := x.length) Try.underlying22 Try.underlying5 Try.underlying9 (Kd.C_below hC HW.out)
          clear hC
          have hsz : (strOfNums acc).size + (strOfNums x).size ≤ 9223372036854775807 := by rw [Kit.size_str, Kit.size_str]; omega
          go_wp2
          go_roundw
          case rel => exact ⟨i + 1, acc ++ x, by rw [Kit.append_str], by go_num, by omega, HA2, HW⟩
          case measure => simp [intOf]; omega
        · have ha : acc = l0 := by
            have := HA.out
            rw [List.drop_of_length_le (by omega)] at this
            simpa using this
          subst ha
          have k1 : ¬ ((i : Nat) : Int) < (xs.length : Int) := by omega
          have hb2 : Below w.heap.size w wr := below_step HB2.out HW.out
          have HB3 := Aside0.mk hb2
          have hcv := Kd.C_string (P := Try.prog) (A := A0) (c := c0) Try.underlying22 Try.underlying5 Try.underlying9 (Kd.C_below HR0.out hb2)
          clear hb2
          obtain ⟨at_, hat⟩ : ∃ at_ : Nat, a2 % ((l1.length : Int) + 1) = (at_ : Int) := ⟨(a2 % ((l1.length : Int) + 1)).toNat, by rw [Int.toNat_of_nonneg (Int.emod_nonneg _ (by omega))]⟩
          have hatl : at_ < xs.length := by have := Int.emod_lt_of_pos a2 (show (0 : Int) < (l1.length : Int) + 1 by omega); omega
          have hatl2 : (at_ : Int) < (l1.length : Int) + 1 := by omega
          obtain ⟨ad, A', rfl, hx0, hC⟩ := HT2.out.2 at_ hatl
          obtain ⟨x, hx⟩ : ∃ x, x = rd_L1 xs at_ := ⟨_, rfl⟩
          have hx4 : x.length ≤ 400 := by
            have e1 : x ∈ xs := by rw [hx]; simp [rd_L1, List.getD_eq_getElem?_getD, hatl]
            have := (List.sublist_flatten_of_mem e1).length_le
            rw [hxf] at this
            omega
          rw [← hx] at hx0 hC
          clear hx
          replace hx0 := (HW.out.cell (World.block_lt_of_cell? w2 _ hx0)).trans hx0
          have HCx := Aside0.mk (Kd.C_below hC HW.out)
          clear hC
          have hxlen : x.length ≤ 9223372036854775807 := HCx.out.2.1
          have HTr := Aside0.mk (HT2.out.below HW.out)
          clear HT2 HW HB2
          have hxl2 : x.length ≤ 400 := hx4
          obtain ⟨i0, hi0, hz0, hz1, hz2⟩ := info_parts info5
          go_wp2_with (first | ((with_reducible refine gate_builtin (b := .append) (xs := #[.tmp 64, .tmp 65]) rfl ?_); at_builtin; refine wpList_append_grows _ rfl (.tmp 64) (.tmp 65) 22 rfl 5 i0 (.int .u8 0) 1 1 Try.underlying22 hi0 hz0 hz1 hz2 rfl (by decide) A' x.length x.length (nums .u8 x) rfl ?q1 ?q2 ?q3 ⟨wr.heap.size, 0, none⟩ 3 3 [.int .u8 120, .int .u8 121, .int .u8 122] rfl rfl ?q4 ?q5 (by omega) ?q6 ?q7 ?_; (case q1 => exact none_len HCx.out); (case q2 => simp [nums]); (case q3 => exact nums_cells (Kd.C_alloc HCx.out _)); (case q4 => intro j u hj; rw [add_plain, World.cell?_alloc_mark]; simpa using hj); (case q5 => intro u hu; simp at hu; rcases hu with rfl | rfl | rfl <;> rfl); (case q6 => unfold maxLen; omega); (case q7 => omega); intro v3 w3 hown hg; have hR3 : Kd.R (Kd.int .u8) 5 w3 wr.heap.size (fun _ => True) v3 (x ++ [120, 121, 122]) := Kd.R_lower (Kd.R_of_own (enc := Value.int .u8) (h1 := fun _ => rfl) (by simpa [encs, nums] using hown) (fun _ _ => trivial)) (by simp); obtain ⟨g3, c3, rfl, hg3, hg3l, _⟩ := Kd.R_form hR3 (by simp); obtain ⟨hc3, hf3⟩ := Kd.R_cell (enc := Value.int .u8) (h1 := fun _ => rfl) (0 : Int) hR3 0 (by omega) (by simp; omega); have hbr : Below wr.heap.size wr w3 := ((Below.refl _ wr).alloc (Nat.le_refl _) _).grown hg (by simp) (by intro k hk; cases hk); have HBR := Aside0.mk hbr; have HG3 := Aside0.mk hg3; obtain ⟨y3, hy3⟩ : ∃ y : Int, w3.cell? ⟨g3, 0, none⟩ = some (.int .u8 y) := ⟨_, hc3⟩; have hf4 : w3.frozen? ⟨g3, 0, none⟩ = false := hf3; clear hown hg hR3 hbr hc3 hf3) | (go_at_call 9; (refine (cuts_Pieces.told _ _ acc _ _ l1 _ ?side1 ?side2 ?side3 ?side4 ?side5 ?side6 HX.out).mono ?_); (case side1 => exact (Kd.C_below HR0.out (below_set (below_step HB3.out HBR.out) (Nat.le_trans (below_size HB3.out) HG3.out)))); (case side2 => exact HC0.out); (case side3 => exact (Kd.C_below HR1.out (below_set (below_step HB3.out HBR.out) (Nat.le_trans (below_size HB3.out) HG3.out)))); (case side4 => exact HC1.out); (case side5 => omega); (case side6 => omega); rintro e w5 ⟨AQ, cQ, rfl, htq, hb⟩; have HTQ := Aside0.mk htq; have HBR5 := Aside0.mk (below_step (below_set HBR.out HG3.out) hb); have HB5 := Aside0.mk (below_step HB3.out HBR5.out); clear htq hb))
          go_loopw [13, 14, 16] (fun v13 v14 v16 w' => ∃ (i : Nat) (s : List Int), v13 = .string (strOfNums s) ∧ v14 = .string (strOfNums s) ∧ v16 = .int .i64 i ∧ i ≤ xs.length ∧ s.length + (xs.drop i).flatten.length ≤ 400 ∧ Aside0 (Below w5.heap.size w5 w')) (fun _ _ v16 _ => xs.length - (intOf v16).toNat)
          case atStart => exact ⟨0, [], rfl, rfl, rfl, Nat.zero_le _, by rw [List.drop_zero, hxf]; simpa using (by omega : acc.length ≤ 400), ⟨Below.refl _ _⟩⟩
          case round =>
            clear hx0
            obtain ⟨j, s, rfl, rfl, rfl, hj, hs, HW5⟩ := hrel
            by_cases hlt : j < xs.length
            · have q1 : ((j : Nat) : Int) < (l1.length : Int) + 1 := by omega
              obtain ⟨z, hz⟩ : ∃ z, z = rd_L1 xs j := ⟨_, rfl⟩
              have hs2 : s.length + (z.length + (xs.drop (j + 1)).flatten.length) ≤ 400 := by
                rw [List.drop_eq_getElem_cons hlt, List.flatten_cons, List.length_append] at hs
                rw [hz]
                simpa [rd_L1, List.getD_eq_getElem?_getD, hlt] using hs
              by_cases hne : j = at_
              · have hneb : ((j : Int) != (at_ : Int)) = false := by simp [hne]
                clear hz
                go_wp2
                go_roundw
                case rel => exact ⟨j + 1, s, rfl, rfl, by go_num, by omega, by omega, HW5⟩
                case measure => simp [intOf]; omega
              · have hneb : ((j : Int) != (at_ : Int)) = true := by simp; omega
                obtain ⟨adp, Ap, ep, hp0, hpC⟩ := HTr.out.2 j hlt
                cases ep
                obtain ⟨adq, Aq, rfl, hq0, hqC⟩ := HTQ.out.2 j hlt
                rw [← hz] at hp0 hpC hq0 hqC
                clear hz
                have hbw := below_step HBR5.out HW5.out
                replace hp0 := (hbw.cell (World.block_lt_of_cell? _ _ hp0)).trans hp0
                replace hq0 := (HW5.out.cell (World.block_lt_of_cell? _ _ hq0)).trans hq0
                have hcp := Kd.C_string (P := Try.prog) (A := Ap) (c := z.length) Try.underlying22 Try.underlying5 Try.underlying9 (Kd.C_below hpC hbw)
                have hcq := Kd.C_string (P := Try.prog) (A := Aq) (c := z.length) Try.underlying22 Try.underlying5 Try.underlying9 (Kd.C_below hqC HW5.out)
                clear hpC hqC hbw
                have hsz : (strOfNums s).size + (strOfNums z).size ≤ 9223372036854775807 := by rw [Kit.size_str, Kit.size_str]; omega
                go_wp2
                go_roundw
                case rel => exact ⟨j + 1, s ++ z, by rw [Kit.append_str], by rw [Kit.append_str], by go_num, by omega, by simp; simp at hs2; omega, HW5⟩
                case measure => simp [intOf]; omega
            · have q1 : ¬ ((j : Nat) : Int) < (l1.length : Int) + 1 := by omega
              go_wp2
              go_ret
              exact ⟨rfl, below_step HB5.out HW5.out⟩
theorem seinelaw19_CutsJoin.walk (a0 : Option Addr) (len0 cap0 : Nat) (z0 : List Int) (a1 : Option Addr) (len1 cap1 : Nat) (z1 : List Int) (a2 : Int) (w : World) (w0 : (a0 = none ∧ len0 = 0 ∧ cap0 = 0 ∧ z0 = []) ∨ ∃ x, a0 = some x ∧ len0 ≤ cap0 ∧ cap0 ≤ maxLen ∧ z0.length = cap0 ∧ (∀ i, i < z0.length → w.cell? (x.add i) = some (.int .u8 (z0.getD i 0))) ∧ ∀ n ∈ z0, (Lit.int .u8 n).wf = true) (w1 : (a1 = none ∧ len1 = 0 ∧ cap1 = 0 ∧ z1 = []) ∨ ∃ x, a1 = some x ∧ len1 ≤ cap1 ∧ cap1 ≤ maxLen ∧ z1.length = cap1 ∧ (∀ i, i < z1.length → w.cell? (x.add i) = some (.int .i64 (z1.getD i 0))) ∧ ∀ n ∈ z1, (Lit.int .i64 n).wf = true) (w2 : (Lit.int .u8 a2).wf = true) :
    Calls Try.prog 4 #[.slice a0 len0 cap0, .slice a1 len1 cap1, .int .u8 a2] w fun e w' => e = .returned (.bool true) ∧ Below w.heap.size w w' := by
  obtain ⟨l0, rfl, hr0, _, _, hc0⟩ := ReadsInt.ofRowC w0
  obtain ⟨l1, rfl, hr1, _, _, hc1⟩ := ReadsInt.ofRowC w1
  have h2 : 0 ≤ a2 ∧ a2 ≤ 255 := by
    simp [Lit.wf, IntKind.min, IntKind.max, IntKind.signed, IntKind.bits] at w2
    omega
  exact seinelaw19_CutsJoin.calls _ _ l0 _ _ l1 a2 w (Kd.C_of_reads (d := (0 : Int)) (h1 := fun _ => rfl) hr0) hc0 (Kd.C_of_reads (d := (0 : Int)) (h1 := fun _ => rfl) hr1) hc1 h2.1 h2.2
end Go.Proofs.Ytepfdbdhfedknaa.All
