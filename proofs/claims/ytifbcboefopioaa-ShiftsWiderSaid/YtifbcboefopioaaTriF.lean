/- By hand: the contracts of the tree's Find, Path and Kids. No condition but that the tree lies there. -/
import Derived.Test.YtifbcboefopioaaTriM
import Derived.Test.YtifbcboefopioaaKit
import Derived.Test.YtifbcboefopioaaAllx1
set_option linter.unusedVariables false
namespace Go.Proofs.Ytifbcboefopioaa.Tri
open Go.RowKit Go.Maps Go.Proofs.YtifbcboefopioaaW.PrintWords Go.Proofs.YtifbcboefopioaaW.PrintLast Go.Proofs.YtifbcboefopioaaW.PrintMore Go.Proofs.Ytifbcboefopioaa.Kit
attribute [local go_sem] max2_int min2_int max_two min_two max_three min_three max_four min_four

variable {w : World} {base b : Nat} {P : List Txt} {wd : Txt → Int}
theorem place_step {P : List Txt} (hG : Good P) (bs : Txt) (k : Nat) (hk : k < bs.length) : bs.take k ∉ P → bs.take (k + 1) ∉ P := by
  intro h h2
  apply h
  have := hG.prefix h2 k
  rwa [List.take_take, show min k (k + 1) = k by omega] at this
theorem take_snoc (bs : Txt) (k : Nat) (hk : k < bs.length) : bs.take (k + 1) = bs.take k ++ [rd bs k] := by
  rw [List.take_succ_eq_append_getElem hk]
  simp [rd, List.getD_eq_getElem?_getD, hk]
set_option maxHeartbeats 2000000 in
theorem find_at (hG : Good P) (h : TreeAt w base b P wd) (hl : P.length ≤ 4611686018427387904) (A : Option Addr) (c : Nat) (bs : Txt) (hr : Kd.C (Kd.int .u8) w A bs.length bs) (hB : Bytes bs) (hbl : bs.length ≤ 4611686018427387904) :
    Calls Try.prog 32 #[.pointer (some ⟨b, 0, none⟩), .slice A bs.length c] w fun e w' => e = .returned (.int .i64 (place P bs)) ∧ w' = w := by
  have H := Aside0.mk h
  have HG := Aside0.mk hG
  have HR := Aside0.mk hr
  have HB := Aside0.mk hB
  have hp := hG.pos
  have hn := nodes_at h
  have hmin : min (0 : Int) ((P.length : Int) - 1) = 0 := by omega
  clear h hG hr hB
  go_enter Try.func32, Try.ntmps32
  go_wp2_with (go_at_call 23; refine hn.mono ?_; rintro e w' ⟨rfl, hw⟩; subst hw)
  go_loop [5, 14] (fun v5 v14 => ∃ k : Nat, v5 = .int .i64 (place P (bs.take k)) ∧ v14 = .int .i64 k ∧ k ≤ bs.length) (fun _ v14 => bs.length - (intOf v14).toNat)
  case atStart => exact ⟨0, by rw [List.take_zero, HG.out.nil_at], rfl, by omega⟩
  case round =>
    obtain ⟨k, rfl, rfl, hg⟩ := hrel
    by_cases hk : k < bs.length
    · obtain ⟨ad, rfl, hx⟩ := Kd.at_int HR.out (k : Int) (by omega) (by omega)
      simp only [Int.toNat_natCast] at hx
      have hc : 0 ≤ rd bs k ∧ rd bs k ≤ 255 := by
        have : rd bs k = bs[k] := by simp [rd, List.getD_eq_getElem?_getD, hk]
        rw [this]
        exact HB.out _ (List.getElem_mem hk)
      obtain ⟨hc0, hc1⟩ := hc
      have j1 : ((k : Nat) : Int) < (bs.length : Int) := by omega
      have hts := take_snoc bs k hk
      by_cases hm : bs.take k ∈ P
      · obtain ⟨j, hj⟩ := List.mem_iff_getElem?.1 hm
        have hpl := place_at HG.out.nodup hj
        have hst := step_at H.out hl j _ hj (rd bs k) hc0 hc1
        rw [← hts] at hst
        have HS := Aside0.mk hst
        rw [hpl]
        clear hts hst hpl hm hj
        go_wp2_with (go_at_call 31; refine HS.out.mono ?_; rintro e w' ⟨rfl, hw⟩; subst hw)
        go_round
        case rel => exact ⟨k + 1, rfl, by go_num, by omega⟩
        case measure => simp [intOf]; omega
      · have hpl := place_no hm
        have hpl2 := place_no (place_step HG.out bs k hk hm)
        have hst := step_no H.out (-1) (.inl (by decide)) (rd bs k)
        have HS := Aside0.mk hst
        have HP := Aside0.mk hpl2
        rw [hpl]
        clear hts hst hpl hm hpl2
        go_wp2_with (go_at_call 31; refine HS.out.mono ?_; rintro e w' ⟨rfl, hw⟩; subst hw)
        go_round
        case rel => exact ⟨k + 1, by rw [HP.out], by go_num, by omega⟩
        case measure => simp [intOf]; omega
    · obtain rfl : k = bs.length := by omega
      have j1 : ¬ ((bs.length : Nat) : Int) < (bs.length : Int) := by omega
      go_wp2
      go_ret
      exact ⟨rfl, rfl⟩
/-- A part of a list turned round, in place. -/
def revSeg (l : List Int) (i j : Nat) : List Int := (List.range l.length).map fun k => if i ≤ k ∧ k ≤ j then rd l ((i + j - k : Nat) : Int) else rd l (k : Int)
theorem rd_set (l : List Int) (i k : Nat) (v : Int) (h : i < l.length) : rd (l.set i v) (k : Int) = if i = k then v else rd l (k : Int) := by
  simp only [rd, Int.toNat_natCast, List.getD_eq_getElem?_getD, List.getElem?_set, h, if_true]
  split <;> rfl
theorem revSeg_step (l : List Int) (i j : Nat) (hij : i < j) (hj : j < l.length) : revSeg ((l.set i (rd l (j : Int))).set j (rd l (i : Int))) (i + 1) (j - 1) = revSeg l i j := by
  unfold revSeg
  rw [List.length_set, List.length_set]
  apply List.map_congr_left
  intro k hk
  have hkl : k < l.length := List.mem_range.1 hk
  have key : ∀ m : Nat, rd ((l.set i (rd l (j : Int))).set j (rd l (i : Int))) (m : Int) = if j = m then rd l (i : Int) else if i = m then rd l (j : Int) else rd l (m : Int) := by
    intro m
    rw [rd_set _ _ _ _ (by rw [List.length_set]; exact hj), rd_set _ _ _ _ (by omega)]
  by_cases h1 : i + 1 ≤ k ∧ k ≤ j - 1
  · rw [if_pos h1, if_pos (by omega), key, if_neg (by omega), if_neg (by omega)]
    congr 1
    omega
  · rw [if_neg h1, key]
    by_cases h2 : k = j
    · subst h2
      rw [if_pos rfl, if_pos (by omega)]
      congr 1
      omega
    · rw [if_neg (fun e => h2 e.symm)]
      by_cases h3 : k = i
      · subst h3
        rw [if_pos rfl, if_pos (by omega)]
        congr 1
        omega
      · rw [if_neg (fun e => h3 e.symm), if_neg (by omega)]
theorem revSeg_flat (l : List Int) (i j : Nat) (h : j ≤ i) : revSeg l i j = l := by
  unfold revSeg
  apply List.ext_getElem
  · simp
  · intro k h1 h2
    simp only [List.getElem_map, List.getElem_range]
    have e : rd l (k : Int) = l[k] := by simp [rd, List.getD_eq_getElem?_getD, h2]
    split
    · rename_i hk
      rw [show (i + j - k) = k by omega, e]
    · exact e
theorem revSeg_all (l : List Int) : revSeg l 0 (l.length - 1) = l.reverse := by
  unfold revSeg
  apply List.ext_getElem
  · simp
  · intro k h1 h2
    have hk : k < l.length := by simpa using h2
    simp only [List.getElem_map, List.getElem_range, List.getElem_reverse]
    rw [if_pos (by omega)]
    have : (0 + (l.length - 1) - k) < l.length := by omega
    simp only [rd, Int.toNat_natCast, List.getD_eq_getElem?_getD]
    rw [List.getElem?_eq_getElem this]
    simp
theorem reverse_runs : ∀ (d : Nat) (l : List Int) (i j : Nat), j < l.length → j ≤ i + 2 * d → l.length ≤ 4611686018427387904 → All.slices_Reverse_byte_byte.l0 (d + 1) l (i : Int) (j : Int) = some (revSeg l i j)
  | 0, l, i, j, hj, hd, hl => by
    rw [All.slices_Reverse_byte_byte.l0, if_neg (by omega), revSeg_flat l i j (by omega)]
  | d + 1, l, i, j, hj, hd, hl => by
    by_cases hij : i < j
    · rw [All.slices_Reverse_byte_byte.l0, if_pos (by omega), if_pos (by omega), if_pos (by omega), if_pos (by omega), if_pos (by omega), wrap_id (by omega) (by omega), wrap_id (by omega) (by omega)]
      simp only [Int.toNat_natCast]
      rw [show (i : Int) + 1 = ((i + 1 : Nat) : Int) by omega, show (j : Int) - 1 = ((j - 1 : Nat) : Int) by omega, reverse_runs d _ (i + 1) (j - 1) (by rw [List.length_set, List.length_set]; omega) (by omega) (by rw [List.length_set, List.length_set]; exact hl), revSeg_step l i j hij hj]
    · rw [All.slices_Reverse_byte_byte.l0, if_neg (by omega), revSeg_flat l i j (by omega)]
theorem reverse_f (l : List Int) (hl : l.length ≤ 4611686018427387904) : All.slices_Reverse_byte_byte.f (l.length + 1) l = some l.reverse := by
  unfold All.slices_Reverse_byte_byte.f
  rcases Nat.eq_zero_or_pos l.length with h0 | h0
  · obtain rfl := List.eq_nil_of_length_eq_zero h0
    rw [All.slices_Reverse_byte_byte.l0, if_neg (by simp [wrap64])]
    rfl
  · rw [wrap_id (by omega) (by omega), show ((l.length : Int) - 1) = ((l.length - 1 : Nat) : Int) by omega]
    have := reverse_runs l.length l 0 (l.length - 1) (by omega) (by omega) hl
    rw [revSeg_all] at this
    exact this
/-- What Go's Path has put together behind k steps: the last k bytes, turned round. -/
def backs (s : Txt) (k : Nat) : Txt := (s.drop (s.length - k)).reverse
theorem backs_snoc (s : Txt) (k : Nat) (hk : k < s.length) : backs s (k + 1) = backs s k ++ [(s.take (s.length - k)).getLastD 0] := by
  unfold backs
  have e : s.length - k = s.length - (k + 1) + 1 := by omega
  have hlt : s.length - (k + 1) < s.length := by omega
  have e2 : s.length - k = s.length - (k + 1) + 1 := e
  rw [List.drop_eq_getElem_cons hlt, List.reverse_cons, ← e2]
  congr 1
  have : s.take (s.length - k) = s.take (s.length - (k + 1)) ++ [s[s.length - (k + 1)]] := by
    rw [e, List.take_succ_eq_append_getElem hlt]
  rw [this, List.getLastD_eq_getLast?, List.getLast?_concat]
  rfl
theorem backs_all (s : Txt) : (backs s s.length).reverse = s := by simp [backs]
set_option maxHeartbeats 4000000 in
theorem path_at (hG : Good P) (h : TreeAt w base b P wd) (hl : P.length ≤ 4611686018427387904) (i : Nat) (s : Txt) (hi : P[i]? = some s) (hsl : s.length ≤ 1099511627776) :
    Calls Try.prog 25 #[.pointer (some ⟨b, 0, none⟩), .int .i64 i] w fun e w' => ∃ v, e = .returned v ∧ Kd.R (Kd.int .u8) 5 w' w.heap.size (fun _ => True) v s ∧ Below w.heap.size w w' := by
  have H := Aside0.mk h
  have HG := Aside0.mk hG
  have HI := Aside0.mk hi
  clear h hG hi
  go_enter Try.func25, Try.ntmps25
  go_wp2
  go_loopw [1, 5] (fun v1 v5 w' => ∃ (k j : Nat), k ≤ s.length ∧ v1 = .int .i64 j ∧ Aside0 (P[j]? = some (s.take (s.length - k))) ∧ Aside0 (Kd.R (Kd.int .u8) 5 w' w.heap.size (fun _ => True) v5 (backs s k)) ∧ Aside0 (Below w.heap.size w w') ∧ Aside0 (k = s.length - (s.take (s.length - k)).length)) (fun v1 _ _ => (intOf v1).toNat)
  case atStart => exact ⟨0, i, Nat.zero_le _, rfl, ⟨by simpa using HI.out⟩, ⟨by simpa [backs] using Kd.R_nil _ _ _ _ _⟩, ⟨Below.refl _ _⟩, ⟨by simp⟩⟩
  case round =>
    obtain ⟨k, j, hk, rfl, HJ, HR, HB, HK⟩ := hrel
    have HT := Aside0.mk (H.out.below HB.out)
    have hjl := (List.getElem?_eq_some_iff.1 HJ.out).1
    have hyes := Aside0.mk (is_yes HT.out (j : Int) (by omega) (by omega))
    obtain ⟨g, cap, mb, x0, x1, f0, f1, f2, f3⟩ := HT.out.reads HJ.out
    have j1 : ((j : Nat) : Int) < (P.length : Int) := by omega
    by_cases hlt : k < s.length
    · have hne : s.take (s.length - k) ≠ [] := by
        intro e
        have := congrArg List.length e
        rw [List.length_take, List.length_nil] at this
        omega
      have hj0 : 0 < j := by
        rcases Nat.eq_zero_or_pos j with rfl | h0
        · have := HJ.out
          rw [HG.out.root] at this
          exact absurd (Option.some.inj this).symm hne
        · exact h0
      have hup := (HG.out.up j _ HJ.out hj0)
      obtain ⟨_, j2, hj2, hj2p⟩ := hup
      have hdl : (s.take (s.length - k)).dropLast = s.take (s.length - (k + 1)) := by
        rw [List.dropLast_eq_take, List.length_take, List.take_take]
        congr 1
        omega
      rw [hdl] at hj2p
      have hpar : par P (s.take (s.length - k)) = (j2 : Int) := by
        unfold par
        rw [if_neg hne, hdl]
        exact place_at HG.out.nodup hj2p
      have hbs := backs_snoc s k hlt
      obtain ⟨cc, hcc⟩ : ∃ cc, (s.take (s.length - k)).getLastD 0 = cc := ⟨_, rfl⟩
      rw [hcc] at hbs
      rw [hpar] at f0
      rw [hcc] at f3
      have HBS := Aside0.mk hbs
      have HJ2 := Aside0.mk hj2p
      have HPAR := Aside0.mk hpar
      have HCC := Aside0.mk hcc
      clear hbs hj2p hdl hpar hcc HK hne
      go_wp2_with (first | (go_at_call 57; refine hyes.out.mono ?_; rintro e w' ⟨rfl, hw⟩; subst hw) | ((with_reducible refine gate_builtin (b := .append) (xs := #[.tmp 20, .tmp 29]) rfl ?_); at_builtin; refine Kd.R_append (Kd.int .u8) (w0 := w) w.heap.size rfl (.tmp 20) (.tmp 29) 32 5 (.int .u8 0) 1 rfl Try.underlying32 All.info5 rfl (by decide) (by omega) u5 (backs s k) cc [.int .u8 cc] (fun _ => True) (fun _ => False) rfl rfl ?aP (fun _ hk => hk.elim) ?aF ?aO ?aB ?aS ?aL ?_; (case aP => exact rfl); (case aB => exact HB.out); (case aF => exact (fun _ _ => trivial)); (case aO => exact HR.out); (case aS => exact below_size HB.out); (case aL => first | omega | (simp [backs]; omega)); intro v1 w1 ho hb hg hat; have HO1 := Aside0.mk ho; have HB1 := Aside0.mk hb; clear ho hb hg hat; obtain ⟨g1, cap1, mb1, z0, z1, y0, y1, y2, y3⟩ := (H.out.below HB1.out).reads HJ.out; rw [HPAR.out] at y0))
      go_roundw
      case rel => exact ⟨k + 1, j2, by omega, rfl, HJ2, ⟨by rw [HBS.out]; exact HO1.out⟩, HB1, ⟨by rw [List.length_take]; omega⟩⟩
      case measure => simp [intOf]; omega
    · obtain rfl : k = s.length := by omega
      have hj0 : j = 0 := by
        have h1 := HJ.out
        rw [Nat.sub_self, List.take_zero] at h1
        have h2 := place_at HG.out.nodup h1
        rw [HG.out.nil_at] at h2
        omega
      subst hj0
      have hpar : par P (s.take (s.length - s.length)) = -1 := by
        rw [Nat.sub_self, List.take_zero]
        rfl
      rw [hpar] at f0
      have HF := Aside0.mk (reverse_f (backs s s.length) (by simp [backs]; omega))
      have HA := Aside0.mk (backs_all s)
      clear hpar HK
      go_wp2_with (first | (go_at_call 57; refine hyes.out.mono ?_; rintro e w' ⟨rfl, hw⟩; subst hw) | (go_at_call 58; refine (All.slices_Reverse_byte_byte.calls _ (fun _ => True) _ _ _ w _ HB.out HR.out HF.out).mono ?_; rintro e w2 ⟨rfl, ho, hb, _⟩; have HO2 := Aside0.mk ho; have HB2 := Aside0.mk hb; clear ho hb))
      go_ret
      exact ⟨_, rfl, by have := HO2.out; rw [HA.out] at this; exact Kd.R_mono this (fun _ _ => trivial), HB2.out⟩
end Go.Proofs.Ytifbcboefopioaa.Tri
