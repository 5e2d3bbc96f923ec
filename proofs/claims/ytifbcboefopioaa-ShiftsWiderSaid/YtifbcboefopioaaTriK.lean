/- By hand: the contracts of the tree's Kids, and of Path and Find at numbers that are no node. No condition but that the tree lies there. -/
import Derived.Test.YtifbcboefopioaaTriF
set_option linter.unusedVariables false
namespace Go.Proofs.Ytifbcboefopioaa.Tri
open Go.RowKit Go.Maps Go.Proofs.YtifbcboefopioaaW.PrintWords Go.Proofs.YtifbcboefopioaaW.PrintLast Go.Proofs.YtifbcboefopioaaW.PrintMore Go.Proofs.Ytifbcboefopioaa.Kit
attribute [local go_sem] max2_int min2_int max_two min_two max_three min_three max_four min_four

variable {w : World} {base b : Nat} {P : List Txt} {wd : Txt → Int}
theorem reverse_nil (w0 w : World) (hB : Below w0.heap.size w0 w) : Calls Try.prog 58 #[.slice none 0 0] w fun e w' => e = .returned (.tuple #[]) ∧ Below w0.heap.size w0 w' :=
  (All.slices_Reverse_byte_byte.calls 1 (fun _ => True) (.slice none 0 0) [] [] w0 w hB (Kd.R_nil _ _ _ _ _) (reverse_f [] (by decide))).mono fun e w' ⟨h1, _, h2, _⟩ => ⟨h1, h2⟩
theorem path_no (h : TreeAt w base b P wd) (n : Int) (h0 : n < 0 ∨ (P.length : Int) ≤ n) :
    Calls Try.prog 25 #[.pointer (some ⟨b, 0, none⟩), .int .i64 n] w fun e w' => e = .returned (.slice none 0 0) ∧ Below w.heap.size w w' := by
  have hn := is_no h n h0
  have hr := reverse_nil w w (Below.refl _ _)
  clear h h0
  go_enter Try.func25, Try.ntmps25
  go_wp2
  refine wp_loop_rounds 1 ?_
  rw [rounds_succ]
  go_wp2_with (first | (go_at_call 57; refine hn.mono ?_; rintro e w' ⟨rfl, hw⟩; subst hw) | (go_at_call 58; refine hr.mono ?_; rintro e w2 ⟨rfl, hb⟩; have HB2 := Aside0.mk hb; clear hb))
  go_ret
  exact ⟨rfl, HB2.out⟩
theorem find_nil (A : Option Addr) (c : Nat) (bs : Txt) (w : World) (hr : Kd.C (Kd.int .u8) w A bs.length bs) (hbl : bs.length ≤ 4611686018427387904) :
    Calls Try.prog 32 #[.pointer none, .slice A bs.length c] w fun e w' => e = .returned (.int .i64 (-1)) ∧ w' = w := by
  have HR := Aside0.mk hr
  have hn := nodes_nil w
  clear hr
  go_enter Try.func32, Try.ntmps32
  go_wp2_with (go_at_call 23; refine hn.mono ?_; rintro e w' ⟨rfl, hw⟩; subst hw)
  go_loop [5, 14] (fun v5 v14 => ∃ k : Nat, v5 = .int .i64 (-1) ∧ v14 = .int .i64 k ∧ k ≤ bs.length) (fun _ v14 => bs.length - (intOf v14).toNat)
  case atStart => exact ⟨0, rfl, rfl, by omega⟩
  case round =>
    obtain ⟨k, rfl, rfl, hg⟩ := hrel
    by_cases hk : k < bs.length
    · obtain ⟨ad, rfl, hx⟩ := Kd.at_int HR.out (k : Int) (by omega) (by omega)
      simp only [Int.toNat_natCast] at hx
      have j1 : ((k : Nat) : Int) < (bs.length : Int) := by omega
      go_wp2_with (go_at_call 31; refine (step_nil _ _ _).mono ?_; rintro e w' ⟨rfl, hw⟩; subst hw)
      go_round
      case rel => exact ⟨k + 1, rfl, by go_num, by omega⟩
      case measure => simp [intOf]; omega
    · obtain rfl : k = bs.length := by omega
      have j1 : ¬ ((bs.length : Nat) : Int) < (bs.length : Int) := by omega
      go_wp2
      go_ret
      exact ⟨rfl, rfl⟩
/-- The bytes ahead of n that lead on from a beginning, rising. -/
def kidsN (P : List Txt) (s : Txt) : Nat → Txt
  | 0 => []
  | n + 1 => kidsN P s n ++ (if s ++ [(n : Int)] ∈ P then [(n : Int)] else [])
theorem kidsN_len (P : List Txt) (s : Txt) : ∀ n, (kidsN P s n).length ≤ n
  | 0 => Nat.le_refl _
  | n + 1 => by
    have := kidsN_len P s n
    rw [kidsN, List.length_append]
    split <;> simp <;> omega
set_option maxHeartbeats 4000000 in
theorem kids_at (h : TreeAt w base b P wd) (hl : P.length ≤ 4611686018427387904) (i : Nat) (s : Txt) (hi : P[i]? = some s) :
    Calls Try.prog 29 #[.pointer (some ⟨b, 0, none⟩), .int .i64 i] w fun e w' => ∃ v, e = .returned v ∧ Kd.R (Kd.int .u8) 5 w' w.heap.size (fun _ => True) v (kidsN P s 256) ∧ Below w.heap.size w w' := by
  have H := Aside0.mk h
  have HI := Aside0.mk hi
  clear h hi
  go_enter Try.func29, Try.ntmps29
  go_wp2
  go_loopw [5, 7] (fun v5 v7 w' => ∃ k : Nat, v7 = .int .i64 k ∧ k ≤ 256 ∧ Aside0 (Kd.R (Kd.int .u8) 5 w' w.heap.size (fun _ => True) v5 (kidsN P s k)) ∧ Aside0 (Below w.heap.size w w')) (fun _ v7 _ => 256 - (intOf v7).toNat)
  case atStart => exact ⟨0, rfl, by omega, ⟨Kd.R_nil _ _ _ _ _⟩, ⟨Below.refl _ _⟩⟩
  case round =>
    obtain ⟨k, rfl, hk, HR, HB⟩ := hrel
    by_cases hlt : k < 256
    · have j1 : ((k : Nat) : Int) < 256 := by omega
      have hlen := kidsN_len P s k
      have HS := Aside0.mk (step_at (H.out.below HB.out) hl i s HI.out (k : Int) (by omega) (by omega))
      have hmod : ((k : Nat) : Int) % 256 = (k : Int) := by omega
      obtain ⟨XS, hXS⟩ : ∃ XS, kidsN P s k = XS := ⟨_, rfl⟩
      rw [hXS] at HR hlen
      obtain ⟨pl, hpl⟩ : ∃ pl, place P (s ++ [(k : Int)]) = pl := ⟨_, rfl⟩
      rw [hpl] at HS
      by_cases hm : s ++ [(k : Int)] ∈ P
      · have HN : Aside0 (kidsN P s (k + 1) = XS ++ [(k : Int)]) := ⟨by rw [kidsN, hXS, if_pos hm]⟩
        have hp0 : 0 ≤ pl := by rw [← hpl]; exact place_pos.2 hm
        clear hm hXS hpl
        go_wp2_with (first | (go_at_call 31; refine HS.out.mono ?_; rintro e w' ⟨rfl, hw⟩; subst hw) | ((with_reducible refine gate_builtin (b := .append) (xs := #[.tmp 16, .tmp 19]) rfl ?_); at_builtin; refine Kd.R_append (Kd.int .u8) (w0 := w) w.heap.size rfl (.tmp 16) (.tmp 19) 32 5 (.int .u8 0) 1 rfl Try.underlying32 All.info5 rfl (by decide) (by omega) u5 XS (k : Int) [.int .u8 (k : Int)] (fun _ => True) (fun _ => False) rfl rfl ?aP (fun _ hk => hk.elim) ?aF ?aO ?aB ?aS ?aL ?_; (case aP => exact rfl); (case aB => exact HB.out); (case aF => exact (fun _ _ => trivial)); (case aO => exact HR.out); (case aS => exact below_size HB.out); (case aL => omega); intro v1 w1 ho hb hg hat; have HO1 := Aside0.mk ho; have HB1 := Aside0.mk hb; clear ho hb hg hat))
        go_roundw
        case rel => exact ⟨k + 1, by go_num, by omega, ⟨by rw [HN.out]; exact HO1.out⟩, HB1⟩
        case measure => simp [intOf]; omega
      · have HN : Aside0 (kidsN P s (k + 1) = XS) := ⟨by rw [kidsN, hXS, if_neg hm, List.append_nil]⟩
        have hp0 : pl = -1 := by rw [← hpl]; exact place_no hm
        subst hp0
        clear hm hXS hpl
        go_wp2_with (go_at_call 31; refine HS.out.mono ?_; rintro e w' ⟨rfl, hw⟩; subst hw)
        go_roundw
        case rel => exact ⟨k + 1, by go_num, by omega, ⟨by rw [HN.out]; exact HR.out⟩, HB⟩
        case measure => simp [intOf]; omega
    · obtain rfl : k = 256 := by omega
      go_wp2
      go_ret
      exact ⟨_, rfl, HR.out, HB.out⟩
theorem kids_no (h : TreeAt w base b P wd) (n : Int) (h0 : n < 0 ∨ (P.length : Int) ≤ n) :
    Calls Try.prog 29 #[.pointer (some ⟨b, 0, none⟩), .int .i64 n] w fun e w' => e = .returned (.slice none 0 0) ∧ w' = w := by
  have HS := Aside0.mk (fun c => step_no h n h0 c)
  clear h h0
  go_enter Try.func29, Try.ntmps29
  go_wp2
  go_loop [5, 7] (fun v5 v7 => ∃ k : Nat, v7 = .int .i64 k ∧ k ≤ 256 ∧ v5 = .slice none 0 0) (fun _ v7 => 256 - (intOf v7).toNat)
  case atStart => exact ⟨0, rfl, by omega, rfl⟩
  case round =>
    obtain ⟨k, rfl, hk, rfl⟩ := hrel
    by_cases hlt : k < 256
    · have j1 : ((k : Nat) : Int) < 256 := by omega
      go_wp2_with (go_at_call 31; refine (HS.out _).mono ?_; rintro e w' ⟨rfl, hw⟩; subst hw)
      go_round
      case rel => exact ⟨k + 1, by go_num, by omega, rfl⟩
      case measure => simp [intOf]; omega
    · obtain rfl : k = 256 := by omega
      go_wp2
      go_ret
      exact ⟨rfl, rfl⟩
end Go.Proofs.Ytifbcboefopioaa.Tri
