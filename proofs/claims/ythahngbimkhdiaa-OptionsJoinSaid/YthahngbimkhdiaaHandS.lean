/- By hand: the contract of options.Show: options as a text. No condition. -/
import Derived.Test.YthahngbimkhdiaaHandW
import Derived.Outline
namespace Go.Proofs.Ythahngbimkhdiaa.All
open Go.RowKit Go.Proofs.YthahngbimkhdiaaW.PrintWords Go.Proofs.YthahngbimkhdiaaW.PrintLast Go.Proofs.YthahngbimkhdiaaW.PrintMore
attribute [local go_sem] max2_int min2_int max_two min_two max_three min_three max_four min_four

/-- Options as a number. -/
def maskN (b1 b2 b3 b4 b5 b6 b7 : Bool) : Nat := b1.toNat + 2 * b2.toNat + 4 * b3.toNat + 8 * b4.toNat + 16 * b5.toNat + 32 * b6.toNat + 64 * b7.toNat
theorem maskN_lt (b1 b2 b3 b4 b5 b6 b7 : Bool) : maskN b1 b2 b3 b4 b5 b6 b7 < 128 := by
  revert b1 b2 b3 b4 b5 b6 b7; decide
theorem bits_f (b1 b2 b3 b4 b5 b6 b7 : Bool) : options_Bits.f 20 b1 b2 b3 b4 b5 b6 b7 = some (maskN b1 b2 b3 b4 b5 b6 b7 : Int) := by
  revert b1 b2 b3 b4 b5 b6 b7; decide +kernel
/-- The letter of a place. -/
def letterAt (k : Nat) : UInt8 := ([105, 119, 120, 111, 98, 118, 99] : List UInt8).getD k 0
/-- What has been written behind k letters. -/
def showL (M : Nat) : Nat → List UInt8
  | 0 => [45]
  | k + 1 => showL M k ++ (if M / 2 ^ k % 2 = 1 then [letterAt k] else [])
theorem letters_at (pos : Nat) (h : pos < 7) : Utf8.decode ⟨#[105, 119, 120, 111, 98, 118, 99]⟩ pos = ((letterAt pos).toNat, 1) ∧ Utf8.encode ((letterAt pos).toNat : Int) = ⟨#[letterAt pos]⟩ := by
  revert h
  revert pos
  decide +kernel
theorem and_one (M : Nat) (h : M < 128) : ∀ k : Nat, k < 7 → bits .and .u8 ((M : Int) / 2 ^ k) 1 = ((M / 2 ^ k % 2 : Nat) : Int) := by
  have : ∀ M : Nat, M < 128 → ∀ k : Nat, k < 7 → bits .and .u8 ((M : Int) / 2 ^ k) 1 = ((M / 2 ^ k % 2 : Nat) : Int) := by decide +kernel
  exact this M h
theorem showL_len (M : Nat) : ∀ k, (showL M k).length ≤ k + 1
  | 0 => Nat.le_refl _
  | k + 1 => by
    have := showL_len M k
    rw [showL, List.length_append]
    split <;> simp <;> omega
theorem showL_yes (M k : Nat) (h : M / 2 ^ k % 2 = 1) : (⟨(showL M k).toArray⟩ : ByteArray) ++ ⟨#[letterAt k]⟩ = ⟨(showL M (k + 1)).toArray⟩ := by
  apply ByteArray.ext
  rw [ByteArray.data_append, showL, if_pos h]
  simp
theorem eq_none (b1 b2 b3 b4 b5 b6 b7 : Bool) (h : maskN b1 b2 b3 b4 b5 b6 b7 ≠ 0) (W : World) :
    (binOp .eql 24 (.agg #[.bool b1, .bool b2, .bool b3, .bool b4, .bool b5, .bool b6, .bool b7]) (.agg #[.bool false, .bool false, .bool false, .bool false, .bool false, .bool false, .bool false])).run Try.prog W = .ok (.bool false) W := by
  revert h
  cases b1 <;> cases b2 <;> cases b3 <;> cases b4 <;> cases b5 <;> cases b6 <;> cases b7 <;> intro h <;> first | rfl | exact absurd rfl h
set_option maxHeartbeats 8000000 in
set_option maxRecDepth 100000 in
theorem show_some (b1 b2 b3 b4 b5 b6 b7 : Bool) (M : Nat) (hM : maskN b1 b2 b3 b4 b5 b6 b7 = M) (h : M ≠ 0) (w : World) :
    Calls Try.prog 12 #[.agg #[.bool b1, .bool b2, .bool b3, .bool b4, .bool b5, .bool b6, .bool b7]] w fun e w' => e = .returned (.string ⟨(showL M 7).toArray⟩) ∧ Below w.heap.size w w' := by
  have hM7 := maskN_lt b1 b2 b3 b4 b5 b6 b7
  have hq := eq_none b1 b2 b3 b4 b5 b6 b7 (by rw [hM]; exact h)
  have bf := bits_f b1 b2 b3 b4 b5 b6 b7
  rw [hM] at hM7 bf
  have BF := Aside0.mk bf
  clear hM bf h
  go_enter Try.func12, Try.ntmps12
  go_wp2
  go_loopg [3] 7 (fun gf v3 wx => ∃ pos : Nat, pos + gf = 7 ∧ v3 = .string ⟨(showL M pos).toArray⟩ ∧ wx.heap[w.heap.size + 1]? = some (.stringIter ⟨#[105, 119, 120, 111, 98, 118, 99]⟩ pos) ∧ Aside0 (wx.heap[w.heap.size]? = some (.cells #[.bool b1, .bool b2, .bool b3, .bool b4, .bool b5, .bool b6, .bool b7] 24)) ∧ Aside0 (Below w.heap.size w wx))
  case atStart => 
    have h1 := World.iter_heap (w.alloc (.cells #[.bool b1, .bool b2, .bool b3, .bool b4, .bool b5, .bool b6, .bool b7] 24)) ⟨#[105, 119, 120, 111, 98, 118, 99]⟩ 0
    have h2 := blk_new w (.cells #[.bool b1, .bool b2, .bool b3, .bool b4, .bool b5, .bool b6, .bool b7] 24)
    have h3 : Below (w.alloc (.cells #[.bool b1, .bool b2, .bool b3, .bool b4, .bool b5, .bool b6, .bool b7] 24)).heap.size _ ((w.alloc (.cells #[.bool b1, .bool b2, .bool b3, .bool b4, .bool b5, .bool b6, .bool b7] 24)).iter ⟨#[105, 119, 120, 111, 98, 118, 99]⟩ 0) := below_alloc (Below.refl _ _) _
    exact ⟨0, rfl, rfl, by simpa using h1, ⟨(h3.block w.heap.size (by simp)).trans h2⟩, ⟨below_alloc (below_alloc (Below.refl _ _) _) _⟩⟩
  case round =>
    obtain ⟨pos, hg, rfl, hit, HO, HB⟩ := hrel
    by_cases hlt : pos < 7
    · obtain ⟨g', rfl⟩ : ∃ g', gk = g' + 1 := ⟨gk - 1, by omega⟩
      have hnx : ∀ ty, (Instr.next (.pointer (some ⟨w.heap.size + 1, 0, none⟩)) true ty).run Try.prog wr = _ := fun ty => Lib.run_next_any_at wr (w.heap.size + 1) ⟨#[105, 119, 120, 111, 98, 118, 99]⟩ pos ty hit hlt
      obtain ⟨k1, k2⟩ := letters_at pos hlt
      rw [k1] at hnx
      have hcv := conv_rune ((letterAt pos).toNat : Int)
      rw [k2] at hcv
      have hit2 := Lib.iterAt_heap wr (w.heap.size + 1) ⟨#[105, 119, 120, 111, 98, 118, 99]⟩ pos (pos + 1) hit
      have HB2 := Aside0.mk (Lib.below_iterAt HB.out (k := w.heap.size + 1) (Nat.le_succ _) ⟨#[105, 119, 120, 111, 98, 118, 99]⟩ (pos + 1))
      have HO2 := Aside0.mk ((Lib.iterAt_other wr (w.heap.size + 1) w.heap.size ⟨#[105, 119, 120, 111, 98, 118, 99]⟩ (pos + 1) (by omega)).trans HO.out)
      obtain ⟨W, hW⟩ : ∃ W, wr.iterAt (w.heap.size + 1) ⟨#[105, 119, 120, 111, 98, 118, 99]⟩ (pos + 1) = W := ⟨_, rfl⟩
      rw [hW] at hnx hit2 HB2 HO2
      have cells : ∀ i v, (#[Value.bool b1, .bool b2, .bool b3, .bool b4, .bool b5, .bool b6, .bool b7])[i]? = some v → W.cell? ⟨w.heap.size, i, none⟩ = some v := by
        intro i v hi
        simp [World.cell?, HO2.out, hi]
      have c0 : W.cell? ⟨w.heap.size, 0, none⟩ = some (.bool b1) := cells 0 _ rfl
      have c1 : W.cell? ⟨w.heap.size, 1, none⟩ = some (.bool b2) := cells 1 _ rfl
      have c2 : W.cell? ⟨w.heap.size, 2, none⟩ = some (.bool b3) := cells 2 _ rfl
      have c3 : W.cell? ⟨w.heap.size, 3, none⟩ = some (.bool b4) := cells 3 _ rfl
      have c4 : W.cell? ⟨w.heap.size, 4, none⟩ = some (.bool b5) := cells 4 _ rfl
      have c5 : W.cell? ⟨w.heap.size, 5, none⟩ = some (.bool b6) := cells 5 _ rfl
      have c6 : W.cell? ⟨w.heap.size, 6, none⟩ = some (.bool b7) := cells 6 _ rfl
      have ha := and_one M hM7 pos hlt
      clear k1 k2 hit HB HO hW cells
      have hlen := showL_len M pos
      have hl9 : (showL M pos).length + 1 ≤ 9223372036854775807 := by omega
      by_cases hbit : M / 2 ^ pos % 2 = 1
      · have hb1 : ((M : Int) / 2 ^ pos % 2 == 1) = true := by
          have : ((M / 2 ^ pos % 2 : Nat) : Int) = 1 := by rw [hbit]; rfl
          simpa using this
        have HS := Aside0.mk (showL_yes M pos hbit)
        clear hbit
        go_wp2_with (go_at_call 14; refine (options_Bits.calls 20 b1 b2 b3 b4 b5 b6 b7 _ _ BF.out).mono ?_; rintro e w' ⟨rfl, hb⟩; have HB3 := Aside0.mk hb; clear hb)
        go_roundg g'
        case measure => omega
        case rel => exact ⟨pos + 1, by omega, by rw [HS.out], (HB3.out.block _ (Array.getElem?_eq_some_iff.1 hit2).1).trans hit2, ⟨(HB3.out.block _ (Array.getElem?_eq_some_iff.1 HO2.out).1).trans HO2.out⟩, ⟨below_step HB2.out HB3.out⟩⟩
      · have hb1 : ((M : Int) / 2 ^ pos % 2 == 1) = false := by
          have : ((M / 2 ^ pos % 2 : Nat) : Int) ≠ 1 := by omega
          simpa using this
        have HS : Aside0 (showL M (pos + 1) = showL M pos) := ⟨by rw [showL, if_neg hbit, List.append_nil]⟩
        clear hbit
        go_wp2_with (go_at_call 14; refine (options_Bits.calls 20 b1 b2 b3 b4 b5 b6 b7 _ _ BF.out).mono ?_; rintro e w' ⟨rfl, hb⟩; have HB3 := Aside0.mk hb; clear hb)
        go_roundg g'
        case measure => omega
        case rel => exact ⟨pos + 1, by omega, by rw [HS.out], (HB3.out.block _ (Array.getElem?_eq_some_iff.1 hit2).1).trans hit2, ⟨(HB3.out.block _ (Array.getElem?_eq_some_iff.1 HO2.out).1).trans HO2.out⟩, ⟨below_step HB2.out HB3.out⟩⟩
    · have hnx : ∀ ty, (Instr.next (.pointer (some ⟨w.heap.size + 1, 0, none⟩)) true ty).run Try.prog wr = _ := fun ty => Lib.run_next_end_at wr (w.heap.size + 1) ⟨#[105, 119, 120, 111, 98, 118, 99]⟩ pos ty hit hlt
      obtain rfl : pos = 7 := by omega
      go_wp2
      go_ret
      exact ⟨rfl, HB.out⟩
theorem eq_all (W : World) : (binOp .eql 24 (.agg #[.bool false, .bool false, .bool false, .bool false, .bool false, .bool false, .bool false]) (.agg #[.bool false, .bool false, .bool false, .bool false, .bool false, .bool false, .bool false])).run Try.prog W = .ok (.bool true) W := rfl
set_option maxHeartbeats 8000000 in
set_option maxRecDepth 100000 in
theorem show_none (w : World) :
    Calls Try.prog 12 #[.agg #[.bool false, .bool false, .bool false, .bool false, .bool false, .bool false, .bool false]] w fun e w' => e = .returned (.string ⟨#[]⟩) ∧ Below w.heap.size w w' := by
  have hq := eq_all
  go_enter Try.func12, Try.ntmps12
  go_wp2
  go_ret
  exact ⟨rfl, below_alloc (Below.refl _ _) _⟩
theorem maskN_zero (b1 b2 b3 b4 b5 b6 b7 : Bool) (h : maskN b1 b2 b3 b4 b5 b6 b7 = 0) : b1 = false ∧ b2 = false ∧ b3 = false ∧ b4 = false ∧ b5 = false ∧ b6 = false ∧ b7 = false := by
  revert h
  cases b1 <;> cases b2 <;> cases b3 <;> cases b4 <;> cases b5 <;> cases b6 <;> cases b7 <;> decide
/-- What options.Show answers. -/
def options_Show.f (b1 b2 b3 b4 b5 b6 b7 : Bool) : Option ByteArray := some (if maskN b1 b2 b3 b4 b5 b6 b7 = 0 then ⟨#[]⟩ else ⟨(showL (maskN b1 b2 b3 b4 b5 b6 b7) 7).toArray⟩)
theorem options_Show.calls (b1 b2 b3 b4 b5 b6 b7 : Bool) (r : ByteArray) (w : World) (h : options_Show.f b1 b2 b3 b4 b5 b6 b7 = some r) :
    Calls Try.prog 12 #[.agg #[.bool b1, .bool b2, .bool b3, .bool b4, .bool b5, .bool b6, .bool b7]] w fun e w' => e = .returned (.string r) ∧ Below w.heap.size w w' := by
  simp only [options_Show.f, Option.some.injEq] at h
  subst h
  by_cases h0 : maskN b1 b2 b3 b4 b5 b6 b7 = 0
  · rw [if_pos h0]
    obtain ⟨rfl, rfl, rfl, rfl, rfl, rfl, rfl⟩ := maskN_zero _ _ _ _ _ _ _ h0
    exact show_none w
  · rw [if_neg h0]
    exact show_some b1 b2 b3 b4 b5 b6 b7 _ rfl h0 w
end Go.Proofs.Ythahngbimkhdiaa.All
