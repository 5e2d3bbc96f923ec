/- By hand: the contract of strings.IndexRune at the seven letters: of a rune that is no byte of ASCII: none. No condition but that the rune is valid. -/
import Derived.Test.YthahngbimkhdiaaAllx2
import Derived.Test.YthahngbimkhdiaaSh
import Derived.Test.YthahngbimkhdiaaFld
import Derived.Laws.EntriesVeiled
import Derived.WalkSpells
import Derived.Deep.LoopGhost
import Derived.Deep.DeepMust
import Derived.Deep.QuietTactic
import Derived.BigQuiet
import Derived.WalkMore
namespace Go.Proofs.Ythahngbimkhdiaa.All
open Go.RowKit Go.Proofs.YthahngbimkhdiaaW.PrintWords Go.Proofs.YthahngbimkhdiaaW.PrintLast Go.Proofs.YthahngbimkhdiaaW.PrintMore
attribute [local go_sem] max2_int min2_int max_two min_two max_three min_three max_four min_four

theorem indexByte_at (s : ByteArray) (c : Int) (w : World) : Calls Try.prog 24 #[.string s, .int .u8 c] w fun e w' => e = .returned (.int .i64 (Lib.indexByte s.data.toList c.toNat.toUInt8)) ∧ w' = w := Any.strings_IndexByte Sh.l137 s c w
theorem validRune_at (r : Int) (w : World) : Calls Try.prog 25 #[.int .i32 r] w fun e w' => e = .returned (.bool (Lib.validRune r)) ∧ w' = w := Any.utf8_ValidRune Sh.l119 r w

set_option maxHeartbeats 2000000 in
set_option maxRecDepth 1000000 in
theorem indexRune_small (r : Int) (w : World) (h0 : 0 ≤ r) (h1 : r < 128) :
    Calls Try.prog 23 #[.string ⟨#[105, 119, 120, 111, 98, 118, 99]⟩, .int .i32 r] w fun e w' => e = .returned (.int .i64 (Lib.indexByte [105, 119, 120, 111, 98, 118, 99] r.toNat.toUInt8)) ∧ w' = w := by
  go_enter Try.func23, Try.ntmps23
  go_wp2_with (go_at_call 24; refine (indexByte_at _ _ _).mono ?_; rintro e w' ⟨rfl, hw⟩; rw [hw])
  go_ret
  exact ⟨rfl, rfl⟩

theorem letters_next (pos : Nat) (h : pos < 7) : (Utf8.decode ⟨#[105, 119, 120, 111, 98, 118, 99]⟩ pos).1 < 128 ∧ (Utf8.decode ⟨#[105, 119, 120, 111, 98, 118, 99]⟩ pos).2 = 1 := by
  revert h
  revert pos
  decide +kernel
set_option maxHeartbeats 4000000 in
set_option maxRecDepth 1000000 in
theorem indexRune_err (w : World) :
    Calls Try.prog 23 #[.string ⟨#[105, 119, 120, 111, 98, 118, 99]⟩, .int .i32 65533] w fun e w' => e = .returned (.int .i64 (-1)) ∧ Below w.heap.size w w' := by
  go_enter Try.func23, Try.ntmps23
  go_wp2
  go_loopg [] 7 (fun gf wx => ∃ pos : Nat, pos + gf = 7 ∧ wx.heap[w.heap.size]? = some (.stringIter ⟨#[105, 119, 120, 111, 98, 118, 99]⟩ pos) ∧ Aside0 (Below w.heap.size w wx))
  case atStart => exact ⟨0, rfl, World.iter_heap w ⟨#[105, 119, 120, 111, 98, 118, 99]⟩ 0, ⟨below_alloc (Below.refl _ _) _⟩⟩
  case round =>
    obtain ⟨pos, hg, hit, HB⟩ := hrel
    by_cases hlt : pos < 7
    · obtain ⟨g', rfl⟩ : ∃ g', gk = g' + 1 := ⟨gk - 1, by omega⟩
      have hnx : ∀ ty, (Instr.next (.pointer (some ⟨w.heap.size, 0, none⟩)) true ty).run Try.prog wr = _ := fun ty => Lib.run_next_any_at wr w.heap.size ⟨#[105, 119, 120, 111, 98, 118, 99]⟩ pos ty hit hlt
      obtain ⟨k1, k2⟩ := letters_next pos hlt
      rw [k2] at hnx
      obtain ⟨R, hR⟩ : ∃ R, (Utf8.decode ⟨#[105, 119, 120, 111, 98, 118, 99]⟩ pos).1 = R := ⟨_, rfl⟩
      rw [hR] at hnx k1
      have hit2 := Lib.iterAt_heap wr w.heap.size ⟨#[105, 119, 120, 111, 98, 118, 99]⟩ pos (pos + 1) hit
      have HB2 := Aside0.mk (Lib.below_iterAt HB.out (k := w.heap.size) (Nat.le_refl _) ⟨#[105, 119, 120, 111, 98, 118, 99]⟩ (pos + 1))
      have hne : ((R : Int) == 65533) = false := by simp; omega
      clear hR k2 HB hit
      go_wp2
      go_roundg g'
      case measure => omega
      case rel => exact ⟨pos + 1, by omega, hit2, HB2⟩
    · have hnx : ∀ ty, (Instr.next (.pointer (some ⟨w.heap.size, 0, none⟩)) true ty).run Try.prog wr = _ := fun ty => Lib.run_next_end_at wr w.heap.size ⟨#[105, 119, 120, 111, 98, 118, 99]⟩ pos ty hit hlt
      go_wp2
      go_ret
      exact ⟨rfl, HB.out⟩
/-- A valid rune beyond ASCII: two to four bytes, the last of them no byte of ASCII. -/
theorem encode_big (r : Int) (h : 128 ≤ r) (hv : Lib.validRune r = true) :
    (∃ b0 b1, Utf8.encode r = ⟨#[b0, b1]⟩ ∧ 128 ≤ b1.toNat) ∨ (∃ b0 b1 b2, Utf8.encode r = ⟨#[b0, b1, b2]⟩ ∧ 128 ≤ b2.toNat) ∨ (∃ b0 b1 b2 b3, Utf8.encode r = ⟨#[b0, b1, b2, b3]⟩ ∧ 128 ≤ b3.toNat) := by
  obtain ⟨n, rfl⟩ : ∃ n : Nat, r = (n : Int) := ⟨r.toNat, by omega⟩
  have hv' : Utf8.valid (n : Int) = true := by
    unfold Lib.validRune at hv
    unfold Utf8.valid
    simp at hv ⊢
    omega
  have e : Utf8.encode (n : Int) = (let c := n; let b (n : Nat) : UInt8 := UInt8.ofNat n
      if c < 0x80 then ⟨#[b c]⟩
      else if c < 0x800 then ⟨#[b (0xC0 + c / 64), b (0x80 + c % 64)]⟩
      else if c < 0x10000 then ⟨#[b (0xE0 + c / 4096), b (0x80 + c / 64 % 64), b (0x80 + c % 64)]⟩
      else ⟨#[b (0xF0 + c / 262144), b (0x80 + c / 4096 % 64), b (0x80 + c / 64 % 64), b (0x80 + c % 64)]⟩) := by
    unfold Utf8.encode
    simp [hv']
  rw [e]
  dsimp only
  have hb : 128 ≤ (UInt8.ofNat (0x80 + n % 64)).toNat := by simp; omega
  rw [if_neg (by omega)]
  split
  · exact .inl ⟨_, _, rfl, hb⟩
  · split
    · exact .inr (.inl ⟨_, _, _, rfl, hb⟩)
    · exact .inr (.inr ⟨_, _, _, _, rfl, hb⟩)
theorem conv_rune (r : Int) (w : World) : (convert 21 9 (.int .i32 r)).run Try.prog w = .ok (.string (Utf8.encode r)) w := by
  simp [convert, go_sem]
  rfl
theorem indexByte_none : ∀ (l : List UInt8) (c : UInt8), (∀ x ∈ l, x.toNat < 128) → 128 ≤ c.toNat → Lib.indexByte l c = -1
  | [], _, _, _ => rfl
  | b :: l, c, h, hc => by
    have hb := h b (by simp)
    have ih := indexByte_none l c (fun x hx => h x (by simp [hx])) hc
    have hne : (b == c) = false := by
      rw [beq_eq_false_iff_ne]
      intro e
      subst e
      omega
    rw [Lib.indexByte, hne, ih]
    rfl
/-- No byte of ASCII is a byte beyond. -/
theorem indexByte_neg (s : ByteArray) (c : Int) (hs : ∀ x ∈ s.data.toList, x.toNat < 128) (hc : 128 ≤ c) (hc2 : c ≤ 255) (W : World) : Calls Try.prog 24 #[.string s, .int .u8 c] W fun e w' => e = .returned (.int .i64 (-1)) ∧ w' = W := by
  have h := indexByte_at s c W
  rwa [indexByte_none s.data.toList c.toNat.toUInt8 hs (by simp; omega)] at h
/-- A call that leaves the world alone, in a region that draws, behind another one. -/
theorem still_on {f : FuncId} {args : Array Value} {w : World} {a n : Nat} {v : Value} (h : ∀ W, Calls Try.prog f args W fun e w' => e = .returned v ∧ w' = W) :
    Calls Try.prog f args (w.drewN (a + n)) fun e w'' => e = .returned v ∧ ∃ m, w'' = w.drewN (a + m) := by
  refine (h _).mono fun e w' hw => ⟨hw.1, n, hw.2⟩
set_option maxHeartbeats 4000000 in
set_option maxRecDepth 1000000 in
theorem indexRune_big2 (r : Int) (w : World) (h0 : 128 ≤ r) (h1 : r ≤ 1114111) (hr : r ≠ 65533) (hv : Lib.validRune r = true) (b0 b1 : UInt8) (he : Utf8.encode r = ⟨#[b0, b1]⟩) (hb : 128 ≤ b1.toNat) :
    Calls Try.prog 23 #[.string ⟨#[105, 119, 120, 111, 98, 118, 99]⟩, .int .i32 r] w fun e w' => e = .returned (.int .i64 (-1)) ∧ ∃ q, w' = w.drewN q := by
  have hcv := conv_rune r
  rw [he] at hcv
  have q1 : (r == 65533) = false := by simpa using hr
  have hl := b1.toNat_lt
  have hb1 : (128 : Int) ≤ (((⟨#[b0, b1]⟩ : ByteArray)[1]'(by simp [ByteArray.size])).toNat : Int) := by show (128 : Int) ≤ (b1.toNat : Int); omega
  have hb2 : (((⟨#[b0, b1]⟩ : ByteArray)[1]'(by simp [ByteArray.size])).toNat : Int) ≤ 255 := by show (b1.toNat : Int) ≤ 255; omega
  have q2 : ((((⟨#[105, 119, 120, 111, 98, 118, 99]⟩ : ByteArray)[1]'(by decide)).toNat : Int) != (((⟨#[b0, b1]⟩ : ByteArray)[1]'(by simp [ByteArray.size])).toNat : Int)) = true := by
    show (((119 : Nat) : Int) != (b1.toNat : Int)) = true
    simp
    omega
  clear he hl
  go_enter Try.func23, Try.ntmps23
  go_wp2_with (first | (go_at_call 25; refine (validRune_at _ _).mono ?_; rintro e w' ⟨rfl, rfl⟩))
  go_step3
  go_wp2_with (first | (go_at_call 25; refine (validRune_at _ _).mono ?_; rintro e w' ⟨rfl, rfl⟩))
  refine wp_loop_rounds 1 ?_
  rw [rounds_succ]
  go_wp2_with (first | (go_at_call 25; refine (validRune_at _ _).mono ?_; rintro e w' ⟨rfl, rfl⟩))
  go_step3
  go_wp2_with (first | (go_at_call 25; refine (validRune_at _ _).mono ?_; rintro e w' ⟨rfl, rfl⟩))
  go_quiet (fail)
  go_wp2_with (fail)
  go_quiet ((go_at_call 24; exact still_on (indexByte_neg _ _ (by decide) hb1 hb2)))
  go_wp2_with (fail)
  rw [Exit.noGoto_ret]
  go_simp
  (try rw [Exit.noGoto_ret])
  go_ret
  exact ⟨rfl, _, rfl⟩
set_option maxHeartbeats 4000000 in
set_option maxRecDepth 1000000 in
theorem indexRune_big3 (r : Int) (w : World) (h0 : 128 ≤ r) (h1 : r ≤ 1114111) (hr : r ≠ 65533) (hv : Lib.validRune r = true) (b0 b1 b2 : UInt8) (he : Utf8.encode r = ⟨#[b0, b1, b2]⟩) (hb : 128 ≤ b2.toNat) :
    Calls Try.prog 23 #[.string ⟨#[105, 119, 120, 111, 98, 118, 99]⟩, .int .i32 r] w fun e w' => e = .returned (.int .i64 (-1)) ∧ ∃ q, w' = w.drewN q := by
  have hcv := conv_rune r
  rw [he] at hcv
  have q1 : (r == 65533) = false := by simpa using hr
  have hl := b2.toNat_lt
  have hb1 : (128 : Int) ≤ (((⟨#[b0, b1, b2]⟩ : ByteArray)[2]'(by simp [ByteArray.size])).toNat : Int) := by show (128 : Int) ≤ (b2.toNat : Int); omega
  have hb2 : (((⟨#[b0, b1, b2]⟩ : ByteArray)[2]'(by simp [ByteArray.size])).toNat : Int) ≤ 255 := by show (b2.toNat : Int) ≤ 255; omega
  have q2 : ((((⟨#[105, 119, 120, 111, 98, 118, 99]⟩ : ByteArray)[2]'(by decide)).toNat : Int) != (((⟨#[b0, b1, b2]⟩ : ByteArray)[2]'(by simp [ByteArray.size])).toNat : Int)) = true := by
    show (((120 : Nat) : Int) != (b2.toNat : Int)) = true
    simp
    omega
  clear he hl
  go_enter Try.func23, Try.ntmps23
  go_wp2_with (first | (go_at_call 25; refine (validRune_at _ _).mono ?_; rintro e w' ⟨rfl, rfl⟩))
  go_step3
  go_wp2_with (first | (go_at_call 25; refine (validRune_at _ _).mono ?_; rintro e w' ⟨rfl, rfl⟩))
  refine wp_loop_rounds 1 ?_
  rw [rounds_succ]
  go_wp2_with (first | (go_at_call 25; refine (validRune_at _ _).mono ?_; rintro e w' ⟨rfl, rfl⟩))
  go_step3
  go_wp2_with (first | (go_at_call 25; refine (validRune_at _ _).mono ?_; rintro e w' ⟨rfl, rfl⟩))
  go_quiet (fail)
  go_wp2_with (fail)
  go_quiet ((go_at_call 24; exact still_on (indexByte_neg _ _ (by decide) hb1 hb2)))
  go_wp2_with (fail)
  rw [Exit.noGoto_ret]
  go_simp
  (try rw [Exit.noGoto_ret])
  go_ret
  exact ⟨rfl, _, rfl⟩
set_option maxHeartbeats 4000000 in
set_option maxRecDepth 1000000 in
theorem indexRune_big4 (r : Int) (w : World) (h0 : 128 ≤ r) (h1 : r ≤ 1114111) (hr : r ≠ 65533) (hv : Lib.validRune r = true) (b0 b1 b2 b3 : UInt8) (he : Utf8.encode r = ⟨#[b0, b1, b2, b3]⟩) (hb : 128 ≤ b3.toNat) :
    Calls Try.prog 23 #[.string ⟨#[105, 119, 120, 111, 98, 118, 99]⟩, .int .i32 r] w fun e w' => e = .returned (.int .i64 (-1)) ∧ ∃ q, w' = w.drewN q := by
  have hcv := conv_rune r
  rw [he] at hcv
  have q1 : (r == 65533) = false := by simpa using hr
  have hl := b3.toNat_lt
  have hb1 : (128 : Int) ≤ (((⟨#[b0, b1, b2, b3]⟩ : ByteArray)[3]'(by simp [ByteArray.size])).toNat : Int) := by show (128 : Int) ≤ (b3.toNat : Int); omega
  have hb2 : (((⟨#[b0, b1, b2, b3]⟩ : ByteArray)[3]'(by simp [ByteArray.size])).toNat : Int) ≤ 255 := by show (b3.toNat : Int) ≤ 255; omega
  have q2 : ((((⟨#[105, 119, 120, 111, 98, 118, 99]⟩ : ByteArray)[3]'(by decide)).toNat : Int) != (((⟨#[b0, b1, b2, b3]⟩ : ByteArray)[3]'(by simp [ByteArray.size])).toNat : Int)) = true := by
    show (((111 : Nat) : Int) != (b3.toNat : Int)) = true
    simp
    omega
  clear he hl
  go_enter Try.func23, Try.ntmps23
  go_wp2_with (first | (go_at_call 25; refine (validRune_at _ _).mono ?_; rintro e w' ⟨rfl, rfl⟩))
  go_step3
  go_wp2_with (first | (go_at_call 25; refine (validRune_at _ _).mono ?_; rintro e w' ⟨rfl, rfl⟩))
  refine wp_loop_rounds 1 ?_
  rw [rounds_succ]
  go_wp2_with (first | (go_at_call 25; refine (validRune_at _ _).mono ?_; rintro e w' ⟨rfl, rfl⟩))
  go_step3
  go_wp2_with (first | (go_at_call 25; refine (validRune_at _ _).mono ?_; rintro e w' ⟨rfl, rfl⟩))
  go_quiet (fail)
  go_wp2_with (fail)
  go_quiet ((go_at_call 24; exact still_on (indexByte_neg _ _ (by decide) hb1 hb2)))
  go_wp2_with (fail)
  rw [Exit.noGoto_ret]
  go_simp
  (try rw [Exit.noGoto_ret])
  go_ret
  exact ⟨rfl, _, rfl⟩
/-- Of a rune beyond ASCII: none. -/
theorem indexRune_no (r : Int) (w : World) (h0 : 128 ≤ r) (hv : Lib.validRune r = true) :
    Calls Try.prog 23 #[.string ⟨#[105, 119, 120, 111, 98, 118, 99]⟩, .int .i32 r] w fun e w' => e = .returned (.int .i64 (-1)) ∧ Below w.heap.size w w' := by
  have h1 : r ≤ 1114111 := by
    simp [Lib.validRune] at hv
    omega
  by_cases hr : r = 65533
  · subst hr
    exact indexRune_err w
  · rcases encode_big r h0 hv with ⟨b0, b1, he, hb⟩ | ⟨b0, b1, b2, he, hb⟩ | ⟨b0, b1, b2, b3, he, hb⟩
    · exact (indexRune_big2 r w h0 h1 hr hv b0 b1 he hb).mono fun e w' ⟨he, q, hq⟩ => ⟨he, hq ▸ below_drewN' (Below.refl _ _) q⟩
    · exact (indexRune_big3 r w h0 h1 hr hv b0 b1 b2 he hb).mono fun e w' ⟨he, q, hq⟩ => ⟨he, hq ▸ below_drewN' (Below.refl _ _) q⟩
    · exact (indexRune_big4 r w h0 h1 hr hv b0 b1 b2 b3 he hb).mono fun e w' ⟨he, q, hq⟩ => ⟨he, hq ▸ below_drewN' (Below.refl _ _) q⟩
/-- Of a byte of ASCII: which letter it is. -/
theorem index_letter (b : UInt8) : Lib.indexByte [105, 119, 120, 111, 98, 118, 99] b = (match Fld.letterIx b with | some k => (k : Int) | none => -1) := by
  have h : ∀ n : Nat, n < 256 → Lib.indexByte [105, 119, 120, 111, 98, 118, 99] (UInt8.ofNat n) = (match Fld.letterIx (UInt8.ofNat n) with | some k => (k : Int) | none => -1) := by decide +kernel
  have := h b.toNat b.toNat_lt
  simpa using this
theorem indexRune_at (b : UInt8) (w : World) (h : b.toNat < 128) :
    Calls Try.prog 23 #[.string ⟨#[105, 119, 120, 111, 98, 118, 99]⟩, .int .i32 (b.toNat : Int)] w fun e w' => e = .returned (.int .i64 (match Fld.letterIx b with | some k => (k : Int) | none => -1)) ∧ w' = w := by
  have := indexRune_small (b.toNat : Int) w (by omega) (by omega)
  rw [show ((b.toNat : Int)).toNat.toUInt8 = b by simp, index_letter] at this
  exact this
end Go.Proofs.Ythahngbimkhdiaa.All
