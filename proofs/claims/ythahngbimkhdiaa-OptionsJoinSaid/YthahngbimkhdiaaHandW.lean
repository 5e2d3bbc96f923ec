/- By hand: the contract of options.word: a word's letters, as bits, or that it is none. No condition but a text's length. -/
import Derived.Test.YthahngbimkhdiaaHandI
import Derived.Lib.QuoteLoop
namespace Go.Proofs.Ythahngbimkhdiaa.All
open Go.RowKit Go.Proofs.YthahngbimkhdiaaW.PrintWords Go.Proofs.YthahngbimkhdiaaW.PrintLast Go.Proofs.YthahngbimkhdiaaW.PrintMore
attribute [local go_sem] max2_int min2_int max_two min_two max_three min_three max_four min_four

/-- Two results: a word's bits, and whether it is one. -/
def wordV (o : Option Nat) : Value := match o with | some n => .tuple #[.int .u8 (n : Int), .bool true] | none => .tuple #[.int .u8 0, .bool false]
theorem or_num (n : Nat) (h : n < 128) : ∀ k : Nat, k < 7 → bits .or .u8 (n : Int) ((2 : Int) ^ k % 256) = ((n ||| 2 ^ k : Nat) : Int) := by
  have : ∀ n : Nat, n < 128 → ∀ k : Nat, k < 7 → bits .or .u8 (n : Int) ((2 : Int) ^ k % 256) = ((n ||| 2 ^ k : Nat) : Int) := by decide +kernel
  exact this n h
set_option maxHeartbeats 4000000 in
set_option maxRecDepth 1000000 in
theorem word_long (s : ByteArray) (w : World) (hs : s.size ≤ 140737488355328) (h2 : 2 ≤ s.size) (h45 : (s[0]'(by omega)).toNat = 45) :
    Calls Try.prog 20 #[.string s] w fun e w' => e = .returned (wordV (Fld.lettersN (s.data.toList.drop 1) 0)) ∧ Below w.heap.size w w' := by
  have q1 : ¬ (s.size < 2) := by omega
  have q2 : (((s[0]'(by omega)).toNat : Int) != 45) = false := by simp [h45]
  obtain ⟨T, hT⟩ : ∃ T, s.extract 1 s.size = T := ⟨_, rfl⟩
  have hTl : T.data.toList = s.data.toList.drop 1 := by rw [← hT, Fld.extract_pieceU]; unfold Go.Lib.pieceU; rw [List.take_of_length_le (by rw [List.length_drop, ← Lib.size_eq]; exact Nat.le_refl _)]
  rw [← hTl]
  have HT := Aside0.mk hTl
  clear hTl
  go_enter Try.func20, Try.ntmps20
  go_wp2
  go_loopg [4] T.size (fun gf v4 wx => ∃ (pos n : Nat), pos + gf = T.size ∧ v4 = .int .u8 (n : Int) ∧ n < 128 ∧ wx.heap[w.heap.size]? = some (.stringIter T pos) ∧ Aside0 (Below w.heap.size w wx) ∧ Aside0 (Fld.lettersN (T.data.toList.drop pos) n = Fld.lettersN T.data.toList 0))
  case atStart => exact ⟨0, 0, by omega, rfl, by omega, World.iter_heap w T 0, ⟨below_alloc (Below.refl _ _) _⟩, ⟨rfl⟩⟩
  case round =>
    obtain ⟨pos, n, hg, rfl, hn, hit, HB, HL⟩ := hrel
    by_cases hlt : pos < T.size
    · obtain ⟨g', rfl⟩ : ∃ g', gk = g' + 1 := ⟨gk - 1, by omega⟩
      have hll : pos < T.data.toList.length := by rw [← Lib.size_eq]; exact hlt
      have hcons : T.data.toList.drop pos = (T[pos]'hlt) :: T.data.toList.drop (pos + 1) := by
        rw [List.drop_eq_getElem_cons hll]; rfl
      obtain ⟨b, hb⟩ : ∃ b, T[pos]'hlt = b := ⟨_, rfl⟩
      by_cases ha : b.toNat < 128
      · have hnx : ∀ ty, (Instr.next (.pointer (some ⟨w.heap.size, 0, none⟩)) true ty).run Try.prog wr = _ := fun ty => Lib.run_next_ascii_at wr w.heap.size T pos ty hit hlt (by rw [hb]; exact ha)
        rw [hb] at hnx hcons
        have hit2 := Lib.iterAt_heap wr w.heap.size T pos (pos + 1) hit
        have HB2 := Aside0.mk (Lib.below_iterAt HB.out (k := w.heap.size) (Nat.le_refl _) T (pos + 1))
        obtain ⟨W, hW⟩ : ∃ W, wr.iterAt w.heap.size T (pos + 1) = W := ⟨_, rfl⟩
        rw [hW] at hnx hit2 HB2
        clear hit HB hb hW
        cases hk : Fld.letterIx b with
        | none =>
          have hn2 : Fld.lettersN T.data.toList 0 = none := by rw [← HL.out, hcons, Fld.lettersN, hk]
          have HN := Aside0.mk hn2
          have cI := indexRune_at b W ha
          rw [hk] at cI
          clear hn2 hk hcons
          go_wp2_with (go_at_call 23; refine cI.mono ?_; rintro e w' ⟨rfl, rfl⟩)
          go_ret2
          rw [HN.out]
          exact ⟨rfl, HB2.out⟩
        | some k =>
          have hk6 := Fld.letterIx_lt hk
          have hn2 : Fld.lettersN (T.data.toList.drop (pos + 1)) (n ||| 2 ^ k) = Fld.lettersN T.data.toList 0 := by rw [← HL.out, hcons, Fld.lettersN, hk]
          have HN := Aside0.mk hn2
          have cI := indexRune_at b W ha
          have ho := or_num n hn k (by omega)
          have hlt2 : n ||| 2 ^ k < 128 := Fld.or_lt hn (Nat.lt_of_le_of_lt (Nat.pow_le_pow_right (by omega) hk6) (by decide))
          rw [hk] at cI
          clear hn2 hk hcons HL
          go_wp2_with (go_at_call 23; refine cI.mono ?_; rintro e w' ⟨rfl, rfl⟩)
          go_roundg g'
          case measure => omega
          case rel =>
            exact ⟨pos + 1, n ||| 2 ^ k, by omega, rfl, hlt2, hit2, HB2, HN⟩
      · have hnx : ∀ ty, (Instr.next (.pointer (some ⟨w.heap.size, 0, none⟩)) true ty).run Try.prog wr = _ := fun ty => Lib.run_next_any_at wr w.heap.size T pos ty hit hlt
        obtain ⟨hR, _⟩ := Fld.decode_big T pos hlt (by rw [hb]; omega)
        have hv := Lib.decodeN_valid (T.size - pos) (T.get! pos).toNat (T.get! (pos + 1)).toNat (T.get! (pos + 2)).toNat (T.get! (pos + 3)).toNat (UInt8.toNat_lt _)
        rw [← Lib.decode_at] at hv
        obtain ⟨R, hRe⟩ : ∃ R, (Utf8.decode T pos).1 = R := ⟨_, rfl⟩
        obtain ⟨K, hK⟩ : ∃ K, (Utf8.decode T pos).2 = K := ⟨_, rfl⟩
        rw [hRe, hK] at hnx
        rw [hRe] at hR hv
        have hval : Lib.validRune (R : Int) = true := by simp [Lib.validRune]; omega
        have HB2 := Aside0.mk (Lib.below_iterAt HB.out (k := w.heap.size) (Nat.le_refl _) T (pos + K))
        obtain ⟨W, hW⟩ : ∃ W, wr.iterAt w.heap.size T (pos + K) = W := ⟨_, rfl⟩
        rw [hW] at hnx HB2
        have hn2 : Fld.lettersN T.data.toList 0 = none := by rw [← HL.out, hcons, Fld.lettersN, hb, Fld.letterIx_big (by omega)]
        have HN := Aside0.mk hn2
        have cI := indexRune_no (R : Int) W (by omega) hval
        clear hn2 hcons hb hRe hK hW hit HB HL hval
        go_wp2_with (go_at_call 23; refine cI.mono ?_; rintro e w' ⟨rfl, hbw⟩; have HB3 := Aside0.mk (below_step HB2.out hbw); clear hbw)
        go_ret2
        rw [HN.out]
        exact ⟨rfl, HB3.out⟩
    · have hnx : ∀ ty, (Instr.next (.pointer (some ⟨w.heap.size, 0, none⟩)) true ty).run Try.prog wr = _ := fun ty => Lib.run_next_end_at wr w.heap.size T pos ty hit hlt
      have hn2 : Fld.lettersN T.data.toList 0 = some n := by rw [← HL.out, List.drop_eq_nil_of_le (by rw [← Lib.size_eq]; omega)]; rfl
      have HN := Aside0.mk hn2
      clear hn2
      go_wp2
      go_ret2
      rw [HN.out]
      exact ⟨rfl, HB.out⟩
set_option maxHeartbeats 4000000 in
set_option maxRecDepth 1000000 in
theorem word_short (s : ByteArray) (w : World) (h2 : s.size < 2) :
    Calls Try.prog 20 #[.string s] w fun e w' => e = .returned (wordV none) ∧ Below w.heap.size w w' := by
  have q1 : decide ((s.size : Int) < 2) = true := decide_eq_true (by omega)
  go_enter Try.func20, Try.ntmps20
  go_wp2
  go_ret2
  exact ⟨rfl, Below.refl _ _⟩
set_option maxHeartbeats 4000000 in
set_option maxRecDepth 1000000 in
theorem word_other (s : ByteArray) (w : World) (h2 : 2 ≤ s.size) (h45 : (s[0]'(by omega)).toNat ≠ 45) :
    Calls Try.prog 20 #[.string s] w fun e w' => e = .returned (wordV none) ∧ Below w.heap.size w w' := by
  have q1 : ¬ (s.size < 2) := by omega
  have q2 : (((s[0]'(by omega)).toNat : Int) != 45) = true := by simp; omega
  go_enter Try.func20, Try.ntmps20
  go_wp2
  go_ret2
  exact ⟨rfl, Below.refl _ _⟩
theorem word_any (s : ByteArray) (w : World) (hs : s.size ≤ 140737488355328) :
    Calls Try.prog 20 #[.string s] w fun e w' => e = .returned (wordV (Fld.wordN s.data.toList)) ∧ Below w.heap.size w w' := by
  have hsz := Lib.size_eq s
  have h0 : ∀ h : 0 < s.size, ∃ t, s.data.toList = s[0]'h :: t := by
    intro h
    have : s.data.toList.drop 0 = s.data.toList[0]'(by rw [← hsz]; exact h) :: s.data.toList.drop 1 := List.drop_eq_getElem_cons (by rw [← hsz]; exact h)
    rw [List.drop_zero] at this
    exact ⟨_, this⟩
  by_cases h2 : s.size < 2
  · have e : Fld.wordN s.data.toList = none := by
      match hl : s.data.toList with
      | [] => rfl
      | [x] => unfold Fld.wordN; split <;> first | rfl | (rename_i e; cases e)
      | x :: y :: t => rw [hl] at hsz; simp at hsz; omega
    rw [e]
    exact word_short s w h2
  · obtain ⟨t, ht⟩ := h0 (by omega)
    by_cases h45 : (s[0]'(by omega)).toNat = 45
    · have h := word_long s w hs (by omega) h45
      have e45 : s[0]'(by omega) = 45 := UInt8.toNat_inj.1 h45
      rw [ht, e45] at hsz h ⊢
      match t with
      | [] => simp at hsz; omega
      | b :: t => exact h
    · have e : Fld.wordN s.data.toList = none := by
        rw [ht]
        unfold Fld.wordN
        split
        · rename_i e
          injection e with e1 e2
          exact absurd (by rw [e1]; rfl) h45
        · rfl
      rw [e]
      exact word_other s w (by omega) h45
end Go.Proofs.Ythahngbimkhdiaa.All
