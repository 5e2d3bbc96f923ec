/- By hand: the contract of the reference's Read: it tells the options that the fields' letters tell. No condition but a text's length. -/
import Derived.Test.YthahngbimkhdiaaAllx4
import Derived.Test.YthahngbimkhdiaaHandR
import Derived.Test.YthahngbimkhdiaaHandS
import Derived.Test.YthahngbimkhdiaaKit
namespace Go.Proofs.Ythahngbimkhdiaa.All
open Go.RowKit Go.Proofs.YthahngbimkhdiaaW.PrintWords Go.Proofs.YthahngbimkhdiaaW.PrintLast Go.Proofs.YthahngbimkhdiaaW.PrintMore Go.Proofs.Ythahngbimkhdiaa.Kit
attribute [local go_sem] max2_int min2_int max_two min_two max_three min_three max_four min_four

/-- Does a text hold a byte? -/
def inB (s : ByteArray) (c : Int) : Bool := s.data.toList.any fun b => decide ((b.toNat : Int) = c)
theorem bt_list (s : ByteArray) (i : Nat) (h : i < s.size) : ∃ b, s.data.toList.drop i = b :: s.data.toList.drop (i + 1) ∧ bt s (i : Int) = (b.toNat : Int) ∧ s[i] = b := by
  have hl : i < s.data.toList.length := by rw [← Lib.size_eq]; exact h
  refine ⟨s[i], ?_, ?_, rfl⟩
  · rw [List.drop_eq_getElem_cons hl]; rfl
  · unfold bt
    rw [dif_pos (by simpa using h)]
    rfl
theorem in_runs (s : ByteArray) (c : Int) (hs : s.size ≤ 140737488355328) : ∀ (d i : Nat), i + d = s.size → seineref01_In.l0 (d + 1) s c (i : Int) = some ((s.data.toList.drop i).any fun b => decide ((b.toNat : Int) = c))
  | 0, i, h => by
    have : s.data.toList.drop i = [] := List.drop_eq_nil_of_le (by rw [← Lib.size_eq]; omega)
    rw [seineref01_In.l0, if_neg (by omega), this]
    rfl
  | d + 1, i, h => by
    obtain ⟨b, hb, ht, _⟩ := bt_list s i (by omega)
    rw [seineref01_In.l0, if_pos (by omega), if_pos (by omega), ht, hb, List.any_cons, wrap_id (by omega) (by omega), show (i : Int) + 1 = ((i + 1 : Nat) : Int) by omega, in_runs s c hs d (i + 1) (by omega)]
    by_cases hc : (b.toNat : Int) = c
    · simp [hc]
    · simp [hc]
theorem in_any (s : ByteArray) (c : Int) (w : World) (hs : s.size ≤ 140737488355328) : Calls Try.prog 21 #[.string s, .int .u8 c] w fun e w' => e = .returned (.bool (inB s c)) ∧ Drawn0 w w' :=
  seineref01_In.calls (s.size + 1) s c _ w (by unfold seineref01_In.f inB; have := in_runs s c hs s.size 0 (by omega); simpa using this)
/-- A number's bits. -/
def bitsL (n : Nat) : List Bool := [hasB n 0, hasB n 1, hasB n 2, hasB n 3, hasB n 4, hasB n 5, hasB n 6]
def bitsO (o : Option Nat) : List Bool := match o with | some n => bitsL n | none => []
theorem bitsL_zero : bitsL 0 = List.replicate 7 false := by decide
theorem in_letters (c : UInt8) : inB ⟨#[105, 119, 120, 111, 98, 118, 99]⟩ (c.toNat : Int) = (Fld.letterIx c).isSome := by
  have h : ∀ n : Nat, n < 256 → inB ⟨#[105, 119, 120, 111, 98, 118, 99]⟩ ((UInt8.ofNat n).toNat : Int) = (Fld.letterIx (UInt8.ofNat n)).isSome := by decide +kernel
  have := h c.toNat c.toNat_lt
  simpa using this
theorem hasB_test (n : Nat) (h : n < 128) : ∀ k : Nat, k < 7 → hasB (n : Int) k = n.testBit k := by
  have : ∀ n : Nat, n < 128 → ∀ k : Nat, k < 7 → hasB (n : Int) k = n.testBit k := by decide +kernel
  exact this n h
theorem hasB_or (n m k : Nat) (hn : n < 128) (hm : m < 128) (hk : k < 7) : hasB ((n ||| m : Nat) : Int) k = (hasB n k || hasB m k) := by
  rw [hasB_test _ (Fld.or_lt hn hm) k hk, hasB_test n hn k hk, hasB_test m hm k hk, Nat.testBit_or]
theorem letter_is (b : UInt8) (kk k : Nat) (hk : k < 7) (h : Fld.letterIx b = some kk) : decide ((b.toNat : Int) = ((letterAt k).toNat : Int)) = hasB ((2 ^ kk : Nat) : Int) k := by
  have : ∀ n : Nat, n < 256 → ∀ k : Nat, k < 7 → ((Fld.letterIx (UInt8.ofNat n)).map fun kk => decide (((UInt8.ofNat n).toNat : Int) = ((letterAt k).toNat : Int)) == hasB ((2 ^ kk : Nat) : Int) k).getD true = true := by decide +kernel
  have := this b.toNat b.toNat_lt k hk
  rw [show UInt8.ofNat b.toNat = b by simp, h] at this
  simpa using this
theorem letters_bits (k : Nat) (hk : k < 7) : ∀ (l : List UInt8) (a m : Nat), Fld.lettersN l a = some m → a < 128 → hasB (m : Int) k = (hasB (a : Int) k || l.any fun b => decide ((b.toNat : Int) = ((letterAt k).toNat : Int)))
  | [], a, m, h, ha => by
    simp [Fld.lettersN] at h
    subst h
    simp
  | b :: t, a, m, h, ha => by
    rw [Fld.lettersN] at h
    cases hx : Fld.letterIx b with
    | none => rw [hx] at h; cases h
    | some kk =>
      rw [hx] at h
      have hp : 2 ^ kk < 128 := Nat.lt_of_le_of_lt (Nat.pow_le_pow_right (by omega) (Fld.letterIx_lt hx)) (by decide)
      rw [letters_bits k hk t _ m h (Fld.or_lt ha hp), hasB_or a (2 ^ kk) k ha hp hk, List.any_cons, letter_is b kk k hk hx, Bool.or_assoc]
theorem word_bits (word : ByteArray) (m k : Nat) (hk : k < 7) (h0 : 0 < word.size) (h45 : (word[0]'h0).toNat = 45) (h : Fld.lettersN (word.data.toList.drop 1) 0 = some m) : hasB (m : Int) k = inB word ((letterAt k).toNat : Int) := by
  obtain ⟨c, hc, _, hcb⟩ := bt_list word 0 h0
  rw [List.drop_zero] at hc
  unfold inB
  rw [hc, List.any_cons, letters_bits k hk _ 0 m h (by omega)]
  have e1 : ∀ k : Nat, k < 7 → hasB ((0 : Nat) : Int) k = false ∧ decide (((45 : Nat) : Int) = ((letterAt k).toNat : Int)) = false := by decide
  rw [← hcb, h45, (e1 k hk).1, (e1 k hk).2]
/-- Between: of the first k letters the bits of both. -/
def mixL (n m k : Nat) : List Bool := (List.range 7).map fun j => if j < k then hasB ((n ||| m : Nat) : Int) j else hasB n j
theorem mix_zero (n m : Nat) : mixL n m 0 = bitsL n := rfl
theorem mix_all (n m : Nat) : mixL n m 7 = bitsL (n ||| m) := rfl
theorem mix_at (n m k : Nat) (hk : k < 7) : rdOf false (mixL n m k) (k : Int) = hasB (n : Int) k := by
  have : (mixL n m k)[k]? = some (hasB (n : Int) k) := by
    unfold mixL
    rw [List.getElem?_map, List.getElem?_range hk]
    simp
  simp [rdOf, List.getD_eq_getElem?_getD, this]
theorem mix_set (n m k : Nat) : (mixL n m k).set k (hasB ((n ||| m : Nat) : Int) k) = mixL n m (k + 1) := by
  apply List.ext_getElem
  · simp [mixL]
  · intro j h1 h2
    rw [List.getElem_set]
    simp only [mixL, List.getElem_map, List.getElem_range]
    split
    · rename_i e
      subst e
      rw [if_pos (by omega)]
    · by_cases hj : j < k
      · rw [if_pos hj, if_pos (by omega)]
      · rw [if_neg hj, if_neg (by omega)]
theorem letters_get (k : Nat) (hk : k < 7) : ∀ h, (⟨#[105, 119, 120, 111, 98, 118, 99]⟩ : ByteArray)[k]'h = letterAt k := by
  revert hk; revert k; decide
set_option maxHeartbeats 8000000 in
set_option maxRecDepth 100000 in
theorem refRead_any (s T : ByteArray) (w : World) (hs : s.size ≤ 4294967296) (hT : s ++ ⟨#[32]⟩ = T) (o : Option Nat) (ho : Fld.readN (Fld.fieldsB [] T.data.toList) 0 = o) :
    Calls Try.prog 10 #[.string s] w fun e w' => ∃ v0_ : Value, e = .returned (.tuple #[v0_, .bool o.isSome]) ∧ Kd.R Kd.bool 4 w' w.heap.size (fun _ => True) v0_ (bitsO o) ∧ Below w.heap.size w w' := by
  have HO := Aside0.mk ho
  have hTs : T.size ≤ 4294967297 := by rw [← hT, ByteArray.size_append]; have : (⟨#[32]⟩ : ByteArray).size = 1 := rfl; omega
  have c3 : s.size + 1 ≤ 9223372036854775807 := by omega
  have HL : Aside0 (∀ i b, ∀ h : i < T.size, T[i] = b → b ≠ 32 → i + 1 < T.size) := ⟨by
    intro i b h hb h32
    have hl : T.size = s.size + 1 := by rw [← hT, ByteArray.size_append]; rfl
    have : i ≠ s.size := by
      intro e
      subst e
      apply h32
      rw [← hb]
      have e1 : T.data.toList[s.size]? = some 32 := by
        rw [← hT, ByteArray.data_append, Array.toList_append, List.getElem?_append_right (by rw [← Lib.size_eq]; exact Nat.le_refl _), ← Lib.size_eq, Nat.sub_self]
        rfl
      obtain ⟨h2, e2⟩ := List.getElem?_eq_some_iff.1 e1
      exact e2
    omega⟩
  clear ho
  go_enter Try.func10, Try.ntmps10
  go_wp2_with (first | ((with_reducible refine gate_dst (N := 11) rfl ?_); (try (refine gate_guard (by rfl) ?_; dsimp only)); refine Kd.R_make Kd.bool _ 4 rfl (N := 11) rfl 28 _ _ rfl 7 rfl rfl Try.underlying28 (.bool false) 1 info4 rfl (by decide) (by omega) false (ok := fun _ => True) (okp := fun _ => True) rfl (fun _ hk => hk) trivial (by omega) (by omega) (Below.refl _ _) (Nat.le_refl _) ?_; intro v138 w4 ho5 hb hg_ hnew_; clear hg_ hnew_; obtain ⟨g, cap, rfl, hgb, hgl, _⟩ := Kd.R_form ho5 (by decide); have HR4 := Aside0.mk ho5; have HB4 := Aside0.mk hb; clear ho5 hb))
  go_loopg [6, 8] T.size (fun gf v6 v8 w' => ∃ (i n : Nat) (word : ByteArray) (xs : List Bool), v6 = .string word ∧ v8 = .int .i64 i ∧ i + gf = T.size ∧ word.size ≤ i ∧ n < 128 ∧ Aside0 (i = T.size → word.data.toList = []) ∧ Aside0 (xs = bitsL n) ∧ Aside0 (Fld.readN (Fld.fieldsB word.data.toList (T.data.toList.drop i)) n = o) ∧ Aside0 (Kd.R Kd.bool 4 w' w.heap.size (fun _ => True) (.slice (some ⟨g, 0, none⟩) 7 cap) xs) ∧ Aside0 (Below w.heap.size w w'))
  case atStart => exact ⟨0, 0, ⟨#[]⟩, _, rfl, rfl, by omega, Nat.le_refl _, by omega, ⟨fun _ => rfl⟩, ⟨rfl⟩, HO, ⟨by rw [bitsL_zero]; exact HR4.out⟩, HB4⟩
  case round =>
    obtain ⟨i, n, word, xs, rfl, rfl, hg, hw, hn, HE, HX, HF, HR, HB⟩ := hrel
    by_cases hlt : i < T.size
    · obtain ⟨g', rfl⟩ : ∃ g', gk = g' + 1 := ⟨gk - 1, by omega⟩
      have k1 : ((i : Nat) : Int) < (T.size : Int) := by omega
      obtain ⟨b, hcons, _, hb⟩ := bt_list T i hlt
      by_cases h32 : b = 32
      · have q1 : ((b.toNat : Int) != 32) = false := by rw [h32]; rfl
        have hf := HF.out
        rw [hcons, Fld.fieldsB, if_pos h32] at hf
        by_cases hwe : word.data.toList = []
        · rw [if_pos hwe] at hf
          have HF2 : Aside0 (Fld.readN (Fld.fieldsB word.data.toList (T.data.toList.drop (i + 1))) n = o) := ⟨by rw [hwe]; exact hf⟩
          have q2 : (word.toList == ([] : List UInt8)) = true := by rw [ByteArray.toList_eq, hwe]; rfl
          have HWE := Aside0.mk hwe
          clear hf hcons HF h32 hwe
          go_wp2
          go_roundg g'
          case measure => omega
          case rel => exact ⟨i + 1, n, word, xs, rfl, by go_num, by omega, by omega, hn, ⟨fun _ => HWE.out⟩, HX, HF2, HR, HB⟩
        · rw [if_neg hwe, Fld.readN] at hf
          have q2 : (word.toList == ([] : List UInt8)) = false := by rw [ByteArray.toList_eq, beq_eq_false_iff_ne]; exact hwe
          have hw0 : 0 < word.size := by
            rw [Lib.size_eq]
            exact List.length_pos_iff.2 hwe
          obtain ⟨c, hc, _, hcb⟩ := bt_list word 0 hw0
          rw [List.drop_zero] at hc
          by_cases h45 : c = 45
          · have q3 : ((c.toNat : Int) != 45) = false := by rw [h45]; rfl
            by_cases h2 : word.size < 2
            · have hwn : Fld.wordN word.data.toList = none := by
                have hl := Lib.size_eq word
                rw [hc] at hl ⊢
                have : word.data.toList.drop 1 = [] := by
                  apply List.eq_nil_of_length_eq_zero
                  simp at hl
                  simp
                  omega
                rw [this]
                unfold Fld.wordN
                split
                · rename_i e
                  injection e with e1 e2
                  cases e2
                · rfl
              rw [hwn] at hf
              have HF2 := Aside0.mk hf
              have q4 : decide ((word.size : Int) < 2) = true := decide_eq_true (by omega)
              clear hf hcons HF h32 hwe hc hwn h45
              go_wp2
              go_ret2
              rw [← HF2.out]
              exact ⟨_, rfl, Kd.R_nil _ _ _ _ _, HB.out⟩
            · have hwn : Fld.wordN word.data.toList = Fld.lettersN (word.data.toList.drop 1) 0 := by
                have hl := Lib.size_eq word
                rw [hc, h45] at hl ⊢
                rw [List.drop_succ_cons, List.drop_zero]
                match h : word.data.toList.drop (0 + 1) with
                | [] => rw [h] at hl; simp at hl; omega
                | x :: y => rfl
              rw [hwn] at hf
              have HF2 := Aside0.mk hf
              have q4 : decide ((word.size : Int) < 2) = false := decide_eq_false (by omega)
              have hws : word.size ≤ 140737488355328 := by omega
              have HC := Aside0.mk h45
              clear hf hcons HF h32 hwe hc hwn h45
              go_wp2
              go_loopg [9] word.size (fun gf2 v9 w2 => ∃ (k m : Nat), v9 = .int .i64 k ∧ k + gf2 = word.size + 1 ∧ 1 ≤ k ∧ m < 128 ∧ Aside0 (Fld.lettersN (word.data.toList.drop k) m = Fld.lettersN (word.data.toList.drop 1) 0) ∧ Aside0 (Below wr.heap.size wr w2))
              case atStart => exact ⟨1, 0, rfl, by omega, by omega, by omega, ⟨rfl⟩, ⟨Below.refl _ _⟩⟩
              case round =>
                obtain ⟨k, m, rfl, hkg, hk1, hm, HM, HB2⟩ := hrel
                by_cases hk : k < word.size
                · obtain ⟨c2, hcons2, _, hcb2⟩ := bt_list word k hk
                  obtain ⟨f2, rfl⟩ : ∃ f2, gk = f2 + 1 := ⟨gk - 1, by omega⟩
                  have j1 : ((k : Nat) : Int) < (word.size : Int) := by omega
                  cases hx : Fld.letterIx c2 with
                  | none =>
                    have hi := in_letters c2
                    rw [hx] at hi
                    have cI := fun W => in_any ⟨#[105, 119, 120, 111, 98, 118, 99]⟩ (c2.toNat : Int) W (by decide)
                    rw [hi] at cI
                    have hm2 := HM.out
                    rw [hcons2, Fld.lettersN, hx] at hm2
                    have hfo := HF2.out
                    rw [← hm2] at hfo
                    have HFO := Aside0.mk hfo
                    have CI := Aside0.mk cI
                    clear hi hx cI hm2 hfo hcons2
                    go_wp2_with (go_at_call 21; (refine (CI.out _).mono ?_); rintro e w' ⟨rfl, hd⟩; have HD := Aside0.mk hd.below; clear hd)
                    go_ret2
                    rw [← HFO.out]
                    exact ⟨_, rfl, Kd.R_nil _ _ _ _ _, below_step HB.out (below_step HB2.out HD.out)⟩
                  | some kk =>
                    have hi := in_letters c2
                    rw [hx] at hi
                    have cI := fun W => in_any ⟨#[105, 119, 120, 111, 98, 118, 99]⟩ (c2.toNat : Int) W (by decide)
                    rw [hi] at cI
                    have hm2 := HM.out
                    rw [hcons2, Fld.lettersN, hx] at hm2
                    have HM2 := Aside0.mk hm2
                    have CI := Aside0.mk cI
                    have hmk : m ||| 2 ^ kk < 128 := Fld.or_lt hm (Nat.lt_of_le_of_lt (Nat.pow_le_pow_right (by omega) (Fld.letterIx_lt hx)) (by decide))
                    clear hi hx cI hm2 hcons2
                    go_wp2_with (go_at_call 21; (refine (CI.out _).mono ?_); rintro e w' ⟨rfl, hd⟩; have HD := Aside0.mk hd.below; clear hd)
                    go_roundg f2
                    case measure => omega
                    case rel => exact ⟨k + 1, m ||| 2 ^ kk, by go_num, by omega, by omega, hmk, HM2, ⟨below_step HB2.out HD.out⟩⟩
                · have j1 : ¬ ((k : Nat) : Int) < (word.size : Int) := by omega
                  have hm2 := HM.out
                  rw [List.drop_eq_nil_of_le (by rw [← Lib.size_eq]; omega), Fld.lettersN] at hm2
                  have hf2 := HF2.out
                  rw [← hm2] at hf2
                  have HF3 := Aside0.mk hf2
                  have HM2 := Aside0.mk hm2
                  have HR2 := Aside0.mk (Kd.R_below HR.out HB2.out)
                  have HB3 := Aside0.mk (below_step HB.out HB2.out)
                  clear hm2 hf2 HM HF2 HR HB HB2
                  rw [HX.out] at HR2
                  clear HX
                  go_wp2
                  go_loopg [10] 7 (fun gf3 v10 w3 => ∃ k : Nat, v10 = .int .i64 k ∧ k + gf3 = 7 ∧ Aside0 (Kd.R Kd.bool 4 w3 w.heap.size (fun _ => True) (.slice (some ⟨g, 0, none⟩) 7 cap) (mixL n m k)) ∧ Aside0 (Below w.heap.size w w3))
                  case atStart => exact ⟨0, rfl, rfl, HR2, HB3⟩
                  case round =>
                    obtain ⟨k, rfl, hkg, HR3, HB4⟩ := hrel
                    by_cases hk : k < 7
                    · obtain ⟨hc0, hf0⟩ := Kd.R_celln (enc := Value.bool) (h1 := fun _ => rfl) false HR3.out (k : Int) (by omega) (by omega)
                      simp only [Int.toNat_natCast] at hc0 hf0
                      rw [mix_at n m k hk] at hc0
                      have hlk := letters_get k hk (by show k < 7; exact hk)
                      have hms := mix_set n m k
                      have hor := hasB_or n m k hn hm hk
                      have hwb := word_bits word m k hk hw0 (by rw [hcb, HC.out]; rfl) HM2.out.symm
                      have j1 : ((k : Nat) : Int) < 7 := by omega
                      have hgw : w.heap.size ≤ g := hgb
                      obtain ⟨f3, rfl⟩ : ∃ f3, gk = f3 + 1 := ⟨gk - 1, by omega⟩
                      cases hb0 : hasB (n : Int) k with
                      | true =>
                        rw [hb0] at hc0
                        have HP : Aside0 (Kd.R Kd.bool 4 (wr.setCell ⟨g, k, none⟩ (.bool true)) w.heap.size (fun _ => True) (.slice (some ⟨g, 0, none⟩) 7 cap) (mixL n m (k + 1))) := ⟨by
                          have := (Kd.R_putn (enc := Value.bool) (h1 := fun _ => rfl) HR3.out (k : Int) true)
                          rw [Int.toNat_natCast] at this
                          rw [← hms, hor, hb0, Bool.true_or]
                          exact this⟩
                        clear hwb hms hor hb0
                        go_wp2_with (fail)
                        go_roundg f3
                        case measure => omega
                        case rel => exact ⟨k + 1, by go_num, by omega, HP, ⟨below_set HB4.out hgw⟩⟩
                      | false =>
                        rw [hb0] at hc0
                        have cI := fun W => in_any word ((letterAt k).toNat : Int) W (by omega)
                        rw [← hwb] at cI
                        have HP : ∀ W, Aside0 (Below wr.heap.size wr W) → Aside0 (Kd.R Kd.bool 4 (W.setCell ⟨g, k, none⟩ (.bool (hasB (m : Int) k))) w.heap.size (fun _ => True) (.slice (some ⟨g, 0, none⟩) 7 cap) (mixL n m (k + 1))) := fun W hW => ⟨by
                          have := (Kd.R_putn (enc := Value.bool) (h1 := fun _ => rfl) (Kd.R_below HR3.out hW.out) (k : Int) (hasB (m : Int) k))
                          rw [Int.toNat_natCast] at this
                          rw [← hms, hor, hb0, Bool.false_or]
                          exact this⟩
                        have CI := Aside0.mk cI
                        obtain ⟨B, hB⟩ : ∃ B, hasB (m : Int) k = B := ⟨_, rfl⟩
                        rw [hB] at HP CI
                        have HPP := Aside0.mk HP
                        clear hwb hms hor hb0 cI HP hB
                        go_wp2_with (go_at_call 21; (refine (CI.out _).mono ?_); rintro e w' ⟨rfl, hd⟩; have HD := Aside0.mk hd.below; have hc1 := (hd.below.cell (World.block_lt_of_cell? _ _ hc0)).trans hc0; have hf1 := (hd.below.frozen (World.block_lt_of_cell? _ _ hc0)).trans hf0; clear hd)
                        go_roundg f3
                        case measure => omega
                        case rel => exact ⟨k + 1, by go_num, by omega, HPP.out _ HD, ⟨below_set (below_step HB4.out HD.out) hgw⟩⟩
                    · obtain rfl : k = 7 := by omega
                      have hnm := Fld.or_lt hn hm
                      go_wp2
                      go_roundg g'
                      case measure => omega
                      case rel => exact ⟨i + 1, n ||| m, ⟨#[]⟩, _, rfl, by go_num, by omega, by show 0 ≤ _; omega, hnm, ⟨fun _ => rfl⟩, ⟨rfl⟩, HF3, ⟨by rw [← mix_all]; exact HR3.out⟩, HB4⟩
          · have q3 : ((c.toNat : Int) != 45) = true := by
              simp
              intro e
              exact h45 (UInt8.toNat_inj.1 (by rw [show c.toNat = 45 by omega]; rfl))
            have hwn : Fld.wordN word.data.toList = none := by
              rw [hc]
              unfold Fld.wordN
              split
              · rename_i e
                injection e with e1 e2
                exact absurd e1 h45
              · rfl
            rw [hwn] at hf
            have HF2 := Aside0.mk hf
            clear hf hcons HF h32 hwe hc hwn h45
            go_wp2
            go_ret2
            rw [← HF2.out]
            exact ⟨_, rfl, Kd.R_nil _ _ _ _ _, HB.out⟩
      · have q1 : ((b.toNat : Int) != 32) = true := by
          simp
          intro e
          exact h32 (UInt8.toNat_inj.1 (by rw [show b.toNat = 32 by omega]; rfl))
        have hin : i + 1 < T.size := HL.out i b hlt hb h32
        have hf := HF.out
        rw [hcons, Fld.fieldsB, if_neg h32] at hf
        have hexl : (T.extract i (i + 1)).data.toList = [b] := by
          rw [Fld.extract_pieceU]
          unfold Lib.pieceU
          rw [hcons, show i + 1 - i = 1 by omega]
          rfl
        have hexs : word.size + (T.extract i (i + 1)).size ≤ 9223372036854775807 := by rw [ByteArray.size_extract]; omega
        have hexs1 : (T.extract i (i + 1)).size = 1 := by rw [ByteArray.size_extract]; omega
        have HF2 : Aside0 (Fld.readN (Fld.fieldsB (word ++ T.extract i (i + 1)).data.toList (T.data.toList.drop (i + 1))) n = o) := ⟨by rw [ByteArray.data_append, Array.toList_append, hexl]; exact hf⟩
        have hsz2 : (word ++ T.extract i (i + 1)).size ≤ i + 1 := by rw [ByteArray.size_append, hexs1]; omega
        obtain ⟨X, hX⟩ : ∃ X, T.extract i (i + 1) = X := ⟨_, rfl⟩
        rw [hX] at hexs HF2 hsz2
        clear hf hcons HF hexl hexs1
        go_wp2
        go_roundg g'
        case measure => omega
        case rel => exact ⟨i + 1, n, word ++ X, xs, rfl, by go_num, by omega, hsz2, hn, ⟨fun h => absurd h (by omega)⟩, HX, HF2, HR, HB⟩
    · have k1 : ¬ ((i : Nat) : Int) < (T.size : Int) := by omega
      have hf := HF.out
      rw [List.drop_eq_nil_of_le (by rw [← Lib.size_eq]; omega)] at hf
      go_wp2
      go_ret2
      rw [HE.out (by omega), Fld.fieldsB, if_pos rfl] at hf
      refine ⟨.slice (some ⟨g, 0, none⟩) 7 cap, ?_, ?_, HB.out⟩
      · rw [← hf]; rfl
      · rw [← hf]
        show Kd.R Kd.bool 4 wr w.heap.size (fun _ => True) _ (bitsL n)
        rw [← HX.out]
        exact HR.out
theorem fieldsB_snoc : ∀ (l cur : List UInt8), Fld.fieldsB cur (l ++ [32]) = Fld.fieldsB cur l
  | [], cur => by
    simp [Fld.fieldsB]
  | b :: t, cur => by
    rw [List.cons_append, Fld.fieldsB, Fld.fieldsB, fieldsB_snoc t [], fieldsB_snoc t (cur ++ [b])]
/-- What the reference's Read answers. -/
def seineref21_Read.f (s : ByteArray) : Option (List Bool × Bool) :=
  if s.size ≤ 4294967296 then some (bitsO (Fld.readN (Fld.fieldsB [] s.data.toList) 0), (Fld.readN (Fld.fieldsB [] s.data.toList) 0).isSome) else none
theorem seineref21_Read.calls (s : ByteArray) (r1 : List Bool) (r2 : Bool) (w : World) (h : seineref21_Read.f s = some (r1, r2)) :
    Calls Try.prog 10 #[.string s] w fun e w' => ∃ v0_ : Value, e = .returned (.tuple #[v0_, .bool r2]) ∧ Kd.R Kd.bool 4 w' w.heap.size (fun _ => True) v0_ r1 ∧ Below w.heap.size w w' := by
  unfold seineref21_Read.f at h
  split at h
  · rename_i hs
    simp only [Option.some.injEq, Prod.mk.injEq] at h
    obtain ⟨rfl, rfl⟩ := h
    refine refRead_any s _ w hs rfl _ ?_
    rw [ByteArray.data_append, Array.toList_append]
    show Fld.readN (Fld.fieldsB [] (s.data.toList ++ [32])) 0 = _
    rw [fieldsB_snoc]
  · cases h
end Go.Proofs.Ythahngbimkhdiaa.All
