/- Plain: strings.FieldsFunc at the blank, byte by byte; the options' letters; a text's options as one number. No condition. -/
import Derived.Lib.FieldsP
import Derived.Lib.SpaceUEq
import Derived.Lib.OthersKept
set_option linter.unusedVariables false
namespace Go.Proofs.Ythahngbimkhdiaa.Fld
open Go.Lib

/-- The fields between blanks, byte by byte: 'cur' is the one that is open. -/
def fieldsB : List UInt8 → List UInt8 → List (List UInt8)
  | cur, [] => if cur = [] then [] else [cur]
  | cur, b :: t => if b = 32 then (if cur = [] then fieldsB [] t else cur :: fieldsB [] t) else fieldsB (cur ++ [b]) t
/-- Is a rune the blank? -/
def blank (r : Nat) : Bool := r == 32

theorem fieldsB_skip : ∀ (k : Nat) (cur l : List UInt8), (∀ j, j < k → ∀ b, l[j]? = some b → b ≠ 32) → k ≤ l.length → fieldsB cur l = fieldsB (cur ++ l.take k) (l.drop k)
  | 0, cur, l, _, _ => by simp
  | k + 1, cur, [], _, h => by simp at h
  | k + 1, cur, b :: t, h, hl => by
    have h0 := h 0 (by omega) b rfl
    rw [fieldsB, if_neg h0, fieldsB_skip k (cur ++ [b]) t (fun j hj c hc => h (j + 1) (by omega) c (by simpa using hc)) (by simpa using hl)]
    simp
theorem decode_big (s : ByteArray) (pos : Nat) (h : pos < s.size) (hb : 128 ≤ (s[pos]'h).toNat) :
    128 ≤ (Utf8.decode s pos).1 ∧ ∀ j, j < (Utf8.decode s pos).2 → ∀ b, (s.data.toList.drop pos)[j]? = some b → b ≠ 32 := by
  have g0 : s.get! pos = s[pos]'h := by
    show (s.data[pos]!) = _
    rw [getElem!_pos s.data pos h]; rfl
  have gj : ∀ j b, s.data.toList[j]? = some b → s.get! j = b := by
    intro j b hj
    have hl := (List.getElem?_eq_some_iff.1 hj).1
    show (s.data[j]!) = _
    rw [getElem!_pos s.data j (by simpa using hl)]
    have := (List.getElem?_eq_some_iff.1 hj).2
    simpa using this
  rw [decode_at]
  constructor
  · rcases decodeN_cases (s.size - pos) (s.get! pos).toNat (s.get! (pos + 1)).toNat (s.get! (pos + 2)).toNat (s.get! (pos + 3)).toNat with ⟨c, e⟩ | ⟨_, _, _, c, e⟩ | ⟨_, _, _, _, c, e⟩ | ⟨c, _⟩ | e
    · rw [g0] at c; omega
    · rw [e]; exact c
    · rw [e]; show 128 ≤ _; omega
    · omega
    · rw [e]; decide
  · intro j hj b hjb e
    subst e
    rw [List.getElem?_drop] at hjb
    have hg := gj _ _ hjb
    obtain ⟨c2, c3, c4, c5⟩ := decodeN_conts (s.size - pos) (s.get! pos).toNat (s.get! (pos + 1)).toNat (s.get! (pos + 2)).toNat (s.get! (pos + 3)).toNat
    have h32 : (32 : UInt8).toNat = 32 := rfl
    match j, hj, hg with
    | 0, hj, hg => rw [Nat.add_zero, g0] at hg; rw [hg] at hb; rw [h32] at hb; omega
    | 1, hj, hg => have := (c2 (by omega)).1; rw [hg, h32] at this; omega
    | 2, hj, hg => have := (c3 (by omega)).1; rw [hg, h32] at this; omega
    | 3, hj, hg => have := (c4 (by omega)).1; rw [hg, h32] at this; omega
    | j + 4, hj, hg => omega

theorem spansB_eq (s : ByteArray) : ∀ (f pos : Nat) (st : Option Nat) (acc : List (Nat × Nat)), s.size ≤ pos + f → pos ≤ s.size → (∀ a, st = some a → a < pos) →
    acc.map (fun p => pieceU s.data.toList p.1 p.2) ++ fieldsB (openPiece s.data.toList st pos) (s.data.toList.drop pos) = (closeSpans s (spansFromP blank s f pos st acc)).map (fun p => pieceU s.data.toList p.1 p.2)
  | 0, pos, st, acc, h, hp, hst => by
    obtain rfl : pos = s.size := by omega
    have hd : s.data.toList.drop s.size = [] := List.drop_eq_nil_of_le (by rw [← size_eq]; exact Nat.le_refl _)
    rw [hd, fieldsB]
    cases st with
    | none => simp [spansFromP, closeSpans, openPiece]
    | some a =>
      have := pieceU_ne s.data.toList a s.size (hst a rfl) (by rw [← size_eq]; exact Nat.le_refl _)
      simp [spansFromP, closeSpans, openPiece, this]
  | f + 1, pos, st, acc, h, hp, hst => by
    by_cases hlt : pos < s.size
    · have hll : pos < s.data.toList.length := by rw [← size_eq]; exact hlt
      have hw := width_pos s pos
      have hwn : pos + (Utf8.decode s pos).2 ≤ s.size := by
        have := decodeN_le_n' (s.size - pos) (s.get! pos).toNat (s.get! (pos + 1)).toNat (s.get! (pos + 2)).toNat (s.get! (pos + 3)).toNat (by omega)
        rw [← decode_at] at this
        omega
      by_cases ha : (s[pos]'hlt).toNat < 128
      · have hcons : s.data.toList.drop pos = (s[pos]'hlt) :: s.data.toList.drop (pos + 1) := by
          rw [List.drop_eq_getElem_cons hll]; rfl
        rw [hcons]
        simp only [spansFromP, if_pos hlt, decode_ascii s pos hlt ha, fieldsB]
        by_cases h32 : s[pos]'hlt = 32
        · rw [if_pos h32]
          have hb : blank (s[pos]'hlt).toNat = true := by rw [h32]; rfl
          simp only [hb, if_true]
          cases st with
          | none =>
            have ih := spansB_eq s f (pos + 1) none acc (by omega) (by omega) (fun a h => by cases h)
            simpa [openPiece] using ih
          | some a =>
            have hpn := pieceU_ne s.data.toList a pos (hst a rfl) (by rw [← size_eq]; omega)
            have ih := spansB_eq s f (pos + 1) none (acc ++ [(a, pos)]) (by omega) (by omega) (fun a h => by cases h)
            simpa [openPiece, hpn] using ih
        · rw [if_neg h32]
          have hb : blank (s[pos]'hlt).toNat = false := by
            simp only [blank, beq_eq_false_iff_ne, ne_eq]
            intro e
            exact h32 (UInt8.toNat_inj.1 (by rw [e]; rfl))
          simp only [hb, Bool.false_eq_true, if_false]
          have e1 : (s.data.toList.drop pos).take 1 = [s[pos]'hlt] := by rw [hcons]; rfl
          cases st with
          | none =>
            have ih := spansB_eq s f (pos + 1) (some pos) acc (by omega) (by omega) (fun a h => by cases h; omega)
            have e : ([] : List UInt8) ++ [s[pos]'hlt] = pieceU s.data.toList pos (pos + 1) := by
              unfold pieceU
              rw [List.nil_append, Nat.add_sub_cancel_left, e1]
            simp only [openPiece] at ih ⊢
            rw [e]
            exact ih
          | some a =>
            have hap := hst a rfl
            have ih := spansB_eq s f (pos + 1) (some a) acc (by omega) (by omega) (fun b h => by cases h; omega)
            have e := pieceU_grow s.data.toList a pos 1 (by omega)
            rw [e1] at e
            simp only [openPiece] at ih ⊢
            rw [e]
            exact ih
      · obtain ⟨hR, hsk⟩ := decode_big s pos hlt (by omega)
        have hb : blank (Utf8.decode s pos).1 = false := by
          simp only [blank, beq_eq_false_iff_ne, ne_eq]
          omega
        rw [fieldsB_skip (Utf8.decode s pos).2 _ (s.data.toList.drop pos) hsk (by rw [List.length_drop, ← size_eq]; omega), List.drop_drop]
        simp only [spansFromP, if_pos hlt, hb, Bool.false_eq_true, if_false]
        cases st with
        | none =>
          have ih := spansB_eq s f (pos + (Utf8.decode s pos).2) (some pos) acc (by omega) hwn (fun a h => by cases h; omega)
          have e : ([] : List UInt8) ++ (s.data.toList.drop pos).take (Utf8.decode s pos).2 = pieceU s.data.toList pos (pos + (Utf8.decode s pos).2) := by
            unfold pieceU
            rw [List.nil_append, Nat.add_sub_cancel_left]
          simp only [openPiece] at ih ⊢
          rw [e]
          exact ih
        | some a =>
          have hap := hst a rfl
          have ih := spansB_eq s f (pos + (Utf8.decode s pos).2) (some a) acc (by omega) hwn (fun b h => by cases h; omega)
          have e := pieceU_grow s.data.toList a pos (Utf8.decode s pos).2 (by omega)
          simp only [openPiece] at ih ⊢
          rw [e]
          exact ih
    · obtain rfl : pos = s.size := by omega
      have hd : s.data.toList.drop s.size = [] := List.drop_eq_nil_of_le (by rw [← size_eq]; exact Nat.le_refl _)
      rw [hd, fieldsB, spansFromP_end _ _ _ _ _ _ hlt]
      cases st with
      | none => simp [closeSpans, openPiece]
      | some a =>
        have := pieceU_ne s.data.toList a s.size (hst a rfl) (by rw [← size_eq]; exact Nat.le_refl _)
        simp [closeSpans, openPiece, this]
theorem extract_pieceU (s : ByteArray) (a b : Nat) : (s.extract a b).data.toList = pieceU s.data.toList a b := by
  unfold pieceU
  rw [ByteArray.data_extract]
  simp
/-- What FieldsFunc makes at the blank, is what the bytes say. -/
theorem fields_eq (s : ByteArray) : (goFieldsP blank s).map (fun x => x.data.toList) = fieldsB [] s.data.toList := by
  have h := spansB_eq s s.size 0 none [] (by omega) (Nat.zero_le _) (fun a h => by cases h)
  unfold goFieldsP spansOfP
  rw [List.map_map]
  simp only [List.map_nil, List.nil_append, List.drop_zero, openPiece] at h
  rw [h]
  apply List.map_congr_left
  intro x _
  exact extract_pieceU s x.1 x.2

/-! ### letters -/
/-- Which option a letter is. -/
def letterIx (b : UInt8) : Option Nat :=
  if b = 105 then some 0 else if b = 119 then some 1 else if b = 120 then some 2 else if b = 111 then some 3 else if b = 98 then some 4 else if b = 118 then some 5 else if b = 99 then some 6 else none
/-- A word's letters, as bits beside those of n. -/
def lettersN : List UInt8 → Nat → Option Nat
  | [], n => some n
  | b :: t, n => match letterIx b with
    | some k => lettersN t (n ||| 2 ^ k)
    | none => none
def wordN (l : List UInt8) : Option Nat :=
  match l with
  | 45 :: b :: t => lettersN (b :: t) 0
  | _ => none
/-- Words' options beside n. -/
def readN : List (List UInt8) → Nat → Option Nat
  | [], n => some n
  | w :: ws, n => match wordN w with
    | some k => readN ws (n ||| k)
    | none => none
theorem letterIx_lt {b : UInt8} {k : Nat} (h : letterIx b = some k) : k ≤ 6 := by
  unfold letterIx at h
  repeat' split at h
  all_goals (cases h; try omega)
theorem letterIx_big {b : UInt8} (h : 128 ≤ b.toNat) : letterIx b = none := by
  unfold letterIx
  repeat' split
  all_goals first | rfl | (rename_i e; subst e; revert h; decide)
theorem or_lt {a b : Nat} (ha : a < 128) (hb : b < 128) : a ||| b < 128 := Nat.or_lt_two_pow (n := 7) ha hb
theorem lettersN_lt : ∀ (l : List UInt8) (n m : Nat), lettersN l n = some m → n < 128 → m < 128
  | [], n, m, h, hn => by simp [lettersN] at h; omega
  | b :: t, n, m, h, hn => by
    rw [lettersN] at h
    cases hk : letterIx b with
    | none => rw [hk] at h; cases h
    | some k =>
      rw [hk] at h
      exact lettersN_lt t _ m h (or_lt hn (Nat.lt_of_le_of_lt (Nat.pow_le_pow_right (by omega) (letterIx_lt hk)) (by decide)))
theorem wordN_lt {l : List UInt8} {m : Nat} (h : wordN l = some m) : m < 128 := by
  unfold wordN at h
  split at h
  · exact lettersN_lt _ _ _ h (by omega)
  · cases h
theorem readN_lt : ∀ (l : List (List UInt8)) (n m : Nat), readN l n = some m → n < 128 → m < 128
  | [], n, m, h, hn => by simp [readN] at h; omega
  | w :: t, n, m, h, hn => by
    rw [readN] at h
    cases hk : wordN w with
    | none => rw [hk] at h; cases h
    | some k =>
      rw [hk] at h
      exact readN_lt t _ m h (or_lt hn (wordN_lt hk))
/-- A byte that is no letter ends a word. -/
theorem lettersN_bad : ∀ (l : List UInt8) (n i : Nat) (b : UInt8), l[i]? = some b → letterIx b = none → lettersN l n = none
  | [], n, i, b, h, _ => by simp at h
  | c :: t, n, 0, b, h, hb => by
    simp at h
    subst h
    rw [lettersN, hb]
  | c :: t, n, i + 1, b, h, hb => by
    rw [lettersN]
    cases hk : letterIx c with
    | none => rfl
    | some k => exact lettersN_bad t _ i b (by simpa using h) hb
end Go.Proofs.Ythahngbimkhdiaa.Fld
