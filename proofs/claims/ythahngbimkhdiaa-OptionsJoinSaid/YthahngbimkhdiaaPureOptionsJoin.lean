/- The plain law of 'OptionsJoin': the options of two texts with blanks between. No condition but texts' lengths. -/
import Derived.Test.YthahngbimkhdiaaAllx9
import Derived.Test.YthahngbimkhdiaaHandF
namespace Go.Proofs.Ythahngbimkhdiaa.Pure
open Go.RowKit Go.Proofs.Ythahngbimkhdiaa.All Go.Proofs.YthahngbimkhdiaaW.PrintWords Go.Proofs.YthahngbimkhdiaaW.PrintLast

theorem fieldsB_cut : ∀ (l m cur : List UInt8), Fld.fieldsB cur (l ++ 32 :: m) = Fld.fieldsB cur l ++ Fld.fieldsB [] m
  | [], m, cur => by
    simp only [List.nil_append, Fld.fieldsB, if_true]
    split <;> simp
  | b :: t, m, cur => by
    simp only [List.cons_append, Fld.fieldsB, fieldsB_cut t m]
    split
    · split <;> simp
    · rfl
theorem readN_append : ∀ (a b : List (List UInt8)) (n : Nat), Fld.readN (a ++ b) n = (Fld.readN a n).bind (Fld.readN b)
  | [], b, n => rfl
  | w :: a, b, n => by
    simp only [List.cons_append, Fld.readN]
    cases Fld.wordN w with
    | none => rfl
    | some k => exact readN_append a b _
theorem readN_from : ∀ (a : List (List UInt8)) (n m : Nat), Fld.readN a (n ||| m) = (Fld.readN a m).map (n ||| ·)
  | [], n, m => rfl
  | w :: a, n, m => by
    simp only [Fld.readN]
    cases Fld.wordN w with
    | none => rfl
    | some k =>
      simp only [Nat.or_assoc]
      exact readN_from a n (m ||| k)
/-- Of two texts with blanks between: the options of both. -/
theorem read_join (l m : List UInt8) : Fld.readN (Fld.fieldsB [] (l ++ 32 :: 32 :: (m ++ [32]))) 0 = (Fld.readN (Fld.fieldsB [] l) 0).bind fun n => (Fld.readN (Fld.fieldsB [] m) 0).map (n ||| ·) := by
  have e : Fld.fieldsB [] (32 :: (m ++ [32])) = Fld.fieldsB [] m := by
    have h1 := fieldsB_cut [] (m ++ [32]) []
    have h2 := fieldsB_cut m [] []
    simp only [List.nil_append] at h1
    rw [h1, h2]
    simp [Fld.fieldsB]
  rw [fieldsB_cut, e, readN_append]
  congr 1
  funext n
  have := readN_from (Fld.fieldsB [] m) n 0
  simpa using this
theorem mask_bits (n : Nat) (h : n < 128) : maskN (hasB (n : Int) 0) (hasB (n : Int) 1) (hasB (n : Int) 2) (hasB (n : Int) 3) (hasB (n : Int) 4) (hasB (n : Int) 5) (hasB (n : Int) 6) = n := by
  revert h; revert n; decide +kernel
theorem bits58 : ∀ n : Nat, n < 128 → options_Bits.f 58 (hasB (n : Int) 0) (hasB (n : Int) 1) (hasB (n : Int) 2) (hasB (n : Int) 3) (hasB (n : Int) 4) (hasB (n : Int) 5) (hasB (n : Int) 6) = some (n : Int) := by decide +kernel
theorem awake_yes3 : seinelaw21_awake.f 60 = some true := by decide +kernel
theorem join_list (s t : ByteArray) : (s ++ (⟨#[32, 32]⟩ : ByteArray) ++ t ++ (⟨#[32]⟩ : ByteArray)).data.toList = s.data.toList ++ 32 :: 32 :: (t.data.toList ++ [32]) := by
  simp [ByteArray.data_append]
theorem OptionsJoin : seinelaw21_OptionsJoin.Pure := by
  intro s t _ _
  refine ⟨60, ?_⟩
  unfold seinelaw21_OptionsJoin.f
  rw [awake_yes3]
  simp only [Option.bind_some, if_true]
  by_cases h1 : (s.size : Int) > 200
  · rw [if_pos h1]
    rfl
  · rw [if_neg h1]
    by_cases h2 : (t.size : Int) > 200
    · rw [decide_eq_true h2]
      rfl
    · rw [decide_eq_false h2]
      have e2 : (⟨#[32, 32]⟩ : ByteArray).size = 2 := rfl
      have e1 : (⟨#[32]⟩ : ByteArray).size = 1 := rfl
      rw [seinelaw21_OptionsJoin.j0, if_neg (by decide)]
      simp only [ByteArray.size_append, e2]
      have f1 : s.size + 2 ≤ 9223372036854775807 := by omega
      have f2 : s.size + 2 + t.size ≤ 9223372036854775807 := by omega
      have f3 : s.size + 2 + t.size + 1 ≤ 9223372036854775807 := by omega
      simp only [f1, f2, f3, if_true]
      have hj := read_join s.data.toList t.data.toList
      rw [← join_list] at hj
      unfold options_Read.f
      have g1 : s.size ≤ 4294967296 := by omega
      have g2 : t.size ≤ 4294967296 := by omega
      have g3 : (s ++ (⟨#[32, 32]⟩ : ByteArray) ++ t ++ (⟨#[32]⟩ : ByteArray)).size ≤ 4294967296 := by
        simp only [ByteArray.size_append, e2, e1]
        omega
      simp only [if_pos g1, if_pos g2, if_pos g3, hj]
      cases hs : Fld.readN (Fld.fieldsB [] s.data.toList) 0 with
      | none =>
        cases ht : Fld.readN (Fld.fieldsB [] t.data.toList) 0 with
        | none => rfl
        | some m => rfl
      | some n =>
        cases ht : Fld.readN (Fld.fieldsB [] t.data.toList) 0 with
        | none => rfl
        | some m =>
          have hn := Fld.readN_lt _ _ _ hs (by omega)
          have hm := Fld.readN_lt _ _ _ ht (by omega)
          have ho := or_nums n hn m hm
          simp only [Option.bind_some, Option.map_some, if_true]
          rw [seinelaw21_OptionsJoin.j1, if_neg (by decide), if_pos rfl, bits58 (n ||| m) (Fld.or_lt hn hm), bits58 n hn, bits58 m hm]
          simp only [Option.bind_some]
          show some (((n ||| m : Nat) : Int) == bits .or .u8 (n : Int) (m : Int)) = some true
          rw [ho, beq_self_eq_true]
end Go.Proofs.Ythahngbimkhdiaa.Pure
