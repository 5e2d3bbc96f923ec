/- By hand: the contract of the reference's Show: the letters of those of seven bools that hold. No condition but that there are seven. -/
import Derived.Test.YthahngbimkhdiaaAllx0
import Derived.Test.YthahngbimkhdiaaHandS
import Derived.Test.YthahngbimkhdiaaKit
namespace Go.Proofs.Ythahngbimkhdiaa.All
open Go.RowKit Go.Proofs.YthahngbimkhdiaaW.PrintWords Go.Proofs.YthahngbimkhdiaaW.PrintLast Go.Proofs.YthahngbimkhdiaaW.PrintMore Go.Proofs.Ythahngbimkhdiaa.Kit
attribute [local go_sem] max2_int min2_int max_two min_two max_three min_three max_four min_four

/-- The letters of the first k that hold. -/
def showR (l : List Bool) : Nat → List UInt8
  | 0 => []
  | k + 1 => showR l k ++ (if l.getD k false = true then [letterAt k] else [])
theorem showR_len (l : List Bool) : ∀ k, (showR l k).length ≤ k
  | 0 => Nat.le_refl _
  | k + 1 => by
    have := showR_len l k
    rw [showR, List.length_append]
    split <;> simp <;> omega
theorem letter_cut (k : Nat) (h : k < 7) : (⟨#[105, 119, 120, 111, 98, 118, 99]⟩ : ByteArray).extract k (k + 1) = ⟨#[letterAt k]⟩ := by
  revert h; revert k; decide +kernel
theorem showR_yes (l : List Bool) (k : Nat) (h : l.getD k false = true) : (⟨(showR l k).toArray⟩ : ByteArray) ++ ⟨#[letterAt k]⟩ = ⟨(showR l (k + 1)).toArray⟩ := by
  apply ByteArray.ext
  rw [ByteArray.data_append, showR, if_pos h]
  simp
/-- What the reference's Show answers. -/
def refShow (l : List Bool) : ByteArray := if showR l 7 = [] then ⟨#[]⟩ else ⟨(45 :: showR l 7).toArray⟩
def seineref21_Show.f (l : List Bool) : Option ByteArray := if l.length = 7 then some (refShow l) else none
set_option maxHeartbeats 8000000 in
set_option maxRecDepth 100000 in
theorem seineref21_Show.calls (A0 : Option Addr) (c0 : Nat) (l0 : List Bool) (r : ByteArray) (w : World) (hr0 : Kd.C Kd.bool w A0 l0.length l0) (hc0 : l0.length ≤ c0) (h : seineref21_Show.f l0 = some r) :
    Calls Try.prog 13 #[.slice A0 l0.length c0] w fun e w' => e = .returned (.string r) ∧ Below w.heap.size w w' := by
  unfold seineref21_Show.f at h
  split at h
  case isFalse => cases h
  rename_i h7
  injection h with h
  subst h
  have HR0 := Aside0.mk hr0
  have HC0 := Aside0.mk hc0
  clear hr0 hc0
  have H7 := Aside0.mk h7
  rw [show Kd.C Kd.bool w A0 l0.length l0 = Kd.C Kd.bool w A0 7 l0 by rw [h7]] at HR0
  rw [h7]
  clear h7
  obtain ⟨RS, hRS⟩ : ∃ R, refShow l0 = R := ⟨_, rfl⟩
  rw [hRS]
  have HS0 := Aside0.mk hRS
  clear hRS
  go_enter Try.func13, Try.ntmps13
  go_wp2
  go_loopg [4, 5] 7 (fun gf v4 v5 w' => ∃ k : Nat, v4 = .string ⟨(showR l0 k).toArray⟩ ∧ v5 = .int .i64 k ∧ k + gf = 7 ∧ Aside0 (Below w.heap.size w w'))
  case atStart => exact ⟨0, rfl, rfl, rfl, ⟨Below.refl _ _⟩⟩
  case round =>
    obtain ⟨k, rfl, rfl, hg, HB⟩ := hrel
    by_cases hk : k < 7
    · obtain ⟨g', rfl⟩ : ∃ g', gk = g' + 1 := ⟨gk - 1, by omega⟩
      obtain ⟨ad, rfl, hx⟩ := Kd.at_bool HR0.out (k : Int) (by omega) (by omega)
      replace hx := (HB.out.cell (World.block_lt_of_cell? w _ hx)).trans hx
      rw [show rdOf false l0 (k : Int) = l0.getD k false by simp [rdOf]] at hx
      simp only [Int.toNat_natCast] at hx
      have j1 : ((k : Nat) : Int) < 7 := by omega
      have hl := showR_len l0 k
      have hl9 : (showR l0 k).length + 1 ≤ 9223372036854775807 := by omega
      have hcut := letter_cut k hk
      by_cases hb : l0.getD k false = true
      · have HS := Aside0.mk (showR_yes l0 k hb)
        rw [hb] at hx
        clear hb
        go_wp2
        go_roundg g'
        case measure => omega
        case rel => exact ⟨k + 1, by rw [HS.out], by go_num, by omega, HB⟩
      · have HS : Aside0 (showR l0 (k + 1) = showR l0 k) := ⟨by rw [showR, if_neg hb, List.append_nil]⟩
        rw [show l0.getD k false = false by simpa using hb] at hx
        clear hb
        go_wp2
        go_roundg g'
        case measure => omega
        case rel => exact ⟨k + 1, by rw [HS.out], by go_num, by omega, HB⟩
    · obtain rfl : k = 7 := by omega
      have hl := showR_len l0 7
      have hrs := HS0.out
      unfold refShow at hrs
      obtain ⟨X, hX⟩ : ∃ X, showR l0 7 = X := ⟨_, rfl⟩
      rw [hX] at hl hrs ⊢
      clear hX
      by_cases hn : X = []
      · subst hn
        rw [if_pos rfl] at hrs
        have HRS := Aside0.mk hrs
        clear hrs
        go_wp2
        go_ret
        exact ⟨by rw [← HRS.out]; rfl, HB.out⟩
      · rw [if_neg hn] at hrs
        have e1 : (⟨#[45]⟩ : ByteArray) ++ ⟨X.toArray⟩ = RS := by
          rw [← hrs]
          apply ByteArray.ext
          rw [ByteArray.data_append]
          simp
        have q1 : ((⟨X.toArray⟩ : ByteArray).toList == ([] : List UInt8)) = false := by rw [ByteArray.toList_eq, beq_eq_false_iff_ne]; exact hn
        have q2 : X.isEmpty = false := by simpa using hn
        have hl9 : 1 + X.length ≤ 9223372036854775807 := by omega
        have E1 := Aside0.mk e1
        clear hn hrs e1
        go_wp2
        go_ret
        exact ⟨by rw [← E1.out]; rfl, HB.out⟩
end Go.Proofs.Ythahngbimkhdiaa.All
