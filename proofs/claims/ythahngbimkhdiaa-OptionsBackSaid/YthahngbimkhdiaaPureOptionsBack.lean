/- The plain law of 'OptionsBack': at each of the 128 options and each of the 256 numbers. No condition. -/
import Derived.Test.YthahngbimkhdiaaAllx8
namespace Go.Proofs.Ythahngbimkhdiaa.Pure
open Go.RowKit Go.Proofs.Ythahngbimkhdiaa.All Go.Proofs.YthahngbimkhdiaaW.PrintWords Go.Proofs.YthahngbimkhdiaaW.PrintLast

theorem awake_yes2 : seinelaw21_awake.f 60 = some true := by decide +kernel
theorem show_read : ∀ b1 b2 b3 b4 b5 b6 b7 : Bool, (options_Show.f b1 b2 b3 b4 b5 b6 b7).bind (fun t => options_Read.f t) = some (b1, b2, b3, b4, b5, b6, b7, 0) := by
  intro b1 b2 b3 b4 b5 b6 b7
  cases b1 <;> cases b2 <;> cases b3 <;> cases b4 <;> cases b5 <;> cases b6 <;> cases b7 <;> kernel_rfl
theorem bits_of : ∀ b1 b2 b3 b4 b5 b6 b7 : Bool, (options_Bits.f 60 b1 b2 b3 b4 b5 b6 b7).bind (fun t => options_Of.f t) = some (b1, b2, b3, b4, b5, b6, b7) := by
  intro b1 b2 b3 b4 b5 b6 b7
  cases b1 <;> cases b2 <;> cases b3 <;> cases b4 <;> cases b5 <;> cases b6 <;> cases b7 <;> kernel_rfl
theorem num_tail : ∀ n : Nat, n < 256 → ((options_Of.f n).bind fun bt202 => ((options_Bits.f 60 bt202.1 bt202.2.1 bt202.2.2.1 bt202.2.2.2.1 bt202.2.2.2.2.1 bt202.2.2.2.2.2.1 bt202.2.2.2.2.2.2).bind fun t209 => (if t209 = (Go.bits .and .u8 n 127) then ((options_Of.f n).bind fun bt210 => ((options_Of.f (Go.bits .and .u8 n 127)).bind fun bt217 => (some (bt210.1 == bt217.1 && (bt210.2.1 == bt217.2.1 && (bt210.2.2.1 == bt217.2.2.1 && (bt210.2.2.2.1 == bt217.2.2.2.1 && (bt210.2.2.2.2.1 == bt217.2.2.2.2.1 && (bt210.2.2.2.2.2.1 == bt217.2.2.2.2.2.1 && (bt210.2.2.2.2.2.2 == bt217.2.2.2.2.2.2)))))))))) else (some false)))) = some true := by decide +kernel
theorem OptionsBack (b1 b2 b3 b4 b5 b6 b7 : Bool) (n : Int) (h0 : 0 ≤ n) (h1 : n ≤ 255) : seinelaw21_OptionsBack.f 60 b1 b2 b3 b4 b5 b6 b7 n = some true := by
  obtain ⟨m, rfl⟩ := Int.eq_ofNat_of_zero_le h0
  have t := num_tail m (by omega)
  obtain ⟨s, hs, hr⟩ := Option.bind_eq_some_iff.1 (show_read b1 b2 b3 b4 b5 b6 b7)
  obtain ⟨q, hq, ho⟩ := Option.bind_eq_some_iff.1 (bits_of b1 b2 b3 b4 b5 b6 b7)
  unfold seinelaw21_OptionsBack.f
  rw [awake_yes2, hs]
  simp only [Option.bind_some, if_true, hr, hq, ho, beq_self_eq_true, Bool.and_self]
  exact t
end Go.Proofs.Ythahngbimkhdiaa.Pure
