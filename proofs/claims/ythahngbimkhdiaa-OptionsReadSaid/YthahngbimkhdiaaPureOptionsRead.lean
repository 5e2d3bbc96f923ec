/- The plain law of 'OptionsRead': what the words say of the options of a text, and what the reference says. No condition but a text's length. -/
import Derived.Test.YthahngbimkhdiaaAllx5
import Derived.Test.YthahngbimkhdiaaKit
namespace Go.Proofs.Ythahngbimkhdiaa.Pure
open Go.RowKit Go.Proofs.Ythahngbimkhdiaa.All Go.Proofs.YthahngbimkhdiaaW.PrintWords Go.Proofs.YthahngbimkhdiaaW.PrintLast Go.Proofs.Ythahngbimkhdiaa.Kit

theorem awake_yes : seinelaw21_awake.f 60 = some true := by decide +kernel
theorem same_runs (n : Nat) (d : Nat) : ∀ i : Nat, i + d = 7 → seinelaw21_OptionsRead.l0 (d + 1) 0 (bitsL n) (bitsL n) (i : Int) = some true := by
  induction d with
  | zero => intro i h; rw [seinelaw21_OptionsRead.l0, if_neg (by omega)]; rfl
  | succ d ih =>
    intro i h
    have hl : (bitsL n).length = 7 := rfl
    rw [seinelaw21_OptionsRead.l0, if_pos (by omega), if_pos (by omega), hl, if_pos (by omega), if_pos (by omega), bne_self_eq_false, if_neg (by decide), wrap_id (by omega) (by omega), show (i : Int) + 1 = ((i + 1 : Nat) : Int) by omega]
    exact ih (i + 1) (by omega)
theorem OptionsRead : seinelaw21_OptionsRead.Pure := by
  intro s hs
  refine ⟨60, ?_⟩
  unfold seinelaw21_OptionsRead.f
  rw [awake_yes]
  simp only [Option.bind_some, if_true]
  by_cases h3 : (s.size : Int) > 300
  · rw [if_pos h3]
  · rw [if_neg h3]
    unfold options_Read.f seineref21_Read.f
    rw [if_pos (by omega), if_pos (by omega)]
    cases hr : Fld.readN (Fld.fieldsB [] s.data.toList) 0 with
    | none => rfl
    | some n =>
      simp only [Option.bind_some, Option.isSome_some, if_true, seinelaw21_list.f]
      have h := same_runs n 7 0 (by omega)
      exact at_rounds (g := fun k => seinelaw21_OptionsRead.l0 k 0 (bitsL n) (bitsL n) 0) (fun k => seinelaw21_OptionsRead.mono_l k 0 (bitsL n) (bitsL n) 0) (k := 8) (k' := 60) (by omega) h
end Go.Proofs.Ythahngbimkhdiaa.Pure
