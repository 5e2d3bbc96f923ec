/- By hand: the contracts of options.Of (a closure over a boxed number): what it answers, as a plain function. No condition. -/
import Derived.Test.YthahngbimkhdiaaAllx2
import Derived.Laws.EntriesVeiled
namespace Go.Proofs.Ythahngbimkhdiaa.All
open Go.RowKit Go.Proofs.YthahngbimkhdiaaW.PrintWords Go.Proofs.YthahngbimkhdiaaW.PrintLast Go.Proofs.YthahngbimkhdiaaW.PrintMore
attribute [local go_sem] max2_int min2_int max_two min_two max_three min_three max_four min_four

/-- Has a number the bit of a letter? -/
def hasB (n : Int) (k : Nat) : Bool := bits .and .u8 (n / 2 ^ k) 1 == 1
theorem options_Of1.calls (n : Int) (k : Nat) (g : Nat) (w : World) (hk : k ≤ 6) (hc : w.cell? ⟨g, 0, none⟩ = some (.int .u8 n)) :
    Calls Try.prog 22 #[.int .i64 k, .pointer (some ⟨g, 0, none⟩)] w fun e w' => e = .returned (.bool (hasB n k)) ∧ w' = w := by
  go_enter Try.func22, Try.ntmps22
  go_wp2
  go_ret
  exact ⟨rfl, rfl⟩
theorem options_Ofi.calls (n i : Int) (g : Nat) (w : World) (h0 : 0 ≤ i) (h1 : i ≤ 6) (hc : w.cell? ⟨g, 0, none⟩ = some (.int .u8 n)) :
    Calls Try.prog 22 #[.int .i64 i, .pointer (some ⟨g, 0, none⟩)] w fun e w' => e = .returned (.bool (hasB n i.toNat)) ∧ w' = w := by
  have := options_Of1.calls n i.toNat g w (by omega) hc
  rwa [show ((i.toNat : Nat) : Int) = i by omega] at this
def options_Of.f (n : Int) : Option (Bool × Bool × Bool × Bool × Bool × Bool × Bool) := some (hasB n 0, hasB n 1, hasB n 2, hasB n 3, hasB n 4, hasB n 5, hasB n 6)
set_option maxHeartbeats 8000000 in
set_option maxRecDepth 100000 in
theorem options_Of.calls (n : Int) (r1 r2 r3 r4 r5 r6 r7 : Bool) (w : World) (h : options_Of.f n = some (r1, r2, r3, r4, r5, r6, r7)) :
    Calls Try.prog 17 #[.int .u8 n] w fun e w' => e = .returned (.agg #[.bool r1, .bool r2, .bool r3, .bool r4, .bool r5, .bool r6, .bool r7]) ∧ Below w.heap.size w w' := by
  have hu24 := Try.underlying24
  simp only [options_Of.f, Option.some.injEq, Prod.mk.injEq] at h
  obtain ⟨rfl, rfl, rfl, rfl, rfl, rfl, rfl⟩ := h
  go_enter Try.func17, Try.ntmps17
  go_wp2_with (go_at_call 22; (refine (options_Ofi.calls n _ w.heap.size _ (by decide) (by decide) (by go_simp)).mono ?_); rintro e w' ⟨rfl, rfl⟩)
  refine bodyPost_ret (results_cell_row rfl _ _ (w.heap.size + 1) 24 #[.bool (hasB n 0), .bool (hasB n 1), .bool (hasB n 2), .bool (hasB n 3), .bool (hasB n 4), .bool (hasB n 5), .bool (hasB n 6)] (0, 0) _ rfl (by have h := blk_new (w.alloc (Obj.cells #[Value.int IntKind.u8 n] 5)) (.cells #[.bool (hasB n 0), .bool (hasB n 1), .bool (hasB n 2), .bool (hasB n 3), .bool (hasB n 4), .bool (hasB n 5), .bool (hasB n 6)] 24); simpa using h) Try.underlying24 rfl (by kernel_rfl)) rfl ⟨rfl, ?_⟩
  exact below_alloc (below_alloc (Below.refl _ _) _) _
end Go.Proofs.Ythahngbimkhdiaa.All
