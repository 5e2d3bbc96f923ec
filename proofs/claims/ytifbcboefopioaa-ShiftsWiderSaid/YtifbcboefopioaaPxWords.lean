/- Words of this session's beside the print's: a constant text turned to bytes ('[]byte("..")'), as a row that is only read. No condition. -/
import Derived.Test.YtifbcboefopioaaWMore
import Derived.Test.YtifbcboefopioaaWGuard
import Derived.Lib.SlBytesConst
namespace Go.Proofs.YtifbcboefopioaaW.PrintWords
open Go.RowKit
section
variable {P : Program} {ops : Array Oper} {rest : List Oper} {o o2 : Oper} {a : Act} {Q : Exit → Act → World → Prop}
theorem px_reads (W : World) (e : TypeId) (xs : List Int) (inner : List Value) (fr : Nat × Nat) (hi : inner = nums .u8 xs) (hm : xs.length ≤ 9223372036854775807) :
    Kd.C (Kd.int .u8) (W.alloc (.cells inner.toArray e fr)) (some ⟨W.heap.size, 0, none⟩) xs.length xs := by
  refine Kd.C_of_reads (enc := Value.int .u8) (d := (0 : Int)) (h1 := fun _ => rfl) ⟨rfl, hm, fun _ => ⟨_, rfl, fun j hj => ?_⟩⟩
  rw [add_plain, World.cell?_alloc_mark _ _ _ _ _]
  subst hi
  simp [nums, List.getD_eq_getElem?_getD, hj]
/-- A literal's own step, its block written out. -/
theorem px_lit1 {inner : List Value} {n : Nat} {e : TypeId} {W : World} (hgd : o.guard = none) (hrun : (execOp a.eval o).run P W = .ok (.value (.slice (some ⟨W.heap.size, 0, none⟩) n n)) (W.alloc (.cells inner.toArray e)))
    (h : wpList P ops Q rest (a.put o.dst (.slice (some ⟨W.heap.size, 0, none⟩) n n)) (W.alloc (.cells inner.toArray e))) : wpList P ops Q (o :: rest) a W := Kd.event_run hgd hrun h
/-- Such a literal, turned to its own type: behind the literal's own step. -/
theorem px_conv {T e : TypeId} (hT : P.underlying T = some (.slice e)) (he : P.underlying e = some (.int .u8)) {N2 : Tmp} (_hd2 : o.dst = some N2) {xs : List Int} {inner : List Value} {W : World} (hgd : o.guard = none)
    (hrun2 : (∀ (w : World) (C : Array Value) (n c : Nat), (convert T T (.slice (some ⟨w.heap.size, 0, none⟩) n c)).run P (w.alloc (.cells C e)) = .ok (.slice (some ⟨w.heap.size, 0, none⟩) n c) (w.alloc (.cells C e (C.size, C.size + 1)))) ∧
      (∀ (w : World) (m : Nat) (C : Array Value) (n c : Nat), (convert T T (.slice (some ⟨w.heap.size, 0, none⟩) n c)).run P ((w.drewN m).alloc (.cells C e)) = .ok (.slice (some ⟨w.heap.size, 0, none⟩) n c) ((w.drewN m).alloc (.cells C e (C.size, C.size + 1)))) →
      (execOp a.eval o).run P (W.alloc (.cells inner.toArray e)) = .ok (.value (.slice (some ⟨W.heap.size, 0, none⟩) xs.length xs.length)) (W.alloc (.cells inner.toArray e (inner.toArray.size, inner.toArray.size + 1))))
    (hi : inner = nums .u8 xs) (hm : xs.length ≤ 9223372036854775807)
    (h : ∀ (A : Option Addr) (c : Nat) (w1 : World), Kd.C (Kd.int .u8) w1 A xs.length xs → xs.length ≤ c → Below W.heap.size W w1 → wpList P ops Q rest (a.put o.dst (.slice A xs.length c)) w1) :
    wpList P ops Q (o :: rest) a (W.alloc (.cells inner.toArray e)) := by
  have h2 := hrun2 ⟨fun w C n c => Lib.run_convert_bytes_const w T e C n c hT he, fun w m C n c => Lib.run_convert_bytes_const (w.drewN m) T e C n c hT he⟩
  refine Kd.event_run hgd h2 ?_
  exact h _ _ _ (px_reads W e xs inner _ hi hm) (Nat.le_refl _) (below_alloc (Below.refl _ _) _)
end
end Go.Proofs.YtifbcboefopioaaW.PrintWords
