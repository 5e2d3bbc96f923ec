/- A slice of byte slices, and a slice of bytes, that come in with a call, read by the kinds of the print. No condition. -/
import Derived.Test.YtifbcboefopioaaTriA
import Derived.Deep.Matrix
import Derived.WalkKit
import Derived.ProofKit
import Derived.OpenShut
import Derived.SizedLaws
set_option linter.unusedVariables false
namespace Go.Proofs.Ytifbcboefopioaa.Tri
open Go.RowKit Go.Deep Go.ChangeShapes Go.WideShapes Go.Proofs.YtifbcboefopioaaW.PrintWords Go.Proofs.YtifbcboefopioaaW.PrintLast Go.Proofs.YtifbcboefopioaaW.PrintMore Go.Proofs.Ytifbcboefopioaa.Kit

theorem row_of {W : World} {A : Option Addr} {L C : Nat} {Z : List Int} (h1 : L ≤ C) (hm : C ≤ maxLen) (hz : Z.length = C) (hA : A = none → C = 0) (hc : ∀ a', A = some a' → ∀ c, c < C → W.cell? (a'.add c) = some (.int .u8 (Z.getD c 0))) :
    (Z.take L).length = L ∧ Kd.C (Kd.int .u8) W A (Z.take L).length (Z.take L) := by
  have hl : (Z.take L).length = L := by rw [List.length_take]; omega
  have hm2 : maxLen = 9223372036854775807 := rfl
  refine ⟨hl, rfl, by omega, fun hp => ?_⟩
  cases A with
  | none => have := hA rfl; omega
  | some ad =>
    refine ⟨ad, rfl, fun j x hj => ⟨[.int .u8 x], rfl, rfl, fun i u hu => ?_⟩⟩
    obtain rfl : i = 0 := by
      have := (List.getElem?_eq_some_iff.1 hu).1
      simpa using this
    simp at hu
    subst hu
    have hj2 := (List.getElem?_eq_some_iff.1 hj).1
    have e := hc ad rfl j (by omega)
    have e2 : Z.getD j 0 = x := by
      rw [List.getElem?_take, if_pos (by omega)] at hj
      rw [List.getD_eq_getElem?_getD, hj]
      rfl
    rw [e2] at e
    simpa [Kd.int, Kd.scalar] using e
theorem cells32 : Try.prog.cellsOf 32 = 1 := by kernel_rfl
theorem cells5 : Try.prog.cellsOf 5 = 1 := by kernel_rfl
theorem bytes32 : Try.prog.bytesOf 32 = 24 := by kernel_rfl
theorem bytes5 : Try.prog.bytesOf 5 = 1 := by kernel_rfl
section
variable {H : Type} {enc : TypeId × Value → H} {W : World} {base : Nat} {held : Bool} {d : DataW H} {ps : List MemPlace} {ts : List TypeId} {ds : List (DataW H)} {j : Nat}
/-- Texts that come in. -/
theorem open_txts {a0 : Option Addr} {len cap : Nat} (h : DataW.Trod enc Try.prog W base (fun _ => true) held 22 (.slice a0 len cap) d ps)
    (hsz : (DataW.weightsEach Try.prog ts ds).all (· ≤ reachBytes) = true) (ht : ts[j]? = some 22) (hd : ds[j]? = some d) :
    ∃ L : List Txt, len = L.length ∧ L.length ≤ cap ∧ Kd.C (Kd.slice 5 (Kd.int .u8)) W a0 L.length L ∧ (∀ s ∈ L, Bytes s) ∧ L.length ≤ 8000000000000 := by
  obtain ⟨fuel, hf⟩ := h
  rcases open_int_rows Try.underlying22 Try.underlying32 Try.underlying5 cells32 cells5 hf with ⟨hcs, _⟩ | ⟨a, len', cap', A, L, C, Z, hcs, _, hl, hm, hx, hrows⟩
  · simp [Value.cells] at hcs
    obtain ⟨rfl, rfl, rfl⟩ := hcs
    exact ⟨[], rfl, Nat.le_refl _, ⟨rfl, by decide, fun h => absurd h (by decide)⟩, by simp, by decide⟩
  · simp [Value.cells] at hcs
    obtain ⟨rfl, rfl, rfl⟩ := hcs
    obtain ⟨hx, _⟩ := Prod.mk.inj hx
    subst hx
    have z := sized_slice hsz ht hd Try.underlying22
    rw [bytes32] at z
    simp only [List.length_map, List.length_range] at z
    have hr : reachBytes = 140737488351232 := rfl
    have hlen : ((List.range len).map fun r => (Z r).take (L r)).length = len := by simp
    refine ⟨(List.range len).map fun r => (Z r).take (L r), hlen.symm, by rw [hlen]; exact hl, ⟨rfl, by rw [hlen]; omega, fun hp => ⟨a, rfl, fun j x hj => ?_⟩⟩, fun s hs => ?_, by rw [hlen]; omega⟩
    · have hjl : j < len := by
        have := (List.getElem?_eq_some_iff.1 hj).1
        rw [hlen] at this
        exact this
      rw [List.getElem?_map, List.getElem?_range hjl] at hj
      simp only [Option.map_some, Option.some.injEq] at hj
      obtain ⟨hc0, h1, h2, h3, h4, h5, h6⟩ := hrows j (by omega)
      obtain ⟨hl2, hC⟩ := row_of h1 h2 h3 h5 (fun a' e c hc => (h6 a' e).2 c hc)
      subst hj
      refine ⟨[.slice (A j) ((Z j).take (L j)).length (C j)], rfl, ⟨_, _, rfl, by rw [hl2]; exact h1, hC⟩, fun i u hu => ?_⟩
      obtain rfl : i = 0 := by
        have := (List.getElem?_eq_some_iff.1 hu).1
        simpa using this
      simp only [List.getElem?_cons_zero, Option.some.injEq] at hu
      subst hu
      rw [hl2]
      simpa [Kd.slice] using hc0
    · obtain ⟨r, hr, rfl⟩ := List.mem_map.1 hs
      have hr2 := List.mem_range.1 hr
      obtain ⟨_, _, _, _, h4, _⟩ := hrows r (by omega)
      exact bytes_of_wf fun x hx => h4 x (List.mem_of_mem_take hx)
/-- A text that comes in. -/
theorem open_txt {a0 : Option Addr} {len cap : Nat} (h : DataW.Trod enc Try.prog W base (fun _ => true) held 32 (.slice a0 len cap) d ps)
    (hsz : (DataW.weightsEach Try.prog ts ds).all (· ≤ reachBytes) = true) (ht : ts[j]? = some 32) (hd : ds[j]? = some d) :
    ∃ s : Txt, len = s.length ∧ s.length ≤ cap ∧ Kd.C (Kd.int .u8) W a0 s.length s ∧ Bytes s ∧ s.length ≤ 140737488351232 := by
  obtain ⟨fuel, hf⟩ := h
  rcases open_ints Try.underlying32 Try.underlying5 cells5 hf with ⟨hcs, _⟩ | ⟨x, l, c, zs, hcs, _, hl, hm, hz, hx, hcell, hwz⟩
  · simp [Value.cells] at hcs
    obtain ⟨rfl, rfl, rfl⟩ := hcs
    exact ⟨[], rfl, Nat.le_refl _, ⟨rfl, by decide, fun h => absurd h (by decide)⟩, (by intro x hx; cases hx), by decide⟩
  · simp [Value.cells] at hcs
    obtain ⟨rfl, rfl, rfl⟩ := hcs
    obtain ⟨hx, _⟩ := Prod.mk.inj hx
    subst hx
    have z := sized_slice hsz ht hd Try.underlying32
    rw [bytes5] at z
    have hr : reachBytes = 140737488351232 := rfl
    have hz2 : zs.length = cap := by simpa using hz
    have h1 : (lits (H := H) .u8 (zs.take len)).length + (lits (H := H) .u8 (zs.drop len)).length = zs.length := by
      simp [lits]
      omega
    rw [h1] at z
    obtain ⟨hl2, hC⟩ := row_of (W := W) (A := some x) hl hm hz2 (fun e => by cases e) (fun a' e c hc => by cases e; exact hcell c (by omega))
    exact ⟨zs.take len, hl2.symm, by rw [hl2]; exact hl, hC, bytes_of_wf fun x hx => hwz x (List.mem_of_mem_take hx), by omega⟩
end
end Go.Proofs.Ytifbcboefopioaa.Tri
