/- Options that come in, as seven bools. No condition. -/
import Derived.Test.YthahngbimkhdiaaProg
import Derived.ChangeSame
import Derived.Deep.Fields
import Derived.WalkKit
import Derived.ProofKit
import Derived.OpenShut
namespace Go.Proofs.Ythahngbimkhdiaa.Open
open Go.ChangeShapes Go.WideShapes Go.ChangeAt Go.RowKit Go.Deep

theorem one24 : oneCellFields Try.prog #[{ name := "I", type := 4, offset := 0, embedded := false, tag := "", pkgPath := "", byteOffset := 0 }, { name := "W", type := 4, offset := 1, embedded := false, tag := "", pkgPath := "", byteOffset := 1 }, { name := "X", type := 4, offset := 2, embedded := false, tag := "", pkgPath := "", byteOffset := 2 }, { name := "O", type := 4, offset := 3, embedded := false, tag := "", pkgPath := "", byteOffset := 3 }, { name := "B", type := 4, offset := 4, embedded := false, tag := "", pkgPath := "", byteOffset := 4 }, { name := "V", type := 4, offset := 5, embedded := false, tag := "", pkgPath := "", byteOffset := 5 }, { name := "C", type := 4, offset := 6, embedded := false, tag := "", pkgPath := "", byteOffset := 6 }] = true := by kernel_rfl
theorem open_opts {H : Type} {enc : TypeId × Value → H} {w : World} {base : Nat} {spare : Nat → Bool} {held : Bool} {r : Reach} {b0 : Nat} {v : Value} {d : DataW H} {p : List MemPlace} (hv : Value.okWide Try.prog w r b0 24 v) (h : DataW.Trod enc Try.prog w base spare held 24 v d p) :
    ∃ b1 b2 b3 b4 b5 b6 b7 : Bool, v = .agg #[.bool b1, .bool b2, .bool b3, .bool b4, .bool b5, .bool b6, .bool b7] := by
  obtain ⟨cs, rfl, hsz⟩ := okWide_struct Try.underlying24 hv
  have hC : Try.prog.cellsOf 24 = 7 := by kernel_rfl
  obtain ⟨l⟩ := cs
  match l, hsz.trans hC with
  | [c0, c1, c2, c3, c4, c5, c6], _ =>
    obtain ⟨fuel, hf⟩ := h
    obtain ⟨xs, n, _, _, _, hlen, hg⟩ := DataW.trod_struct Try.underlying24 hf
    obtain ⟨y0, y1, y2, y3, y4, y5, y6, rfl⟩ : ∃ y0 y1 y2 y3 y4 y5 y6, xs = [y0, y1, y2, y3, y4, y5, y6] := by
      match xs, hlen with
      | [y0, y1, y2, y3, y4, y5, y6], _ => exact ⟨_, _, _, _, _, _, _, rfl⟩
    obtain ⟨o0, k0⟩ := hone_of one24 0 _ rfl
    obtain ⟨o1, k1⟩ := hone_of one24 1 _ rfl
    obtain ⟨o2, k2⟩ := hone_of one24 2 _ rfl
    obtain ⟨o3, k3⟩ := hone_of one24 3 _ rfl
    obtain ⟨o4, k4⟩ := hone_of one24 4 _ rfl
    obtain ⟨o5, k5⟩ := hone_of one24 5 _ rfl
    obtain ⟨o6, k6⟩ := hone_of one24 6 _ rfl
    have g0 := hg 0 _ rfl
    have g1 := hg 1 _ rfl
    have g2 := hg 2 _ rfl
    have g3 := hg 3 _ rfl
    have g4 := hg 4 _ rfl
    have g5 := hg 5 _ rfl
    have g6 := hg 6 _ rfl
    simp only [o0, o1, o2, o3, o4, o5, o6, k0, k1, k2, k3, k4, k5, k6] at g0 g1 g2 g3 g4 g5 g6
    obtain ⟨b0, e0, _⟩ := DataW.trod_bool Try.underlying4 (show DataW.trod enc Try.prog w base spare held n 4 [c0] = some y0 by first | exact g0 | simpa [Value.cells] using g0)
    obtain ⟨b1, e1, _⟩ := DataW.trod_bool Try.underlying4 (show DataW.trod enc Try.prog w base spare held n 4 [c1] = some y1 by first | exact g1 | simpa [Value.cells] using g1)
    obtain ⟨b2, e2, _⟩ := DataW.trod_bool Try.underlying4 (show DataW.trod enc Try.prog w base spare held n 4 [c2] = some y2 by first | exact g2 | simpa [Value.cells] using g2)
    obtain ⟨b3, e3, _⟩ := DataW.trod_bool Try.underlying4 (show DataW.trod enc Try.prog w base spare held n 4 [c3] = some y3 by first | exact g3 | simpa [Value.cells] using g3)
    obtain ⟨b4, e4, _⟩ := DataW.trod_bool Try.underlying4 (show DataW.trod enc Try.prog w base spare held n 4 [c4] = some y4 by first | exact g4 | simpa [Value.cells] using g4)
    obtain ⟨b5, e5, _⟩ := DataW.trod_bool Try.underlying4 (show DataW.trod enc Try.prog w base spare held n 4 [c5] = some y5 by first | exact g5 | simpa [Value.cells] using g5)
    obtain ⟨b6, e6, _⟩ := DataW.trod_bool Try.underlying4 (show DataW.trod enc Try.prog w base spare held n 4 [c6] = some y6 by first | exact g6 | simpa [Value.cells] using g6)
    simp only [List.cons.injEq, and_true] at e0 e1 e2 e3 e4 e5 e6
    subst e0 e1 e2 e3 e4 e5 e6
    exact ⟨_, _, _, _, _, _, _, rfl⟩
end Go.Proofs.Ythahngbimkhdiaa.Open
