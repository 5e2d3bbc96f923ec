/- A row of bytes as a text, as memory grows. No condition. -/
import Derived.Test.YtifbcboefopioaaTriL
set_option linter.unusedVariables false
namespace Go.Proofs.Ytifbcboefopioaa.Tri
open Go.RowKit Go.Proofs.YtifbcboefopioaaW.PrintWords Go.Proofs.YtifbcboefopioaaW.PrintLast Go.Proofs.YtifbcboefopioaaW.PrintMore Go.Proofs.Ytifbcboefopioaa.Kit

/-- A row of bytes as a text, now and as memory grows. -/
theorem row_stays {w : World} {base : Nat} {v : Value} {xs : Txt} (h : Kd.R (Kd.int .u8) 5 w base (fun _ => True) v xs) : ∃ A c, v = .slice A xs.length c ∧ ∀ w1, Below w.heap.size w w1 → (convert 32 9 (.slice A xs.length c)).run Try.prog w1 = .ok (.string (strOfNums xs)) w1 := by
  obtain ⟨A, c, rfl, hc, hC⟩ := Kd.R_reads h
  exact ⟨A, c, rfl, fun w1 hb => text_of (Kd.C_below hC hb)⟩
end Go.Proofs.Ytifbcboefopioaa.Tri
