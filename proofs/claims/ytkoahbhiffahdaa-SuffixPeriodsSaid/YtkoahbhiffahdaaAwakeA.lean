/- The examples of layer 11 hold: by the kernel's own run. -/
import Derived.Test.YtkoahbhiffahdaaRunsB
namespace Go.Proofs.Ytkoahbhiffahdaa.Runs
open Go.RowKit Go.Proofs.YtkoahbhiffahdaaW.PrintWords Go.Proofs.Ytkoahbhiffahdaa.Kit Go.Proofs.Ytkoahbhiffahdaa.Plain Go.Proofs.Ytkoahbhiffahdaa.All
theorem awake11 : Ev (fun k => seinelaw11_awake.f k) true := Ev.of (fun k => seinelaw11_awake.mono k) (k := 60) (by decide +kernel)
end Go.Proofs.Ytkoahbhiffahdaa.Runs
