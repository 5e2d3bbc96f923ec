/- The plain law of 'OptionsShow': at each of the 128 options. No condition. -/
import Derived.Test.YthahngbimkhdiaaAllx7
namespace Go.Proofs.Ythahngbimkhdiaa.Pure
open Go.RowKit Go.Proofs.Ythahngbimkhdiaa.All Go.Proofs.YthahngbimkhdiaaW.PrintWords Go.Proofs.YthahngbimkhdiaaW.PrintLast
set_option maxRecDepth 100000 in
theorem OptionsShow : ∀ b1 b2 b3 b4 b5 b6 b7 : Bool, seinelaw21_OptionsShow.f 60 b1 b2 b3 b4 b5 b6 b7 = some true := by decide +kernel
end Go.Proofs.Ythahngbimkhdiaa.Pure
