/- Lemmas for the proof of one law of this seat (Known2). -/
import Derived.Test.YtoeldfopjalpkaaDoorZRationalTextSpec4
set_option linter.unusedSimpArgs false
set_option linter.unusedVariables false
namespace Go.Proofs.YtoeldfopjalpkaaDoor.Spec
open Go.RowKit Go.Proofs.YtoeldfopjalpkaaDoorW.PrintWords Go.Proofs.YtoeldfopjalpkaaDoorW.PrintLast Go.Proofs.YtoeldfopjalpkaaDoorW.PrintMore Go.Proofs.YtoeldfopjalpkaaDoor.Q Go.Proofs.YtoeldfopjalpkaaDoor.Nums
set_option maxRecDepth 100000 in
theorem known_400 : credencelaw2_known.f 400 = some true := by decide +kernel
theorem known_ev : Ev (fun k => credencelaw2_known.f k) true := Ev.of (fun k => credencelaw2_known.mono k) known_400
end Go.Proofs.YtoeldfopjalpkaaDoor.Spec

