/- Lemmas for the proof of one law of this seat (Known1). -/
import Derived.Test.YtjiaplnpgjicgaaZBignatArithSpec1
set_option linter.unusedSimpArgs false
set_option linter.unusedVariables false
namespace Go.Proofs.Ytjiaplnpgjicgaa.Spec
open Go.RowKit Go.Proofs.YtjiaplnpgjicgaaW.PrintWords Go.Proofs.YtjiaplnpgjicgaaW.PrintLast Go.Proofs.YtjiaplnpgjicgaaW.PrintMore Go.Proofs.Ytjiaplnpgjicgaa.Q Go.Proofs.Ytjiaplnpgjicgaa.Nums
set_option maxRecDepth 100000 in
theorem known_400 : credencelaw1_known.f 400 = some true := by decide +kernel
theorem known_ev : Ev (fun k => credencelaw1_known.f k) true := Ev.of (fun k => credencelaw1_known.mono k) known_400
end Go.Proofs.Ytjiaplnpgjicgaa.Spec

