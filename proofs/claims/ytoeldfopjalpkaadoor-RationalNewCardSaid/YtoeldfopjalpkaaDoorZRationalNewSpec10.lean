/- Lemmas for the proof of one law of this seat (Spec10). -/
import Derived.Test.YtoeldfopjalpkaaDoorZRationalNewSpec9
set_option linter.unusedSimpArgs false
set_option linter.unusedVariables false
namespace Go.Proofs.YtoeldfopjalpkaaDoor.Spec
open Go.RowKit Go.Proofs.YtoeldfopjalpkaaDoorW.PrintWords Go.Proofs.YtoeldfopjalpkaaDoorW.PrintLast Go.Proofs.YtoeldfopjalpkaaDoorW.PrintMore Go.Proofs.YtoeldfopjalpkaaDoor.Q Go.Proofs.YtoeldfopjalpkaaDoor.Nums

theorem pow32 (n : Nat) : (2 : Int) ^ (32 * n) = 4294967296 ^ n := by rw [Int.pow_mul]; rfl
end Go.Proofs.YtoeldfopjalpkaaDoor.Spec

