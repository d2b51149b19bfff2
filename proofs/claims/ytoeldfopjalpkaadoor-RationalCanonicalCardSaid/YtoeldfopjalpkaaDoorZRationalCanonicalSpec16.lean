/- Lemmas for the proof of one law of this seat (Spec16). -/
import Derived.Test.YtoeldfopjalpkaaDoorZRationalCanonicalSpec15
set_option linter.unusedSimpArgs false
set_option linter.unusedVariables false
namespace Go.Proofs.YtoeldfopjalpkaaDoor.Spec
open Go.RowKit Go.Proofs.YtoeldfopjalpkaaDoorW.PrintWords Go.Proofs.YtoeldfopjalpkaaDoorW.PrintLast Go.Proofs.YtoeldfopjalpkaaDoorW.PrintMore Go.Proofs.YtoeldfopjalpkaaDoor.Q Go.Proofs.YtoeldfopjalpkaaDoor.Nums

theorem odd_at {x : Nat} (h : 0 < x) : Go.bits .and .u32 (rd (D (x : Int)) 0) 1 = ((x % 2 : Nat) : Int) := by
  rw [D_pos (show (0 : Int) < x by omega)]
  rw [show rd ((x : Int) % 4294967296 :: D ((x : Int) / 4294967296)) 0 = (x : Int) % 4294967296 from rfl, and1u (by omega) (by omega)]
  omega
theorem pos_at {x : Nat} (h : 0 < x) : 0 < ((D (x : Int)).length : Int) := by
  have := D_length_pos (n := (x : Int)) (by omega); omega
theorem len_le {x y : Nat} (h : x ≤ y) (sy : (D (y : Int)).length ≤ 1048576) : (D (x : Int)).length ≤ 1048576 := by
  have := D_len_mono' (n := (x : Int)) (m := (y : Int)) (by omega) (by omega); omega
end Go.Proofs.YtoeldfopjalpkaaDoor.Spec

