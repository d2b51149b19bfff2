/- Lemmas for the proof of one law of this seat (Spec2). -/
import Derived.Test.YtjiaplnpgjicgaaZBignatLimitsSpec1
set_option linter.unusedSimpArgs false
set_option linter.unusedVariables false
namespace Go.Proofs.Ytjiaplnpgjicgaa.Spec
open Go.RowKit Go.Proofs.YtjiaplnpgjicgaaW.PrintWords Go.Proofs.YtjiaplnpgjicgaaW.PrintLast Go.Proofs.YtjiaplnpgjicgaaW.PrintMore Go.Proofs.Ytjiaplnpgjicgaa.Q Go.Proofs.Ytjiaplnpgjicgaa.Nums

theorem carry_step (p s : Int) : p * (s % 4294967296) + 4294967296 * p * (s / 4294967296) = p * s := by
  conv => rhs; rw [← Int.emod_add_mul_ediv s 4294967296]
  rw [Int.mul_add, ← Int.mul_assoc, Int.mul_comm p 4294967296]
/-- The digit i of a list, 0 behind its end, and the value of what is in front of it. -/
theorem V_take_next (xs : List Int) (i : Nat) : V (xs.take (i + 1)) = V (xs.take i) + 4294967296 ^ i * xs.getD i 0 := by
  by_cases h : i < xs.length
  · exact V_take_succ h
  · rw [List.take_of_length_le (by omega), List.take_of_length_le (by omega), List.getD_eq_getElem?_getD, List.getElem?_eq_none (by omega)]
    simp

end Go.Proofs.Ytjiaplnpgjicgaa.Spec

