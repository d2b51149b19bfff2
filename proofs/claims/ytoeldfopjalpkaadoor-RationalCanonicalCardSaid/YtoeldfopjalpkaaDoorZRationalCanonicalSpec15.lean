/- Lemmas for the proof of one law of this seat (Spec15). -/
import Derived.Test.YtoeldfopjalpkaaDoorZRationalCanonicalSpec13
import Derived.Test.YtoeldfopjalpkaaDoorZRationalCanonicalSpec9
set_option linter.unusedSimpArgs false
set_option linter.unusedVariables false
namespace Go.Proofs.YtoeldfopjalpkaaDoor.Spec
open Go.RowKit Go.Proofs.YtoeldfopjalpkaaDoorW.PrintWords Go.Proofs.YtoeldfopjalpkaaDoorW.PrintLast Go.Proofs.YtoeldfopjalpkaaDoorW.PrintMore Go.Proofs.YtoeldfopjalpkaaDoor.Q Go.Proofs.YtoeldfopjalpkaaDoor.Nums

theorem V_at {xs : List Int} (h : U xs) {j : Nat} (hj : j < xs.length) : xs.getD j 0 = V xs / 4294967296 ^ j % 4294967296 := by
  have h1 := V_split xs j (by omega)
  have h2 := V_drop_step hj
  have h3 := V_nonneg (U_take h j)
  have h4 := V_lt (U_take h j)
  rw [List.length_take, Nat.min_eq_left (by omega)] at h4
  have hd := U_getD h j
  have e : V xs / 4294967296 ^ j = V (xs.drop j) := by
    rw [h1, Int.add_mul_ediv_left _ _ (by have := pow_pos j; omega), Int.ediv_eq_zero_of_lt h3 h4, Int.zero_add]
  rw [e]
  omega
theorem and1u {x : Int} (h0 : 0 ≤ x) (h1 : x < 4294967296) : Go.bits .and .u32 x 1 = x % 2 := by
  have := bits_mask .u32 32 (by decide) wraps_u32 1 (by decide) x h0 (by omega)
  simpa using this
end Go.Proofs.YtoeldfopjalpkaaDoor.Spec

