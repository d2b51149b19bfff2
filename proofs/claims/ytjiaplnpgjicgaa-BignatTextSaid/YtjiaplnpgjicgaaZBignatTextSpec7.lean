/- Lemmas for the proof of one law of this seat (Spec7). -/
import Derived.Test.YtjiaplnpgjicgaaZBignatTextSpec5
set_option linter.unusedSimpArgs false
set_option linter.unusedVariables false
namespace Go.Proofs.Ytjiaplnpgjicgaa.Spec
open Go.RowKit Go.Proofs.YtjiaplnpgjicgaaW.PrintWords Go.Proofs.YtjiaplnpgjicgaaW.PrintLast Go.Proofs.YtjiaplnpgjicgaaW.PrintMore Go.Proofs.Ytjiaplnpgjicgaa.Q Go.Proofs.Ytjiaplnpgjicgaa.Nums

theorem V_drop_step {u : List Int} {i : Nat} (h : i < u.length) : V (u.drop i) = u.getD i 0 + 4294967296 * V (u.drop (i + 1)) := by
  rw [List.drop_eq_getElem_cons h, V_cons, List.getD_eq_getElem?_getD, List.getElem?_eq_getElem h]; rfl
theorem ediv_of {r d q : Int} (h0 : 0 ≤ r) (h1 : r < d) : (r + d * q) / d = q ∧ (r + d * q) % d = r := by
  constructor
  · rw [Int.add_mul_ediv_left _ _ (by omega), Int.ediv_eq_zero_of_lt h0 h1, Int.zero_add]
  · rw [Int.add_mul_emod_self_left, Int.emod_eq_of_lt h0 h1]
theorem quot_of {r d q x : Int} (e : x = r + d * q) (h0 : 0 ≤ r) (h1 : r < d) : x / d = q ∧ x % d = r := by rw [e]; exact ediv_of h0 h1

end Go.Proofs.Ytjiaplnpgjicgaa.Spec

