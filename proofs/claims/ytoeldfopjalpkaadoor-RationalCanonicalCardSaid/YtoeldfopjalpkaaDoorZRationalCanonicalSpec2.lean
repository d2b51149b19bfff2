/- Lemmas for the proof of one law of this seat (Spec2). -/
import Derived.Test.YtoeldfopjalpkaaDoorZRationalCanonicalSpec1
set_option linter.unusedSimpArgs false
set_option linter.unusedVariables false
namespace Go.Proofs.YtoeldfopjalpkaaDoor.Spec
open Go.RowKit Go.Proofs.YtoeldfopjalpkaaDoorW.PrintWords Go.Proofs.YtoeldfopjalpkaaDoorW.PrintLast Go.Proofs.YtoeldfopjalpkaaDoorW.PrintMore Go.Proofs.YtoeldfopjalpkaaDoor.Q Go.Proofs.YtoeldfopjalpkaaDoor.Nums

theorem V_take_set {xs : List Int} {i : Nat} (h : i < xs.length) (v : Int) : V ((xs.set i v).take (i + 1)) = V (xs.take i) + 4294967296 ^ i * v := by
  rw [V_take_succ (by simpa using h), List.take_set_of_le (Nat.le_refl _)]
  congr 2
  rw [List.getD_eq_getElem?_getD, List.getElem?_set_self h]
  rfl
theorem carry_step (p s : Int) : p * (s % 4294967296) + 4294967296 * p * (s / 4294967296) = p * s := by
  conv => rhs; rw [← Int.emod_add_mul_ediv s 4294967296]
  rw [Int.mul_add, ← Int.mul_assoc, Int.mul_comm p 4294967296]
/-- The digit i of a list, 0 behind its end, and the value of what is in front of it. -/
theorem V_take_next (xs : List Int) (i : Nat) : V (xs.take (i + 1)) = V (xs.take i) + 4294967296 ^ i * xs.getD i 0 := by
  by_cases h : i < xs.length
  · exact V_take_succ h
  · rw [List.take_of_length_le (by omega), List.take_of_length_le (by omega), List.getD_eq_getElem?_getD, List.getElem?_eq_none (by omega)]
    simp
theorem getD_out {xs : List Int} {i : Nat} (h : xs.length ≤ i) : xs.getD i 0 = 0 := by
  rw [List.getD_eq_getElem?_getD, List.getElem?_eq_none h]; rfl
/-- One step of a sum with carry. -/
theorem add_step {a b o : List Int} {i : Nat} {c s : Int} (hi : i < o.length) (hs : s = c + a.getD i 0 + b.getD i 0) (h : V (o.take i) + 4294967296 ^ i * c = V (a.take i) + V (b.take i)) :
    V ((o.set i (s % 4294967296)).take (i + 1)) + 4294967296 ^ (i + 1) * (s / 4294967296) = V (a.take (i + 1)) + V (b.take (i + 1)) := by
  rw [V_take_set hi, V_take_next a, V_take_next b, pow_succ']
  have := carry_step (4294967296 ^ i) s
  rw [hs, Int.mul_add, Int.mul_add] at this
  rw [hs]
  omega
theorem U_snoc {o : List Int} {v : Int} (h : U o) (h0 : 0 ≤ v) (h1 : v < 4294967296) : U (o ++ [v]) := U_append.2 ⟨h, U_cons.2 ⟨⟨h0, h1⟩, U_nil⟩⟩
end Go.Proofs.YtoeldfopjalpkaaDoor.Spec

