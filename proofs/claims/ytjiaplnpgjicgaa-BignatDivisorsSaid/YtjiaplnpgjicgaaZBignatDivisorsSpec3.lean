/- Lemmas for the proof of one law of this seat (Spec3). -/
import Derived.Test.YtjiaplnpgjicgaaZBignatDivisorsSpec2
set_option linter.unusedSimpArgs false
set_option linter.unusedVariables false
namespace Go.Proofs.Ytjiaplnpgjicgaa.Spec
open Go.RowKit Go.Proofs.YtjiaplnpgjicgaaW.PrintWords Go.Proofs.YtjiaplnpgjicgaaW.PrintLast Go.Proofs.YtjiaplnpgjicgaaW.PrintMore Go.Proofs.Ytjiaplnpgjicgaa.Q Go.Proofs.Ytjiaplnpgjicgaa.Nums

theorem cmpI_ge {x y : Int} (h : ¬ x < y) : ¬ cmpI x y < 0 := by unfold cmpI; rw [if_neg h]; split <;> omega
theorem D_len_mono {n m : Int} (h0 : 0 ≤ n) (h : n ≤ m) : (D n).length ≤ (D m).length := by
  by_cases hl : (D m).length < (D n).length
  · have := D_mono h0 hl
    omega
  · omega

theorem getD_set {xs : List Int} {i j : Nat} (h : i ≠ j) (v : Int) : (xs.set i v).getD j 0 = xs.getD j 0 := by
  rw [List.getD_eq_getElem?_getD, List.getElem?_set_ne h, ← List.getD_eq_getElem?_getD]

theorem mul_bound {x y : Int} (hx0 : 0 ≤ x) (hx : x < 4294967296) (hy0 : 0 ≤ y) (hy : y < 4294967296) : 0 ≤ x * y ∧ x * y ≤ 18446744065119617025 := by
  constructor
  · exact Int.mul_nonneg hx0 hy0
  · have : x * y ≤ 4294967295 * 4294967295 := Int.mul_le_mul (by omega) (by omega) hy0 (by omega)
    omega
theorem mul_step {o b : List Int} {i k : Nat} {c s x T : Int} (hi : i + k < o.length) (hs : s = c + o.getD (i + k) 0 + x * b.getD k 0) (h : V o + 4294967296 ^ (i + k) * c = T + 4294967296 ^ i * (x * V (b.take k))) :
    V (o.set (i + k) (s % 4294967296)) + 4294967296 ^ (i + (k + 1)) * (s / 4294967296) = T + 4294967296 ^ i * (x * V (b.take (k + 1))) := by
  rw [V_set hi, V_take_next b, ← Nat.add_assoc, pow_succ', Int.mul_sub]
  have := carry_step (4294967296 ^ (i + k)) s
  rw [hs, Int.mul_add, Int.mul_add] at this
  rw [hs]
  have e : (4294967296 : Int) ^ i * (x * (V (b.take k) + 4294967296 ^ k * b.getD k 0)) = 4294967296 ^ i * (x * V (b.take k)) + 4294967296 ^ (i + k) * (x * b.getD k 0) := by
    rw [Int.mul_add, Int.mul_add, Int.pow_add, Int.mul_assoc, ← Int.mul_assoc x, Int.mul_comm x (4294967296 ^ k), Int.mul_assoc]
  rw [e]
  omega
theorem mul_last {o b : List Int} {i : Nat} {c x T : Int} (hi : i + b.length < o.length) (hz : o.getD (i + b.length) 0 = 0) (h : V o + 4294967296 ^ (i + b.length) * c = T + 4294967296 ^ i * (x * V (b.take b.length))) : V (o.set (i + b.length) c) = T + 4294967296 ^ i * (x * V b) := by
  rw [List.take_of_length_le (Nat.le_refl _)] at h
  rw [V_set hi, hz, ← h, Int.sub_zero]
theorem getD_set_self {xs : List Int} {i : Nat} (h : i < xs.length) (v : Int) : (xs.set i v).getD i 0 = v := by
  rw [List.getD_eq_getElem?_getD, List.getElem?_set_self h]; rfl
theorem getD_replicate (n j : Nat) : (List.replicate n (0 : Int)).getD j 0 = 0 := by
  rw [List.getD_eq_getElem?_getD, List.getElem?_replicate]
  split <;> rfl
end Go.Proofs.Ytjiaplnpgjicgaa.Spec

