/- Lemmas for the proof of one law of this seat (Spec9). -/
import Derived.Test.YtjiaplnpgjicgaaZBignatOrderSpec5
import Derived.Test.YtjiaplnpgjicgaaZBignatOrderSpec4
set_option linter.unusedSimpArgs false
set_option linter.unusedVariables false
namespace Go.Proofs.Ytjiaplnpgjicgaa.Spec
open Go.RowKit Go.Proofs.YtjiaplnpgjicgaaW.PrintWords Go.Proofs.YtjiaplnpgjicgaaW.PrintLast Go.Proofs.YtjiaplnpgjicgaaW.PrintMore Go.Proofs.Ytjiaplnpgjicgaa.Q Go.Proofs.Ytjiaplnpgjicgaa.Nums

theorem D_top {y : Int} (h : 0 < y) : 0 < (D y).getD ((D y).length - 1) 0 := by
  have hl := D_length_pos h
  have hc := Cn_el (D_cn y) ((D y).getD ((D y).length - 1) 0) (by rw [List.getLast?_eq_getElem?, List.getD_eq_getElem?_getD, List.getElem?_eq_getElem (by omega)]; rfl)
  have hu := U_getD (D_U y) ((D y).length - 1)
  omega
/-- A number and its top digit. -/
theorem top_bounds {xs : List Int} (hu : U xs) {n : Nat} (hn : xs.length = n + 1) : 4294967296 ^ n * xs.getD n 0 ≤ V xs ∧ V xs < 4294967296 ^ n * (xs.getD n 0 + 1) := by
  have e := V_take_next xs n
  rw [List.take_of_length_le (by omega)] at e
  have h0 := V_nonneg (U_take hu n)
  have h1 := V_lt (U_take hu n)
  rw [List.length_take, Nat.min_eq_left (by omega)] at h1
  rw [Int.mul_add, Int.mul_one]
  omega

theorem bl_shift {t : Int} (ht : 0 < t) : ∀ {n : Nat} {x : Int}, 4294967296 ^ n * t ≤ x → x < 4294967296 ^ n * (t + 1) → bl x = 32 * n + bl t
  | 0, x, h1, h2 => by
    rw [Int.pow_zero, Int.one_mul] at h1 h2
    rw [show x = t by omega]; omega
  | n + 1, x, h1, h2 => by
    rw [pow_succ', Int.mul_assoc] at h1 h2
    have hp : 1 * 1 ≤ 4294967296 ^ n * t := Int.mul_le_mul (pow_pos n) (by omega) (by omega) (Int.le_of_lt (pow_pos n))
    have := bl_shift ht (n := n) (x := x / 4294967296) (by omega) (by omega)
    rw [bl16 (by omega), bl16 (n := x / 65536) (by omega), show x / 65536 / 65536 = x / 4294967296 by omega, this]
    omega
theorem bl_D {x : Int} (h : 0 < x) : bl x = 32 * ((D x).length - 1) + bl ((D x).getD ((D x).length - 1) 0) := by
  have hl := D_length_pos h
  have ht := top_bounds (D_U x) (n := (D x).length - 1) (by omega)
  rw [V_D x (by omega)] at ht
  exact bl_shift (D_top h) ht.1 ht.2
theorem bitLen_ev {a : List Int} (ha : U a) (sa : Big a) : Ev (fun k => bignat_BitLen.f k a) (bl (V a) : Int) := by
  have h1 := V_nonneg ha
  have ba := D_big ha sa
  unfold Big at ba
  simp only [bignat_BitLen.f]
  refine Ev.bind (trim_ev ha sa) ?_
  by_cases h : 0 < V a
  · have hl := D_length_pos h
    have hd := U_getD (D_U (V a)) ((D (V a)).length - 1)
    have e1 : (((D (V a)).length : Int) - 1) = (((D (V a)).length - 1 : Nat) : Int) := by omega
    have hb := bl_top hd.2
    have hbd := bl_D h
    simp (disch := omega) only [if_neg, if_pos, w64, e1, rd_nat, len32_eq hd.1 hd.2, Option.bind_some]
    exact now fun _ => by rw [hbd]; congr 1
  · have h0 : V a = 0 := by omega
    rw [h0, D_zero, bl_zero (by omega)]
    exact now fun _ => rfl
theorem bl_small {a : List Int} (ha : U a) (sa : Big a) : bl (V a) ≤ 562949953421312 := by
  unfold Big at sa
  have : bl (V a) ≤ 32 * a.length := by
    refine bl_le ?_
    have h := V_lt ha
    have e : (2 : Int) ^ (32 * a.length) = 4294967296 ^ a.length := by rw [Int.pow_mul]; rfl
    rw [e]; exact h
  omega
end Go.Proofs.Ytjiaplnpgjicgaa.Spec

