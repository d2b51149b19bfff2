/- Lemmas for the proof of one law of this seat (Spec10). -/
import Derived.Test.YtjiaplnpgjicgaaZBignatArithSpec9
set_option linter.unusedSimpArgs false
set_option linter.unusedVariables false
namespace Go.Proofs.Ytjiaplnpgjicgaa.Spec
open Go.RowKit Go.Proofs.YtjiaplnpgjicgaaW.PrintWords Go.Proofs.YtjiaplnpgjicgaaW.PrintLast Go.Proofs.YtjiaplnpgjicgaaW.PrintMore Go.Proofs.Ytjiaplnpgjicgaa.Q Go.Proofs.Ytjiaplnpgjicgaa.Nums

theorem pow32 (n : Nat) : (2 : Int) ^ (32 * n) = 4294967296 ^ n := by rw [Int.pow_mul]; rfl

theorem nbl_ev : ∀ (x : Int) (c : Int), 0 ≤ x → 0 ≤ c → c + bl x ≤ 9223372036854775807 → Ev (fun k => credenceref1_NatBits.l0 k c x) (c + (bl x : Int)) := by
  intro x c h0 hc hl
  by_cases h : 0 < x
  · rw [bl_pos h] at hl ⊢
    have ih := nbl_ev (x / 2) (c + 1) (by omega) (by omega) (by omega)
    refine suc ?_
    simp (disch := omega) only [credenceref1_NatBits.l0, if_pos, w64]
    rw [show c + ((bl (x / 2) + 1 : Nat) : Int) = c + 1 + (bl (x / 2) : Int) by omega]
    exact ih
  · rw [bl_zero h]
    refine suc ?_
    simp (disch := omega) only [credenceref1_NatBits.l0, if_neg]
    exact now fun _ => by simp
termination_by x => x.toNat
decreasing_by omega
theorem nbits_ev {a : List Int} (ha : U a) (sa : Big a) : Ev (fun k => credenceref1_NatBits.f k a) (bl (V a) : Int) := by
  have h1 := V_nonneg ha
  have ba := D_big ha sa
  unfold Big at ba
  simp only [credenceref1_NatBits.f]
  refine Ev.bind (norm_ev ha sa) ?_
  by_cases h : 0 < V a
  · have hl := D_length_pos h
    have hd := U_getD (D_U (V a)) ((D (V a)).length - 1)
    have e1 : (((D (V a)).length : Int) - 1) = (((D (V a)).length - 1 : Nat) : Int) := by omega
    have hb := bl_top hd.2
    have hbd := bl_D h
    simp (disch := omega) only [if_neg, if_pos, w64, e1, rd_nat]
    have := nbl_ev ((D (V a)).getD ((D (V a)).length - 1) 0) (32 * (((D (V a)).length - 1 : Nat) : Int)) hd.1 (by omega) (by omega)
    rw [show (bl (V a) : Int) = 32 * (((D (V a)).length - 1 : Nat) : Int) + (bl ((D (V a)).getD ((D (V a)).length - 1) 0) : Int) by omega]
    exact this
  · have h0 : V a = 0 := by omega
    rw [h0, D_zero, bl_zero (by omega)]
    exact now fun _ => rfl
end Go.Proofs.Ytjiaplnpgjicgaa.Spec

