/- Lemmas for the proof of one law of this seat (Spec9). -/
import Derived.Test.YtjiaplnpgjicgaaZBignatTextSpec7
import Derived.Test.YtjiaplnpgjicgaaZBignatTextSpec4
set_option linter.unusedSimpArgs false
set_option linter.unusedVariables false
namespace Go.Proofs.Ytjiaplnpgjicgaa.Spec
open Go.RowKit Go.Proofs.YtjiaplnpgjicgaaW.PrintWords Go.Proofs.YtjiaplnpgjicgaaW.PrintLast Go.Proofs.YtjiaplnpgjicgaaW.PrintMore Go.Proofs.Ytjiaplnpgjicgaa.Q Go.Proofs.Ytjiaplnpgjicgaa.Nums

theorem ds_l {a : List Int} (ha : U a) (sa : Big a) (y : Int) (y0 : 0 < y) (y1 : y < 4294967296) : ∀ (i : Nat) (o : List Int) (c : Int), i ≤ a.length → o.length = a.length → U o → 0 ≤ c → c < y → V (a.drop i) = c + y * V (o.drop i) →
    Ev (fun k => bignat_divSmall.l0 k a y o c ((i : Int) - 1)) (D (V a / y), V a % y) := by
  unfold Big at sa
  intro i
  induction i with
  | zero =>
    intro o c hi ho uo c0 c1 h
    rw [List.drop_zero, List.drop_zero] at h
    obtain ⟨h1, h2⟩ := quot_of h c0 c1
    rw [h1, h2]
    refine suc ?_
    have ec : c % 4294967296 = c := by omega
    simp (disch := omega) only [bignat_divSmall.l0, if_neg, ec]
    exact Ev.bind (trim_ev uo (by unfold Big; omega)) (now fun _ => rfl)
  | succ i ih =>
    intro o c hi ho uo c0 c1 h
    have da := U_getD ha i
    have e1 : (((i + 1 : Nat) : Int) - 1) = (i : Int) := by omega
    have eo := or_hi (x := c) (y := a.getD i 0) c0 (by omega) da.1 da.2
    have hX0 : 0 ≤ c * 4294967296 + a.getD i 0 := by omega
    have hX1 : c * 4294967296 + a.getD i 0 < 4294967296 * y := by omega
    have hd : (c * 4294967296 + a.getD i 0) / y < 4294967296 := Int.ediv_lt_of_lt_mul y0 hX1
    have hd0 : 0 ≤ (c * 4294967296 + a.getD i 0) / y := Int.ediv_nonneg hX0 (by omega)
    have hdm := Int.emod_add_mul_ediv (c * 4294967296 + a.getD i 0) y
    have hm0 := Int.emod_nonneg (c * 4294967296 + a.getD i 0) (show y ≠ 0 by omega)
    have hm1 := Int.emod_lt_of_pos (c * 4294967296 + a.getD i 0) y0
    have etd : Int.tdiv (c * 4294967296 + a.getD i 0) y = (c * 4294967296 + a.getD i 0) / y := Int.tdiv_eq_ediv_of_nonneg hX0
    have etm : Int.tmod (c * 4294967296 + a.getD i 0) y = (c * 4294967296 + a.getD i 0) % y := Int.tmod_eq_emod_of_nonneg hX0
    have emm : (c * 4294967296 + a.getD i 0) / y % 4294967296 = (c * 4294967296 + a.getD i 0) / y := by omega
    refine suc ?_
    simp (disch := omega) only [bignat_divSmall.l0, if_neg, if_pos, e1, rd_nat, u64w, eo, etd, etm, Int.toNat_natCast, w64, emm]
    refine ih _ _ (by omega) (by rw [List.length_set]; exact ho) (U_set uo i hd0 hd) hm0 hm1 ?_
    rw [V_drop_step (show i < a.length by omega), V_drop_step (show i < (o.set i _).length by rw [List.length_set]; omega), getD_set_self (by omega), List.drop_set_of_lt (by omega), h,
      show y * ((c * 4294967296 + a.getD i 0) / y + 4294967296 * V (o.drop (i + 1))) = y * ((c * 4294967296 + a.getD i 0) / y) + y * (4294967296 * V (o.drop (i + 1))) from Int.mul_add _ _ _]
    have : y * (4294967296 * V (o.drop (i + 1))) = 4294967296 * (y * V (o.drop (i + 1))) := Int.mul_left_comm _ _ _
    omega
theorem divSmall_ev {a : List Int} (ha : U a) (sa : Big a) {y : Int} (y0 : 0 < y) (y1 : y < 4294967296) : Ev (fun k => bignat_divSmall.f k a y) (D (V a / y), V a % y) := by
  have hs := sa
  unfold Big at hs
  simp only [bignat_divSmall.f]
  simp (disch := omega) only [if_pos, w64, Int.toNat_natCast]
  exact ds_l ha sa y y0 y1 a.length _ 0 (Nat.le_refl _) (by simp) (U_replicate _) (by omega) y0 (by rw [List.drop_of_length_le (Nat.le_refl _), List.drop_of_length_le (by simp), V_nil]; simp)

end Go.Proofs.Ytjiaplnpgjicgaa.Spec

