/- Lemmas for the proof of one law of this seat (PureBignatDivision). -/
import Derived.Test.YtjiaplnpgjicgaaZBignatDivisionSpec9
import Derived.Test.YtjiaplnpgjicgaaZBignatDivisionKnown1
set_option linter.unusedSimpArgs false
set_option linter.unusedVariables false
namespace Go.Proofs.Ytjiaplnpgjicgaa.Pure
open Go.RowKit Go.Proofs.YtjiaplnpgjicgaaW.PrintWords Go.Proofs.YtjiaplnpgjicgaaW.PrintLast Go.Proofs.Ytjiaplnpgjicgaa.Q Go.Proofs.Ytjiaplnpgjicgaa.Nums Go.Proofs.Ytjiaplnpgjicgaa.Spec
theorem BignatDivision : credencelaw1_BignatDivision.Pure := by
  intro l0 l1 _ _ w0 _ _ w1
  obtain ⟨a, ea, ua, la⟩ := nat_ev w0
  obtain ⟨b, eb, ub, lb⟩ := nat_ev w1
  have xa := Lim.eight ua la
  have xb := Lim.eight ub lb
  have sa := eight la
  have sb := eight lb
  have ga : Big a := sa.big
  have gb : Big b := sb.big
  have va := V_nonneg ua
  have vb := V_nonneg ub
  apply Ev.rounds
  simp only [credencelaw1_BignatDivision.f]
  refine Ev.bind ea (Ev.bind eb (Ev.bind (divMod_ev ua ub (by omega) gb) (Ev.bind (bitLen_ev ub gb) ?_)))
  by_cases h : 0 < V b
  · have hb1 : 1 ≤ bl (V b) := by
      have := bl_lt (V b)
      rcases Nat.eq_zero_or_pos (bl (V b)) with e | e
      · rw [e, Int.pow_zero] at this; omega
      · exact e
    have xab := xa.mul xb
    have hr0 := Int.emod_nonneg (V a) (show V b ≠ 0 by omega)
    have hr1 := Int.emod_lt_of_pos (V a) h
    have hq0 : 0 ≤ V a / V b := Int.ediv_nonneg va vb
    have hq1 : V a / V b ≤ V a := Int.ediv_le_self _ va
    have xq : Lim 8 (V a / V b) := ⟨hq0, Int.lt_of_le_of_lt hq1 xa.2⟩
    have xr : Lim 8 (V a % V b) := ⟨hr0, Int.lt_trans hr1 xb.2⟩
    have hdm := Int.mul_ediv_add_emod (V a) (V b)
    have d1 : divO (V a) (V b) = (D (V a / V b), D (V a % V b), true) := if_pos h
    have d2 : divO (V (D (V a * V b))) (V b) = (D (V a), [], true) := by
      rw [xab.V]
      unfold divO
      rw [if_pos h, Int.mul_ediv_cancel _ (by omega), Int.mul_emod_left, D_zero]
    simp (disch := omega) only [if_neg]
    refine Ev.bind (mul_ev ua ub sa sb) (Ev.bind (divMod_ev xab.U ub (D_len_le (Int.lt_of_lt_of_le xab.2 (pow_le (by decide)))) gb) ?_)
    rw [d1, d2]
    simp only [if_true]
    refine Ev.bind (cmp_ev xr.U ub (xr.small (by decide)).big gb) ?_
    rw [xr.V, cmpI_lt hr1]
    simp (disch := omega) only [if_pos]
    refine Ev.bind (mul_ev xq.U ub (xq.small (by decide)) sb) ?_
    rw [xq.V]
    refine Ev.bind (add_D (xq.mul xb) xr (by decide) (by decide)) (Ev.bind (normalize_ev ua ga) ?_)
    refine Ev.bind (same_D (k := 17) (((xq.mul xb).add (xr.mono (by decide)))) (by decide) (by rw [Int.mul_comm]; exact hdm)) ?_
    simp only [if_true]
    refine Ev.bind (normalize_ev ua ga) (Ev.bind (same_D xa (by decide) rfl) ?_)
    simp only [if_true, List.length_nil]
    exact Ev.bind known_ev (now fun _ => rfl)
  · have h0 : V b = 0 := by omega
    have d1 : divO (V a) (V b) = ([], [], false) := if_neg h
    rw [d1, h0, bl_zero (by omega)]
    exact Ev.bind known_ev (now fun _ => rfl)
end Go.Proofs.Ytjiaplnpgjicgaa.Pure

