/- Lemmas for the proof of one law of this seat (PureBignatArith). -/
import Derived.Test.YtjiaplnpgjicgaaZBignatArithSpec16
import Derived.Test.YtjiaplnpgjicgaaZBignatArithKnown1
import Derived.Test.YtjiaplnpgjicgaaZBignatArithQx20
set_option linter.unusedSimpArgs false
set_option linter.unusedVariables false
namespace Go.Proofs.Ytjiaplnpgjicgaa.Pure
open Go.RowKit Go.Proofs.YtjiaplnpgjicgaaW.PrintWords Go.Proofs.YtjiaplnpgjicgaaW.PrintLast Go.Proofs.YtjiaplnpgjicgaaW.PrintMore Go.Proofs.Ytjiaplnpgjicgaa.Q Go.Proofs.Ytjiaplnpgjicgaa.Nums Go.Proofs.Ytjiaplnpgjicgaa.Spec
theorem BignatArith : credencelaw1_BignatArith.Pure := by
  intro l0 l1 n _ _ w0 _ _ w1 wn
  simp [Lit.wf, IntKind.min, IntKind.max, IntKind.bits, IntKind.signed] at wn
  obtain ⟨a, ea, ua, la⟩ := nat_ev w0
  obtain ⟨b, eb, ub, lb⟩ := nat_ev w1
  have xa := Lim.eight ua la
  have xb := Lim.eight ub lb
  have sa := eight la
  have sb := eight lb
  have va := V_nonneg ua
  have vb := V_nonneg ub
  obtain ⟨x, hx⟩ := Int.eq_ofNat_of_zero_le va
  obtain ⟨y, hy⟩ := Int.eq_ofNat_of_zero_le vb
  have bd : ∀ {j : Nat} {z : Int}, Lim j z → j ≤ 16 → Big (D z) := fun h hj => (h.small (by omega)).big
  have b0 : Big ([] : List Int) := by unfold Big; simp
  have ln : Lim 2 n := ⟨by omega, by
    have : (4294967296 : Int) ^ 2 = 18446744073709551616 := by decide
    omega⟩
  have b1 := bd ln (by omega)
  have b2 := bd xa (by omega)
  have b3 := bd (xa.add xb) (by omega)
  have b4 := bd (xa.mul xb) (by omega)
  have b5 : Big (subO (V a) (V b)).1 := by
    unfold subO
    by_cases h : V a < V b
    · rw [if_pos h]; exact b0
    · rw [if_neg h]
      exact bd (j := 8) ⟨by omega, by have := xa.2; omega⟩ (by omega)
  have b67 : Big (divO (V a) (V b)).1 ∧ Big (divO (V a) (V b)).2.1 := by
    unfold divO
    by_cases h : 0 < V b
    · rw [if_pos h]
      have h1 : V a / V b ≤ V a := Int.ediv_le_self _ va
      have h2 : 0 ≤ V a / V b := Int.ediv_nonneg va vb
      have h3 := Int.emod_nonneg (V a) (show V b ≠ 0 by omega)
      have h4 := Int.emod_lt_of_pos (V a) h
      exact ⟨bd (j := 8) ⟨h2, by have := xa.2; omega⟩ (by omega), bd (j := 8) ⟨h3, by have := xb.2; omega⟩ (by omega)⟩
    · rw [if_neg h]; exact ⟨b0, b0⟩
  have b8 : Big (D (Nat.gcd x y : Nat)) := by
    by_cases h : x = 0
    · subst h
      rw [Nat.gcd_zero_left, ← hy]
      exact bd xb (by omega)
    · have h1 := Nat.gcd_le_left y (show 0 < x by omega)
      exact bd (j := 8) ⟨by omega, by have := xa.2; omega⟩ (by omega)
  have hf := from_eq (n := n) (by omega) (by omega)
  have sa' : a.length ≤ 1048576 := by omega
  have sb' : b.length ≤ 1048576 := by omega
  apply Ev.rounds
  simp only [credencelaw1_BignatArith.f, hf, Option.bind_some]
  refine Ev.bind ea (Ev.bind eb (Ev.bind (uint64_all ua sa.big) (Ev.bind (nuint64_ev ua sa.big) (Ev.bind (sub_ev ua ub sa sb) (Ev.bind (nsub_ev ua ub sa sb) (Ev.bind (divMod_ev ua ub sa' sb.big) (Ev.bind (natDivMod_ev ua ub sa' sb') ?_)))))))
  refine Ev.bind (natOf_ev (n := n) (by omega) (by omega)) (Ev.bind (same_ev _ b1) ?_)
  simp only [if_true]
  refine Ev.bind (normalize_ev ua sa.big) (Ev.bind (norm_ev ua sa.big) (Ev.bind (same_ev _ b2) ?_))
  simp only [if_true, BEq.rfl]
  refine Ev.bind (bitLen_ev ua sa.big) (Ev.bind (nbits_ev ua sa.big) ?_)
  simp only [if_true]
  refine Ev.bind (cmp_ev ua ub sa.big sb.big) (Ev.bind (ncmp_ev ua ub sa.big sb.big) ?_)
  simp only [if_true]
  refine Ev.bind (add_ev ua ub sa sb) (Ev.bind (nadd_ev ua ub sa sb) (Ev.bind (same_ev _ b3) ?_))
  simp only [if_true]
  refine Ev.bind (same_ev _ b5) ?_
  simp only [if_true]
  refine Ev.bind (mul_ev ua ub sa sb) (Ev.bind (nmul_ev ua ub sa sb) (Ev.bind (same_ev _ b4) ?_))
  simp only [if_true]
  refine Ev.bind (same_ev _ b67.1) ?_
  simp only [if_true]
  refine Ev.bind (same_ev _ b67.2) ?_
  simp only [if_true]
  refine Ev.bind (gcd_ev ua ub sa' sb' hx hy) (Ev.bind (natGCD_ev ua ub sa' sb' hx hy) (Ev.bind (same_ev _ b8) ?_))
  simp only [if_true]
  exact Ev.bind known_ev (now fun _ => rfl)
end Go.Proofs.Ytjiaplnpgjicgaa.Pure

