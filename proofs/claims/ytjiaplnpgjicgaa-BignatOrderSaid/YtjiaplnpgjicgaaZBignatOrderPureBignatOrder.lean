/- Lemmas for the proof of one law of this seat (PureBignatOrder). -/
import Derived.Test.YtjiaplnpgjicgaaZBignatOrderSpec10
import Derived.Test.YtjiaplnpgjicgaaZBignatOrderKnown1
set_option linter.unusedSimpArgs false
set_option linter.unusedVariables false
namespace Go.Proofs.Ytjiaplnpgjicgaa.Pure
open Go.RowKit Go.Proofs.YtjiaplnpgjicgaaW.PrintWords Go.Proofs.YtjiaplnpgjicgaaW.PrintLast Go.Proofs.YtjiaplnpgjicgaaW.PrintMore Go.Proofs.Ytjiaplnpgjicgaa.Q Go.Proofs.Ytjiaplnpgjicgaa.Nums Go.Proofs.Ytjiaplnpgjicgaa.Spec
theorem BignatOrder : credencelaw1_BignatOrder.Pure := by
  intro l0 l1 _ _ w0 _ _ w1
  obtain ⟨a, ea, ua, la⟩ := nat_ev w0
  obtain ⟨b, eb, ub, lb⟩ := nat_ev w1
  have xa := Lim.eight ua la
  have xb := Lim.eight ub lb
  have sa := eight la
  have sb := eight lb
  have va := V_nonneg ua
  have vb := V_nonneg ub
  have xab := xa.add xb
  have hbl : bl (V a) ≤ 256 := bl_le (by
    have := xa.2
    rw [← pow32] at this
    exact this)
  have two : Lim 1 2 := by unfold Lim; decide
  have f2 := from_eq (n := 2) (by omega) (by omega)
  have lp : ∀ n : Nat, n ≤ 256 → Lim 9 ((2 : Int) ^ n) := fun n h => ⟨ipow_nn (by omega) n, by
    have h2 := pow2_le (show n ≤ 32 * 8 from h)
    rw [pow32] at h2
    exact Int.lt_of_le_of_lt h2 (by decide)⟩
  have p1 := pow_ev two.U (two.small (by decide)) (e := bl (V a)) (by omega)
  have p2 := pow_ev two.U (two.small (by decide)) (e := bl (V a) - 1) (by omega)
  rw [two.V, powO_small (by rw [bl_two]; omega)] at p1 p2
  have l1 := lp (bl (V a)) hbl
  have l2 := lp (bl (V a) - 1) (by omega)
  have em : mx (wrap64 ((bl (V a) : Int) - 1)) 0 = ((bl (V a) - 1 : Nat) : Int) := by
    rw [w64 (by omega) (by omega)]
    unfold mx
    omega
  have hs := sub_ev xab.U ub (xab.small (by decide)) sb
  rw [xab.V] at hs
  have hs2 : subO (V a + V b) (V b) = (D (V a), true) := by
    unfold subO
    rw [if_neg (by omega), Int.add_sub_cancel]
  rw [hs2] at hs
  have c1 := cmp_ev ua ub sa.big sb.big
  have c2 := cmp_ev ub ua sb.big sa.big
  have hd : ((subO (V a) (V b)).2 == decide (cmpI (V a) (V b) ≥ 0)) = true := by
    unfold subO
    by_cases h : V a < V b
    · rw [if_pos h, cmpI_lt h]; rfl
    · rw [if_neg h, decide_eq_true (show cmpI (V a) (V b) ≥ 0 by have := cmpI_ge h; omega)]; rfl
  have hn : cmpI (V a) (V b) = wrap64 (-cmpI (V b) (V a)) := by
    rcases Int.lt_trichotomy (V a) (V b) with h | h | h
    · rw [cmpI_lt h, cmpI_gt h]; unfold wrap64; omega
    · rw [h, cmpI_eq rfl]; unfold wrap64; omega
    · rw [cmpI_gt h, cmpI_lt h]; unfold wrap64; omega
  have c3 := cmp_ev ua l1.U sa.big (l1.small (by decide)).big
  rw [l1.V, cmpI_lt (bl_lt _)] at c3
  have c4 := cmp_ev ua l2.U sa.big (l2.small (by decide)).big
  rw [l2.V] at c4
  apply Ev.rounds
  simp only [credencelaw1_BignatOrder.f, f2, Option.bind_some]
  refine Ev.bind ea (Ev.bind eb (Ev.bind (sub_ev ua ub sa sb) (Ev.bind (add_ev ua ub sa sb) (Ev.bind hs (Ev.bind (bitLen_ev ua sa.big) ?_)))))
  simp only [em]
  refine Ev.bind p1 (Ev.bind p2 (Ev.bind c1 ?_))
  simp only [hd, if_true]
  refine Ev.bind c1 (Ev.bind c2 ?_)
  simp only [← hn, if_true]
  refine Ev.bind (normalize_ev ua sa.big) (Ev.bind (same_D xa (by decide) rfl) ?_)
  simp only [if_true]
  refine Ev.bind c3 ?_
  simp (disch := omega) only [if_pos]
  by_cases h0 : bl (V a) = 0
  · have e0 : ((bl (V a) : Nat) : Int) = 0 := by omega
    simp only [if_pos e0]
    exact Ev.bind known_ev (now fun _ => rfl)
  · have e0 : ¬ ((bl (V a) : Nat) : Int) = 0 := by omega
    have hp : 0 < V a := by
      rcases Int.lt_or_le 0 (V a) with g | g
      · exact g
      · exact absurd (bl_zero (by omega)) h0
    have hge : ¬ V a < 2 ^ (bl (V a) - 1) := by have := bl_ge hp; omega
    have hc := cmpI_ge hge
    have hc' : cmpI (V a) (2 ^ (bl (V a) - 1)) ≥ 0 := by omega
    simp only [if_neg e0]
    refine Ev.bind c4 ?_
    simp only [if_pos hc']
    exact Ev.bind known_ev (now fun _ => rfl)
end Go.Proofs.Ytjiaplnpgjicgaa.Pure

