/- Lemmas for the proof of one law of this seat (PureRationalField). -/
import Derived.Test.YtoeldfopjalpkaaDoorZRationalFieldFRat2
import Derived.Test.YtoeldfopjalpkaaDoorZRationalFieldKnown2
set_option linter.unusedSimpArgs false
set_option linter.unusedVariables false
namespace Go.Proofs.YtoeldfopjalpkaaDoor.Pure
open Go.RowKit Go.Proofs.YtoeldfopjalpkaaDoorW.PrintWords Go.Proofs.YtoeldfopjalpkaaDoorW.PrintLast Go.Proofs.YtoeldfopjalpkaaDoorW.PrintMore Go.Proofs.YtoeldfopjalpkaaDoor.Q Go.Proofs.YtoeldfopjalpkaaDoor.Nums Go.Proofs.YtoeldfopjalpkaaDoor.Spec
theorem RationalField : credencelaw2_RationalField.Pure := by
  intro x y z _ _ _
  apply Ev.rounds
  have sa := fq_sz x
  have sb := fq_sz y
  have sc := fq_sz z
  have ea := fq_ev x
  have eb := fq_ev y
  have ec := fq_ev z
  generalize fq x = a at *
  generalize fq y = b at *
  generalize fq z = c at *
  have J : Ev (fun k => credencelaw2_RationalField.j0 k 0 true (C a).1 (C a).2.1 (C a).2.2 (C b).1 (C b).2.1 (C b).2.2 (C c).1 (C c).2.1 (C c).2.2) true := by
    refine suc ?_
    simp only [credencelaw2_RationalField.j0, if_true]
    refine Ev.bind (addC_ev sa sb (by omega)) (Ev.bind (addC_ev sb sa (by omega)) (Ev.bind (sameC_ev (Rat.add_comm a b) (sa.add sb) (by omega)) ?_))
    simp only [if_true]
    refine Ev.bind (mulC_ev sa sb (by omega)) (Ev.bind (mulC_ev sb sa (by omega)) (Ev.bind (sameC_ev (Rat.mul_comm a b) (sa.mul sb (by omega)) (by omega)) ?_))
    simp only [if_true]
    refine Ev.bind (addC_ev sa sb (by omega)) (Ev.bind (addC_ev (sa.add sb) sc (by omega)) (Ev.bind (addC_ev sb sc (by omega)) (Ev.bind (addC_ev sa (sb.add sc) (by omega)) (Ev.bind (sameC_ev (Rat.add_assoc a b c) ((sa.add sb).add sc) (by omega)) ?_))))
    simp only [if_true]
    refine Ev.bind (mulC_ev sa sb (by omega)) (Ev.bind (mulC_ev (sa.mul sb (by omega)) sc (by omega)) (Ev.bind (mulC_ev sb sc (by omega)) (Ev.bind (mulC_ev sa (sb.mul sc (by omega)) (by omega)) (Ev.bind (sameC_ev (Rat.mul_assoc a b c) ((sa.mul sb (by omega)).mul sc (by omega)) (by omega)) ?_))))
    simp only [if_true]
    refine Ev.bind (addC_ev sb sc (by omega)) (Ev.bind (mulC_ev sa (sb.add sc) (by omega)) (Ev.bind (mulC_ev sa sb (by omega)) (Ev.bind (mulC_ev sa sc (by omega)) (Ev.bind (addC_ev (sa.mul sb (by omega)) (sa.mul sc (by omega)) (by omega)) (Ev.bind (sameC_ev (Rat.mul_add a b c) (sa.mul (sb.add sc) (by omega)) (by omega)) ?_)))))
    simp only [if_true]
    refine Ev.bind (negC_ev sa (by omega)) (Ev.bind (addC_ev sa sa.neg (by omega)) (Ev.bind (signC_ev (sa.add sa.neg) (by omega)) ?_))
    rw [Rat.add_neg_cancel]
    simp only [if_pos (show sgn 0 = 0 from rfl)]
    exact Ev.bind known_ev (now fun _ => rfl)
  simp only [credencelaw2_RationalField.f]
  refine Ev.bind ea (Ev.bind eb (Ev.bind ec (Ev.bind one_new ?_)))
  by_cases h : b = 0
  · refine Ev.bind (div0_ev one_sz sb (by omega) h) (Ev.bind (signC_ev sb (by omega)) ?_)
    subst h
    simp only [if_pos (show sgn 0 = 0 from rfl)]
    exact J
  · refine Ev.bind (divC_ev one_sz sb (by omega) h) (Ev.bind (signC_ev sb (by omega)) ?_)
    have hs : ¬ sgn b = 0 := by
      unfold sgn
      rw [if_neg (fun e => h ((num_eq b).1 e))]
      split <;> omega
    simp only [if_neg hs, if_true]
    have sd : Sz 2 (1 / b) := by
      have dz : 0 < b.num.natAbs := by
        have : b.num ≠ 0 := fun e => h ((num_eq b).1 e)
        omega
      have e : 1 / b = mk (decide (b.num < 0)) b.den b.num.natAbs := by
        have e1 := mk_self b
        have d1 := cast_ne (den_pos b)
        have d2 := cast_ne dz
        rw [mk_div] at e1 ⊢
        generalize decide (b.num < 0) = s at *
        generalize (b.num.natAbs : Rat) = u at *
        generalize (b.den : Rat) = v at *
        rw [← e1]
        cases s <;> simp <;> grind
      rw [e]
      exact mk_sz _ (by omega) (sb.2.mono (by omega)) (sb.1.mono (by omega))
    refine Ev.bind (mulC_ev sb sd (by omega)) (Ev.bind (sameC_ev (show b * (1 / b) = 1 by grind) (sb.mul sd (by omega)) (by omega)) ?_)
    exact J
end Go.Proofs.YtoeldfopjalpkaaDoor.Pure

