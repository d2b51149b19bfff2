/- Lemmas for the proof of one law of this seat (PureRationalOrder). -/
import Derived.Test.YtoeldfopjalpkaaDoorZRationalOrderFRat3
import Derived.Test.YtoeldfopjalpkaaDoorZRationalOrderKnown2
set_option linter.unusedSimpArgs false
set_option linter.unusedVariables false
namespace Go.Proofs.YtoeldfopjalpkaaDoor.Pure
open Go.RowKit Go.Proofs.YtoeldfopjalpkaaDoorW.PrintWords Go.Proofs.YtoeldfopjalpkaaDoorW.PrintLast Go.Proofs.YtoeldfopjalpkaaDoorW.PrintMore Go.Proofs.YtoeldfopjalpkaaDoor.Q Go.Proofs.YtoeldfopjalpkaaDoor.Nums Go.Proofs.YtoeldfopjalpkaaDoor.Spec
theorem RationalOrder : credencelaw2_RationalOrder.Pure := by
  intro x y z _ _ _
  apply Ev.rounds
  have sa := fq_sz x
  have sb := fq_sz y
  have sc := fq_sz z
  have ea := fq_ev x
  have eb := fq_ev y
  have ec := fq_ev z
  generalize fq x = a at *
  generalize fq y = b at *
  generalize fq z = c at *
  simp only [credencelaw2_RationalOrder.f]
  refine Ev.bind ea (Ev.bind eb (Ev.bind ec (Ev.bind (cmpC_ev sa sb (by omega)) (Ev.bind (signC_ev sc (by omega)) (Ev.bind (subC_ev sa sb (by omega)) (Ev.bind (signC_ev (sa.sub sb) (by omega)) ?_))))))
  simp only [if_pos (cmp_sub a b)]
  refine Ev.bind (cmpC_ev sb sa (by omega)) ?_
  simp only [if_pos (cmp_swap a b)]
  refine Ev.bind (normC_ev sa (by omega)) (Ev.bind (normC_ev sb (by omega)) (Ev.bind (sameG_ev (q := b) sa (by omega)) ?_))
  simp only [if_pos (cmp_same a b)]
  refine Ev.bind (addC_ev sa sc (by omega)) (Ev.bind (addC_ev sb sc (by omega)) (Ev.bind (cmpC_ev (sa.add sc) (sb.add sc) (by omega)) ?_))
  simp only [if_pos (cmp_add a b c)]
  refine Ev.bind (mulC_ev sa sc (by omega)) (Ev.bind (mulC_ev sb sc (by omega)) (Ev.bind (cmpC_ev (sa.mul sc (by omega)) (sb.mul sc (by omega)) (by omega)) ?_))
  simp only [if_pos (cmp_mul a b c)]
  by_cases g1 : cmpQ a b > 0
  · simp only [if_pos g1]
    exact Ev.bind known_ev (now fun _ => rfl)
  · simp only [if_neg g1]
    refine Ev.bind (cmpC_ev sb sc (by omega)) ?_
    by_cases g2 : cmpQ b c > 0
    · simp only [if_pos g2]
      exact Ev.bind known_ev (now fun _ => rfl)
    · simp only [if_neg g2]
      refine Ev.bind (cmpC_ev sa sc (by omega)) ?_
      simp only [if_pos (cmp_trans g1 g2)]
      exact Ev.bind known_ev (now fun _ => rfl)
end Go.Proofs.YtoeldfopjalpkaaDoor.Pure

