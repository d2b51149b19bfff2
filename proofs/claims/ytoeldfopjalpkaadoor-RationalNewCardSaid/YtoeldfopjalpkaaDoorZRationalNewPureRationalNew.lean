/- Lemmas for the proof of one law of this seat (PureRationalNew). -/
import Derived.Test.YtoeldfopjalpkaaDoorZRationalNewFSpec1
import Derived.Test.YtoeldfopjalpkaaDoorZRationalNewKnown2
set_option linter.unusedSimpArgs false
set_option linter.unusedVariables false
namespace Go.Proofs.YtoeldfopjalpkaaDoor.Pure
open Go.RowKit Go.Proofs.YtoeldfopjalpkaaDoorW.PrintWords Go.Proofs.YtoeldfopjalpkaaDoorW.PrintLast Go.Proofs.YtoeldfopjalpkaaDoorW.PrintMore Go.Proofs.YtoeldfopjalpkaaDoor.Q Go.Proofs.YtoeldfopjalpkaaDoor.Nums Go.Proofs.YtoeldfopjalpkaaDoor.Spec
theorem RationalNew : credencelaw2_RationalNew.Pure := by
  intro n d wn wd
  simp [Lit.wf, IntKind.min, IntKind.max, IntKind.bits, IntKind.signed] at wn wd
  have hb : Big (newO n d).2.1 ∧ Big (newO n d).2.2.1 := by
    have l1 := abs_len (n := n) (by omega) (by omega)
    have l2 := abs_len (n := d) (by omega) (by omega)
    have := Fr_big (decide (n < 0) != decide (d < 0)) (n := n.natAbs) (d := d.natAbs) (by omega) (by omega)
    unfold newO Big
    split
    · exact ⟨by simp, by simp⟩
    · exact ⟨Nat.le_trans this.1 (by omega), Nat.le_trans this.2 (by omega)⟩
  apply Ev.rounds
  simp only [credencelaw2_RationalNew.f]
  refine Ev.bind (new_ev (by omega) (by omega) (by omega) (by omega)) (Ev.bind (fnew_ev (by omega) (by omega) (by omega) (by omega)) (Ev.bind (fsame_ev _ _ _ hb.1 hb.2) ?_))
  simp only [if_true]
  exact Ev.bind known_ev (now fun _ => rfl)
end Go.Proofs.YtoeldfopjalpkaaDoor.Pure

