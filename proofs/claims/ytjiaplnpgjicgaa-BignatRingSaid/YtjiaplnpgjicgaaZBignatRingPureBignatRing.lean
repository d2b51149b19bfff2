/- Lemmas for the proof of one law of this seat (PureBignatRing). -/
import Derived.Test.YtjiaplnpgjicgaaZBignatRingSpec4
import Derived.Test.YtjiaplnpgjicgaaZBignatRingKnown1
set_option linter.unusedSimpArgs false
set_option linter.unusedVariables false
namespace Go.Proofs.Ytjiaplnpgjicgaa.Pure
open Go.RowKit Go.Proofs.YtjiaplnpgjicgaaW.PrintWords Go.Proofs.YtjiaplnpgjicgaaW.PrintLast Go.Proofs.Ytjiaplnpgjicgaa.Q Go.Proofs.Ytjiaplnpgjicgaa.Nums Go.Proofs.Ytjiaplnpgjicgaa.Spec
theorem BignatRing : credencelaw1_BignatRing.Pure := by
  intro l0 l1 l2 _ _ w0 _ _ w1 _ _ w2
  obtain ⟨a, ea, ua, la⟩ := nat_ev w0
  obtain ⟨b, eb, ub, lb⟩ := nat_ev w1
  obtain ⟨c, ec, uc, lc⟩ := nat_ev w2
  have xa := Lim.eight ua la
  have xb := Lim.eight ub lb
  have xc := Lim.eight uc lc
  have sa := eight la
  have sb := eight lb
  have sc := eight lc
  have xab := xa.add xb
  have xbc := xb.add xc
  have mab := xa.mul xb
  have mbc := xb.mul xc
  have mac := xa.mul xc
  apply Ev.rounds
  simp only [credencelaw1_BignatRing.f]
  refine Ev.bind ea (Ev.bind eb (Ev.bind ec ?_))
  refine Ev.bind (add_ev ua ub sa sb) (Ev.bind (add_ev ub ua sb sa) (Ev.bind (same_D xab (by decide) (Int.add_comm _ _)) ?_))
  simp only [if_true]
  refine Ev.bind (mul_ev ua ub sa sb) (Ev.bind (mul_ev ub ua sb sa) (Ev.bind (same_D mab (by decide) (Int.mul_comm _ _)) ?_))
  simp only [if_true]
  refine Ev.bind (add_ev ua ub sa sb) (Ev.bind (add_ev xab.U uc (xab.small (by decide)) sc) (Ev.bind (add_ev ub uc sb sc) (Ev.bind (add_ev ua xbc.U sa (xbc.small (by decide))) ?_)))
  rw [xab.V, xbc.V]
  refine Ev.bind (same_D (xab.add (xc.mono (by decide))) (by decide) (Int.add_assoc _ _ _)) ?_
  simp only [if_true]
  refine Ev.bind (mul_ev ua ub sa sb) (Ev.bind (mul_ev mab.U uc (mab.small (by decide)) sc) (Ev.bind (mul_ev ub uc sb sc) (Ev.bind (mul_ev ua mbc.U sa (mbc.small (by decide))) ?_)))
  rw [mab.V, mbc.V]
  refine Ev.bind (same_D (mab.mul xc) (by decide) (Int.mul_assoc _ _ _)) ?_
  simp only [if_true]
  refine Ev.bind (add_ev ub uc sb sc) (Ev.bind (mul_ev ua xbc.U sa (xbc.small (by decide))) (Ev.bind (mul_ev ua ub sa sb) (Ev.bind (mul_ev ua uc sa sc) (Ev.bind (add_D mab mac (by decide) (by decide)) ?_))))
  rw [xbc.V]
  refine Ev.bind (same_D (xa.mul xbc) (by decide) (Int.mul_add _ _ _)) ?_
  simp only [if_true]
  exact Ev.bind known_ev (now fun _ => rfl)
end Go.Proofs.Ytjiaplnpgjicgaa.Pure

