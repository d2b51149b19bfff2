/- Lemmas for the proof of one law of this seat (PureBignatLimits). -/
import Derived.Test.YtjiaplnpgjicgaaZBignatLimitsSpec10
import Derived.Test.YtjiaplnpgjicgaaZBignatLimitsKnown1
set_option linter.unusedSimpArgs false
set_option linter.unusedVariables false
namespace Go.Proofs.Ytjiaplnpgjicgaa.Pure
open Go.RowKit Go.Proofs.YtjiaplnpgjicgaaW.PrintWords Go.Proofs.YtjiaplnpgjicgaaW.PrintLast Go.Proofs.YtjiaplnpgjicgaaW.PrintMore Go.Proofs.Ytjiaplnpgjicgaa.Q Go.Proofs.Ytjiaplnpgjicgaa.Nums Go.Proofs.Ytjiaplnpgjicgaa.Spec
theorem bl_one : bl (1 : Int) = 1 := by rw [bl_pos (by omega), bl_zero (by decide)]
theorem BignatLimits : credencelaw1_BignatLimits.Pure := by
  have s2 : Lim 1 2 := by unfold Lim; decide
  have s1 : Lim 1 1 := by unfold Lim; decide
  have f2 := from_eq (n := 2) (by omega) (by omega)
  have f1 := from_eq (n := 1) (by omega) (by omega)
  have p1 := pow_ev s2.U (s2.small (by decide)) (e := 65535) (by omega)
  have p2 := pow_ev s2.U (s2.small (by decide)) (e := 65536) (by omega)
  have p3 := pow_ev s1.U (s1.small (by decide)) (e := 1099511627776) (by omega)
  have p4 := pow_ev U_nil (by unfold Small; simp) (e := 1099511627776) (by omega)
  have p5 := pow_ev U_nil (by unfold Small; simp) (e := 0) (by omega)
  rw [s2.V, powO_small (by rw [bl_two]; omega)] at p1
  rw [s2.V, powO_big (by rw [bl_two]; omega)] at p2
  rw [s1.V, powO_small (by rw [Int.one_pow, bl_one]; omega), Int.one_pow] at p3
  rw [V_nil, powO_small (by rw [Int.zero_pow (by decide), bl_zero (by omega)]; omega), Int.zero_pow (by decide), D_zero] at p4
  rw [V_nil, powO_small (by rw [Int.pow_zero, bl_one]; omega), Int.pow_zero] at p5
  have hL : Lim 2048 ((2 : Int) ^ 65535) := by
    refine ⟨ipow_nn (by omega) _, ?_⟩
    rw [← pow32]
    have := two_succ 65535
    have h2 := two_pos 65535
    rw [show 32 * 2048 = 65535 + 1 from rfl, this]
    generalize (2 : Int) ^ 65535 = A at *
    omega
  have hb := bitLen_ev hL.U (hL.small (by decide)).big
  rw [hL.V, bl_two] at hb
  show ∃ k, credencelaw1_BignatLimits.f k = some true
  apply Ev.rounds
  delta credencelaw1_BignatLimits.f
  simp only [f1, f2, Option.bind_some]
  generalize (2 : Int) ^ 65535 = A at *
  refine Ev.bind p1 (Ev.bind p2 (Ev.bind p3 (Ev.bind p4 (Ev.bind p5 ?_))))
  simp only [if_true]
  refine Ev.bind hb ?_
  simp (disch := omega) only [if_true, if_pos]
  refine Ev.bind (same_D s1 (by decide) rfl) ?_
  simp (disch := omega) only [if_true, if_pos, List.length_nil]
  refine Ev.bind (same_D s1 (by decide) rfl) ?_
  simp only [if_true]
  exact Ev.bind known_ev (now fun _ => rfl)
end Go.Proofs.Ytjiaplnpgjicgaa.Pure

