/- Lemmas for the proof of one law of this seat (PureBignatPow). -/
import Derived.Test.YtjiaplnpgjicgaaZBignatPowSpec10
import Derived.Test.YtjiaplnpgjicgaaZBignatPowKnown1
set_option linter.unusedSimpArgs false
set_option linter.unusedVariables false
namespace Go.Proofs.Ytjiaplnpgjicgaa.Pure
open Go.RowKit Go.Proofs.YtjiaplnpgjicgaaW.PrintWords Go.Proofs.YtjiaplnpgjicgaaW.PrintLast Go.Proofs.YtjiaplnpgjicgaaW.PrintMore Go.Proofs.Ytjiaplnpgjicgaa.Q Go.Proofs.Ytjiaplnpgjicgaa.Nums Go.Proofs.Ytjiaplnpgjicgaa.Spec
theorem BignatPow : credencelaw1_BignatPow.Pure := by
  intro l0 a1 _ _ w0 _
  obtain ⟨a, ea, ua, la⟩ := nat_ev w0
  have xa := Lim.eight ua la
  have sa := eight la
  have h31 := and31 a1
  apply Ev.rounds
  simp only [credencelaw1_BignatPow.f]
  generalize Go.bits .and .i64 a1 31 = g at h31
  obtain ⟨e, rfl⟩ := Int.eq_ofNat_of_zero_le h31.1
  have he : e ≤ 31 := by omega
  have hneg : wrap64 (-1 - (e : Int)) < 0 := by rw [w64 (by omega) (by omega)]; omega
  have hb : bl (V a ^ e) ≤ 65536 := by
    refine Nat.le_trans (bl_le (k := 32 * (8 * 31)) ?_) (by decide)
    rw [pow32]
    rcases Int.lt_or_le 0 (V a) with h | h
    · have l1 := ipow_le h he
      have l2 : V a ^ 31 < (4294967296 ^ 8) ^ 31 := by
        have l3 : V a ^ 31 ≤ (4294967296 ^ 8 - 1) ^ 31 := ipow_base (by omega) (by have := xa.2; omega) 31
        exact Int.lt_of_le_of_lt l3 (by decide)
      rw [← Int.pow_mul] at l2
      exact Int.lt_of_le_of_lt l1 l2
    · have : V a = 0 := by have := xa.1; omega
      rw [this]
      exact Int.lt_of_le_of_lt (ipow_base (Int.le_refl 0) (show (0 : Int) ≤ 1 by omega) e) (by rw [Int.one_pow]; decide)
  refine Ev.bind ea (Ev.bind (pow_ev ua sa (by omega)) (Ev.bind (npow_ev ua (by omega) (by omega)) (Ev.bind (pow_neg ua sa.big hneg) ?_)))
  rw [powO_small hb]
  have hL : Lim (8 * 31) (V a ^ e) := ⟨ipow_nn xa.1 e, by
    have := bl_lt (V a ^ e)
    rcases Int.lt_or_le 0 (V a) with h | h
    · have l1 := ipow_le h he
      have l2 : V a ^ 31 < (4294967296 ^ 8) ^ 31 := by
        have l3 : V a ^ 31 ≤ (4294967296 ^ 8 - 1) ^ 31 := ipow_base (by omega) (by have := xa.2; omega) 31
        exact Int.lt_of_le_of_lt l3 (by decide)
      rw [← Int.pow_mul] at l2
      exact Int.lt_of_le_of_lt l1 l2
    · have : V a = 0 := by have := xa.1; omega
      rw [this]
      exact Int.lt_of_le_of_lt (ipow_base (Int.le_refl 0) (show (0 : Int) ≤ 1 by omega) e) (by rw [Int.one_pow]; decide)⟩
  refine Ev.bind (same_D hL (by decide) rfl) ?_
  simp only [if_true]
  exact Ev.bind known_ev (now fun _ => rfl)
end Go.Proofs.Ytjiaplnpgjicgaa.Pure

