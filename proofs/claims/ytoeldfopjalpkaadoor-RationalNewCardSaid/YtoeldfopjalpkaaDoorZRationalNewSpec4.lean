/- Lemmas for the proof of one law of this seat (Spec4). -/
import Derived.Test.YtoeldfopjalpkaaDoorZRationalNewSpec3
set_option linter.unusedSimpArgs false
set_option linter.unusedVariables false
namespace Go.Proofs.YtoeldfopjalpkaaDoor.Spec
open Go.RowKit Go.Proofs.YtoeldfopjalpkaaDoorW.PrintWords Go.Proofs.YtoeldfopjalpkaaDoorW.PrintLast Go.Proofs.YtoeldfopjalpkaaDoorW.PrintMore Go.Proofs.YtoeldfopjalpkaaDoor.Q Go.Proofs.YtoeldfopjalpkaaDoor.Nums

theorem natSame_l (xs : List Int) (hs : Big xs) : ∀ (n i : Nat), i + n = xs.length → Ev (fun k => credenceref1_NatSame.l0 k xs xs i) true := by
  unfold Big at hs
  intro n
  induction n with
  | zero =>
    intro i hi
    refine suc (now fun k => ?_)
    simp (disch := omega) only [credenceref1_NatSame.l0, if_neg]
  | succ n ih =>
    intro i hi
    refine suc ?_
    simp (disch := omega) only [credenceref1_NatSame.l0, if_pos, w64]
    exact ih (i + 1) (by omega)
theorem natSame_ev (xs : List Int) (hs : Big xs) : Ev (fun k => credenceref1_NatSame.f k xs xs) true := by
  simp only [credenceref1_NatSame.f, if_true]
  exact natSame_l xs hs xs.length 0 (by omega)
theorem pow_le {j k : Nat} (h : j ≤ k) : (4294967296 : Int) ^ j ≤ 4294967296 ^ k := by
  obtain ⟨m, rfl⟩ := Nat.exists_eq_add_of_le h
  rw [Int.pow_add]
  have := Int.mul_le_mul_of_nonneg_left (show (1 : Int) ≤ 4294967296 ^ m from pow_pos m) (Int.le_of_lt (pow_pos j))
  omega
end Go.Proofs.YtoeldfopjalpkaaDoor.Spec

