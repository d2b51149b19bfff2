/- Lemmas for the proof of one law of this seat (Spec1). -/
import Derived.Test.YtjiaplnpgjicgaaZBignatLimitsQx0
import Derived.Test.YtjiaplnpgjicgaaZBignatLimitsQx1
import Derived.Test.YtjiaplnpgjicgaaZBignatLimitsQx2
import Derived.Test.YtjiaplnpgjicgaaZBignatLimitsQx3
import Derived.Test.YtjiaplnpgjicgaaZBignatLimitsQx4
import Derived.Test.YtjiaplnpgjicgaaZBignatLimitsQx5
import Derived.Test.YtjiaplnpgjicgaaZBignatLimitsQx6
import Derived.Test.YtjiaplnpgjicgaaZBignatLimitsQx7
import Derived.Test.YtjiaplnpgjicgaaZBignatLimitsQx8
import Derived.Test.YtjiaplnpgjicgaaZBignatLimitsQx9
import Derived.Test.YtjiaplnpgjicgaaZBignatLimitsQx10
import Derived.Test.YtjiaplnpgjicgaaZBignatLimitsQx14
import Derived.Test.YtjiaplnpgjicgaaZBignatLimitsQx15
import Derived.Test.YtjiaplnpgjicgaaZBignatLimitsNums
import Derived.Laws.BitsLemmas
set_option linter.unusedSimpArgs false
set_option linter.unusedVariables false
namespace Go.Proofs.Ytjiaplnpgjicgaa.Spec
open Go.RowKit Go.Proofs.YtjiaplnpgjicgaaW.PrintWords Go.Proofs.YtjiaplnpgjicgaaW.PrintLast Go.Proofs.YtjiaplnpgjicgaaW.PrintMore Go.Proofs.Ytjiaplnpgjicgaa.Q Go.Proofs.Ytjiaplnpgjicgaa.Nums

theorem suc {α : Type} {g : Nat → Option α} {r : α} (h : Ev (fun k => g (k + 1)) r) : Ev g r := Ev.step (fun _ => rfl) h
theorem now {α : Type} {g : Nat → Option α} {r : α} (h : ∀ k, g k = some r) : Ev g r := ⟨0, fun k _ => h k⟩
theorem w64 {n : Int} (h0 : -9223372036854775808 ≤ n) (h1 : n ≤ 9223372036854775807) : wrap64 n = n := by unfold wrap64; omega
theorem u64w {n : Int} (h0 : 0 ≤ n) (h1 : n < 18446744073709551616) : IntKind.u64.wrap n = n := by rw [IntKind.wrap_u64]; omega
theorem rd_nat (xs : List Int) (n : Nat) : rd xs (n : Int) = xs.getD n 0 := rfl

/-- A length that no law here passes; one that is smaller still. -/
def Big (xs : List Int) : Prop := xs.length ≤ 17592186044416
def Small (xs : List Int) : Prop := xs.length ≤ 1099511627776
theorem Small.big {xs : List Int} (h : Small xs) : Big xs := Nat.le_trans h (by decide)

theorem trim_l {xs : List Int} (hu : U xs) (hl : Big xs) : ∀ n : Nat, n ≤ xs.length → (∀ i, n ≤ i → i < xs.length → xs.getD i 0 = 0) → Ev (fun k => bignat_trim.l0 k xs n) (D (V xs)) := by
  unfold Big at hl
  intro n
  induction n with
  | zero =>
    intro hn hz
    refine suc (now fun k => ?_)
    simp (disch := omega) only [bignat_trim.l0, if_pos, if_neg]
    rw [← D_take hu 0 hn hz (.inl rfl)]; rfl
  | succ n ih =>
    intro hn hz
    refine suc ?_
    have e : ((n + 1 : Nat) : Int) - 1 = n := by omega
    by_cases hx : xs.getD n 0 = 0
    · have := ih (by omega) (fun i h1 h2 => by
        by_cases e : i = n
        · rw [e]; exact hx
        · exact hz i (by omega) h2)
      simp (disch := omega) only [bignat_trim.l0, if_pos, if_neg, e, w64, rd_nat, hx, reduceIte]
      exact this
    · refine now fun k => ?_
      simp (disch := omega) only [bignat_trim.l0, if_pos, if_neg, e, w64, rd_nat, hx, reduceIte]
      rw [← D_take hu (n + 1) hn hz (.inr hx)]; rfl
theorem trim_ev {xs : List Int} (hu : U xs) (hl : Big xs) : Ev (fun k => bignat_trim.f k xs) (D (V xs)) := by
  simp only [bignat_trim.f]
  exact trim_l hu hl xs.length (Nat.le_refl _) (fun i h1 h2 => by omega)
theorem D_short {xs : List Int} (hu : U xs) : (D (V xs)).length ≤ xs.length := D_len_le (V_lt hu)
theorem D_big {xs : List Int} (hu : U xs) (hl : Big xs) : Big (D (V xs)) := Nat.le_trans (D_short hu) hl
theorem D_small {xs : List Int} (hu : U xs) (hl : Small xs) : Small (D (V xs)) := Nat.le_trans (D_short hu) hl
theorem clone_ev {xs : List Int} (hu : U xs) (hl : Big xs) : Ev (fun k => bignat_clone.f k xs) (D (V xs)) := by
  simp only [bignat_clone.f]
  refine Ev.bind (trim_ev hu hl) ?_
  have := D_big hu hl
  unfold Big at this
  refine now fun k => ?_
  by_cases h : D (V xs) = []
  · rw [h]; rfl
  · have h0 : (D (V xs)).length ≠ 0 := fun e => h (List.eq_nil_of_length_eq_zero e)
    rw [if_neg (by omega), if_pos (by simp; omega)]; simp

theorem from_eq {n : Int} (h0 : 0 ≤ n) (h1 : n < 18446744073709551616) : bignat_FromUint64.f n = some (D n) := by
  simp only [bignat_FromUint64.f]
  by_cases e : n = 0
  · subst e; rw [if_pos rfl, D_zero]
  · rw [if_neg e, D_pos (by omega)]
    by_cases e2 : n / 4294967296 = 0
    · rw [if_pos e2, e2, D_zero]
    · rw [if_neg e2, D_pos (by omega), D_neg (by omega)]

end Go.Proofs.Ytjiaplnpgjicgaa.Spec

