/- Lemmas for the proof of one law of this seat (Spec4). -/
import Derived.Test.YtjiaplnpgjicgaaZBignatTextSpec3
set_option linter.unusedSimpArgs false
set_option linter.unusedVariables false
namespace Go.Proofs.Ytjiaplnpgjicgaa.Spec
open Go.RowKit Go.Proofs.YtjiaplnpgjicgaaW.PrintWords Go.Proofs.YtjiaplnpgjicgaaW.PrintLast Go.Proofs.YtjiaplnpgjicgaaW.PrintMore Go.Proofs.Ytjiaplnpgjicgaa.Q Go.Proofs.Ytjiaplnpgjicgaa.Nums

theorem wf_U {l : List Int} (h : ∀ x ∈ l, (Lit.int .u32 x).wf = true) : U l := by
  intro x hx
  have := h x hx
  simp [Lit.wf, IntKind.min, IntKind.max, IntKind.bits, IntKind.signed] at this
  omega
theorem nat_l {l : List Int} (hl : U l) : ∀ (n i : Nat) (o : List Int), i + n = 8 → o.length = i → U o → ∃ r, Ev (fun k => credencebase_Nat.l0 k l o i) r ∧ U r ∧ r.length ≤ 8 := by
  intro n
  induction n with
  | zero =>
    intro i o hi ho uo
    refine ⟨o, suc (suc ?_), uo, by omega⟩
    have hd : decide ((i : Int) < 8) = false := decide_eq_false (by omega)
    by_cases h : (i : Int) < l.length
    · simp (disch := omega) only [credencebase_Nat.l0, if_pos, hd, credencebase_Nat.j1]
      exact now fun _ => rfl
    · simp (disch := omega) only [credencebase_Nat.l0, if_neg, credencebase_Nat.j1]
      exact now fun _ => rfl
  | succ n ih =>
    intro i o hi ho uo
    have hd : decide ((i : Int) < 8) = true := decide_eq_true (by omega)
    have dl := U_getD hl i
    by_cases h : (i : Int) < l.length
    · by_cases h7 : Go.bits .and .u32 (l.getD i 0) 7 = 7
      · obtain ⟨r, hr, ur, lr⟩ := ih (i + 1) (o ++ [(4294967295 - (l.getD i 0 / 268435456)) % 4294967296]) (by omega) (by simp; omega) (U_snoc uo (by omega) (by omega))
        refine ⟨r, suc (suc ?_), ur, lr⟩
        simp (disch := omega) only [credencebase_Nat.l0, if_pos, hd, credencebase_Nat.j1, rd_nat, h7, w64]
        exact hr
      · obtain ⟨r, hr, ur, lr⟩ := ih (i + 1) (o ++ [l.getD i 0]) (by omega) (by simp; omega) (U_snoc uo (by omega) (by omega))
        refine ⟨r, suc (suc ?_), ur, lr⟩
        simp (disch := omega) only [credencebase_Nat.l0, if_pos, hd, credencebase_Nat.j1, rd_nat, if_neg h7, w64]
        exact hr
    · refine ⟨o, suc (suc ?_), uo, by omega⟩
      simp (disch := omega) only [credencebase_Nat.l0, if_neg, credencebase_Nat.j1]
      exact now fun _ => rfl
/-- What the laws build of a list: at most eight digits. -/
theorem nat_ev {l : List Int} (h : ∀ x ∈ l, (Lit.int .u32 x).wf = true) : ∃ r, Ev (fun k => credencebase_Nat.f k l) r ∧ U r ∧ r.length ≤ 8 := by
  simp only [credencebase_Nat.f]
  exact nat_l (wf_U h) 8 0 [] (by omega) rfl U_nil
theorem eight {r : List Int} (h : r.length ≤ 8) : Small r := Nat.le_trans h (by decide)

theorem natSame_l (xs : List Int) (hs : Big xs) : ∀ (n i : Nat), i + n = xs.length → Ev (fun k => credenceref1_NatSame.l0 k xs xs i) true := by
  unfold Big at hs
  intro n
  induction n with
  | zero =>
    intro i hi
    refine suc (now fun k => ?_)
    simp (disch := omega) only [credenceref1_NatSame.l0, if_neg]
  | succ n ih =>
    intro i hi
    refine suc ?_
    simp (disch := omega) only [credenceref1_NatSame.l0, if_pos, w64]
    exact ih (i + 1) (by omega)
theorem natSame_ev (xs : List Int) (hs : Big xs) : Ev (fun k => credenceref1_NatSame.f k xs xs) true := by
  simp only [credenceref1_NatSame.f, if_true]
  exact natSame_l xs hs xs.length 0 (by omega)
theorem same_ev (xs : List Int) (hs : Big xs) : Ev (fun k => credencelaw1_same.f k xs xs) true := by
  simp only [credencelaw1_same.f]
  exact Ev.bind (natSame_ev xs hs) (now fun _ => rfl)
theorem D_len_of {n : Int} {k : Nat} (h : n < 4294967296 ^ k) (hk : k ≤ 1099511627776) : Small (D n) := Nat.le_trans (D_len_le h) hk
/-- Numbers of at most k digits. -/
def Lim (k : Nat) (n : Int) : Prop := 0 ≤ n ∧ n < 4294967296 ^ k
theorem pow_le {j k : Nat} (h : j ≤ k) : (4294967296 : Int) ^ j ≤ 4294967296 ^ k := by
  obtain ⟨m, rfl⟩ := Nat.exists_eq_add_of_le h
  rw [Int.pow_add]
  have := Int.mul_le_mul_of_nonneg_left (show (1 : Int) ≤ 4294967296 ^ m from pow_pos m) (Int.le_of_lt (pow_pos j))
  omega
theorem Lim.mono {j k : Nat} {n : Int} (h : Lim j n) (hk : j ≤ k) : Lim k n := ⟨h.1, Int.lt_of_lt_of_le h.2 (pow_le hk)⟩
theorem Lim.of_V {r : List Int} (h : U r) : Lim r.length (V r) := ⟨V_nonneg h, V_lt h⟩
theorem Lim.eight {r : List Int} (h : U r) (hl : r.length ≤ 8) : Lim 8 (V r) := (Lim.of_V h).mono hl
theorem Lim.mul {j k : Nat} {x y : Int} (hx : Lim j x) (hy : Lim k y) : Lim (j + k) (x * y) := by
  refine ⟨Int.mul_nonneg hx.1 hy.1, ?_⟩
  rw [Int.pow_add]
  by_cases h0 : y = 0
  · rw [h0, Int.mul_zero]
    exact Int.mul_pos (pow_pos j) (pow_pos k)
  · exact Int.mul_lt_mul hx.2 (Int.le_of_lt hy.2) (by have := hy.1; omega) (Int.le_of_lt (pow_pos j))
theorem Lim.small {k : Nat} {n : Int} (h : Lim k n) (hk : k ≤ 1099511627776) : Small (D n) := D_len_of h.2 hk
theorem Lim.U {k : Nat} {n : Int} (_h : Lim k n) : U (D n) := D_U n
theorem Lim.V {k : Nat} {n : Int} (h : Lim k n) : V (D n) = n := V_D n h.1
end Go.Proofs.Ytjiaplnpgjicgaa.Spec

