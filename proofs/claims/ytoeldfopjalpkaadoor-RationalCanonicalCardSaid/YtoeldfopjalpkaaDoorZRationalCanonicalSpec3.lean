/- Lemmas for the proof of one law of this seat (Spec3). -/
import Derived.Test.YtoeldfopjalpkaaDoorZRationalCanonicalSpec2
set_option linter.unusedSimpArgs false
set_option linter.unusedVariables false
namespace Go.Proofs.YtoeldfopjalpkaaDoor.Spec
open Go.RowKit Go.Proofs.YtoeldfopjalpkaaDoorW.PrintWords Go.Proofs.YtoeldfopjalpkaaDoorW.PrintLast Go.Proofs.YtoeldfopjalpkaaDoorW.PrintMore Go.Proofs.YtoeldfopjalpkaaDoor.Q Go.Proofs.YtoeldfopjalpkaaDoor.Nums

theorem cmpI_ge {x y : Int} (h : ¬ x < y) : ¬ cmpI x y < 0 := by unfold cmpI; rw [if_neg h]; split <;> omega
theorem sub_step {a b o : List Int} {i : Nat} {c v w : Int} (hi : i < o.length) (hs : v = a.getD i 0 - c - b.getD i 0 + 4294967296 * w) (h : V (o.take i) - 4294967296 ^ i * c = V (a.take i) - V (b.take i)) :
    V ((o.set i v).take (i + 1)) - 4294967296 ^ (i + 1) * w = V (a.take (i + 1)) - V (b.take (i + 1)) := by
  rw [V_take_set hi, V_take_next a, V_take_next b, pow_succ', hs, Int.mul_add, Int.mul_sub, Int.mul_sub, ← Int.mul_assoc, Int.mul_comm (4294967296 ^ i) 4294967296]
  omega
/-- At the end no borrow is left. -/
theorem sub_end {a b o : List Int} {c : Int} (hu : U o) (hl : o.length = a.length) (h0 : V b ≤ V a) (c0 : 0 ≤ c) (c1 : c ≤ 1) (h : V o - 4294967296 ^ a.length * c = V a - V b) : V o = V a - V b := by
  have h1 := V_lt hu
  rw [hl] at h1
  by_cases e : c = 0
  · subst e
    rw [Int.mul_zero] at h
    omega
  · have : c = 1 := by omega
    subst this
    rw [Int.mul_one] at h
    omega
theorem sub_l {a b : List Int} (ha : U a) (hb : U b) (sa : Small a) (hl : b.length ≤ a.length) (hle : V b ≤ V a) : ∀ (n i : Nat) (o : List Int) (c : Int), i + n = a.length → o.length = a.length → U o → 0 ≤ c → c ≤ 1 →
    V (o.take i) - 4294967296 ^ i * c = V (a.take i) - V (b.take i) → Ev (fun k => bignat_Sub.l0 k a b o c a.length i) (D (V a - V b), true) := by
  have sb := sa.big
  unfold Small at sa
  intro n
  induction n with
  | zero =>
    intro i o c hi ho uo c0 c1 h
    obtain rfl : i = a.length := by omega
    refine suc ?_
    simp (disch := omega) only [bignat_Sub.l0, if_neg, if_pos]
    rw [List.take_of_length_le (by omega), List.take_of_length_le (Nat.le_refl _), List.take_of_length_le hl] at h
    rw [← sub_end uo ho hle c0 c1 h]
    exact Ev.bind (trim_ev uo (by unfold Big at *; omega)) (now fun _ => rfl)
  | succ n ih =>
    intro i o c hi ho uo c0 c1 h
    have da := U_getD ha i
    have db := U_getD hb i
    refine suc ?_
    by_cases hb2 : i < b.length
    · simp (disch := omega) only [bignat_Sub.l0, if_neg, if_pos, Int.toNat_natCast, rd_nat, w64, IntKind.wrap_u64]
      refine ih (i + 1) _ _ (by omega) (by rw [List.length_set]; exact ho) (U_set uo i (by omega) (by omega)) (by omega) (by omega) ?_
      exact sub_step (by omega) (by omega) h
    · have hz := getD_out (xs := b) (i := i) (by omega)
      simp (disch := omega) only [bignat_Sub.l0, if_neg, if_pos, Int.toNat_natCast, rd_nat, w64, IntKind.wrap_u64]
      refine ih (i + 1) _ _ (by omega) (by rw [List.length_set]; exact ho) (U_set uo i (by omega) (by omega)) (by omega) (by omega) ?_
      exact sub_step (by omega) (by omega) h
theorem D_len_mono {n m : Int} (h0 : 0 ≤ n) (h : n ≤ m) : (D n).length ≤ (D m).length := by
  by_cases hl : (D m).length < (D n).length
  · have := D_mono h0 hl
    omega
  · omega
theorem getD_set {xs : List Int} {i j : Nat} (h : i ≠ j) (v : Int) : (xs.set i v).getD j 0 = xs.getD j 0 := by
  rw [List.getD_eq_getElem?_getD, List.getElem?_set_ne h, ← List.getD_eq_getElem?_getD]
theorem mul_bound {x y : Int} (hx0 : 0 ≤ x) (hx : x < 4294967296) (hy0 : 0 ≤ y) (hy : y < 4294967296) : 0 ≤ x * y ∧ x * y ≤ 18446744065119617025 := by
  constructor
  · exact Int.mul_nonneg hx0 hy0
  · have : x * y ≤ 4294967295 * 4294967295 := Int.mul_le_mul (by omega) (by omega) hy0 (by omega)
    omega
theorem mul_step {o b : List Int} {i k : Nat} {c s x T : Int} (hi : i + k < o.length) (hs : s = c + o.getD (i + k) 0 + x * b.getD k 0) (h : V o + 4294967296 ^ (i + k) * c = T + 4294967296 ^ i * (x * V (b.take k))) :
    V (o.set (i + k) (s % 4294967296)) + 4294967296 ^ (i + (k + 1)) * (s / 4294967296) = T + 4294967296 ^ i * (x * V (b.take (k + 1))) := by
  rw [V_set hi, V_take_next b, ← Nat.add_assoc, pow_succ', Int.mul_sub]
  have := carry_step (4294967296 ^ (i + k)) s
  rw [hs, Int.mul_add, Int.mul_add] at this
  rw [hs]
  have e : (4294967296 : Int) ^ i * (x * (V (b.take k) + 4294967296 ^ k * b.getD k 0)) = 4294967296 ^ i * (x * V (b.take k)) + 4294967296 ^ (i + k) * (x * b.getD k 0) := by
    rw [Int.mul_add, Int.mul_add, Int.pow_add, Int.mul_assoc, ← Int.mul_assoc x, Int.mul_comm x (4294967296 ^ k), Int.mul_assoc]
  rw [e]
  omega
theorem mul_last {o b : List Int} {i : Nat} {c x T : Int} (hi : i + b.length < o.length) (hz : o.getD (i + b.length) 0 = 0) (h : V o + 4294967296 ^ (i + b.length) * c = T + 4294967296 ^ i * (x * V (b.take b.length))) : V (o.set (i + b.length) c) = T + 4294967296 ^ i * (x * V b) := by
  rw [List.take_of_length_le (Nat.le_refl _)] at h
  rw [V_set hi, hz, ← h, Int.sub_zero]
theorem getD_set_self {xs : List Int} {i : Nat} (h : i < xs.length) (v : Int) : (xs.set i v).getD i 0 = v := by
  rw [List.getD_eq_getElem?_getD, List.getElem?_set_self h]; rfl
theorem getD_replicate (n j : Nat) : (List.replicate n (0 : Int)).getD j 0 = 0 := by
  rw [List.getD_eq_getElem?_getD, List.getElem?_replicate]
  split <;> rfl
end Go.Proofs.YtoeldfopjalpkaaDoor.Spec

