/- Lemmas for the proof of one law of this seat (Spec14). -/
import Derived.Test.YtoeldfopjalpkaaDoorZRationalNewSpec13
set_option linter.unusedSimpArgs false
set_option linter.unusedVariables false
namespace Go.Proofs.YtoeldfopjalpkaaDoor.Spec
open Go.RowKit Go.Proofs.YtoeldfopjalpkaaDoorW.PrintWords Go.Proofs.YtoeldfopjalpkaaDoorW.PrintLast Go.Proofs.YtoeldfopjalpkaaDoorW.PrintMore Go.Proofs.YtoeldfopjalpkaaDoor.Q Go.Proofs.YtoeldfopjalpkaaDoor.Nums

theorem V_snoc (o : List Int) (e : Int) : V (o ++ [e]) = V o + 4294967296 ^ o.length * e := by
  rw [V_append, V_cons, V_nil, Int.mul_zero, Int.add_zero]
theorem U_snoc' {o : List Int} (h : U o) {e : Int} (h0 : 0 ≤ e) (h1 : e < 4294967296) : U (o ++ [e]) := U_append.2 ⟨h, U_cons.2 ⟨⟨h0, h1⟩, U_nil⟩⟩
theorem or_comm32 {x y : Int} (hx0 : 0 ≤ x) (hx1 : x < 4294967296) (hy0 : 0 ≤ y) (hy1 : y < 4294967296) : Go.bits .or .u32 x y = Go.bits .or .u32 y x := by
  obtain ⟨a, rfl⟩ := Int.eq_ofNat_of_zero_le hx0
  obtain ⟨b, rfl⟩ := Int.eq_ofNat_of_zero_le hy0
  rw [(bits_nat .u32 32 (by decide) wraps_u32 a b (by omega) (by omega)).2, (bits_nat .u32 32 (by decide) wraps_u32 b a (by omega) (by omega)).2, Nat.or_comm]
theorem dbl_l {a : List Int} (ha : U a) (sa : Small a) (t : Int) : ∀ (n i : Nat) (o : List Int) (c : Int), i + n = a.length → o.length = i → U o → 0 ≤ c → c ≤ 1 →
    V o + 4294967296 ^ i * (2 * V (a.drop i) + c) = t → Ev (fun k => credenceref1_double.l0 k a c o (i : Int)) (D t) := by
  unfold Small at sa
  intro n
  induction n with
  | zero =>
    intro i o c hi ho uo c0 c1 h
    rw [List.drop_of_length_le (by omega), V_nil, Int.mul_zero, Int.zero_add] at h
    have hv := V_snoc o c
    rw [ho, h] at hv
    have hn := norm_ev (U_snoc' uo c0 (by omega)) (by unfold Big; simp; omega)
    rw [hv] at hn
    refine suc ?_
    simp (disch := omega) only [credenceref1_double.l0, if_neg, if_pos]
    exact Ev.bind hn (now fun _ => rfl)
  | succ n ih =>
    intro i o c hi ho uo c0 c1 h
    have da := U_getD ha i
    have hor := or32 (x := a.getD i 0 * 2 % 4294967296) (y := c) 1 (by omega) (by omega) (by omega) c0 (by omega) (by omega)
    refine suc ?_
    simp (disch := omega) only [credenceref1_double.l0, if_pos, rd_nat, hor, w64]
    refine ih (i + 1) _ _ (by omega) (by simp; omega) (U_snoc' uo (by omega) (by omega)) (by omega) (by omega) ?_
    rw [V_snoc, ho, pow_succ', ← h, V_drop_step (show i < a.length by omega), Int.mul_comm 4294967296 (4294967296 ^ i), Int.mul_assoc, Int.add_assoc, ← Int.mul_add]
    congr 2
    omega
theorem double_ev {x : Int} (hx : 0 ≤ x) (sx : Small (D x)) {b : Int} (b0 : 0 ≤ b) (b1 : b ≤ 1) : Ev (fun k => credenceref1_double.f k (D x) b) (D (2 * x + b)) := by
  simp only [credenceref1_double.f]
  exact dbl_l (D_U x) sx _ (D x).length 0 [] b (by omega) rfl U_nil b0 b1 (by rw [V_nil, Int.pow_zero, Int.one_mul, List.drop_zero, V_D x hx]; omega)
theorem half_l {a : List Int} (ha : U a) (sa : Small a) (t : Int) : ∀ (n i : Nat) (o : List Int), i + n = a.length → o.length = i → U o →
    V o + 4294967296 ^ i * (V (a.drop i) / 2) = t → Ev (fun k => credenceref1_half.l0 k a o (i : Int)) (D t) := by
  unfold Small at sa
  intro n
  induction n with
  | zero =>
    intro i o hi ho uo h
    rw [List.drop_of_length_le (by omega), V_nil, Int.zero_ediv, Int.mul_zero, Int.add_zero] at h
    have hn := norm_ev uo (by unfold Big; omega)
    rw [h] at hn
    refine suc ?_
    simp (disch := omega) only [credenceref1_half.l0, if_neg, if_pos]
    exact Ev.bind hn (now fun _ => rfl)
  | succ n ih =>
    intro i o hi ho uo h
    have da := U_getD ha i
    have hW := V_nonneg (U_drop ha (i + 1))
    have hs := V_drop_step (show i < a.length by omega)
    by_cases hl : i + 1 < a.length
    · have db := U_getD ha (i + 1)
      have hs2 := V_drop_step hl
      have hW2 := V_nonneg (U_drop ha (i + 1 + 1))
      have e1 : (i : Int) + 1 = ((i + 1 : Nat) : Int) := by omega
      have hor := or32 (x := a.getD (i + 1) 0 * 2147483648 % 4294967296) (y := a.getD i 0 / 2) 31 (by omega) (by omega) (by omega) (by omega) (by omega) (by omega)
      rw [or_comm32 (by omega) (by omega) (by omega) (by omega)] at hor
      refine suc ?_
      simp (disch := omega) only [credenceref1_half.l0, if_pos, w64, e1, rd_nat, hor]
      refine ih (i + 1) _ (by omega) (by simp; omega) (U_snoc' uo (by omega) (by omega)) ?_
      rw [V_snoc, ho, pow_succ', ← h, Int.mul_comm 4294967296 (4294967296 ^ i), Int.mul_assoc, Int.add_assoc, ← Int.mul_add]
      congr 2
      omega
    · have e1 : (i : Int) + 1 = ((i + 1 : Nat) : Int) := by omega
      have hz : V (a.drop (i + 1)) = 0 := by rw [List.drop_of_length_le (by omega), V_nil]
      refine suc ?_
      simp (disch := omega) only [credenceref1_half.l0, if_pos, if_neg, w64, e1, rd_nat]
      refine ih (i + 1) _ (by omega) (by simp; omega) (U_snoc' uo (by omega) (by omega)) ?_
      rw [V_snoc, ho, pow_succ', ← h, Int.mul_comm 4294967296 (4294967296 ^ i), Int.mul_assoc, Int.add_assoc, ← Int.mul_add]
      congr 2
      omega
theorem half_ev {x : Int} (hx : 0 ≤ x) (sx : Small (D x)) : Ev (fun k => credenceref1_half.f k (D x)) (D (x / 2)) := by
  simp only [credenceref1_half.f]
  exact half_l (D_U x) sx _ (D x).length 0 [] (by omega) rfl U_nil (by rw [V_nil, Int.pow_zero, Int.one_mul, List.drop_zero, V_D x hx]; omega)
end Go.Proofs.YtoeldfopjalpkaaDoor.Spec

