/- Lemmas for the proof of one law of this seat (PureBignatDivisors). -/
import Derived.Test.YtjiaplnpgjicgaaZBignatDivisorsSpec13
import Derived.Test.YtjiaplnpgjicgaaZBignatDivisorsKnown1
set_option linter.unusedSimpArgs false
set_option linter.unusedVariables false
namespace Go.Proofs.Ytjiaplnpgjicgaa.Pure
open Go.RowKit Go.Proofs.YtjiaplnpgjicgaaW.PrintWords Go.Proofs.YtjiaplnpgjicgaaW.PrintLast Go.Proofs.Ytjiaplnpgjicgaa.Q Go.Proofs.Ytjiaplnpgjicgaa.Nums Go.Proofs.Ytjiaplnpgjicgaa.Spec
theorem BignatDivisors : credencelaw1_BignatDivisors.Pure := by
  intro l0 l1 l2 _ _ w0 _ _ w1 _ _ w2
  obtain ⟨a, ea, ua, la⟩ := nat_ev w0
  obtain ⟨b, eb, ub, lb⟩ := nat_ev w1
  obtain ⟨c, ec, uc, lc⟩ := nat_ev w2
  have xa := Lim.eight ua la
  have xb := Lim.eight ub lb
  have xc := Lim.eight uc lc
  have sa := eight la
  have sb := eight lb
  have sc := eight lc
  obtain ⟨x, hx⟩ := Int.eq_ofNat_of_zero_le (V_nonneg ua)
  obtain ⟨y, hy⟩ := Int.eq_ofNat_of_zero_le (V_nonneg ub)
  obtain ⟨z, hz⟩ := Int.eq_ofNat_of_zero_le (V_nonneg uc)
  have hba := bitLen_ev ua sa.big
  have hbb := bitLen_ev ub sb.big
  have bp : ∀ n : Int, 0 < n → bl n ≠ 0 := fun n h e => by
    have := bl_lt n
    rw [e, Int.pow_zero] at this
    omega
  have dz : ∀ {n : Int}, Lim 8 n → (D n).length ≤ 1048576 := fun h => Nat.le_trans (D_len_le h.2) (by decide)
  have xm := xa.mul xc
  have ym := xb.mul xc
  rw [hx] at xa hba
  rw [hy] at xb hbb
  have gab := gcd_ev ua ub (by omega) (by omega) hx hy
  have jt : x = 0 ∨ y = 0 → Ev (fun k => credencelaw1_BignatDivisors.j0 k a b c (D (Nat.gcd x y : Nat)) true) true := by
    intro h
    have ha := add_ev ua ub sa sb
    rw [hx, hy] at ha
    have e : ((Nat.gcd x y : Nat) : Int) = (x : Int) + (y : Int) := by
      rcases h with rfl | rfl
      · rw [Nat.gcd_zero_left]; omega
      · rw [Nat.gcd_zero_right]; omega
    refine suc ?_
    simp only [credencelaw1_BignatDivisors.j0, if_true]
    refine Ev.bind ha (Ev.bind (same_D (k := 9) (by rw [e]; exact xa.add xb) (by decide) e) ?_)
    simp only [if_true]
    exact Ev.bind known_ev (now fun _ => rfl)
  apply Ev.rounds
  simp only [credencelaw1_BignatDivisors.f]
  refine Ev.bind ea (Ev.bind eb (Ev.bind ec (Ev.bind gab (Ev.bind hba ?_))))
  by_cases x0 : x = 0
  · have hz0 : ((bl (x : Int) : Nat) : Int) = 0 := by rw [x0, bl_zero (by omega)]; rfl
    simp only [if_pos hz0]
    exact jt (.inl x0)
  · have hz0 : ¬ ((bl (x : Int) : Nat) : Int) = 0 := by have := bp x (by omega); omega
    simp only [if_neg hz0]
    refine Ev.bind hbb ?_
    by_cases y0 : y = 0
    · have he : (((bl (y : Int) : Nat) : Int) == 0) = true := by rw [y0, bl_zero (by omega)]; rfl
      simp only [he]
      exact jt (.inr y0)
    · have he : (((bl (y : Int) : Nat) : Int) == 0) = false := by
        have := bp y (by omega)
        rw [beq_eq_false_iff_ne]
        omega
      simp only [he]
      have hg : 0 < Nat.gcd x y := Nat.gcd_pos_of_pos_left _ (by omega)
      have hgx : Nat.gcd x y ≤ x := Nat.le_of_dvd (by omega) (Nat.gcd_dvd_left x y)
      obtain ⟨p, hp⟩ := Nat.gcd_dvd_left x y
      obtain ⟨q, hq⟩ := Nat.gcd_dvd_right x y
      have hpq : Nat.gcd p q = 1 := by
        have := Nat.gcd_mul_left (Nat.gcd x y) p q
        rw [← hp, ← hq] at this
        exact (Nat.eq_of_mul_eq_mul_left hg (by omega))
      have hgm : Nat.gcd (x * z) (y * z) = Nat.gcd x y * z := Nat.gcd_mul_right x z y
      generalize Nat.gcd x y = g at *
      have xg : Lim 8 (g : Int) := ⟨by omega, by have := xa.2; omega⟩
      have gg := (dz xg)
      have e1 : divO (x : Int) (V (D (g : Int))) = (D (p : Int), [], true) := by
        rw [V_D _ (by omega)]
        unfold divO
        rw [if_pos (by omega), hp]
        rw [show (((g * p : Nat)) : Int) = (g : Int) * (p : Int) from Int.natCast_mul _ _, Int.mul_ediv_cancel_left _ (by omega), Int.mul_emod_right, D_zero]
      have e2 : divO (y : Int) (V (D (g : Int))) = (D (q : Int), [], true) := by
        rw [V_D _ (by omega)]
        unfold divO
        rw [if_pos (by omega), hq]
        rw [show (((g * q : Nat)) : Int) = (g : Int) * (q : Int) from Int.natCast_mul _ _, Int.mul_ediv_cancel_left _ (by omega), Int.mul_emod_right, D_zero]
      have d1 := divMod_ev ua (D_U (g : Int)) (by omega) (by unfold Big; omega)
      have d2 := divMod_ev ub (D_U (g : Int)) (by omega) (by unfold Big; omega)
      rw [hx, e1] at d1
      rw [hy, e2] at d2
      have hpx : p ≤ x := by rw [hp]; exact Nat.le_mul_of_pos_left p hg
      have hqy : q ≤ y := by rw [hq]; exact Nat.le_mul_of_pos_left q hg
      have xp : Lim 8 (p : Int) := ⟨by omega, by have := xa.2; omega⟩
      have xq : Lim 8 (q : Int) := ⟨by omega, by have := xb.2; omega⟩
      have g1 := gcd_ev xp.U xq.U (dz xp) (dz xq) xp.V xq.V
      rw [hpq] at g1
      have m1 := mul_ev ua uc sa sc
      have m2 := mul_ev ub uc sb sc
      rw [hx, hz] at xm
      rw [hy, hz] at ym
      rw [hx, hz] at m1
      rw [hy, hz] at m2
      have g2 := gcd_ev xm.U ym.U (Nat.le_trans (D_len_le xm.2) (by decide)) (Nat.le_trans (D_len_le ym.2) (by decide)) (x := x * z) (y := y * z) (by rw [xm.V]; exact (Int.natCast_mul _ _).symm) (by rw [ym.V]; exact (Int.natCast_mul _ _).symm)
      rw [hgm] at g2
      have m3 := mul_ev xg.U uc (xg.small (by decide)) sc
      rw [xg.V, hz] at m3
      have xgz := xg.mul xc
      rw [hz] at xgz
      have one : Lim 1 1 := by unfold Lim; decide
      have f1 := from_eq (n := 1) (by omega) (by omega)
      refine suc ?_
      simp only [credencelaw1_BignatDivisors.j0, Bool.false_eq_true, if_false, f1, Option.bind_some]
      refine Ev.bind d1 (Ev.bind d2 ?_)
      simp (disch := omega) only [if_true, if_pos, List.length_nil]
      refine Ev.bind g1 (Ev.bind (same_D one (by decide) rfl) ?_)
      simp only [if_true]
      refine Ev.bind m1 (Ev.bind m2 (Ev.bind g2 (Ev.bind m3 (Ev.bind (same_D (k := 16) (by rw [Int.natCast_mul]; exact xgz) (by decide) (Int.natCast_mul _ _)) ?_))))
      simp only [if_true]
      exact Ev.bind known_ev (now fun _ => rfl)
end Go.Proofs.Ytjiaplnpgjicgaa.Pure

