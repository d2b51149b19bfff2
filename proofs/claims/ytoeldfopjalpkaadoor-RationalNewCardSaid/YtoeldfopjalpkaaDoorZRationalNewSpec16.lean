/- Lemmas for the proof of one law of this seat (Spec16). -/
import Derived.Test.YtoeldfopjalpkaaDoorZRationalNewSpec15
set_option linter.unusedSimpArgs false
set_option linter.unusedVariables false
namespace Go.Proofs.YtoeldfopjalpkaaDoor.Spec
open Go.RowKit Go.Proofs.YtoeldfopjalpkaaDoorW.PrintWords Go.Proofs.YtoeldfopjalpkaaDoorW.PrintLast Go.Proofs.YtoeldfopjalpkaaDoorW.PrintMore Go.Proofs.YtoeldfopjalpkaaDoor.Q Go.Proofs.YtoeldfopjalpkaaDoor.Nums

theorem odd_at {x : Nat} (h : 0 < x) : Go.bits .and .u32 (rd (D (x : Int)) 0) 1 = ((x % 2 : Nat) : Int) := by
  rw [D_pos (show (0 : Int) < x by omega)]
  rw [show rd ((x : Int) % 4294967296 :: D ((x : Int) / 4294967296)) 0 = (x : Int) % 4294967296 from rfl, and1u (by omega) (by omega)]
  omega
theorem pos_at {x : Nat} (h : 0 < x) : 0 < ((D (x : Int)).length : Int) := by
  have := D_length_pos (n := (x : Int)) (by omega); omega
theorem shift_lt {g sh G : Nat} (hg : 0 < g) (h : g * 2 ^ sh = G) (sG : (D (G : Int)).length ≤ 1048576) : sh < 33554432 := by
  have hp := Nat.two_pow_pos sh
  have hG : 0 < G := by rw [← h]; exact Nat.mul_pos hg hp
  have h1 := (D_len (n := (G : Int)) (by omega)).2
  rw [← pow32] at h1
  have h2 : (2 : Int) ^ sh ≤ G := by
    have : 2 ^ sh ≤ G := by rw [← h]; exact Nat.le_mul_of_pos_left _ hg
    have e : ((2 ^ sh : Nat) : Int) = (2 : Int) ^ sh := by simp
    omega
  rcases Nat.lt_or_ge sh 33554432 with g | g
  · exact g
  · have := pow2_le (show 32 * (D (G : Int)).length ≤ sh by omega)
    omega
theorem half_nat {x : Nat} (sx : (D (x : Int)).length ≤ 1048576) : Ev (fun k => credenceref1_half.f k (D (x : Int))) (D ((x / 2 : Nat) : Int)) := by
  have := half_ev (x := (x : Int)) (by omega) (by unfold Small; omega)
  rw [show (x : Int) / 2 = ((x / 2 : Nat) : Int) by omega] at this
  exact this
theorem len_le {x y : Nat} (h : x ≤ y) (sy : (D (y : Int)).length ≤ 1048576) : (D (x : Int)).length ≤ 1048576 := by
  have := D_len_mono' (n := (x : Int)) (m := (y : Int)) (by omega) (by omega); omega
theorem gcd4 {G sh : Nat} (sG : (D (G : Int)).length ≤ 1048576) (hsh : sh < 33554432) : ∀ (n i x : Nat), i + n = sh → x * 2 ^ n = G → Ev (fun k => credenceref1_NatGCD.l4 k (D (x : Int)) (sh : Int) (i : Int)) (D (G : Int)) := by
  intro n
  induction n with
  | zero =>
    intro i x hi h
    rw [Nat.pow_zero, Nat.mul_one] at h
    subst h
    refine suc ?_
    simp (disch := omega) only [credenceref1_NatGCD.l4, if_neg]
    exact now fun _ => rfl
  | succ n ih =>
    intro i x hi h
    have hp := Nat.two_pow_pos n
    have hx : x ≤ G := by rw [← h]; exact Nat.le_mul_of_pos_right _ (Nat.two_pow_pos _)
    have sx := len_le hx sG
    have hd := double_ev (x := (x : Int)) (by omega) (by unfold Small; omega) (b := 0) (by omega) (by omega)
    have e1 : (2 : Int) * (x : Int) + 0 = ((2 * x : Nat) : Int) := by omega
    have e2 : wrap64 ((i : Int) + 1) = ((i + 1 : Nat) : Int) := by rw [w64 (by omega) (by omega)]; omega
    rw [e1] at hd
    refine suc ?_
    simp (disch := omega) only [credenceref1_NatGCD.l4, if_pos, e2]
    refine Ev.bind hd (ih (i + 1) (2 * x) (by omega) ?_)
    rw [← h, Nat.pow_succ]
    rw [Nat.mul_comm 2 x, Nat.mul_assoc, Nat.mul_comm 2]
theorem gcd_half_left {x y : Nat} (h : x % 2 = 0) (ho : y % 2 = 1) : Nat.gcd (x / 2) y = Nat.gcd x y := by
  have hc : Nat.Coprime 2 y := by
    rw [Nat.coprime_iff_gcd_eq_one, Nat.gcd_rec, ho]
    decide
  have e : x = 2 * (x / 2) := by omega
  conv => rhs; rw [e]
  exact (Nat.Coprime.gcd_mul_left_cancel _ hc).symm
theorem gcd_half_right {x y : Nat} (h : y % 2 = 0) (ho : x % 2 = 1) : Nat.gcd x (y / 2) = Nat.gcd x y := by
  rw [Nat.gcd_comm, gcd_half_left h ho, Nat.gcd_comm]
theorem gcd13 {G sh : Nat} (sG : (D (G : Int)).length ≤ 1048576) (hsh : sh < 33554432) : ∀ n : Nat,
    (∀ x y : Nat, x + y = n → 0 < x → 0 < y → x % 2 = 1 → (D (x : Int)).length ≤ 1048576 → (D (y : Int)).length ≤ 1048576 → Nat.gcd x y * 2 ^ sh = G → Ev (fun k => credenceref1_NatGCD.l3 k (D (x : Int)) (D (y : Int)) (sh : Int)) (D (G : Int))) ∧
    (∀ x y : Nat, x + y = n → 0 < x → 0 < y → (x % 2 = 1 ∨ y % 2 = 1) → (D (x : Int)).length ≤ 1048576 → (D (y : Int)).length ≤ 1048576 → Nat.gcd x y * 2 ^ sh = G → Ev (fun k => credenceref1_NatGCD.l2 k (D (x : Int)) (D (y : Int)) (sh : Int)) (D (G : Int))) ∧
    (∀ x y : Nat, x + y = n → 0 < x → (x % 2 = 1 ∨ y % 2 = 1) → (D (x : Int)).length ≤ 1048576 → (D (y : Int)).length ≤ 1048576 → Nat.gcd x y * 2 ^ sh = G → Ev (fun k => credenceref1_NatGCD.l1 k (D (x : Int)) (D (y : Int)) (sh : Int)) (D (G : Int))) := by
  intro n
  induction n using Nat.strongRecOn with
  | ind n ih =>
    have h3 : ∀ x y : Nat, x + y = n → 0 < x → 0 < y → x % 2 = 1 → (D (x : Int)).length ≤ 1048576 → (D (y : Int)).length ≤ 1048576 → Nat.gcd x y * 2 ^ sh = G → Ev (fun k => credenceref1_NatGCD.l3 k (D (x : Int)) (D (y : Int)) (sh : Int)) (D (G : Int)) := by
      intro x y hn x0 y0 xo sx sy h
      have oy := odd_at y0
      have ly := pos_at y0
      by_cases ho : y % 2 = 0
      · have e0 : ((y % 2 : Nat) : Int) = 0 := by omega
        refine suc ?_
        simp only [credenceref1_NatGCD.l3, if_pos ly, oy, if_pos e0]
        exact Ev.bind (half_nat sy) ((ih (x + y / 2) (by omega)).1 x (y / 2) rfl x0 (by omega) xo sx (len_le (by omega) sy) (by rw [gcd_half_right ho xo]; exact h))
      · have e0 : ¬ ((y % 2 : Nat) : Int) = 0 := by omega
        have hc := ncmp_ev (D_U (x : Int)) (D_U (y : Int)) (by unfold Big; omega) (by unfold Big; omega)
        have hs1 := nsub_ev (D_U (x : Int)) (D_U (y : Int)) (by unfold Small; omega) (by unfold Small; omega)
        have hs2 := nsub_ev (D_U (y : Int)) (D_U (x : Int)) (by unfold Small; omega) (by unfold Small; omega)
        rw [V_D _ (by omega), V_D _ (by omega)] at hc hs1 hs2
        refine suc ?_
        simp only [credenceref1_NatGCD.l3, if_pos ly, oy, if_neg e0]
        refine Ev.bind hc ?_
        by_cases hlt : y < x
        · have e1 : cmpI (x : Int) (y : Int) > 0 := by rw [cmpI_gt (by omega)]; omega
          have e2 : subO (x : Int) (y : Int) = (D ((x - y : Nat) : Int), true) := by
            unfold subO
            rw [if_neg (by omega), show (x : Int) - (y : Int) = ((x - y : Nat) : Int) by omega]
          rw [e2] at hs1
          simp only [if_pos e1]
          refine Ev.bind hs1 ((ih (y + (x - y)) (by omega)).2.2 y (x - y) rfl y0 (by omega) sy (len_le (by omega) sx) ?_)
          rw [Nat.gcd_sub_self_right (by omega), Nat.gcd_comm]; exact h
        · have e1 : ¬ cmpI (x : Int) (y : Int) > 0 := by
            unfold cmpI
            split
            · omega
            · rw [if_neg (by omega)]; omega
          have e2 : subO (y : Int) (x : Int) = (D ((y - x : Nat) : Int), true) := by
            unfold subO
            rw [if_neg (by omega), show (y : Int) - (x : Int) = ((y - x : Nat) : Int) by omega]
          rw [e2] at hs2
          simp only [if_neg e1]
          refine Ev.bind hs2 ((ih (x + (y - x)) (by omega)).2.2 x (y - x) rfl x0 (by omega) sx (len_le (by omega) sy) ?_)
          rw [Nat.gcd_sub_self_right (by omega)]; exact h
    have h2 : ∀ x y : Nat, x + y = n → 0 < x → 0 < y → (x % 2 = 1 ∨ y % 2 = 1) → (D (x : Int)).length ≤ 1048576 → (D (y : Int)).length ≤ 1048576 → Nat.gcd x y * 2 ^ sh = G → Ev (fun k => credenceref1_NatGCD.l2 k (D (x : Int)) (D (y : Int)) (sh : Int)) (D (G : Int)) := by
      intro x y hn x0 y0 xo sx sy h
      have ox := odd_at x0
      have lx := pos_at x0
      by_cases ho : x % 2 = 0
      · have e0 : ((x % 2 : Nat) : Int) = 0 := by omega
        refine suc ?_
        simp only [credenceref1_NatGCD.l2, if_pos lx, ox, if_pos e0]
        exact Ev.bind (half_nat sx) ((ih (x / 2 + y) (by omega)).2.1 (x / 2) y rfl (by omega) y0 (by omega) (len_le (by omega) sx) sy (by rw [gcd_half_left ho (by omega)]; exact h))
      · have e0 : ¬ ((x % 2 : Nat) : Int) = 0 := by omega
        refine suc ?_
        simp only [credenceref1_NatGCD.l2, if_pos lx, ox, if_neg e0]
        exact h3 x y hn x0 y0 (by omega) sx sy h
    refine ⟨h3, h2, ?_⟩
    intro x y hn x0 xo sx sy h
    by_cases y0 : 0 < y
    · have ly := pos_at y0
      refine suc ?_
      simp only [credenceref1_NatGCD.l1, if_pos ly, gt_iff_lt]
      exact h2 x y hn x0 y0 xo sx sy h
    · obtain rfl : y = 0 := by omega
      rw [Nat.gcd_zero_right] at h
      refine suc ?_
      rw [show D ((0 : Nat) : Int) = [] from D_zero]
      simp (disch := omega) only [credenceref1_NatGCD.l1, List.length_nil, if_neg]
      exact gcd4 sG hsh sh 0 x (by omega) h
theorem gcd0 {G : Nat} (sG : (D (G : Int)).length ≤ 1048576) : ∀ (x y sh : Nat), 0 < x → 0 < y → (D (x : Int)).length ≤ 1048576 → (D (y : Int)).length ≤ 1048576 → Nat.gcd x y * 2 ^ sh = G → Ev (fun k => credenceref1_NatGCD.l0 k (D (x : Int)) (D (y : Int)) (sh : Int)) (D (G : Int)) := by
  intro x
  induction x using Nat.strongRecOn with
  | ind x ih =>
    intro y sh x0 y0 sx sy h
    have hsh := shift_lt (Nat.gcd_pos_of_pos_left y x0) h sG
    have ox := odd_at x0
    have lx := pos_at x0
    have oy := odd_at y0
    have ly := pos_at y0
    by_cases ho : x % 2 = 0
    · have e0 : ((x % 2 : Nat) : Int) = 0 := by omega
      refine suc ?_
      simp only [credenceref1_NatGCD.l0, if_pos lx, ox, if_pos e0, if_pos ly, oy]
      by_cases hy : y % 2 = 0
      · have e1 : (((y % 2 : Nat) : Int) == 0) = true := by rw [beq_iff_eq]; omega
        have e2 : wrap64 ((sh : Int) + 1) = ((sh + 1 : Nat) : Int) := by rw [w64 (by omega) (by omega)]; omega
        refine suc ?_
        simp only [credenceref1_NatGCD.j1, e1, if_true, e2]
        refine Ev.bind (half_nat sx) (Ev.bind (half_nat sy) (ih (x / 2) (by omega) (y / 2) (sh + 1) (by omega) (by omega) (len_le (by omega) sx) (len_le (by omega) sy) ?_))
        have e : Nat.gcd x y = 2 * Nat.gcd (x / 2) (y / 2) := by
          rw [← Nat.gcd_mul_left]
          congr 1 <;> omega
        rw [← h, e, Nat.pow_succ, Nat.mul_comm 2, Nat.mul_assoc, Nat.mul_comm 2]
      · have e1 : (((y % 2 : Nat) : Int) == 0) = false := by rw [beq_eq_false_iff_ne]; omega
        refine suc ?_
        simp only [credenceref1_NatGCD.j1, e1, Bool.false_eq_true, if_false]
        exact (gcd13 sG hsh (x + y)).2.2 x y rfl x0 (by omega) sx sy h
    · have e0 : ¬ ((x % 2 : Nat) : Int) = 0 := by omega
      refine suc ?_
      simp only [credenceref1_NatGCD.l0, if_pos lx, ox, if_neg e0]
      refine suc ?_
      simp only [credenceref1_NatGCD.j1, Bool.false_eq_true, if_false]
      exact (gcd13 sG hsh (x + y)).2.2 x y rfl x0 (by omega) sx sy h
theorem natGCD_ev {a b : List Int} (ha : U a) (hb : U b) (sa : a.length ≤ 1048576) (sb : b.length ≤ 1048576) {x y : Nat} (hx : V a = (x : Int)) (hy : V b = (y : Int)) : Ev (fun k => credenceref1_NatGCD.f k a b) (D (Nat.gcd x y : Nat)) := by
  have h1 := norm_ev ha (by unfold Big; omega)
  have h2 := norm_ev hb (by unfold Big; omega)
  have l1 := D_short ha
  have l2 := D_short hb
  rw [hx] at h1 l1
  rw [hy] at h2 l2
  simp only [credenceref1_NatGCD.f]
  refine Ev.bind h1 (Ev.bind h2 ?_)
  by_cases x0 : x = 0
  · subst x0
    rw [Nat.gcd_zero_left, show D ((0 : Nat) : Int) = [] from D_zero]
    simp only [List.length_nil, show ((0 : Nat) : Int) = 0 from rfl, if_true]
    exact now fun _ => rfl
  · have lx := pos_at (x := x) (by omega)
    by_cases y0 : y = 0
    · subst y0
      rw [Nat.gcd_zero_right, show D ((0 : Nat) : Int) = [] from D_zero]
      simp (disch := omega) only [List.length_nil, if_neg, show ((0 : Nat) : Int) = 0 from rfl, if_true]
      exact now fun _ => rfl
    · have ly := pos_at (x := y) (by omega)
      simp (disch := omega) only [if_neg]
      exact gcd0 (len_le (Nat.gcd_le_left y (by omega)) (by omega)) x y 0 (by omega) (by omega) (by omega) (by omega) (by rw [Nat.pow_zero, Nat.mul_one])
end Go.Proofs.YtoeldfopjalpkaaDoor.Spec

