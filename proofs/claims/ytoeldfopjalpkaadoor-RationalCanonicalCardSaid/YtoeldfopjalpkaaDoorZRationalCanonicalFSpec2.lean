/- Lemmas for the proof of one law of this seat (FSpec2). -/
import Derived.Test.YtoeldfopjalpkaaDoorZRationalCanonicalFSpec1
set_option linter.unusedSimpArgs false
set_option linter.unusedVariables false
namespace Go.Proofs.YtoeldfopjalpkaaDoor.Spec
open Go.RowKit Go.Proofs.YtoeldfopjalpkaaDoorW.PrintWords Go.Proofs.YtoeldfopjalpkaaDoorW.PrintLast Go.Proofs.YtoeldfopjalpkaaDoorW.PrintMore Go.Proofs.YtoeldfopjalpkaaDoor.Q Go.Proofs.YtoeldfopjalpkaaDoor.Nums

theorem bl_nat {x : Nat} : ((bl (x : Int) : Nat) : Int) = 0 ↔ x = 0 := by
  constructor
  · intro h
    have h1 := bl_lt (x : Int)
    have : bl (x : Int) = 0 := by omega
    rw [this] at h1
    omega
  · intro h
    subst h
    rw [bl_zero (by omega)]
    rfl
/-- What parts tells of a fraction. -/
def pt (s : Bool) (a b : List Int) (x y : Nat) : Bool × List Int × List Int := if y = 0 ∨ x = 0 then (false, [], [1]) else (s, a, b)
theorem parts_ev {a b : List Int} (ha : U a) (hb : U b) (sa : Big a) (sb : Big b) {x y : Nat} (hx : V a = (x : Int)) (hy : V b = (y : Int)) (s : Bool) : Ev (fun k => rational_parts.f k s a b) (pt s a b x y) := by
  have h1 := bitLen_ev ha sa
  have h2 := bitLen_ev hb sb
  rw [hx] at h1
  rw [hy] at h2
  unfold pt
  simp only [rational_parts.f]
  refine Ev.bind h2 ?_
  by_cases y0 : y = 0
  · simp only [if_pos (bl_nat.2 y0), rational_one.f, Option.bind_some, if_pos (show y = 0 ∨ x = 0 from .inl y0)]
    exact now fun _ => rfl
  · simp only [if_neg (fun h => y0 (bl_nat.1 h))]
    refine Ev.bind h1 ?_
    by_cases x0 : x = 0
    · simp only [if_pos (bl_nat.2 x0), rational_one.f, Option.bind_some, if_pos (show y = 0 ∨ x = 0 from .inr x0)]
      exact now fun _ => rfl
    · simp only [if_neg (fun h => x0 (bl_nat.1 h)), if_neg (show ¬ (y = 0 ∨ x = 0) by omega)]
      exact now fun _ => rfl
theorem normalizeF_ev {a b : List Int} (ha : U a) (hb : U b) (sa : a.length ≤ 1048576) (sb : b.length ≤ 1048576) {x y : Nat} (hx : V a = (x : Int)) (hy : V b = (y : Int)) (s : Bool) :
    Ev (fun k => rational_Normalize.f k s a b) (Fr s x y) := by
  simp only [rational_Normalize.f]
  exact Ev.bind (reduce_ev ha hb sa sb hx hy s) (now fun _ => rfl)
theorem Fr_mul (s : Bool) (n d k : Nat) (hk : 0 < k) : Fr s (n * k) (d * k) = Fr s n d := by
  by_cases h : n = 0 ∨ d = 0
  · rw [Fr_zero h, Fr_zero (by rcases h with h | h <;> simp [h])]
  · have hn : 0 < n := by omega
    have hd : 0 < d := by omega
    rw [Fr_pos hn hd, Fr_pos (Nat.mul_pos hn hk) (Nat.mul_pos hd hk), Nat.gcd_mul_right, Nat.mul_div_mul_right _ _ hk, Nat.mul_div_mul_right _ _ hk]
/-- The canonical form, as numbers. -/
theorem Fr_nums (s : Bool) (n d : Nat) : ∃ (t : Bool) (p q : Nat), Fr s n d = (t, D (p : Int), D (q : Int)) ∧ 0 < q ∧ Fr t p q = (t, D (p : Int), D (q : Int)) ∧ p ≤ n ∧ (q ≤ d ∨ q = 1) ∧ ((n = 0 ∨ d = 0) → t = false ∧ p = 0 ∧ q = 1) ∧ (0 < n → 0 < d → t = s ∧ n = p * Nat.gcd n d ∧ d = q * Nat.gcd n d) := by
  by_cases h : n = 0 ∨ d = 0
  · refine ⟨false, 0, 1, ?_, by omega, ?_, by omega, .inr rfl, fun _ => ⟨rfl, rfl, rfl⟩, fun a b => by omega⟩
    · rw [Fr_zero h, D_nat0]; rfl
    · rw [Fr_zero (.inl rfl), D_nat0]; rfl
  · have hn : 0 < n := by omega
    have hd : 0 < d := by omega
    have hg := Nat.gcd_pos_of_pos_left d hn
    have e1 := Nat.div_mul_cancel (Nat.gcd_dvd_left n d)
    have e2 := Nat.div_mul_cancel (Nat.gcd_dvd_right n d)
    have q0 : 0 < d / Nat.gcd n d := Nat.div_pos (Nat.gcd_le_right n hd) hg
    have p0 : 0 < n / Nat.gcd n d := Nat.div_pos (Nat.gcd_le_left d hn) hg
    refine ⟨s, n / Nat.gcd n d, d / Nat.gcd n d, Fr_pos hn hd, q0, ?_, Nat.div_le_self _ _, .inl (Nat.div_le_self _ _), fun a => by omega, fun _ _ => ⟨rfl, e1.symm, e2.symm⟩⟩
    have := Fr_mul s (n / Nat.gcd n d) (d / Nat.gcd n d) (Nat.gcd n d) hg
    rw [e1, e2, Fr_pos hn hd] at this
    exact this.symm
theorem same_l (xs : List Int) (hs : Big xs) : ∀ (n i : Nat), i + n = xs.length → Ev (fun k => rational_same.l0 k xs xs (xs.length : Int) i) true := by
  unfold Big at hs
  intro n
  induction n with
  | zero =>
    intro i hi
    refine suc (now fun k => ?_)
    simp (disch := omega) only [rational_same.l0, if_neg]
  | succ n ih =>
    intro i hi
    refine suc ?_
    simp (disch := omega) only [rational_same.l0, if_pos, w64]
    exact ih (i + 1) (by omega)
theorem sameR_ev (xs : List Int) (hs : Big xs) : Ev (fun k => rational_same.f k xs xs) true := by
  simp only [rational_same.f, if_true]
  exact same_l xs hs xs.length 0 (by omega)
theorem isCan_ev (s : Bool) (n d : Nat) (hn : (D (n : Int)).length ≤ 1048576) (hd : (D (d : Int)).length ≤ 1048576) : Ev (fun k => rational_IsCanonical.f k (Fr s n d).1 (Fr s n d).2.1 (Fr s n d).2.2) true := by
  obtain ⟨t, p, q, h1, q0, h2, hp, hq, _, _⟩ := Fr_nums s n d
  have sp := len_le hp hn
  have sq : (D (q : Int)).length ≤ 1048576 := by
    rcases hq with hq | hq
    · exact len_le hq hd
    · subst hq; show (D 1).length ≤ _; rw [D_one]; simp
  have hN := normalizeF_ev (D_U (p : Int)) (D_U (q : Int)) sp sq (V_D _ (by omega)) (V_D _ (by omega)) t
  rw [h2] at hN
  rw [h1]
  simp only [rational_IsCanonical.f]
  refine Ev.bind hN ?_
  simp only [BEq.rfl, if_true]
  refine Ev.bind (sameR_ev _ (by unfold Big; omega)) ?_
  simp only [if_true]
  exact Ev.bind (sameR_ev _ (by unfold Big; omega)) (now fun _ => rfl)
theorem mulNat_ev {a b : List Int} (ha : U a) (hb : U b) (sa : Small a) (sb : Small b) {x y : Nat} (hx : V a = (x : Int)) (hy : V b = (y : Int)) : Ev (fun k => bignat_Mul.f k a b) (D ((x * y : Nat) : Int)) := by
  have := mul_ev ha hb sa sb
  rw [hx, hy] at this
  rw [Int.natCast_mul]
  exact this
theorem V_one : V [1] = ((1 : Nat) : Int) := by rw [V_cons, V_nil]; rfl
theorem U_one : U [1] := U_cons.2 ⟨by omega, U_nil⟩
/-- The parts of a fraction, as numbers. -/
theorem pt_nums {a b : List Int} (ha : U a) (hb : U b) (s : Bool) {x y : Nat} (hx : V a = (x : Int)) (hy : V b = (y : Int)) : ∃ (p q : Nat), U (pt s a b x y).2.1 ∧ U (pt s a b x y).2.2 ∧ V (pt s a b x y).2.1 = (p : Int) ∧ V (pt s a b x y).2.2 = (q : Int) ∧ (pt s a b x y).2.1.length ≤ a.length ∧ (pt s a b x y).2.2.length ≤ b.length + 1 := by
  unfold pt
  split
  · exact ⟨0, 1, U_nil, U_one, rfl, V_one, by simp, by simp⟩
  · exact ⟨x, y, ha, hb, hx, hy, by simp, by simp⟩
theorem mulF_ev {a b c d : List Int} (ha : U a) (hb : U b) (hc : U c) (hd : U d) (la : a.length ≤ 64) (lb : b.length ≤ 64) (lc : c.length ≤ 64) (ld : d.length ≤ 64) {x y z w : Nat} (hx : V a = (x : Int)) (hy : V b = (y : Int)) (hz : V c = (z : Int)) (hw : V d = (w : Int)) (s t : Bool) :
    ∃ (σ : Bool) (n m : Nat), Ev (fun k => rational_Mul.f k s a b t c d) (Fr σ n m) ∧ (D (n : Int)).length ≤ 1048576 ∧ (D (m : Int)).length ≤ 1048576 := by
  have e1 := parts_ev ha hb (by unfold Big; omega) (by unfold Big; omega) hx hy s
  have e2 := parts_ev hc hd (by unfold Big; omega) (by unfold Big; omega) hz hw t
  obtain ⟨p, q, u1, u2, v1, v2, l1, l2⟩ := pt_nums ha hb s hx hy
  obtain ⟨p', q', u1', u2', v1', v2', l1', l2'⟩ := pt_nums hc hd t hz hw
  generalize pt s a b x y = A at *
  generalize pt t c d z w = B at *
  have m1 := mulNat_ev u1 u1' (by unfold Small; omega) (by unfold Small; omega) v1 v1'
  have m2 := mulNat_ev u2 u2' (by unfold Small; omega) (by unfold Small; omega) v2 v2'
  have k1 : Lim (A.2.1.length + B.2.1.length) ((p * p' : Nat) : Int) := by
    rw [Int.natCast_mul, ← v1, ← v1']; exact (Lim.of_V u1).mul (Lim.of_V u1')
  have k2 : Lim (A.2.2.length + B.2.2.length) ((q * q' : Nat) : Int) := by
    rw [Int.natCast_mul, ← v2, ← v2']; exact (Lim.of_V u2).mul (Lim.of_V u2')
  have s1 := D_len_le k1.2
  have s2 := D_len_le k2.2
  refine ⟨A.1 != B.1, p * p', q * q', ?_, by omega, by omega⟩
  simp only [rational_Mul.f]
  exact Ev.bind e1 (Ev.bind e2 (Ev.bind m1 (Ev.bind m2 (Ev.bind (reduce_ev (D_U _) (D_U _) (by omega) (by omega) (V_D _ (by omega)) (V_D _ (by omega)) _) (now fun _ => rfl)))))
theorem add0 : bignat_Add.f 20 [] [] = some [] := by decide +kernel
theorem sub0_ev {a b : List Int} (ha : U a) (hb : U b) (sa : Small a) (sb : Small b) (h : V a = V b) : Ev (fun k => bignat_Sub.f k a b) ([], true) := by
  simp only [bignat_Sub.f]
  have ua := D_U (V a)
  have ub := D_U (V b)
  have s1 := D_small ha sa
  have s2 := D_small hb sb
  have h1 := V_nonneg ha
  have h2 := V_nonneg hb
  refine Ev.bind (trim_ev ha sa.big) (Ev.bind (trim_ev hb sb.big) (Ev.bind (cmp_ev ua ub s1.big s2.big) ?_))
  rw [V_D _ h1, V_D _ h2, cmpI_eq h]
  have hs := s1
  unfold Small at hs
  simp (disch := omega) only [if_neg, if_pos, Int.toNat_natCast]
  have := sub_l ua ub s1 (D_len_mono h2 (by omega)) (by rw [V_D _ h1, V_D _ h2]; omega) (D (V a)).length 0 (List.replicate (D (V a)).length 0) 0 (by omega) (by simp) (U_replicate _) (by omega) (by omega) (by simp [V])
  rw [V_D _ h1, V_D _ h2, h, Int.sub_self, D_zero] at this
  rw [h]
  exact this
theorem zero_red {b : List Int} (hb : U b) (sb : b.length ≤ 1048576) {y : Nat} (hy : V b = (y : Int)) (s : Bool) : Ev (fun k => rational_reduce.f k s [] b) (false, [], D 1) := by
  have := reduce_ev U_nil hb (by simp) sb (show V [] = ((0 : Nat) : Int) from rfl) hy s
  rw [Fr_zero (.inl rfl)] at this
  exact this
/-- A fraction less the same fraction, written with a factor, is 0. -/
theorem subF_ev {a b c d : List Int} (ha : U a) (hb : U b) (hc : U c) (hd : U d) (la : a.length ≤ 64) (lb : b.length ≤ 64) (lc : c.length ≤ 64) (ld : d.length ≤ 64) {x y f : Nat} (hf : 0 < f) (hx : V a = (x : Int)) (hy : V b = (y : Int)) (hz : V c = ((x * f : Nat) : Int)) (hw : V d = ((y * f : Nat) : Int)) (s : Bool) :
    Ev (fun k => rational_Sub.f k s a b s c d) (false, [], D 1) := by
  have dx : (D (x : Int)).length ≤ 64 := by rw [← hx]; exact Nat.le_trans (D_short ha) la
  have dy : (D (y : Int)).length ≤ 64 := by rw [← hy]; exact Nat.le_trans (D_short hb) lb
  have en : Ev (fun k => rational_Neg.f k s c d) (Fr (!s) x y) := by
    have := reduce_ev hc hd (by omega) (by omega) hz hw (!s)
    rw [Fr_mul _ _ _ _ hf] at this
    simp only [rational_Neg.f]
    exact Ev.bind this (now fun _ => rfl)
  obtain ⟨t, p, q, h1, q0, h2, hp, hq, hz0, hnz⟩ := Fr_nums (!s) x y
  have sp : (D (p : Int)).length ≤ 64 := by
    have := D_len_mono' (n := (p : Int)) (m := (x : Int)) (by omega) (by omega); omega
  have sq : (D (q : Int)).length ≤ 64 := by
    rcases hq with hq | hq
    · have := D_len_mono' (n := (q : Int)) (m := (y : Int)) (by omega) (by omega); omega
    · subst hq; show (D 1).length ≤ _; rw [D_one]; simp
  have e1 := parts_ev ha hb (by unfold Big; omega) (by unfold Big; omega) hx hy s
  have e2 := parts_ev (D_U (p : Int)) (D_U (q : Int)) (by unfold Big; omega) (by unfold Big; omega) (V_D _ (by omega)) (V_D _ (by omega)) t
  rw [h1] at en
  simp only [rational_Sub.f, rational_Add.f]
  refine Ev.bind en ?_
  refine Ev.bind (a := (false, [], D 1)) ?_ (now fun _ => rfl)
  refine Ev.bind e1 (Ev.bind e2 ?_)
  have one := cmp_ev U_one U_one (by unfold Big; simp) (by unfold Big; simp)
  rw [cmpI_eq rfl] at one
  by_cases h0 : x = 0 ∨ y = 0
  · obtain ⟨rfl, rfl, rfl⟩ := hz0 h0
    have p1 : pt s a b x y = (false, [], [1]) := if_pos (by omega)
    have p2 : pt false (D ((0 : Nat) : Int)) (D ((1 : Nat) : Int)) 0 1 = (false, [], [1]) := if_pos (by omega)
    rw [p1, p2]
    refine Ev.bind one ?_
    simp only [if_true]
    refine suc ?_
    simp only [rational_Add.j0, BEq.rfl, if_true]
    have ad : Ev (fun k => bignat_Add.f k [] []) [] := Ev.of (fun k => bignat_Add.mono [] [] k) add0
    exact Ev.bind ad (Ev.bind (zero_red U_one (by simp) V_one false) (now fun _ => rfl))
  · have x0 : 0 < x := by omega
    have y0 : 0 < y := by omega
    obtain ⟨rfl, ex, ey⟩ := hnz x0 y0
    have hg := Nat.gcd_pos_of_pos_left y x0
    have p0 : 0 < p := by
      rcases Nat.eq_zero_or_pos p with hp0 | hp0
      · rw [hp0, Nat.zero_mul] at ex; omega
      · exact hp0
    have p1 : pt s a b x y = (s, a, b) := if_neg (by omega)
    have p2 : pt (!s) (D (p : Int)) (D (q : Int)) p q = (!s, D (p : Int), D (q : Int)) := if_neg (by omega)
    rw [p1, p2]
    have ec := cmp_ev hb (D_U (q : Int)) (by unfold Big; omega) (by unfold Big; omega)
    rw [hy, V_D _ (by omega)] at ec
    have hs : (s == !s) = false := by cases s <;> rfl
    refine Ev.bind ec ?_
    by_cases hqy : y = q
    · have hg1 : Nat.gcd x y = 1 := by
        have : q * 1 = q * Nat.gcd x y := by omega
        exact (Nat.eq_of_mul_eq_mul_left q0 this).symm
      rw [hg1, Nat.mul_one] at ex
      have e0 : cmpI (y : Int) (q : Int) = 0 := cmpI_eq (by omega)
      simp only [e0, if_true]
      refine suc ?_
      simp only [rational_Add.j0, hs, Bool.false_eq_true, if_false]
      refine Ev.bind (sub0_ev ha (D_U _) (by unfold Small; omega) (by unfold Small; omega) (by rw [hx, V_D _ (by omega), ex])) ?_
      simp only [if_true]
      exact Ev.bind (zero_red hb (by omega) hy s) (now fun _ => rfl)
    · have e0 : ¬ cmpI (y : Int) (q : Int) = 0 := by
        unfold cmpI
        split
        · omega
        · rw [if_pos (by omega)]; omega
      simp only [if_neg e0]
      have m1 := mulNat_ev ha (D_U (q : Int)) (by unfold Small; omega) (by unfold Small; omega) hx (V_D _ (by omega))
      have m2 := mulNat_ev (D_U (p : Int)) hb (by unfold Small; omega) (by unfold Small; omega) (V_D _ (by omega)) hy
      have m3 := mulNat_ev hb (D_U (q : Int)) (by unfold Small; omega) (by unfold Small; omega) hy (V_D _ (by omega))
      have eq : x * q = p * y := by
        generalize Nat.gcd x y = g at *
        rw [ex, ey, Nat.mul_assoc, Nat.mul_comm g q]
      have k1 : Lim (a.length + (D (q : Int)).length) ((x * q : Nat) : Int) := by
        have := (Lim.of_V ha).mul (Lim.of_V (D_U (q : Int)))
        rw [hx, V_D _ (by omega)] at this
        rw [Int.natCast_mul]; exact this
      have k3 : Lim (b.length + (D (q : Int)).length) ((y * q : Nat) : Int) := by
        have := (Lim.of_V hb).mul (Lim.of_V (D_U (q : Int)))
        rw [hy, V_D _ (by omega)] at this
        rw [Int.natCast_mul]; exact this
      have s1 := D_len_le k1.2
      have s3 := D_len_le k3.2
      refine Ev.bind m1 (Ev.bind m2 (Ev.bind m3 ?_))
      refine suc ?_
      simp only [rational_Add.j0, hs, Bool.false_eq_true, if_false]
      refine Ev.bind (sub0_ev (D_U _) (D_U _) (by unfold Small; omega) (by rw [← eq]; unfold Small; omega) (by rw [eq])) ?_
      simp only [if_true]
      exact Ev.bind (zero_red (D_U _) (by omega) (V_D _ (by omega)) s) (now fun _ => rfl)
theorem sign0_ev : Ev (fun k => rational_Sign.f k false [] (D 1)) 0 := by
  have e := parts_ev U_nil (D_U 1) (by unfold Big; simp) (by rw [D_one]; unfold Big; simp) (show V [] = ((0 : Nat) : Int) from rfl) (y := 1) (V_D 1 (by omega)) false
  have p1 : pt false [] (D 1) 0 1 = (false, [], [1]) := if_pos (by omega)
  rw [p1] at e
  have h := bitLen_ev U_nil (by unfold Big; simp)
  rw [V_nil, bl_zero (by omega)] at h
  simp only [rational_Sign.f]
  refine Ev.bind e (Ev.bind h ?_)
  simp only [show ((0 : Nat) : Int) = 0 from rfl, if_true]
  exact now fun _ => rfl
end Go.Proofs.YtoeldfopjalpkaaDoor.Spec

