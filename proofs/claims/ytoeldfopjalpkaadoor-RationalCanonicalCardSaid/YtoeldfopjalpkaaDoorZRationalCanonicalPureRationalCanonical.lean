/- Lemmas for the proof of one law of this seat (PureRationalCanonical). -/
import Derived.Test.YtoeldfopjalpkaaDoorZRationalCanonicalFSpec2
import Derived.Test.YtoeldfopjalpkaaDoorZRationalCanonicalKnown2
set_option linter.unusedSimpArgs false
set_option linter.unusedVariables false
namespace Go.Proofs.YtoeldfopjalpkaaDoor.Pure
open Go.RowKit Go.Proofs.YtoeldfopjalpkaaDoorW.PrintWords Go.Proofs.YtoeldfopjalpkaaDoorW.PrintLast Go.Proofs.YtoeldfopjalpkaaDoorW.PrintMore Go.Proofs.YtoeldfopjalpkaaDoor.Q Go.Proofs.YtoeldfopjalpkaaDoor.Nums Go.Proofs.YtoeldfopjalpkaaDoor.Spec
theorem RationalCanonical : credencelaw2_RationalCanonical.Pure := by
  intro s l1 l2 m _ _ w1 _ _ w2 wm
  simp [Lit.wf, IntKind.min, IntKind.max, IntKind.bits, IntKind.signed] at wm
  apply Ev.rounds
  have T : Ev (fun k => credencelaw2_RationalCanonical.j0 k s l1 l2 m true) true := by
    refine suc ?_
    simp only [credencelaw2_RationalCanonical.j0, if_true]
    exact now fun _ => rfl
  have M : Ev (fun k => credencelaw2_RationalCanonical.j0 k s l1 l2 m false) true := by
    obtain ⟨a, ea, ua, la⟩ := nat_ev w1
    obtain ⟨b, eb, ub, lb⟩ := nat_ev w2
    have sa := eight la
    have sb := eight lb
    obtain ⟨x, hx⟩ := Int.eq_ofNat_of_zero_le (V_nonneg ua)
    obtain ⟨y, hy⟩ := Int.eq_ofNat_of_zero_le (V_nonneg ub)
    obtain ⟨f0, hf⟩ := Int.eq_ofNat_of_zero_le (show 0 ≤ m by omega)
    subst hf
    have ef : IntKind.u64.wrap (IntKind.u64.wrap (f0 : Int) + 1) = ((f0 + 1 : Nat) : Int) := by
      rw [u64w (n := (f0 : Int)) (by omega) (by omega), u64w (by omega) (by omega)]; omega
    have hfr := from_eq (n := ((f0 + 1 : Nat) : Int)) (by omega) (by omega)
    have lf : (D ((f0 + 1 : Nat) : Int)).length ≤ 2 := D_len_le (by
      have : (4294967296 : Int) ^ 2 = 18446744073709551616 := by decide
      omega)
    have eraw : Ev (fun k => credencelaw2_raw.f k s l1 l2) (s, a, b) := by
      simp only [credencelaw2_raw.f]
      exact Ev.bind ea (Ev.bind eb (now fun _ => rfl))
    have m1 := mulNat_ev ua (D_U ((f0 + 1 : Nat) : Int)) sa (by unfold Small; omega) hx (V_D _ (by omega))
    have m2 := mulNat_ev ub (D_U ((f0 + 1 : Nat) : Int)) sb (by unfold Small; omega) hy (V_D _ (by omega))
    have k1 : Lim (a.length + (D ((f0 + 1 : Nat) : Int)).length) ((x * (f0 + 1) : Nat) : Int) := by
      have := (Lim.of_V ua).mul (Lim.of_V (D_U ((f0 + 1 : Nat) : Int)))
      rw [hx, V_D _ (by omega)] at this
      rw [Int.natCast_mul]; exact this
    have k2 : Lim (b.length + (D ((f0 + 1 : Nat) : Int)).length) ((y * (f0 + 1) : Nat) : Int) := by
      have := (Lim.of_V ub).mul (Lim.of_V (D_U ((f0 + 1 : Nat) : Int)))
      rw [hy, V_D _ (by omega)] at this
      rw [Int.natCast_mul]; exact this
    have s1 := D_len_le k1.2
    have s2 := D_len_le k2.2
    have dx : (D (x : Int)).length ≤ 8 := by rw [← hx]; exact Nat.le_trans (D_short ua) la
    have dy : (D (y : Int)).length ≤ 8 := by rw [← hy]; exact Nat.le_trans (D_short ub) lb
    have nc := normalizeF_ev ua ub (by omega) (by omega) hx hy s
    have nb := normalizeF_ev (D_U ((x * (f0 + 1) : Nat) : Int)) (D_U ((y * (f0 + 1) : Nat) : Int)) (by omega) (by omega) (V_D _ (by omega)) (V_D _ (by omega)) s
    rw [Fr_mul _ _ _ _ (by omega)] at nb
    have ic := isCan_ev s x y (by omega) (by omega)
    obtain ⟨σ, p, q, em, sp, sq⟩ := mulF_ev ua ub (D_U ((x * (f0 + 1) : Nat) : Int)) (D_U ((y * (f0 + 1) : Nat) : Int)) (by omega) (by omega) (by omega) (by omega) hx hy (V_D _ (by omega)) (V_D _ (by omega)) s s
    have im := isCan_ev σ p q sp sq
    have es := subF_ev ua ub (D_U ((x * (f0 + 1) : Nat) : Int)) (D_U ((y * (f0 + 1) : Nat) : Int)) (by omega) (by omega) (by omega) (by omega) (f := f0 + 1) (by omega) hx hy (V_D _ (by omega)) (V_D _ (by omega)) s
    have is := isCan_ev false 0 1 (by rw [D_nat0]; simp) (by show (D 1).length ≤ _; rw [D_one]; simp)
    rw [Fr_zero (.inl rfl)] at is
    have bg := Fr_big s (n := x) (d := y) (by omega) (by omega)
    obtain ⟨t, u, v, h1, v0, h2, hu, hv, _, _⟩ := Fr_nums s x y
    have su := len_le hu (show (D (x : Int)).length ≤ 1048576 by omega)
    have sv : (D (v : Int)).length ≤ 1048576 := by
      rcases hv with hv | hv
      · exact len_le hv (by omega)
      · subst hv; show (D 1).length ≤ _; rw [D_one]; simp
    have nn := normalizeF_ev (D_U (u : Int)) (D_U (v : Int)) su sv (V_D _ (by omega)) (V_D _ (by omega)) t
    rw [h2] at nn
    have lv := pos_at v0
    have fs := fsame_ev t (D (u : Int)) (D (v : Int)) (by unfold Big; omega) (by unfold Big; omega)
    rw [h1] at nc nb ic
    refine suc ?_
    simp only [credencelaw2_RationalCanonical.j0, Bool.false_eq_true, if_false, ef, hfr, Option.bind_some]
    refine Ev.bind eraw (Ev.bind m1 (Ev.bind m2 (Ev.bind nc (Ev.bind ic ?_))))
    simp only [if_true]
    refine Ev.bind nb (Ev.bind fs ?_)
    simp only [if_true]
    refine Ev.bind nn (Ev.bind fs ?_)
    simp only [if_true]
    refine Ev.bind em (Ev.bind im ?_)
    simp only [if_true]
    refine Ev.bind es (Ev.bind is ?_)
    simp only [if_true]
    refine Ev.bind es (Ev.bind sign0_ev ?_)
    simp (disch := omega) only [if_true, if_pos]
    exact Ev.bind known_ev (now fun _ => rfl)
  simp only [credencelaw2_RationalCanonical.f]
  by_cases h1 : (l1.length : Int) > 4
  · simp only [if_pos h1]
    exact T
  · simp only [if_neg h1]
    by_cases h2 : (l2.length : Int) > 4
    · simp only [decide_eq_true h2]
      exact T
    · simp only [decide_eq_false h2]
      exact M
end Go.Proofs.YtoeldfopjalpkaaDoor.Pure

