/- Lemmas for the proof of one law of this seat (PureRationalText). -/
import Derived.Test.YtoeldfopjalpkaaDoorZRationalTextFText
import Derived.Test.YtoeldfopjalpkaaDoorZRationalTextKnown2
set_option linter.unusedSimpArgs false
set_option linter.unusedVariables false
namespace Go.Proofs.YtoeldfopjalpkaaDoor.Pure
open Go.RowKit Go.Proofs.YtoeldfopjalpkaaDoorW.PrintWords Go.Proofs.YtoeldfopjalpkaaDoorW.PrintLast Go.Proofs.YtoeldfopjalpkaaDoorW.PrintMore Go.Proofs.YtoeldfopjalpkaaDoor.Q Go.Proofs.YtoeldfopjalpkaaDoor.Nums Go.Proofs.YtoeldfopjalpkaaDoor.Spec
/-- Both readers answer the same, and shortly. -/
theorem both_ev {s : ByteArray} (hs : s.size ≤ 60) : ∃ r : Bool × List Int × List Int × Int, Ev (fun k => rational_Parse.f k s) r ∧ Ev (fun k => credenceref1_FracParse.f k s) r ∧ r.2.1.length ≤ 1048576 ∧ r.2.2.1.length ≤ 1048576 := by
  have main : ∀ (neg : Bool) (l : List UInt8), l.length ≤ 60 → (neg = false → ∀ u, l ≠ 45 :: u) → ∃ r : Bool × List Int × List Int × Int, Ev (fun k => rational_Parse.f k (B (sgnT neg ++ l))) r ∧ Ev (fun k => credenceref1_FracParse.f k (B (sgnT neg ++ l))) r ∧ r.2.1.length ≤ 1048576 ∧ r.2.2.1.length ≤ 1048576 := by
    intro neg l hl hn
    obtain ⟨h, t, rfl, ho, ht⟩ := split_ok l
    rw [List.length_append] at hl
    exact ⟨resO neg h t, parseB_ev neg ho (by omega) ht hn, fracB_ev neg ho (by omega) ht hn, resO_big neg (by omega)⟩
  have hl : s.data.toList.length ≤ 60 := hs
  rw [B_of s]
  generalize s.data.toList = l at *
  by_cases h : ∃ u, l = 45 :: u
  · obtain ⟨u, rfl⟩ := h
    exact main true u (by rw [List.length_cons] at hl; omega) (fun e => by cases e)
  · exact main false l hl (fun _ u e => h ⟨u, e⟩)
theorem RationalText : credencelaw2_RationalText.Pure := by
  intro s l1 l2 a3 _ _ w1 _ _ w2 _
  apply Ev.rounds
  have T : Ev (fun k => credencelaw2_RationalText.j0 k s l1 l2 a3 true) true := by
    refine suc ?_
    simp only [credencelaw2_RationalText.j0, if_true]
    exact now fun _ => rfl
  have M : a3.size ≤ 60 → Ev (fun k => credencelaw2_RationalText.j0 k s l1 l2 a3 false) true := by
    intro h3
    obtain ⟨a, ea, ua, la⟩ := nat_ev w1
    obtain ⟨b, eb, ub, lb⟩ := nat_ev w2
    obtain ⟨x, hx⟩ := Int.eq_ofNat_of_zero_le (V_nonneg ua)
    obtain ⟨y, hy⟩ := Int.eq_ofNat_of_zero_le (V_nonneg ub)
    have eraw : Ev (fun k => credencelaw2_raw.f k s l1 l2) (s, a, b) := by
      simp only [credencelaw2_raw.f]
      exact Ev.bind ea (Ev.bind eb (now fun _ => rfl))
    have lx : Lim 8 (x : Int) := by rw [← hx]; exact (Lim.of_V ua).mono la
    have ly : Lim 8 (y : Int) := by rw [← hy]; exact (Lim.of_V ub).mono lb
    have sq := mk_sz s (n := x) (d := y) (k := 8) (by omega) lx ly
    have hn : Ev (fun k => rational_Normalize.f k s a b) (C (mk s x y)) := by
      have := reduce_ev ua ub (by omega) (by omega) hx hy s
      rw [Fr_C] at this
      simp only [rational_Normalize.f]
      exact Ev.bind this (now fun _ => rfl)
    have hf : Ev (fun k => credenceref1_frac.f k s a b) (C (mk s x y)) := by
      have := frac_ev ua ub (by omega) (by omega) hx hy s
      rw [Fr_C] at this
      exact this
    have e1 := formatC_ev sq hn
    have e2 := fformatC_ev sq hf
    have e3 := back_ev sq
    obtain ⟨r, p1, p2, b1, b2⟩ := both_ev h3
    have fs := fsame_ev r.1 r.2.1 r.2.2.1 (by unfold Big; omega) (by unfold Big; omega)
    refine suc ?_
    simp only [credencelaw2_RationalText.j0, Bool.false_eq_true, if_false]
    refine Ev.bind eraw (Ev.bind p1 (Ev.bind p2 (Ev.bind e1 (Ev.bind e3 (Ev.bind e2 ?_)))))
    simp only [if_true]
    refine Ev.bind fs ?_
    simp only [if_true, okO]
    refine Ev.bind hn (Ev.bind (sameC_ev rfl sq (by omega)) ?_)
    simp only [if_true]
    exact Ev.bind known_ev (now fun _ => rfl)
  simp only [credencelaw2_RationalText.f]
  by_cases h1 : (l1.length : Int) > 4
  · simp only [if_pos h1]
    exact T
  · simp only [if_neg h1]
    by_cases h2 : (l2.length : Int) > 4
    · simp only [if_pos h2]
      exact T
    · simp only [if_neg h2]
      by_cases h3 : (a3.size : Int) > 60
      · simp only [decide_eq_true h3]
        exact T
      · simp only [decide_eq_false h3]
        exact M (by omega)
end Go.Proofs.YtoeldfopjalpkaaDoor.Pure

