/- Lemmas for the proof of one law of this seat (FSpec1). -/
import Derived.Test.YtoeldfopjalpkaaDoorZRationalCanonicalSpec16
set_option linter.unusedSimpArgs false
set_option linter.unusedVariables false
namespace Go.Proofs.YtoeldfopjalpkaaDoor.Spec
open Go.RowKit Go.Proofs.YtoeldfopjalpkaaDoorW.PrintWords Go.Proofs.YtoeldfopjalpkaaDoorW.PrintLast Go.Proofs.YtoeldfopjalpkaaDoorW.PrintMore Go.Proofs.YtoeldfopjalpkaaDoor.Q Go.Proofs.YtoeldfopjalpkaaDoor.Nums

theorem D_one : D 1 = [1] := by
  rw [D_pos (by omega), show (1 : Int) / 4294967296 = 0 by decide, D_zero]
  rfl
theorem D_nat0 : D ((0 : Nat) : Int) = [] := D_zero
/-- The canonical form of a sign, a numerator and a denominator. -/
def Fr (s : Bool) (n d : Nat) : Bool × List Int × List Int := if n = 0 ∨ d = 0 then (false, [], D 1) else (s, D ((n / Nat.gcd n d : Nat) : Int), D ((d / Nat.gcd n d : Nat) : Int))
theorem Fr_zero {s : Bool} {n d : Nat} (h : n = 0 ∨ d = 0) : Fr s n d = (false, [], D 1) := if_pos h
theorem Fr_pos {s : Bool} {n d : Nat} (hn : 0 < n) (hd : 0 < d) : Fr s n d = (s, D ((n / Nat.gcd n d : Nat) : Int), D ((d / Nat.gcd n d : Nat) : Int)) := if_neg (by omega)
theorem one_D {n : Nat} (h : 0 < n) : (n = 1 ∧ D (n : Int) = [1]) ∨ (n ≠ 1 ∧ ((D (n : Int)).length > 1 ∨ ((D (n : Int)).length = 1 ∧ rd (D (n : Int)) 0 ≠ 1))) := by
  by_cases h1 : n = 1
  · subst h1; exact .inl ⟨rfl, D_one⟩
  · refine .inr ⟨h1, ?_⟩
    have hl := D_length_pos (n := (n : Int)) (by omega)
    have hv := V_D (n : Int) (by omega)
    revert hl hv
    generalize D (n : Int) = d
    intro hl hv
    match d, hl with
    | [x], _ =>
      rw [V_cons, V_nil] at hv
      refine .inr ⟨rfl, ?_⟩
      rw [show rd [x] 0 = x from rfl]
      omega
    | _ :: _ :: _, _ => exact .inl (by simp)
theorem bang {α : Type} {n : Nat} (h : 0 < n) (g : Bool → Option α) :
    (if ((D (n : Int)).length : Int) > 1 then g true else (if 0 < ((D (n : Int)).length : Int) then g ((rd (D (n : Int)) 0) != 1) else none)) = g (n != 1) := by
  rcases one_D h with ⟨h1, h2⟩ | ⟨h1, h2 | ⟨h2, h3⟩⟩
  · subst h1; rw [h2]; rfl
  · rw [if_pos (by omega)]
    congr 1
    symm
    exact bne_iff_ne.2 h1
  · rw [if_neg (by omega), if_pos (by omega)]
    congr 1
    rw [bne_iff_ne.2 h1]
    exact bne_iff_ne.2 h3
theorem divO_nat {x g : Nat} (hg : 0 < g) : divO (x : Int) (g : Int) = (D ((x / g : Nat) : Int), D ((x % g : Nat) : Int), true) := by
  unfold divO
  rw [if_pos (by omega)]
  rfl
theorem gcd_len {x y : Nat} (hx : (D (x : Int)).length ≤ 1048576) (hy : (D (y : Int)).length ≤ 1048576) : (D ((Nat.gcd x y : Nat) : Int)).length ≤ 1048576 := by
  by_cases h : x = 0
  · subst h; rw [Nat.gcd_zero_left]; exact hy
  · exact len_le (Nat.gcd_le_left y (by omega)) hx
theorem reduce_ev {a b : List Int} (ha : U a) (hb : U b) (sa : a.length ≤ 1048576) (sb : b.length ≤ 1048576) {x y : Nat} (hx : V a = (x : Int)) (hy : V b = (y : Int)) (s : Bool) :
    Ev (fun k => rational_reduce.f k s a b) (Fr s x y) := by
  have h1 := normalize_ev ha (by unfold Big; omega)
  have h2 := normalize_ev hb (by unfold Big; omega)
  have l1 := D_short ha
  have l2 := D_short hb
  rw [hx] at h1 l1
  rw [hy] at h2 l2
  have sx : (D (x : Int)).length ≤ 1048576 := by omega
  have sy : (D (y : Int)).length ≤ 1048576 := by omega
  simp only [rational_reduce.f]
  refine Ev.bind h1 (Ev.bind h2 ?_)
  by_cases x0 : x = 0
  · subst x0
    simp only [D_nat0, D_zero, List.length_nil, show ((0 : Nat) : Int) = 0 from rfl, if_true]
    refine suc ?_
    simp only [rational_reduce.j0, if_true, rational_one.f, Option.bind_some]
    rw [Fr_zero (.inl rfl), D_one]
    exact now fun _ => rfl
  · have lx := pos_at (x := x) (by omega)
    simp (disch := omega) only [if_neg]
    by_cases y0 : y = 0
    · subst y0
      rw [show (((D ((0 : Nat) : Int)).length : Int) == 0) = true by rw [D_nat0]; rfl]
      refine suc ?_
      simp only [rational_reduce.j0, if_true, rational_one.f, Option.bind_some]
      rw [Fr_zero (.inr rfl), D_one]
      exact now fun _ => rfl
    · have ly := pos_at (x := y) (by omega)
      rw [show (((D (y : Int)).length : Int) == 0) = false by rw [beq_eq_false_iff_ne]; omega]
      rw [Fr_pos (by omega) (by omega)]
      refine suc ?_
      simp only [rational_reduce.j0, Bool.false_eq_true, if_false]
      refine Ev.congr (fun k => bang (n := y) (by omega) (fun b => rational_reduce.j1 k s (D (x : Int)) (D (y : Int)) b)) ?_
      by_cases y1 : y = 1
      · subst y1
        rw [Nat.gcd_one_right, Nat.div_one, Nat.div_one]
        simp only [bne_self_eq_false]
        refine suc ?_
        simp only [rational_reduce.j1, Bool.false_eq_true, if_false]
        exact now fun _ => rfl
      · rw [bne_iff_ne.2 y1]
        have hg := Nat.gcd_pos_of_pos_left y (show 0 < x by omega)
        have eg := gcd_ev (D_U (x : Int)) (D_U (y : Int)) sx sy (V_D _ (by omega)) (V_D _ (by omega))
        have sg := gcd_len sx sy
        generalize Nat.gcd x y = g at *
        have d1 := divMod_ev (D_U (x : Int)) (D_U (g : Int)) sx (by unfold Big; omega)
        have d2 := divMod_ev (D_U (y : Int)) (D_U (g : Int)) sy (by unfold Big; omega)
        rw [V_D _ (by omega), V_D _ (by omega), divO_nat hg] at d1 d2
        refine suc ?_
        simp only [rational_reduce.j1, if_true]
        refine Ev.bind eg ?_
        refine Ev.congr (fun k => bang (n := g) hg (fun b => rational_reduce.j2 k s (D (x : Int)) (D (y : Int)) (D (g : Int)) b)) ?_
        by_cases g1 : g = 1
        · subst g1
          rw [Nat.div_one, Nat.div_one]
          simp only [bne_self_eq_false]
          refine suc ?_
          simp only [rational_reduce.j2, Bool.false_eq_true, if_false]
          exact now fun _ => rfl
        · rw [bne_iff_ne.2 g1]
          refine suc ?_
          simp only [rational_reduce.j2, if_true]
          exact Ev.bind d1 (Ev.bind d2 (now fun _ => rfl))
theorem fsame_ev (s : Bool) (n d : List Int) (hn : Big n) (hd : Big d) : Ev (fun k => credencelaw2_same.f k s n d s n d) true := by
  have e : Ev (fun k => credenceref1_FracSame.f k s n d s n d) true := by
    simp only [credenceref1_FracSame.f, BEq.rfl, if_true]
    refine Ev.bind (natSame_ev n hn) ?_
    simp only [if_true]
    exact Ev.bind (natSame_ev d hd) (now fun _ => rfl)
  simp only [credencelaw2_same.f]
  exact Ev.bind e (now fun _ => rfl)
/-- The canonical form is short. -/
theorem Fr_big (s : Bool) {n d : Nat} (hn : (D (n : Int)).length ≤ 1048576) (hd : (D (d : Int)).length ≤ 1048576) : (Fr s n d).2.1.length ≤ 1048576 ∧ (Fr s n d).2.2.length ≤ 1048576 := by
  unfold Fr
  split
  · rw [D_one]; exact ⟨by simp, by simp⟩
  · exact ⟨len_le (Nat.div_le_self _ _) hn, len_le (Nat.div_le_self _ _) hd⟩
end Go.Proofs.YtoeldfopjalpkaaDoor.Spec

