/- Lemmas for the proof of one law of this seat (Spec13). -/
import Derived.Test.YtoeldfopjalpkaaDoorZRationalCanonicalSpec9
set_option linter.unusedSimpArgs false
set_option linter.unusedVariables false
namespace Go.Proofs.YtoeldfopjalpkaaDoor.Spec
open Go.RowKit Go.Proofs.YtoeldfopjalpkaaDoorW.PrintWords Go.Proofs.YtoeldfopjalpkaaDoorW.PrintLast Go.Proofs.YtoeldfopjalpkaaDoorW.PrintMore Go.Proofs.YtoeldfopjalpkaaDoor.Q Go.Proofs.YtoeldfopjalpkaaDoor.Nums

theorem D_len_mono' {n m : Int} (hm : 0 ≤ m) (h : n ≤ m) : (D n).length ≤ (D m).length := by
  rcases Nat.lt_or_ge (D m).length (D n).length with g | g
  · by_cases hn : 0 ≤ n
    · have := D_mono hn g; omega
    · rw [D_neg (by omega)]; simp
  · exact g
theorem or0 {x : Int} (h0 : 0 ≤ x) (h1 : x < 4294967296) : Go.bits .or .u64 0 (shl .u64 x 0) = x := by
  have e : shl .u64 x 0 = x := by
    have := (shl_eq (x := x) (s := 0) (by omega) h0 h1).1
    simpa using this
  rw [e]
  have := or64 (x := 0) (y := x) 32 (by omega) (by omega) (by omega) h0 (by omega) (by omega)
  omega
theorem or1 {c x : Int} (c0 : 0 ≤ c) (c1 : c < 4294967296) (h0 : 0 ≤ x) (h1 : x < 4294967296) : Go.bits .or .u64 c (shl .u64 x 32) = c + x * 4294967296 := by
  have e : shl .u64 x 32 = x * 4294967296 := by
    unfold shl
    rw [show min (32 : Int).toNat IntKind.u64.bits = 32 by decide, show (2 : Int) ^ 32 = 4294967296 by decide]
    exact u64w (by omega) (by omega)
  rw [e, or_comm64 c0 (by omega) (by omega) (by omega)]
  have := or_hi h0 h1 c0 c1
  omega
theorem uint64_ev {a : List Int} (ha : U a) (sa : Big a) (hl : (D (V a)).length ≤ 2) : Ev (fun k => bignat_Uint64.f k a) (V a, true) := by
  have h1 := V_nonneg ha
  simp only [bignat_Uint64.f]
  refine Ev.bind (trim_ev ha sa) ?_
  have hv := V_D (V a) h1
  have hu := D_U (V a)
  revert hl hv hu
  generalize D (V a) = d
  generalize V a = v
  intro hl hv hu
  match d, hl with
  | [], _ =>
    rw [V_nil] at hv
    subst hv
    simp (disch := omega) only [if_neg, List.length_nil]
    refine suc ?_
    simp (disch := omega) only [bignat_Uint64.l0, if_neg, List.length_nil]
    exact now fun _ => rfl
  | [x], _ =>
    obtain ⟨hx, _⟩ := U_cons.1 hu
    rw [V_cons, V_nil] at hv
    have e0 := or0 hx.1 hx.2
    have er : rd [x] 0 = x := rfl
    have ev : v = x := by omega
    subst ev
    have el : (([v] : List Int).length : Int) = 1 := rfl
    simp (disch := omega) only [if_neg, el]
    refine suc ?_
    simp (disch := omega) only [bignat_Uint64.l0, if_pos, el, er, u64w, w64, Int.mul_zero, e0]
    refine suc ?_
    simp (disch := omega) only [bignat_Uint64.l0, if_neg]
    exact now fun _ => rfl
  | [x, y], _ =>
    obtain ⟨hx, hy'⟩ := U_cons.1 hu
    obtain ⟨hy, _⟩ := U_cons.1 hy'
    rw [V_cons, V_cons, V_nil] at hv
    have e0 := or0 hx.1 hx.2
    have e1 := or1 hx.1 hx.2 hy.1 hy.2
    have er : rd [x, y] 0 = x := rfl
    have er1 : rd [x, y] 1 = y := rfl
    have ev : x + y * 4294967296 = v := by omega
    have el : (([x, y] : List Int).length : Int) = 2 := rfl
    have z1 : (0 : Int) + 1 = 1 := rfl
    have z2 : (32 : Int) * 1 = 32 := rfl
    simp (disch := omega) only [if_neg, el]
    refine suc ?_
    simp (disch := omega) only [bignat_Uint64.l0, if_pos, el, er, u64w, w64, Int.mul_zero, e0, z1]
    refine suc ?_
    simp (disch := omega) only [bignat_Uint64.l0, if_pos, el, er1, u64w, w64, z2, e1]
    refine suc ?_
    simp (disch := omega) only [bignat_Uint64.l0, if_neg]
    exact now fun _ => by rw [ev]
theorem gs_l : ∀ (y x : Nat), x < 18446744073709551616 → y < 18446744073709551616 → Ev (fun k => bignat_gcdSmall.l0 k (x : Int) (y : Int)) (D (Nat.gcd x y : Nat)) := by
  intro y
  induction y using Nat.strongRecOn with
  | ind y ih =>
    intro x hx hy
    by_cases h : y = 0
    · subst h
      refine suc ?_
      simp (disch := omega) only [bignat_gcdSmall.l0, if_pos, from_eq, Option.bind_some]
      rw [Nat.gcd_zero_right]
      exact now fun _ => rfl
    · have hlt := Nat.mod_lt x (show 0 < y by omega)
      have := ih (x % y) hlt y hy (by omega)
      have e : Int.tmod (x : Int) (y : Int) = ((x % y : Nat) : Int) := by
        rw [Int.tmod_eq_emod_of_nonneg (by omega)]; rfl
      refine suc ?_
      simp (disch := omega) only [bignat_gcdSmall.l0, if_neg, e]
      rw [Nat.gcd_comm x y, Nat.gcd_rec y x, Nat.gcd_comm (x % y) y]
      exact this
theorem D_two_lt {x : Nat} (h : (D (x : Int)).length ≤ 2) : x < 18446744073709551616 := by
  by_cases h0 : 0 < x
  · have h1 := (D_len (n := (x : Int)) (by omega)).2
    have h2 := pow_le h
    have : (4294967296 : Int) ^ 2 = 18446744073709551616 := by decide
    omega
  · omega
theorem gcdSmall_ev {x y : Nat} (hx : (D (x : Int)).length ≤ 2) (hy : (D (y : Int)).length ≤ 2) : Ev (fun k => bignat_gcdSmall.f k (D (x : Int)) (D (y : Int))) (D (Nat.gcd x y : Nat)) := by
  have bx : Big (D (x : Int)) := by unfold Big; omega
  have by' : Big (D (y : Int)) := by unfold Big; omega
  have h1 := uint64_ev (D_U (x : Int)) bx (by rw [V_D _ (by omega)]; exact hx)
  have h2 := uint64_ev (D_U (y : Int)) by' (by rw [V_D _ (by omega)]; exact hy)
  rw [V_D _ (by omega)] at h1 h2
  simp only [bignat_gcdSmall.f]
  exact Ev.bind h1 (Ev.bind h2 (gs_l y x (D_two_lt hx) (D_two_lt hy)))
theorem gcd_l : ∀ (y x : Nat), (D (x : Int)).length ≤ 1048576 → (D (y : Int)).length ≤ 1048576 → Ev (fun k => bignat_GCD.l0 k (D (x : Int)) (D (y : Int))) (D (Nat.gcd x y : Nat)) := by
  intro y
  induction y using Nat.strongRecOn with
  | ind y ih =>
    intro x hx hy
    by_cases h : y = 0
    · subst h
      refine suc ?_
      rw [Nat.gcd_zero_right, show D ((0 : Nat) : Int) = [] from D_zero]
      simp (disch := omega) only [bignat_GCD.l0, if_neg, List.length_nil]
      exact now fun _ => rfl
    · have hlt := Nat.mod_lt x (show 0 < y by omega)
      have hdl := D_length_pos (n := (y : Int)) (by omega)
      have hj : Ev (fun k => bignat_GCD.j1 k (D (x : Int)) (D (y : Int)) false) (D (Nat.gcd x y : Nat)) := by
        have hl := D_len_mono' (n := ((x % y : Nat) : Int)) (m := (y : Int)) (by omega) (by omega)
        have := ih (x % y) hlt y hy (by omega)
        have hd := divMod_ev (D_U (x : Int)) (D_U (y : Int)) hx (by unfold Big; omega)
        rw [V_D _ (by omega), V_D _ (by omega)] at hd
        refine suc ?_
        simp only [bignat_GCD.j1, Bool.false_eq_true, if_false]
        refine Ev.bind hd ?_
        have e : (divO (x : Int) (y : Int)).2.1 = D ((x % y : Nat) : Int) := by
          unfold divO
          rw [if_pos (by omega)]; rfl
        simp only [e]
        rw [Nat.gcd_comm x y, Nat.gcd_rec y x, Nat.gcd_comm (x % y) y]
        exact this
      refine suc ?_
      simp (disch := omega) only [bignat_GCD.l0, if_pos]
      by_cases h1 : (D (x : Int)).length ≤ 2
      · by_cases h2 : (D (y : Int)).length ≤ 2
        · have e : decide (((D (y : Int)).length : Int) ≤ 2) = true := decide_eq_true (by omega)
          simp (disch := omega) only [if_pos, e]
          refine suc ?_
          simp only [bignat_GCD.j1, if_true]
          exact Ev.bind (gcdSmall_ev h1 h2) (now fun _ => rfl)
        · have e : decide (((D (y : Int)).length : Int) ≤ 2) = false := decide_eq_false (by omega)
          simp (disch := omega) only [if_pos, e]
          exact hj
      · simp (disch := omega) only [if_neg]
        exact hj
theorem gcd_ev {a b : List Int} (ha : U a) (hb : U b) (sa : a.length ≤ 1048576) (sb : b.length ≤ 1048576) {x y : Nat} (hx : V a = (x : Int)) (hy : V b = (y : Int)) : Ev (fun k => bignat_GCD.f k a b) (D (Nat.gcd x y : Nat)) := by
  have ba : Big a := by unfold Big; omega
  have bb : Big b := by unfold Big; omega
  have h1 := clone_ev ha ba
  have h2 := clone_ev hb bb
  have l1 := D_short ha
  have l2 := D_short hb
  rw [hx] at h1 l1
  rw [hy] at h2 l2
  simp only [bignat_GCD.f]
  exact Ev.bind h1 (Ev.bind h2 (gcd_l y x (by omega) (by omega)))
end Go.Proofs.YtoeldfopjalpkaaDoor.Spec

