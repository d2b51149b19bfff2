/- Lemmas for the proof of one law of this seat (Spec13). -/
import Derived.Test.YtoeldfopjalpkaaDoorZRationalDecimalSpec12
set_option linter.unusedSimpArgs false
set_option linter.unusedVariables false
namespace Go.Proofs.YtoeldfopjalpkaaDoor.Spec
open Go.RowKit Go.Proofs.YtoeldfopjalpkaaDoorW.PrintWords Go.Proofs.YtoeldfopjalpkaaDoorW.PrintLast Go.Proofs.YtoeldfopjalpkaaDoorW.PrintMore Go.Proofs.YtoeldfopjalpkaaDoor.Q Go.Proofs.YtoeldfopjalpkaaDoor.Nums

theorem D_len_mono' {n m : Int} (hm : 0 ≤ m) (h : n ≤ m) : (D n).length ≤ (D m).length := by
  rcases Nat.lt_or_ge (D m).length (D n).length with g | g
  · by_cases hn : 0 ≤ n
    · have := D_mono hn g; omega
    · rw [D_neg (by omega)]; simp
  · exact g
theorem or0 {x : Int} (h0 : 0 ≤ x) (h1 : x < 4294967296) : Go.bits .or .u64 0 (shl .u64 x 0) = x := by
  have e : shl .u64 x 0 = x := by
    have := (shl_eq (x := x) (s := 0) (by omega) h0 h1).1
    simpa using this
  rw [e]
  have := or64 (x := 0) (y := x) 32 (by omega) (by omega) (by omega) h0 (by omega) (by omega)
  omega
theorem or1 {c x : Int} (c0 : 0 ≤ c) (c1 : c < 4294967296) (h0 : 0 ≤ x) (h1 : x < 4294967296) : Go.bits .or .u64 c (shl .u64 x 32) = c + x * 4294967296 := by
  have e : shl .u64 x 32 = x * 4294967296 := by
    unfold shl
    rw [show min (32 : Int).toNat IntKind.u64.bits = 32 by decide, show (2 : Int) ^ 32 = 4294967296 by decide]
    exact u64w (by omega) (by omega)
  rw [e, or_comm64 c0 (by omega) (by omega) (by omega)]
  have := or_hi h0 h1 c0 c1
  omega
theorem uint64_ev {a : List Int} (ha : U a) (sa : Big a) (hl : (D (V a)).length ≤ 2) : Ev (fun k => bignat_Uint64.f k a) (V a, true) := by
  have h1 := V_nonneg ha
  simp only [bignat_Uint64.f]
  refine Ev.bind (trim_ev ha sa) ?_
  have hv := V_D (V a) h1
  have hu := D_U (V a)
  revert hl hv hu
  generalize D (V a) = d
  generalize V a = v
  intro hl hv hu
  match d, hl with
  | [], _ =>
    rw [V_nil] at hv
    subst hv
    simp (disch := omega) only [if_neg, List.length_nil]
    refine suc ?_
    simp (disch := omega) only [bignat_Uint64.l0, if_neg, List.length_nil]
    exact now fun _ => rfl
  | [x], _ =>
    obtain ⟨hx, _⟩ := U_cons.1 hu
    rw [V_cons, V_nil] at hv
    have e0 := or0 hx.1 hx.2
    have er : rd [x] 0 = x := rfl
    have ev : v = x := by omega
    subst ev
    have el : (([v] : List Int).length : Int) = 1 := rfl
    simp (disch := omega) only [if_neg, el]
    refine suc ?_
    simp (disch := omega) only [bignat_Uint64.l0, if_pos, el, er, u64w, w64, Int.mul_zero, e0]
    refine suc ?_
    simp (disch := omega) only [bignat_Uint64.l0, if_neg]
    exact now fun _ => rfl
  | [x, y], _ =>
    obtain ⟨hx, hy'⟩ := U_cons.1 hu
    obtain ⟨hy, _⟩ := U_cons.1 hy'
    rw [V_cons, V_cons, V_nil] at hv
    have e0 := or0 hx.1 hx.2
    have e1 := or1 hx.1 hx.2 hy.1 hy.2
    have er : rd [x, y] 0 = x := rfl
    have er1 : rd [x, y] 1 = y := rfl
    have ev : x + y * 4294967296 = v := by omega
    have el : (([x, y] : List Int).length : Int) = 2 := rfl
    have z1 : (0 : Int) + 1 = 1 := rfl
    have z2 : (32 : Int) * 1 = 32 := rfl
    simp (disch := omega) only [if_neg, el]
    refine suc ?_
    simp (disch := omega) only [bignat_Uint64.l0, if_pos, el, er, u64w, w64, Int.mul_zero, e0, z1]
    refine suc ?_
    simp (disch := omega) only [bignat_Uint64.l0, if_pos, el, er1, u64w, w64, z2, e1]
    refine suc ?_
    simp (disch := omega) only [bignat_Uint64.l0, if_neg]
    exact now fun _ => by rw [ev]
theorem gs_l : ∀ (y x : Nat), x < 18446744073709551616 → y < 18446744073709551616 → Ev (fun k => bignat_gcdSmall.l0 k (x : Int) (y : Int)) (D (Nat.gcd x y : Nat)) := by
  intro y
  induction y using Nat.strongRecOn with
  | ind y ih =>
    intro x hx hy
    by_cases h : y = 0
    · subst h
      refine suc ?_
      simp (disch := omega) only [bignat_gcdSmall.l0, if_pos, from_eq, Option.bind_some]
      rw [Nat.gcd_zero_right]
      exact now fun _ => rfl
    · have hlt := Nat.mod_lt x (show 0 < y by omega)
      have := ih (x % y) hlt y hy (by omega)
      have e : Int.tmod (x : Int) (y : Int) = ((x % y : Nat) : Int) := by
        rw [Int.tmod_eq_emod_of_nonneg (by omega)]; rfl
      refine suc ?_
      simp (disch := omega) only [bignat_gcdSmall.l0, if_neg, e]
      rw [Nat.gcd_comm x y, Nat.gcd_rec y x, Nat.gcd_comm (x % y) y]
      exact this
theorem D_two_lt {x : Nat} (h : (D (x : Int)).length ≤ 2) : x < 18446744073709551616 := by
  by_cases h0 : 0 < x
  · have h1 := (D_len (n := (x : Int)) (by omega)).2
    have h2 := pow_le h
    have : (4294967296 : Int) ^ 2 = 18446744073709551616 := by decide
    omega
  · omega
theorem gcdSmall_ev {x y : Nat} (hx : (D (x : Int)).length ≤ 2) (hy : (D (y : Int)).length ≤ 2) : Ev (fun k => bignat_gcdSmall.f k (D (x : Int)) (D (y : Int))) (D (Nat.gcd x y : Nat)) := by
  have bx : Big (D (x : Int)) := by unfold Big; omega
  have by' : Big (D (y : Int)) := by unfold Big; omega
  have h1 := uint64_ev (D_U (x : Int)) bx (by rw [V_D _ (by omega)]; exact hx)
  have h2 := uint64_ev (D_U (y : Int)) by' (by rw [V_D _ (by omega)]; exact hy)
  rw [V_D _ (by omega)] at h1 h2
  simp only [bignat_gcdSmall.f]
  exact Ev.bind h1 (Ev.bind h2 (gs_l y x (D_two_lt hx) (D_two_lt hy)))
theorem gcd_l : ∀ (y x : Nat), (D (x : Int)).length ≤ 1048576 → (D (y : Int)).length ≤ 1048576 → Ev (fun k => bignat_GCD.l0 k (D (x : Int)) (D (y : Int))) (D (Nat.gcd x y : Nat)) := by
  intro y
  induction y using Nat.strongRecOn with
  | ind y ih =>
    intro x hx hy
    by_cases h : y = 0
    · subst h
      refine suc ?_
      rw [Nat.gcd_zero_right, show D ((0 : Nat) : Int) = [] from D_zero]
      simp (disch := omega) only [bignat_GCD.l0, if_neg, List.length_nil]
      exact now fun _ => rfl
    · have hlt := Nat.mod_lt x (show 0 < y by omega)
      have hdl := D_length_pos (n := (y : Int)) (by omega)
      have hj : Ev (fun k => bignat_GCD.j1 k (D (x : Int)) (D (y : Int)) false) (D (Nat.gcd x y : Nat)) := by
        have hl := D_len_mono' (n := ((x % y : Nat) : Int)) (m := (y : Int)) (by omega) (by omega)
        have := ih (x % y) hlt y hy (by omega)
        have hd := divMod_ev (D_U (x : Int)) (D_U (y : Int)) hx (by unfold Big; omega)
        rw [V_D _ (by omega), V_D _ (by omega)] at hd
        refine suc ?_
        simp only [bignat_GCD.j1, Bool.false_eq_true, if_false]
        refine Ev.bind hd ?_
        have e : (divO (x : Int) (y : Int)).2.1 = D ((x % y : Nat) : Int) := by
          unfold divO
          rw [if_pos (by omega)]; rfl
        simp only [e]
        rw [Nat.gcd_comm x y, Nat.gcd_rec y x, Nat.gcd_comm (x % y) y]
        exact this
      refine suc ?_
      simp (disch := omega) only [bignat_GCD.l0, if_pos]
      by_cases h1 : (D (x : Int)).length ≤ 2
      · by_cases h2 : (D (y : Int)).length ≤ 2
        · have e : decide (((D (y : Int)).length : Int) ≤ 2) = true := decide_eq_true (by omega)
          simp (disch := omega) only [if_pos, e]
          refine suc ?_
          simp only [bignat_GCD.j1, if_true]
          exact Ev.bind (gcdSmall_ev h1 h2) (now fun _ => rfl)
        · have e : decide (((D (y : Int)).length : Int) ≤ 2) = false := decide_eq_false (by omega)
          simp (disch := omega) only [if_pos, e]
          exact hj
      · simp (disch := omega) only [if_neg]
        exact hj
theorem gcd_ev {a b : List Int} (ha : U a) (hb : U b) (sa : a.length ≤ 1048576) (sb : b.length ≤ 1048576) {x y : Nat} (hx : V a = (x : Int)) (hy : V b = (y : Int)) : Ev (fun k => bignat_GCD.f k a b) (D (Nat.gcd x y : Nat)) := by
  have ba : Big a := by unfold Big; omega
  have bb : Big b := by unfold Big; omega
  have h1 := clone_ev ha ba
  have h2 := clone_ev hb bb
  have l1 := D_short ha
  have l2 := D_short hb
  rw [hx] at h1 l1
  rw [hy] at h2 l2
  simp only [bignat_GCD.f]
  exact Ev.bind h1 (Ev.bind h2 (gcd_l y x (by omega) (by omega)))
end Go.Proofs.YtoeldfopjalpkaaDoor.Spec
set_option linter.unusedSimpArgs false
set_option linter.unusedVariables false
namespace Go.Proofs.YtoeldfopjalpkaaDoor.Spec
open Go.RowKit Go.Proofs.YtoeldfopjalpkaaDoorW.PrintWords Go.Proofs.YtoeldfopjalpkaaDoorW.PrintLast Go.Proofs.YtoeldfopjalpkaaDoorW.PrintMore Go.Proofs.YtoeldfopjalpkaaDoor.Q Go.Proofs.YtoeldfopjalpkaaDoor.Nums

theorem V_at {xs : List Int} (h : U xs) {j : Nat} (hj : j < xs.length) : xs.getD j 0 = V xs / 4294967296 ^ j % 4294967296 := by
  have h1 := V_split xs j (by omega)
  have h2 := V_drop_step hj
  have h3 := V_nonneg (U_take h j)
  have h4 := V_lt (U_take h j)
  rw [List.length_take, Nat.min_eq_left (by omega)] at h4
  have hd := U_getD h j
  have e : V xs / 4294967296 ^ j = V (xs.drop j) := by
    rw [h1, Int.add_mul_ediv_left _ _ (by have := pow_pos j; omega), Int.ediv_eq_zero_of_lt h3 h4, Int.zero_add]
  rw [e]
  omega
theorem and1u {x : Int} (h0 : 0 ≤ x) (h1 : x < 4294967296) : Go.bits .and .u32 x 1 = x % 2 := by
  have := bits_mask .u32 32 (by decide) wraps_u32 1 (by decide) x h0 (by omega)
  simpa using this
end Go.Proofs.YtoeldfopjalpkaaDoor.Spec
set_option linter.unusedSimpArgs false
set_option linter.unusedVariables false
namespace Go.Proofs.YtoeldfopjalpkaaDoor.Spec
open Go.RowKit Go.Proofs.YtoeldfopjalpkaaDoorW.PrintWords Go.Proofs.YtoeldfopjalpkaaDoorW.PrintLast Go.Proofs.YtoeldfopjalpkaaDoorW.PrintMore Go.Proofs.YtoeldfopjalpkaaDoor.Q Go.Proofs.YtoeldfopjalpkaaDoor.Nums

theorem odd_at {x : Nat} (h : 0 < x) : Go.bits .and .u32 (rd (D (x : Int)) 0) 1 = ((x % 2 : Nat) : Int) := by
  rw [D_pos (show (0 : Int) < x by omega)]
  rw [show rd ((x : Int) % 4294967296 :: D ((x : Int) / 4294967296)) 0 = (x : Int) % 4294967296 from rfl, and1u (by omega) (by omega)]
  omega
theorem pos_at {x : Nat} (h : 0 < x) : 0 < ((D (x : Int)).length : Int) := by
  have := D_length_pos (n := (x : Int)) (by omega); omega
theorem len_le {x y : Nat} (h : x ≤ y) (sy : (D (y : Int)).length ≤ 1048576) : (D (x : Int)).length ≤ 1048576 := by
  have := D_len_mono' (n := (x : Int)) (m := (y : Int)) (by omega) (by omega); omega
end Go.Proofs.YtoeldfopjalpkaaDoor.Spec
set_option linter.unusedSimpArgs false
set_option linter.unusedVariables false
namespace Go.Proofs.YtoeldfopjalpkaaDoor.Spec
open Go.RowKit Go.Proofs.YtoeldfopjalpkaaDoorW.PrintWords Go.Proofs.YtoeldfopjalpkaaDoorW.PrintLast Go.Proofs.YtoeldfopjalpkaaDoorW.PrintMore Go.Proofs.YtoeldfopjalpkaaDoor.Q Go.Proofs.YtoeldfopjalpkaaDoor.Nums

theorem D_one : D 1 = [1] := by
  rw [D_pos (by omega), show (1 : Int) / 4294967296 = 0 by decide, D_zero]
  rfl
theorem D_nat0 : D ((0 : Nat) : Int) = [] := D_zero
/-- The canonical form of a sign, a numerator and a denominator. -/
def Fr (s : Bool) (n d : Nat) : Bool × List Int × List Int := if n = 0 ∨ d = 0 then (false, [], D 1) else (s, D ((n / Nat.gcd n d : Nat) : Int), D ((d / Nat.gcd n d : Nat) : Int))
theorem Fr_zero {s : Bool} {n d : Nat} (h : n = 0 ∨ d = 0) : Fr s n d = (false, [], D 1) := if_pos h
theorem Fr_pos {s : Bool} {n d : Nat} (hn : 0 < n) (hd : 0 < d) : Fr s n d = (s, D ((n / Nat.gcd n d : Nat) : Int), D ((d / Nat.gcd n d : Nat) : Int)) := if_neg (by omega)
theorem one_D {n : Nat} (h : 0 < n) : (n = 1 ∧ D (n : Int) = [1]) ∨ (n ≠ 1 ∧ ((D (n : Int)).length > 1 ∨ ((D (n : Int)).length = 1 ∧ rd (D (n : Int)) 0 ≠ 1))) := by
  by_cases h1 : n = 1
  · subst h1; exact .inl ⟨rfl, D_one⟩
  · refine .inr ⟨h1, ?_⟩
    have hl := D_length_pos (n := (n : Int)) (by omega)
    have hv := V_D (n : Int) (by omega)
    revert hl hv
    generalize D (n : Int) = d
    intro hl hv
    match d, hl with
    | [x], _ =>
      rw [V_cons, V_nil] at hv
      refine .inr ⟨rfl, ?_⟩
      rw [show rd [x] 0 = x from rfl]
      omega
    | _ :: _ :: _, _ => exact .inl (by simp)
theorem bang {α : Type} {n : Nat} (h : 0 < n) (g : Bool → Option α) :
    (if ((D (n : Int)).length : Int) > 1 then g true else (if 0 < ((D (n : Int)).length : Int) then g ((rd (D (n : Int)) 0) != 1) else none)) = g (n != 1) := by
  rcases one_D h with ⟨h1, h2⟩ | ⟨h1, h2 | ⟨h2, h3⟩⟩
  · subst h1; rw [h2]; rfl
  · rw [if_pos (by omega)]
    congr 1
    symm
    exact bne_iff_ne.2 h1
  · rw [if_neg (by omega), if_pos (by omega)]
    congr 1
    rw [bne_iff_ne.2 h1]
    exact bne_iff_ne.2 h3
theorem divO_nat {x g : Nat} (hg : 0 < g) : divO (x : Int) (g : Int) = (D ((x / g : Nat) : Int), D ((x % g : Nat) : Int), true) := by
  unfold divO
  rw [if_pos (by omega)]
  rfl
theorem gcd_len {x y : Nat} (hx : (D (x : Int)).length ≤ 1048576) (hy : (D (y : Int)).length ≤ 1048576) : (D ((Nat.gcd x y : Nat) : Int)).length ≤ 1048576 := by
  by_cases h : x = 0
  · subst h; rw [Nat.gcd_zero_left]; exact hy
  · exact len_le (Nat.gcd_le_left y (by omega)) hx
theorem reduce_ev {a b : List Int} (ha : U a) (hb : U b) (sa : a.length ≤ 1048576) (sb : b.length ≤ 1048576) {x y : Nat} (hx : V a = (x : Int)) (hy : V b = (y : Int)) (s : Bool) :
    Ev (fun k => rational_reduce.f k s a b) (Fr s x y) := by
  have h1 := normalize_ev ha (by unfold Big; omega)
  have h2 := normalize_ev hb (by unfold Big; omega)
  have l1 := D_short ha
  have l2 := D_short hb
  rw [hx] at h1 l1
  rw [hy] at h2 l2
  have sx : (D (x : Int)).length ≤ 1048576 := by omega
  have sy : (D (y : Int)).length ≤ 1048576 := by omega
  simp only [rational_reduce.f]
  refine Ev.bind h1 (Ev.bind h2 ?_)
  by_cases x0 : x = 0
  · subst x0
    simp only [D_nat0, D_zero, List.length_nil, show ((0 : Nat) : Int) = 0 from rfl, if_true]
    refine suc ?_
    simp only [rational_reduce.j0, if_true, rational_one.f, Option.bind_some]
    rw [Fr_zero (.inl rfl), D_one]
    exact now fun _ => rfl
  · have lx := pos_at (x := x) (by omega)
    simp (disch := omega) only [if_neg]
    by_cases y0 : y = 0
    · subst y0
      rw [show (((D ((0 : Nat) : Int)).length : Int) == 0) = true by rw [D_nat0]; rfl]
      refine suc ?_
      simp only [rational_reduce.j0, if_true, rational_one.f, Option.bind_some]
      rw [Fr_zero (.inr rfl), D_one]
      exact now fun _ => rfl
    · have ly := pos_at (x := y) (by omega)
      rw [show (((D (y : Int)).length : Int) == 0) = false by rw [beq_eq_false_iff_ne]; omega]
      rw [Fr_pos (by omega) (by omega)]
      refine suc ?_
      simp only [rational_reduce.j0, Bool.false_eq_true, if_false]
      refine Ev.congr (fun k => bang (n := y) (by omega) (fun b => rational_reduce.j1 k s (D (x : Int)) (D (y : Int)) b)) ?_
      by_cases y1 : y = 1
      · subst y1
        rw [Nat.gcd_one_right, Nat.div_one, Nat.div_one]
        simp only [bne_self_eq_false]
        refine suc ?_
        simp only [rational_reduce.j1, Bool.false_eq_true, if_false]
        exact now fun _ => rfl
      · rw [bne_iff_ne.2 y1]
        have hg := Nat.gcd_pos_of_pos_left y (show 0 < x by omega)
        have eg := gcd_ev (D_U (x : Int)) (D_U (y : Int)) sx sy (V_D _ (by omega)) (V_D _ (by omega))
        have sg := gcd_len sx sy
        generalize Nat.gcd x y = g at *
        have d1 := divMod_ev (D_U (x : Int)) (D_U (g : Int)) sx (by unfold Big; omega)
        have d2 := divMod_ev (D_U (y : Int)) (D_U (g : Int)) sy (by unfold Big; omega)
        rw [V_D _ (by omega), V_D _ (by omega), divO_nat hg] at d1 d2
        refine suc ?_
        simp only [rational_reduce.j1, if_true]
        refine Ev.bind eg ?_
        refine Ev.congr (fun k => bang (n := g) hg (fun b => rational_reduce.j2 k s (D (x : Int)) (D (y : Int)) (D (g : Int)) b)) ?_
        by_cases g1 : g = 1
        · subst g1
          rw [Nat.div_one, Nat.div_one]
          simp only [bne_self_eq_false]
          refine suc ?_
          simp only [rational_reduce.j2, Bool.false_eq_true, if_false]
          exact now fun _ => rfl
        · rw [bne_iff_ne.2 g1]
          refine suc ?_
          simp only [rational_reduce.j2, if_true]
          exact Ev.bind d1 (Ev.bind d2 (now fun _ => rfl))
/-- The absolute value. -/
theorem mag_eq {n : Int} (h0 : -9223372036854775808 ≤ n) (h1 : n ≤ 9223372036854775807) : rational_magnitude.f n = some (D (n.natAbs : Int)) := by
  simp only [rational_magnitude.f]
  by_cases h : n < 0
  · have e : IntKind.u64.wrap (IntKind.u64.wrap (wrap64 (-wrap64 (n + 1))) + 1) = (n.natAbs : Int) := by
      rw [w64 (n := n + 1) (by omega) (by omega), w64 (by omega) (by omega), u64w (n := -(n + 1)) (by omega) (by omega), u64w (by omega) (by omega)]; omega
    simp only [if_pos h, e]
    rw [from_eq (by omega) (by omega)]
    rfl
  · have e : IntKind.u64.wrap n = (n.natAbs : Int) := by rw [u64w (by omega) (by omega)]; omega
    simp only [if_neg h, e]
    rw [from_eq (by omega) (by omega)]
    rfl
theorem abs_len {n : Int} (h0 : -9223372036854775808 ≤ n) (h1 : n ≤ 9223372036854775807) : (D (n.natAbs : Int)).length ≤ 2 := D_len_le (by
  have : (4294967296 : Int) ^ 2 = 18446744073709551616 := by decide
  omega)
/-- What New returns. -/
def newO (n d : Int) : Bool × List Int × List Int × Int := if d = 0 then (false, [], [], 20) else ((Fr (decide (n < 0) != decide (d < 0)) n.natAbs d.natAbs).1, (Fr (decide (n < 0) != decide (d < 0)) n.natAbs d.natAbs).2.1, (Fr (decide (n < 0) != decide (d < 0)) n.natAbs d.natAbs).2.2, 0)
theorem new_ev {n d : Int} (n0 : -9223372036854775808 ≤ n) (n1 : n ≤ 9223372036854775807) (d0 : -9223372036854775808 ≤ d) (d1 : d ≤ 9223372036854775807) : Ev (fun k => rational_New.f k n d) (newO n d) := by
  have l1 := abs_len n0 n1
  have l2 := abs_len d0 d1
  have hr := reduce_ev (D_U (n.natAbs : Int)) (D_U (d.natAbs : Int)) (by omega) (by omega) (V_D _ (by omega)) (V_D _ (by omega)) (decide (n < 0) != decide (d < 0))
  simp only [rational_New.f]
  unfold newO
  by_cases h : d = 0
  · simp only [if_pos h]
    exact now fun _ => rfl
  · simp only [if_neg h, mag_eq n0 n1, mag_eq d0 d1, Option.bind_some]
    exact Ev.bind hr (now fun _ => rfl)
end Go.Proofs.YtoeldfopjalpkaaDoor.Spec
set_option linter.unusedSimpArgs false
set_option linter.unusedVariables false
namespace Go.Proofs.YtoeldfopjalpkaaDoor.Spec
open Go.RowKit Go.Proofs.YtoeldfopjalpkaaDoorW.PrintWords Go.Proofs.YtoeldfopjalpkaaDoorW.PrintLast Go.Proofs.YtoeldfopjalpkaaDoorW.PrintMore Go.Proofs.YtoeldfopjalpkaaDoor.Q Go.Proofs.YtoeldfopjalpkaaDoor.Nums

/-- The rational number of a sign, a numerator and a denominator. -/
def mk (s : Bool) (n d : Nat) : Rat := mkRat (if s = true then -(n : Int) else (n : Int)) d
/-- The canonical form of a rational number. -/
def C (q : Rat) : Bool × List Int × List Int := (decide (q.num < 0), D (q.num.natAbs : Int), D (q.den : Int))
theorem mk_zero (s : Bool) {n d : Nat} (h : n = 0 ∨ d = 0) : mk s n d = 0 := by
  unfold mk
  rcases h with h | h
  · subst h; cases s <;> simp [Rat.mkRat_eq_div] <;> grind
  · subst h; exact Rat.mkRat_zero _
theorem C_zero : C 0 = (false, [], D 1) := by
  unfold C
  rw [show (0 : Rat).num = 0 from rfl, show (0 : Rat).den = 1 from rfl]
  exact congrArg (fun z => (false, z, D 1)) D_zero
theorem mk_pos (s : Bool) {n d : Nat} (hn : 0 < n) (hd : 0 < d) : (mk s n d).num.natAbs = n / Nat.gcd n d ∧ (mk s n d).den = d / Nat.gcd n d ∧ ((mk s n d).num < 0 ↔ s = true) := by
  have hg : 0 < Nat.gcd n d := Nat.gcd_pos_of_pos_left d hn
  have q0 : 0 < n / Nat.gcd n d := Nat.div_pos (Nat.gcd_le_left d hn) hg
  have e : (if s = true then -(n : Int) else (n : Int)).natAbs = n := by cases s <;> simp
  have hdv : ((Nat.gcd n d : Nat) : Int) ∣ (n : Int) := Int.natCast_dvd_natCast.2 (Nat.gcd_dvd_left n d)
  have hnum : (mk s n d).num = if s = true then -((n / Nat.gcd n d : Nat) : Int) else ((n / Nat.gcd n d : Nat) : Int) := by
    unfold mk
    rw [Rat.num_mkRat, if_neg (by omega), e, Nat.gcd_comm]
    cases s
    · rfl
    · show -(n : Int) / _ = -_
      rw [Int.neg_ediv_of_dvd hdv]
      rfl
  refine ⟨?_, ?_, ?_⟩
  · rw [hnum]
    generalize n / Nat.gcd n d = z at *
    cases s <;> simp
  · unfold mk
    rw [Rat.den_mkRat, if_neg (by omega), e, Nat.gcd_comm]
  · rw [hnum]
    generalize n / Nat.gcd n d = z at *
    cases s <;> simp <;> omega
theorem Fr_C (s : Bool) (n d : Nat) : Fr s n d = C (mk s n d) := by
  by_cases h : n = 0 ∨ d = 0
  · rw [Fr_zero h, mk_zero s h, C_zero]
  · have hn : 0 < n := by omega
    have hd : 0 < d := by omega
    obtain ⟨h1, h2, h3⟩ := mk_pos s hn hd
    rw [Fr_pos hn hd]
    unfold C
    rw [h1, h2]
    refine congrArg (fun z => (z, _, _)) ?_
    cases s
    · exact (decide_eq_false (fun h => by simpa using h3.1 h)).symm
    · exact (decide_eq_true (h3.2 rfl)).symm
theorem mk_self (q : Rat) : mk (decide (q.num < 0)) q.num.natAbs q.den = q := by
  unfold mk
  have : (if decide (q.num < 0) = true then -((q.num.natAbs : Nat) : Int) else ((q.num.natAbs : Nat) : Int)) = q.num := by
    by_cases h : q.num < 0
    · rw [if_pos (decide_eq_true h)]; omega
    · rw [if_neg (by simp [h])]; omega
  rw [this]
  exact Rat.mkRat_self q
/-- The value, as a quotient. -/
theorem mk_div (s : Bool) (n d : Nat) : mk s n d = (if s = true then -(n : Rat) else (n : Rat)) / (d : Rat) := by
  unfold mk
  rw [Rat.mkRat_eq_div]
  cases s <;> simp [Rat.intCast_natCast]
theorem cast_ne {d : Nat} (h : 0 < d) : (d : Rat) ≠ 0 := by
  intro e
  have : d = 0 := Rat.natCast_inj.1 (by simpa using e)
  omega
theorem mk_scale (s : Bool) (n d k : Nat) (hk : 0 < k) : mk s (n * k) (d * k) = mk s n d := by
  have h := cast_ne hk
  rw [mk_div, mk_div, Rat.natCast_mul, Rat.natCast_mul]
  by_cases hd : d = 0
  · subst hd; simp [Rat.div_def]
  · have hd := cast_ne (d := d) (by omega)
    cases s <;> grind
theorem mk_add (s : Bool) (x z d : Nat) : mk s x d + mk s z d = mk s (x + z) d := by
  rw [mk_div, mk_div, mk_div, Rat.natCast_add]
  cases s <;> grind
theorem mk_sub (s t : Bool) (h : s ≠ t) {x z : Nat} (hle : z ≤ x) (d : Nat) : mk s x d + mk t z d = mk s (x - z) d := by
  obtain ⟨y, rfl⟩ := Nat.exists_eq_add_of_le hle
  rw [mk_div, mk_div, mk_div, Nat.add_sub_cancel_left, Rat.natCast_add]
  cases s <;> cases t <;> first | exact absurd rfl h | grind
/-- The size of a rational number. -/
def Sz (k : Nat) (q : Rat) : Prop := Lim k (q.num.natAbs : Int) ∧ Lim k (q.den : Int)
theorem Lim.le {k : Nat} {x y : Nat} (h : Lim k (y : Int)) (hle : x ≤ y) : Lim k (x : Int) := ⟨by omega, by have := h.2; omega⟩
theorem Lim.one {k : Nat} (hk : 1 ≤ k) : Lim k (1 : Int) := by
  refine Lim.mono (j := 1) ⟨by omega, by decide⟩ hk
theorem mk_sz (s : Bool) {n d k : Nat} (hk : 1 ≤ k) (hn : Lim k (n : Int)) (hd : Lim k (d : Int)) : Sz k (mk s n d) := by
  by_cases h : n = 0 ∨ d = 0
  · rw [mk_zero s h]
    exact ⟨⟨by decide, by rw [show ((0 : Rat).num.natAbs : Int) = 0 from rfl]; exact Int.lt_of_le_of_lt (by omega) (Lim.one hk).2⟩, Lim.one hk⟩
  · obtain ⟨h1, h2, _⟩ := mk_pos s (n := n) (d := d) (by omega) (by omega)
    refine ⟨?_, ?_⟩
    · rw [h1]; exact hn.le (Nat.div_le_self _ _)
    · rw [h2]; exact hd.le (Nat.div_le_self _ _)
theorem Sz.mono {j k : Nat} {q : Rat} (h : Sz j q) (hk : j ≤ k) : Sz k q := ⟨h.1.mono hk, h.2.mono hk⟩
theorem den_pos (q : Rat) : 0 < q.den := Rat.den_pos q
theorem bl_natz {x : Nat} : ((bl (x : Int) : Nat) : Int) = 0 ↔ x = 0 := by
  constructor
  · intro h
    have h1 := bl_lt (x : Int)
    have : bl (x : Int) = 0 := by omega
    rw [this] at h1
    omega
  · intro h
    subst h
    rw [bl_zero (by omega)]
    rfl
theorem Lim.bigD {k : Nat} {n : Int} (h : Lim k n) (hk : k ≤ 1048576) : (D n).length ≤ 1048576 := Nat.le_trans (D_len_le h.2) hk
theorem bitD_ev {k x : Nat} (h : Lim k (x : Int)) (hk : k ≤ 1048576) : Ev (fun q => bignat_BitLen.f q (D (x : Int))) ((bl (x : Int) : Nat) : Int) := by
  have l := h.bigD hk
  have := bitLen_ev (D_U (x : Int)) (by unfold Big; omega)
  rw [V_D _ (by omega)] at this
  exact this
theorem redD_ev {k x y : Nat} (hx : Lim k (x : Int)) (hy : Lim k (y : Int)) (hk : k ≤ 1048576) (s : Bool) : Ev (fun q => rational_reduce.f q s (D (x : Int)) (D (y : Int))) (C (mk s x y)) := by
  rw [← Fr_C]
  exact reduce_ev (D_U _) (D_U _) (hx.bigD hk) (hy.bigD hk) (V_D _ (by omega)) (V_D _ (by omega)) s
theorem partsC_ev {k : Nat} {p : Rat} (h : Sz k p) (hk : k ≤ 1048576) : Ev (fun q => rational_parts.f q (C p).1 (C p).2.1 (C p).2.2) (C p) := by
  have h1 := bitD_ev h.1 hk
  have h2 := bitD_ev h.2 hk
  have hd := den_pos p
  simp only [rational_parts.f]
  refine Ev.bind h2 ?_
  simp only [if_neg (fun h => absurd (bl_natz.1 h) (show ¬ p.den = 0 by omega))]
  refine Ev.bind h1 ?_
  by_cases x0 : p.num.natAbs = 0
  · have p0 : p = 0 := by
      rw [← mk_self p, mk_zero _ (.inl x0)]
    simp only [if_pos (bl_natz.2 x0), rational_one.f, Option.bind_some]
    rw [p0, C_zero, D_one]
    exact now fun _ => rfl
  · simp only [if_neg (fun h => x0 (bl_natz.1 h))]
    exact now fun _ => rfl
theorem Lim.addN {j x y : Nat} (hx : Lim j (x : Int)) (hy : Lim j (y : Int)) : Lim (j + 1) ((x + y : Nat) : Int) := by
  rw [Int.natCast_add]; exact hx.add hy
theorem Lim.mulN {j k x y : Nat} (hx : Lim j (x : Int)) (hy : Lim k (y : Int)) : Lim (j + k) ((x * y : Nat) : Int) := by
  rw [Int.natCast_mul]; exact hx.mul hy
theorem addN_ev {j x y : Nat} (hx : Lim j (x : Int)) (hy : Lim j (y : Int)) (hj : j ≤ 1048576) : Ev (fun q => bignat_Add.f q (D (x : Int)) (D (y : Int))) (D ((x + y : Nat) : Int)) := by
  rw [Int.natCast_add]; exact add_D hx hy (by omega) (by omega)
theorem mulN_ev {j k x y : Nat} (hx : Lim j (x : Int)) (hy : Lim k (y : Int)) (hj : j ≤ 1048576) (hk : k ≤ 1048576) : Ev (fun q => bignat_Mul.f q (D (x : Int)) (D (y : Int))) (D ((x * y : Nat) : Int)) := by
  rw [Int.natCast_mul]; exact mul_D hx hy (by omega) (by omega)
theorem subN_ev {j x y : Nat} (hx : Lim j (x : Int)) (hy : Lim j (y : Int)) (hj : j ≤ 1048576) : Ev (fun q => bignat_Sub.f q (D (x : Int)) (D (y : Int))) (if x < y then ([], false) else (D ((x - y : Nat) : Int), true)) := by
  have := sub_ev (D_U (x : Int)) (D_U (y : Int)) (hx.small (by omega)) (hy.small (by omega))
  rw [V_D _ (by omega), V_D _ (by omega)] at this
  unfold subO at this
  by_cases h : x < y
  · rw [if_pos h]; rw [if_pos (by omega)] at this; exact this
  · rw [if_neg h]; rw [if_neg (by omega), show (x : Int) - (y : Int) = ((x - y : Nat) : Int) by omega] at this; exact this
theorem cmpN_ev {j k x y : Nat} (hx : Lim j (x : Int)) (hy : Lim k (y : Int)) (hj : j ≤ 1048576) (hk : k ≤ 1048576) : Ev (fun q => bignat_Cmp.f q (D (x : Int)) (D (y : Int))) (cmpI (x : Int) (y : Int)) := by
  have := cmp_ev (D_U (x : Int)) (D_U (y : Int)) (hx.small (by omega)).big (hy.small (by omega)).big
  rw [V_D _ (by omega), V_D _ (by omega)] at this
  exact this
theorem addj_ev {j x z y : Nat} (hx : Lim j (x : Int)) (hz : Lim j (z : Int)) (hy : Lim j (y : Int)) (hj : j + 1 ≤ 1048576) (s t : Bool) : Ev (fun q => rational_Add.j0 q s t (D (x : Int)) (D (z : Int)) (D (y : Int))) (C (mk s x y + mk t z y)) := by
  refine suc ?_
  simp only [rational_Add.j0]
  by_cases h : s = t
  · subst h
    simp only [BEq.rfl, if_true]
    rw [mk_add]
    exact Ev.bind (addN_ev hx hz (by omega)) (Ev.bind (redD_ev (hx.addN hz) (hy.mono (by omega)) (by omega) s) (now fun _ => rfl))
  · simp only [if_neg (show ¬ (s == t) = true by simpa using h)]
    have e1 := subN_ev hx hz (by omega)
    have e2 := subN_ev hz hx (by omega)
    by_cases hlt : x < z
    · rw [if_pos hlt] at e1
      rw [if_neg (by omega)] at e2
      rw [Rat.add_comm, mk_sub t s (Ne.symm h) (by omega)]
      refine Ev.bind e1 ?_
      simp only [Bool.false_eq_true, if_false]
      exact Ev.bind e2 (Ev.bind (redD_ev (hz.le (by omega)) hy (by omega) t) (now fun _ => rfl))
    · rw [if_neg hlt] at e1
      rw [mk_sub s t h (by omega)]
      refine Ev.bind e1 ?_
      simp only [if_true]
      exact Ev.bind (redD_ev (hx.le (by omega)) hy (by omega) s) (now fun _ => rfl)
theorem addC_ev {j k : Nat} {p q : Rat} (hp : Sz j p) (hq : Sz k q) (hj : j + k + 1 ≤ 1048576) : Ev (fun n => rational_Add.f n (C p).1 (C p).2.1 (C p).2.2 (C q).1 (C q).2.1 (C q).2.2) (C (p + q)) := by
  have e1 := partsC_ev hp (by omega)
  have e2 := partsC_ev hq (by omega)
  have ec := cmpN_ev hp.2 hq.2 (by omega) (by omega)
  have m1 := mulN_ev hp.1 hq.2 (by omega) (by omega)
  have m2 := mulN_ev hq.1 hp.2 (by omega) (by omega)
  have m3 := mulN_ev hp.2 hq.2 (by omega) (by omega)
  have l1 := hp.1.mulN hq.2
  have l2 : Lim (j + k) ((q.num.natAbs * p.den : Nat) : Int) := by rw [Nat.add_comm]; exact hq.1.mulN hp.2
  have l3 := hp.2.mulN hq.2
  have dp := den_pos p
  have dq := den_pos q
  simp only [rational_Add.f]
  refine Ev.bind e1 (Ev.bind e2 (Ev.bind ec ?_))
  by_cases h : p.den = q.den
  · rw [cmpI_eq (by omega)]
    simp only [if_true]
    have := addj_ev (hp.1.mono (show j ≤ j + k by omega)) (hq.1.mono (show k ≤ j + k by omega)) (hp.2.mono (show j ≤ j + k by omega)) (by omega) (decide (p.num < 0)) (decide (q.num < 0))
    rw [mk_self, h, mk_self, ← h] at this
    exact this
  · have e0 : ¬ cmpI (p.den : Int) (q.den : Int) = 0 := by
      unfold cmpI
      split
      · omega
      · rw [if_pos (by omega)]; omega
    simp only [if_neg e0]
    refine Ev.bind m1 (Ev.bind m2 (Ev.bind m3 ?_))
    have := addj_ev l1 l2 l3 (by omega) (decide (p.num < 0)) (decide (q.num < 0))
    rw [mk_scale _ _ _ _ dq, mk_self, show p.den * q.den = q.den * p.den from Nat.mul_comm _ _, mk_scale _ _ _ _ dp, mk_self, Nat.mul_comm q.den p.den] at this
    exact this
theorem negC_ev {k : Nat} {p : Rat} (h : Sz k p) (hk : k ≤ 1048576) : Ev (fun n => rational_Neg.f n (C p).1 (C p).2.1 (C p).2.2) (C (-p)) := by
  have e : mk (!decide (p.num < 0)) p.num.natAbs p.den = -p := by
    have := mk_self p
    rw [mk_div] at this ⊢
    generalize decide (p.num < 0) = s at *
    cases s <;> simp at * <;> grind
  simp only [rational_Neg.f]
  rw [← e]
  exact Ev.bind (redD_ev h.1 h.2 hk _) (now fun _ => rfl)
theorem Sz.neg {k : Nat} {p : Rat} (h : Sz k p) : Sz k (-p) := by
  unfold Sz
  rw [Rat.neg_num, Rat.neg_den, Int.natAbs_neg]
  exact h
theorem Sz.add {j k : Nat} {p q : Rat} (hp : Sz j p) (hq : Sz k q) : Sz (j + k + 1) (p + q) := by
  have dp := den_pos p
  have dq := den_pos q
  have l1 := hp.1.mulN hq.2
  have l2 : Lim (j + k) ((q.num.natAbs * p.den : Nat) : Int) := by rw [Nat.add_comm]; exact hq.1.mulN hp.2
  have l3 := hp.2.mulN hq.2
  have e : p + q = mk (decide (p.num < 0)) (p.num.natAbs * q.den) (p.den * q.den) + mk (decide (q.num < 0)) (q.num.natAbs * p.den) (p.den * q.den) := by
    rw [mk_scale _ _ _ _ dq, mk_self, Nat.mul_comm p.den q.den, mk_scale _ _ _ _ dp, mk_self]
  rw [e]
  generalize decide (p.num < 0) = s
  generalize decide (q.num < 0) = t
  by_cases h : s = t
  · subst h
    rw [mk_add]
    exact mk_sz _ (by omega) (l1.addN l2) (l3.mono (by omega))
  · by_cases hlt : p.num.natAbs * q.den < q.num.natAbs * p.den
    · rw [Rat.add_comm, mk_sub t s (Ne.symm h) (by omega)]
      exact mk_sz _ (by omega) ((l2.le (Nat.sub_le _ _)).mono (by omega)) (l3.mono (by omega))
    · rw [mk_sub s t h (by omega)]
      exact mk_sz _ (by omega) ((l1.le (Nat.sub_le _ _)).mono (by omega)) (l3.mono (by omega))
theorem drop_getD {xs : List Int} {i : Nat} (h : i < xs.length) : xs.drop i = xs.getD i 0 :: xs.drop (i + 1) := by
  rw [List.drop_eq_getElem_cons h, List.getD_eq_getElem?_getD, List.getElem?_eq_getElem h]
  rfl
theorem natSameG_l {xs ys : List Int} (hs : Big xs) (hl : xs.length = ys.length) : ∀ (n i : Nat), i + n = xs.length → Ev (fun k => credenceref1_NatSame.l0 k xs ys i) (decide (xs.drop i = ys.drop i)) := by
  unfold Big at hs
  intro n
  induction n with
  | zero =>
    intro i hi
    rw [List.drop_eq_nil_of_le (by omega), List.drop_eq_nil_of_le (by omega)]
    refine suc (now fun k => ?_)
    simp (disch := omega) only [credenceref1_NatSame.l0, if_neg]
    rfl
  | succ n ih =>
    intro i hi
    have := ih (i + 1) (by omega)
    rw [drop_getD (xs := xs) (by omega), drop_getD (xs := ys) (by omega)]
    refine suc ?_
    by_cases h : xs.getD i 0 = ys.getD i 0
    · simp (disch := omega) only [credenceref1_NatSame.l0, if_pos, w64, rd, Int.toNat_natCast, h, if_true]
      simp only [List.cons.injEq, true_and]
      exact this
    · simp (disch := omega) only [credenceref1_NatSame.l0, if_pos, rd, Int.toNat_natCast]
      rw [decide_eq_false (fun e => h (List.cons.inj e).1)]
      exact now fun _ => if_neg h
theorem natSameG_ev {xs ys : List Int} (hs : Big xs) : Ev (fun k => credenceref1_NatSame.f k xs ys) (decide (xs = ys)) := by
  simp only [credenceref1_NatSame.f]
  by_cases h : xs.length = ys.length
  · simp only [if_pos (show (xs.length : Int) = (ys.length : Int) by omega)]
    exact natSameG_l hs h xs.length 0 (by omega)
  · simp only [if_neg (show ¬ (xs.length : Int) = (ys.length : Int) by omega)]
    rw [decide_eq_false (fun e => h (congrArg List.length e))]
    exact now fun _ => rfl
theorem D_inj {x y : Nat} (h : D (x : Int) = D (y : Int)) : x = y := by
  have := congrArg V h
  rw [V_D _ (by omega), V_D _ (by omega)] at this
  omega
theorem C_inj {p q : Rat} (h : C p = C q) : p = q := by
  unfold C at h
  simp only [Prod.mk.injEq] at h
  rw [← mk_self p, ← mk_self q, h.1, D_inj h.2.1, D_inj h.2.2]
theorem sameG_ev {k : Nat} {p q : Rat} (h : Sz k p) (hk : k ≤ 1048576) : Ev (fun n => credencelaw2_same.f n (C p).1 (C p).2.1 (C p).2.2 (C q).1 (C q).2.1 (C q).2.2) (decide (p = q)) := by
  have e1 := natSameG_ev (ys := (C q).2.1) (h.1.small (by omega)).big
  have e2 := natSameG_ev (ys := (C q).2.2) (h.2.small (by omega)).big
  have e : Ev (fun n => credenceref1_FracSame.f n (C p).1 (C p).2.1 (C p).2.2 (C q).1 (C q).2.1 (C q).2.2) (decide (p = q)) := by
    simp only [credenceref1_FracSame.f]
    by_cases h1 : (C p).1 = (C q).1
    · simp only [if_pos (show ((C p).1 == (C q).1) = true by simpa using h1)]
      refine Ev.bind e1 ?_
      by_cases h2 : (C p).2.1 = (C q).2.1
      · simp only [if_pos (decide_eq_true (show D (p.num.natAbs : Int) = (C q).2.1 from h2))]
        refine Ev.bind e2 ?_
        by_cases h3 : (C p).2.2 = (C q).2.2
        · rw [decide_eq_true (show D (p.den : Int) = (C q).2.2 from h3), decide_eq_true (C_inj (Prod.ext h1 (Prod.ext h2 h3)))]
          exact now fun _ => rfl
        · rw [decide_eq_false (show ¬ D (p.den : Int) = (C q).2.2 from h3), decide_eq_false (fun e => h3 (by rw [e]))]
          exact now fun _ => rfl
      · simp only [decide_eq_false (show ¬ D (p.num.natAbs : Int) = (C q).2.1 from h2), Bool.false_eq_true, if_false]
        rw [decide_eq_false (fun e => h2 (by rw [e]))]
        exact now fun _ => rfl
    · simp only [if_neg (show ¬ ((C p).1 == (C q).1) = true by simpa using h1)]
      rw [decide_eq_false (fun e => h1 (by rw [e]))]
      exact now fun _ => rfl
  simp only [credencelaw2_same.f]
  exact Ev.bind e (now fun _ => rfl)
theorem sameC_ev {k : Nat} {p q : Rat} (e : p = q) (h : Sz k p) (hk : k ≤ 1048576) : Ev (fun n => credencelaw2_same.f n (C p).1 (C p).2.1 (C p).2.2 (C q).1 (C q).2.1 (C q).2.2) true := by
  have := sameG_ev (q := q) h hk
  rw [decide_eq_true e] at this
  exact this
/-- What New makes of numbers. -/
theorem newC {n d : Int} (hd : d ≠ 0) : newO n d = ((C (mk (decide (n < 0) != decide (d < 0)) n.natAbs d.natAbs)).1, (C (mk (decide (n < 0) != decide (d < 0)) n.natAbs d.natAbs)).2.1, (C (mk (decide (n < 0) != decide (d < 0)) n.natAbs d.natAbs)).2.2, 0) := by
  unfold newO
  rw [if_neg hd, Fr_C]
end Go.Proofs.YtoeldfopjalpkaaDoor.Spec
set_option linter.unusedSimpArgs false
set_option linter.unusedVariables false
namespace Go.Proofs.YtoeldfopjalpkaaDoor.Spec
open Go.RowKit Go.Proofs.YtoeldfopjalpkaaDoorW.PrintWords Go.Proofs.YtoeldfopjalpkaaDoorW.PrintLast Go.Proofs.YtoeldfopjalpkaaDoorW.PrintMore Go.Proofs.YtoeldfopjalpkaaDoor.Q Go.Proofs.YtoeldfopjalpkaaDoor.Nums

def B (l : List UInt8) : ByteArray := ⟨l.toArray⟩
theorem B_size (l : List UInt8) : (B l).size = l.length := by simp [B, ByteArray.size]
theorem B_append (l m : List UInt8) : B l ++ B m = B (l ++ m) := by
  apply ByteArray.ext
  apply Array.toList_inj.1
  simp [B, ByteArray.data_append]
theorem B_toList (l : List UInt8) : (B l).toList = l := by rw [ByteArray.toList_eq]; rfl
theorem B_extract (l : List UInt8) (a b : Nat) : (B l).extract a b = B ((l.drop a).take (b - a)) := by
  apply ByteArray.ext
  apply Array.toList_inj.1
  simp [B, ByteArray.data_extract, List.extract_eq_take_drop]
theorem B_drop (l : List UInt8) (a : Nat) : (B l).extract a (B l).size = B (l.drop a) := by
  rw [B_extract, B_size, List.take_of_length_le (by rw [List.length_drop]; omega)]
theorem B_take (l : List UInt8) (b : Nat) : (B l).extract 0 b = B (l.take b) := by
  rw [B_extract, List.drop_zero, Nat.sub_zero]
theorem B_bt {pre : List UInt8} {c : UInt8} {l : List UInt8} : bt (B (pre ++ c :: l)) (pre.length : Int) = (c.toNat : Int) := by
  unfold bt
  rw [dif_pos (by rw [B_size]; simp)]
  simp [B, ByteArray.getElem_eq_getElem_data]
theorem B_bt0 {c : UInt8} {l : List UInt8} : bt (B (c :: l)) 0 = (c.toNat : Int) := B_bt (pre := []) (c := c) (l := l)
def isD (c : UInt8) : Bool := decide (48 ≤ c.toNat ∧ c.toNat ≤ 57)
def lval : Int → List UInt8 → Int
  | v, [] => v
  | v, c :: l => lval (10 * v + ((c.toNat : Int) - 48)) l
theorem lval_append : ∀ (l m : List UInt8) (v : Int), lval v (l ++ m) = lval (lval v l) m
  | [], _, _ => rfl
  | c :: l, m, v => by rw [List.cons_append]; exact lval_append l m _
theorem scan_B : ∀ (l pre : List UInt8) (v : Int), l.all isD = true → scan (B (pre ++ l)) l.length pre.length v = some (lval v l)
  | [], _, _, _ => rfl
  | c :: l, pre, v, h => by
    rw [List.all_cons, Bool.and_eq_true] at h
    have hc := of_decide_eq_true h.1
    have := scan_B l (pre ++ [c]) (10 * v + ((c.toNat : Int) - 48)) h.2
    rw [List.append_assoc, List.length_append] at this
    rw [List.length_cons]
    unfold scan
    rw [B_bt, if_neg (by omega)]
    exact this
theorem lval_nonneg : ∀ (l : List UInt8) (v : Int), l.all isD = true → 0 ≤ v → 0 ≤ lval v l
  | [], _, _, h => h
  | c :: l, v, h, hv => by
    rw [List.all_cons, Bool.and_eq_true] at h
    have hc := of_decide_eq_true h.1
    exact lval_nonneg l _ h.2 (by omega)
theorem lval_lim : ∀ (l : List UInt8) (v : Int) (k : Nat), l.all isD = true → Lim k v → Lim (k + l.length) (lval v l)
  | [], _, _, _, h => h
  | c :: l, v, k, h, hv => by
    rw [List.all_cons, Bool.and_eq_true] at h
    have hc := of_decide_eq_true h.1
    have := lval_lim l (10 * v + ((c.toNat : Int) - 48)) (k + 1) h.2 (by
      unfold Lim at hv ⊢
      rw [pow_succ']
      obtain ⟨a, b⟩ := hv
      generalize (4294967296 : Int) ^ k = P at *
      omega)
    rw [List.length_cons]
    show Lim _ (lval (10 * v + ((c.toNat : Int) - 48)) l)
    rw [show k + (l.length + 1) = k + 1 + l.length by omega]
    exact this
/-- The number that digits spell. -/
def val (l : List UInt8) : Nat := (lval 0 l).toNat
theorem val_eq {l : List UInt8} (h : l.all isD = true) : ((val l : Nat) : Int) = lval 0 l := by
  have := lval_nonneg l 0 h (by omega)
  unfold val
  omega
theorem val_lim {l : List UInt8} (h : l.all isD = true) : Lim l.length ((val l : Nat) : Int) := by
  rw [val_eq h]
  have := lval_lim l 0 0 h lim0
  rwa [Nat.zero_add] at this
theorem lval_shift : ∀ (m : List UInt8) (v : Int), lval v m = v * 10 ^ m.length + lval 0 m
  | [], v => by simp [lval]
  | c :: m, v => by
    show lval (10 * v + ((c.toNat : Int) - 48)) m = _ + lval (10 * 0 + ((c.toNat : Int) - 48)) m
    rw [lval_shift m, lval_shift m (10 * 0 + _), List.length_cons, Int.pow_succ]
    generalize (10 : Int) ^ m.length = P
    generalize (c.toNat : Int) - 48 = d
    generalize lval 0 m = r
    rw [Int.add_mul, Int.add_mul, Int.mul_zero, Int.zero_mul, Int.zero_add, ← Int.add_assoc, Int.mul_comm 10 v, Int.mul_assoc, Int.mul_comm 10 P]
theorem digits_l : ∀ (l pre : List UInt8), pre.length + l.length ≤ 4000 → Ev (fun k => rational_digits.l0 k (B (pre ++ l)) (pre.length : Int)) (l.all isD && !(pre ++ l).isEmpty)
  | [], pre, h => by
    refine suc ?_
    rw [List.append_nil]
    simp (disch := (rw [B_size]; omega)) only [rational_digits.l0, if_neg]
    rw [B_toList]
    exact now fun _ => by simp
  | c :: l, pre, h => by
    rw [List.length_cons] at h
    have ih := digits_l l (pre ++ [c]) (by simp; omega)
    rw [List.append_assoc, List.length_append] at ih
    have hs : (B (pre ++ c :: l)).size = pre.length + l.length + 1 := by rw [B_size]; simp; omega
    refine suc ?_
    simp (disch := omega) only [rational_digits.l0, if_pos, B_bt]
    unfold isD
    by_cases h1 : (c.toNat : Int) < 48
    · simp only [if_pos h1]
      rw [List.all_cons, decide_eq_false (by omega)]
      exact now fun _ => rfl
    · simp only [if_neg h1]
      by_cases h2 : (c.toNat : Int) > 57
      · simp only [if_pos h2]
        rw [List.all_cons, decide_eq_false (by omega)]
        exact now fun _ => rfl
      · simp only [if_neg h2]
        rw [List.all_cons, decide_eq_true (by omega), w64 (by omega) (by omega)]
        exact ih
theorem rdigits_ev {l : List UInt8} (h : l.length ≤ 4000) : Ev (fun k => rational_digits.f k (B l)) (l.all isD && !l.isEmpty) := by
  simp only [rational_digits.f]
  exact digits_l l [] (by simpa using h)
theorem trim0_ev : ∀ l : List UInt8, l.length ≤ 4000 → l.all isD = true → ∃ m : List UInt8, Ev (fun k => strings_trimLeftByte.l0 k (B l) 48) (B m) ∧ m.all isD = true ∧ m.length ≤ l.length ∧ lval 0 m = lval 0 l ∧ (∀ c t, m = c :: t → c.toNat ≠ 48)
  | [], _, _ => ⟨[], by
      refine suc (now fun _ => ?_)
      simp (disch := (rw [B_size]; simp)) only [strings_trimLeftByte.l0, if_neg], rfl, Nat.le_refl _, rfl, fun c t h => by cases h⟩
  | c :: l, hl, h => by
    rw [List.length_cons] at hl
    have h' := h
    rw [List.all_cons, Bool.and_eq_true] at h'
    have hs : (B (c :: l)).size = l.length + 1 := by rw [B_size]; rfl
    by_cases hc : c.toNat = 48
    · obtain ⟨m, e, m1, m2, m3, m4⟩ := trim0_ev l (by omega) h'.2
      refine ⟨m, ?_, m1, by rw [List.length_cons]; omega, ?_, m4⟩
      · refine suc ?_
        simp (disch := omega) only [strings_trimLeftByte.l0, if_pos, B_bt0, B_drop]
        exact e
      · rw [m3]
        show _ = lval (10 * 0 + ((c.toNat : Int) - 48)) l
        rw [show 10 * 0 + ((c.toNat : Int) - 48) = 0 by omega]
    · refine ⟨c :: l, ?_, h, Nat.le_refl _, rfl, fun c' t e => by obtain ⟨rfl, rfl⟩ := List.cons.inj e; exact hc⟩
      refine suc (now fun _ => ?_)
      simp (disch := omega) only [strings_trimLeftByte.l0, if_pos, B_bt0, if_neg]
theorem number_ev {l : List UInt8} (hl : l.length ≤ 4000) (h : l.all isD = true) : Ev (fun k => rational_number.f k (B l)) (D ((val l : Nat) : Int)) := by
  obtain ⟨m, e, m1, m2, m3, m4⟩ := trim0_ev l hl h
  have et : Ev (fun k => strings_TrimLeft.f k (B l) (⟨#[48]⟩ : ByteArray)) (B m) := by
    simp only [strings_TrimLeft.f, strings_trimLeftByte.f]
    exact e
  rw [val_eq h, ← m3]
  simp only [rational_number.f]
  refine Ev.bind et ?_
  have hp := parse_ev (s := B m) (by rw [B_size]; omega)
  cases m with
  | nil =>
    simp only [if_pos (show (B []).toList = ([] : List UInt8) from B_toList [])]
    rw [show lval 0 [] = 0 from rfl, D_zero]
    exact now fun _ => rfl
  | cons c t =>
    have hc := m4 c t rfl
    simp only [if_neg (show ¬ (B (c :: t)).toList = ([] : List UInt8) by rw [B_toList]; simp)]
    refine Ev.bind hp ?_
    have hsb : scan (B (c :: t)) (c :: t).length 0 0 = some (lval 0 (c :: t)) := scan_B (c :: t) [] 0 m1
    unfold parO
    rw [if_neg (by rw [B_size]; simp), B_bt0, if_neg (by omega), B_size, hsb]
    exact now fun _ => rfl
theorem index_none : ∀ {l : List UInt8} {c : UInt8}, c ∉ l → Lib.indexByte l c = -1
  | [], _, _ => rfl
  | b :: l, c, h => by
    have h1 : ¬ (b == c) = true := fun e => h (by rw [eq_of_beq e]; simp)
    unfold Lib.indexByte
    rw [if_neg h1, index_none (fun e => h (List.mem_cons_of_mem _ e))]
    rfl
theorem index_at : ∀ {l t : List UInt8} {c : UInt8}, c ∉ l → Lib.indexByte (l ++ c :: t) c = (l.length : Int)
  | [], t, c, _ => by
    show Lib.indexByte (c :: t) c = _
    unfold Lib.indexByte
    rw [if_pos (BEq.rfl)]
    rfl
  | b :: l, t, c, h => by
    have h1 : ¬ (b == c) = true := fun e => h (by rw [eq_of_beq e]; simp)
    rw [List.cons_append]
    unfold Lib.indexByte
    rw [if_neg h1, index_at (fun e => h (List.mem_cons_of_mem _ e))]
    rw [if_neg (by intro e; have := eq_of_beq e; omega), List.length_cons]
    omega
theorem cut_none {l : List UInt8} {c : UInt8} (h : c ∉ l) : strings_Cut.f (B l) (⟨#[c]⟩ : ByteArray) = some (B l, (⟨#[]⟩ : ByteArray), false) := by
  have e : stringslite_Index.f (B l) (⟨#[c]⟩ : ByteArray) = some (-1) := by
    show some (Lib.indexByte l c) = _
    rw [index_none h]
  simp only [strings_Cut.f, stringslite_Cut.f, e, Option.bind_some]
  rfl
theorem cut_at {l t : List UInt8} {c : UInt8} (h : c ∉ l) (hl : l.length + t.length ≤ 4000) : strings_Cut.f (B (l ++ c :: t)) (⟨#[c]⟩ : ByteArray) = some (B l, B t, true) := by
  have e : stringslite_Index.f (B (l ++ c :: t)) (⟨#[c]⟩ : ByteArray) = some ((l.length : Nat) : Int) := by
    show some (Lib.indexByte (l ++ c :: t) c) = _
    rw [index_at h]
  have hs : (B (l ++ c :: t)).size = l.length + t.length + 1 := by rw [B_size]; simp; omega
  have h1 : ((⟨#[c]⟩ : ByteArray).size : Int) = 1 := rfl
  have hw : wrap64 ((l.length : Int) + 1) = ((l.length + 1 : Nat) : Int) := by rw [w64 (by omega) (by omega)]; omega
  simp (disch := omega) only [strings_Cut.f, stringslite_Cut.f, e, Option.bind_some, h1, hw, if_pos, Int.toNat_natCast, B_drop, B_take]
  rw [List.take_left, show l.length + 1 = (l ++ [c]).length by simp, show l ++ c :: t = (l ++ [c]) ++ t by simp, List.drop_left]
theorem minus_at (t : List UInt8) : strings_CutPrefix.f (B (45 :: t)) (⟨#[45]⟩ : ByteArray) = some (B t, true) := by
  have hs : (B (45 :: t)).size = t.length + 1 := by rw [B_size]; rfl
  have h1 : ((⟨#[45]⟩ : ByteArray).size : Int) = 1 := rfl
  have hp : stringslite_HasPrefix.f (B (45 :: t)) (⟨#[45]⟩ : ByteArray) = some true := by
    simp (disch := omega) only [stringslite_HasPrefix.f, h1, if_pos, B_take]
    rw [B_toList, ByteArray.toList_eq]
    rfl
  simp (disch := omega) only [strings_CutPrefix.f, stringslite_CutPrefix.f, hp, Option.bind_some, h1, if_true, if_pos]
  rw [show ((1 : Int)).toNat = 1 from rfl, B_drop]
  rfl
theorem minus_no {l : List UInt8} (h : ∀ t, l ≠ 45 :: t) : strings_CutPrefix.f (B l) (⟨#[45]⟩ : ByteArray) = some (B l, false) := by
  have h1 : ((⟨#[45]⟩ : ByteArray).size : Int) = 1 := rfl
  have hp : stringslite_HasPrefix.f (B l) (⟨#[45]⟩ : ByteArray) = some false := by
    cases l with
    | nil => rfl
    | cons c t =>
      have hs : (B (c :: t)).size = t.length + 1 := by rw [B_size]; rfl
      have hc : c ≠ 45 := fun e => h t (by rw [e])
      simp (disch := omega) only [stringslite_HasPrefix.f, h1, if_pos, B_take]
      rw [B_toList, ByteArray.toList_eq]
      refine congrArg some ?_
      show ((c :: t).take 1 == [45]) = false
      rw [beq_eq_false_iff_ne]
      intro e
      exact hc (List.cons.inj e).1
  simp only [strings_CutPrefix.f, stringslite_CutPrefix.f, hp, Option.bind_some, Bool.false_eq_true, if_false]
def okc (c : UInt8) : Bool := c != 47 && c != 46
def okO (q : Rat) : Bool × List Int × List Int × Int := ((C q).1, (C q).2.1, (C q).2.2, 0)
def synO : Bool × List Int × List Int × Int := (false, [], [], 2)
def dgs (l : List UInt8) : Bool := l.all isD && !l.isEmpty
/-- What a text is worth: a sign, digits, and what follows them. -/
def resO (neg : Bool) (h : List UInt8) : List UInt8 → Bool × List Int × List Int × Int
  | [] => if dgs h = true then okO (mk neg (val h) 1) else synO
  | c :: t => if dgs h = true ∧ dgs t = true then (if c = 47 then (if val t = 0 then (false, [], [], 20) else okO (mk neg (val h) (val t))) else okO (mk neg (val (h ++ t)) (10 ^ t.length))) else synO
theorem resO_nil (neg : Bool) (h : List UInt8) : resO neg h [] = if dgs h = true then okO (mk neg (val h) 1) else synO := rfl
theorem resO_cons (neg : Bool) (h : List UInt8) (c : UInt8) (t : List UInt8) : resO neg h (c :: t) = if dgs h = true ∧ dgs t = true then (if c = 47 then (if val t = 0 then (false, [], [], 20) else okO (mk neg (val h) (val t))) else okO (mk neg (val (h ++ t)) (10 ^ t.length))) else synO := rfl
theorem ok_47 {h : List UInt8} (ho : h.all okc = true) : (47 : UInt8) ∉ h := fun e => by
  have := List.all_eq_true.1 ho 47 e
  exact absurd this (by decide)
theorem ok_46 {h : List UInt8} (ho : h.all okc = true) : (46 : UInt8) ∉ h := fun e => by
  have := List.all_eq_true.1 ho 46 e
  exact absurd this (by decide)
theorem dg_no {l m : List UInt8} {c : UInt8} (hc : isD c = false) : dgs (l ++ c :: m) = false := by
  unfold dgs
  rw [List.all_append, List.all_cons, hc, Bool.false_and, Bool.and_false, Bool.false_and]
theorem dg_all {l : List UInt8} (h : dgs l = true) : l.all isD = true := by
  unfold dgs at h
  rw [Bool.and_eq_true] at h
  exact h.1
theorem one_lim {k : Nat} (hk : 1 ≤ k) : Lim k ((1 : Nat) : Int) := Lim.one hk
theorem redL {l : List UInt8} {y : Nat} {k : Nat} (h : dgs l = true) (hl : l.length ≤ k) (h1 : 1 ≤ k) (hy : Lim k (y : Int)) (hk : k ≤ 1048576) (s : Bool) : Ev (fun q => rational_reduce.f q s (D ((val l : Nat) : Int)) (D (y : Int))) (C (mk s (val l) y)) :=
  redD_ev ((val_lim (dg_all h)).mono hl) hy hk s
theorem ten_lim (n : Nat) : Lim (n + 1) ((10 ^ n : Nat) : Int) := by
  refine ⟨Int.natCast_nonneg _, ?_⟩
  rw [Int.natCast_pow]
  have h : ((10 : Nat) : Int) ^ n ≤ 4294967296 ^ n := ipow_base (by omega) (by omega) n
  have h2 : (4294967296 : Int) ^ n < 4294967296 ^ (n + 1) := by
    rw [Int.pow_succ]
    have : (0 : Int) < 4294967296 ^ n := Int.pow_pos (by omega)
    omega
  omega
theorem pow10_ev {n : Nat} (hn : n ≤ 400) : Ev (fun k => bignat_Pow.f k ([10] : List Int) (n : Int)) (D ((10 ^ n : Nat) : Int), 0) := by
  have hu : U [10] := U_cons.2 ⟨by omega, U_nil⟩
  have hv : V [10] = 10 := by rw [V_cons, V_nil]; rfl
  have := pow_ev hu (by unfold Small; simp) (e := n) (by omega)
  rw [hv] at this
  have hb : bl ((10 : Int) ^ n) ≤ 65536 := by
    have h2 := (ten_lim n).2
    rw [Int.natCast_pow, ← pow32] at h2
    have h := bl_mono (Int.le_of_lt h2)
    rw [bl_two] at h
    show bl (((10 : Nat) : Int) ^ n) ≤ _
    omega
  rw [powO_small hb] at this
  rw [Int.natCast_pow]
  exact this
theorem first47 : ∀ {l : List UInt8}, (47 : UInt8) ∈ l → ∃ a b, l = a ++ 47 :: b ∧ (47 : UInt8) ∉ a
  | [], h => by cases h
  | c :: l, h => by
    by_cases hc : c = 47
    · exact ⟨[], l, by rw [hc]; rfl, by simp⟩
    · rcases List.mem_cons.1 h with h | h
      · exact absurd h.symm hc
      · obtain ⟨a, b, e, n⟩ := first47 h
        exact ⟨c :: a, b, by rw [e]; rfl, fun e => by
          rcases List.mem_cons.1 e with e | e
          · exact hc e.symm
          · exact n e⟩
theorem D_len0 (n : Nat) : ((D (n : Int)).length : Int) = 0 ↔ n = 0 := by
  constructor
  · intro h
    by_cases h0 : n = 0
    · exact h0
    · have := D_length_pos (n := (n : Int)) (by omega); omega
  · intro h; subst h; rw [show ((0 : Nat) : Int) = 0 from rfl, D_zero]; rfl
/-- The sign as it is written. -/
def sgnT (neg : Bool) : List UInt8 := if neg = true then [45] else []
theorem cutP {neg : Bool} {r : List UInt8} (hn : neg = false → ∀ u, r ≠ 45 :: u) : strings_CutPrefix.f (B (sgnT neg ++ r)) (⟨#[45]⟩ : ByteArray) = some (B r, neg) := by
  cases neg
  · exact minus_no (hn rfl)
  · exact minus_at r
theorem dg_len {h : List UInt8} : dgs h = (h.all isD && !h.isEmpty) := rfl
theorem j2_syn (neg : Bool) (a b : ByteArray) : Ev (fun k => rational_Parse.j2 k neg a b true) synO := by
  refine suc (now fun _ => ?_)
  simp only [rational_Parse.j2, if_true]
  rfl
theorem j1_syn (neg : Bool) (a b : ByteArray) : Ev (fun k => rational_Parse.j1 k neg a b true) synO := by
  refine suc (now fun _ => ?_)
  simp only [rational_Parse.j1, if_true]
  rfl
theorem parseB_ev (neg : Bool) {h t : List UInt8} (ho : h.all okc = true) (hl : h.length + t.length ≤ 399) (ht : t = [] ∨ ∃ t', t = 47 :: t' ∨ t = 46 :: t') (hn : neg = false → ∀ u, h ++ t ≠ 45 :: u) : Ev (fun k => rational_Parse.f k (B (sgnT neg ++ (h ++ t)))) (resO neg h t) := by
  have hs : (B (sgnT neg ++ (h ++ t))).size ≤ 400 := by
    rw [B_size, List.length_append, List.length_append]
    have : (sgnT neg).length ≤ 1 := by cases neg <;> decide
    omega
  have eh := rdigits_ev (l := h) (by omega)
  rw [← dg_len] at eh
  simp (disch := omega) only [rational_Parse.f, if_neg, cutP hn, Option.bind_some]
  rcases ht with rfl | ⟨t', rfl | rfl⟩
  · rw [List.append_nil]
    simp only [cut_none (ok_47 ho), cut_none (ok_46 ho), Option.bind_some, Bool.false_eq_true, if_false]
    refine Ev.bind eh ?_
    rw [resO_nil]
    by_cases hd : dgs h = true
    · rw [hd]
      have r := redL (y := 1) (k := 399) hd (by omega) (by omega) (one_lim (by omega)) (by omega) neg
      rw [show D ((1 : Nat) : Int) = [1] from D_one] at r
      refine suc ?_
      simp only [rational_Parse.j0, if_true]
      refine Ev.bind (number_ev (by omega) (dg_all hd)) ?_
      simp only [rational_one.f, Option.bind_some]
      exact Ev.bind r (now fun _ => rfl)
    · rw [if_neg hd]
      rw [Bool.not_eq_true] at hd
      rw [hd]
      refine suc ?_
      simp only [rational_Parse.j0, Bool.false_eq_true, if_false]
      exact j1_syn _ _ _
  · rw [List.length_cons] at hl
    have et := rdigits_ev (l := t') (by omega)
    rw [← dg_len] at et
    simp only [cut_at (ok_47 ho) (show h.length + t'.length ≤ 4000 by omega), Option.bind_some, if_true]
    refine Ev.bind eh ?_
    rw [resO_cons]
    by_cases hd : dgs h = true
    · simp only [hd, if_true, true_and]
      refine Ev.bind et ?_
      by_cases hd' : dgs t' = true
      · simp only [hd', Bool.not_true, if_true]
        have nt := number_ev (l := t') (by omega) (dg_all hd')
        refine suc ?_
        simp only [rational_Parse.j2, Bool.false_eq_true, if_false]
        refine Ev.bind nt ?_
        by_cases hz : val t' = 0
        · simp only [if_pos ((D_len0 _).2 hz), if_pos hz]
          exact now fun _ => rfl
        · simp only [if_neg (fun e => hz ((D_len0 _).1 e)), if_neg hz]
          exact Ev.bind (number_ev (by omega) (dg_all hd)) (Ev.bind (redL (k := 399) hd (by omega) (by omega) ((val_lim (dg_all hd')).mono (by omega)) (by omega) neg) (now fun _ => rfl))
      · rw [if_neg hd']
        rw [Bool.not_eq_true] at hd'
        rw [hd']
        exact j2_syn _ _ _
    · rw [if_neg (show ¬ (dgs h = true ∧ dgs t' = true) from fun e => hd e.1)]
      rw [Bool.not_eq_true] at hd
      simp only [hd, Bool.false_eq_true, if_false]
      exact j2_syn _ _ _
  · rw [List.length_cons] at hl
    have et := rdigits_ev (l := t') (by omega)
    rw [← dg_len] at et
    by_cases hm : (47 : UInt8) ∈ t'
    · obtain ⟨a, b, rfl, na⟩ := first47 hm
      have n47 : (47 : UInt8) ∉ h ++ 46 :: a := fun e => by
        rcases List.mem_append.1 e with e | e
        · exact ok_47 ho e
        · rcases List.mem_cons.1 e with e | e
          · exact absurd e (by decide)
          · exact na e
      have hl' : h.length + (a.length + b.length + 1) + 1 ≤ 399 := by simp at hl; omega
      have e1 : h ++ 46 :: (a ++ 47 :: b) = (h ++ 46 :: a) ++ 47 :: b := by simp
      rw [e1]
      have ed := rdigits_ev (l := h ++ 46 :: a) (by simp; omega)
      rw [← dg_len, dg_no (by decide)] at ed
      simp only [cut_at n47 (show (h ++ 46 :: a).length + b.length ≤ 4000 by simp; omega), Option.bind_some, if_true]
      refine Ev.bind ed ?_
      rw [resO_cons]
      rw [dg_no (by decide)]
      simp only [Bool.false_eq_true, and_false, if_false]
      exact j2_syn _ _ _
    · have n47 : (47 : UInt8) ∉ h ++ 46 :: t' := fun e => by
        rcases List.mem_append.1 e with e | e
        · exact ok_47 ho e
        · rcases List.mem_cons.1 e with e | e
          · exact absurd e (by decide)
          · exact hm e
      simp only [cut_none n47, cut_at (ok_46 ho) (show h.length + t'.length ≤ 4000 by omega), Option.bind_some, Bool.false_eq_true, if_false, if_true]
      refine suc ?_
      simp only [rational_Parse.j0, Bool.false_eq_true, if_false, if_true]
      refine Ev.bind eh ?_
      rw [resO_cons]
      by_cases hd : dgs h = true
      · simp only [hd, if_true, true_and]
        refine Ev.bind et ?_
        by_cases hd' : dgs t' = true
        · simp only [hd', Bool.not_true, if_true]
          have ha : (h ++ t').all isD = true := by rw [List.all_append, dg_all hd, dg_all hd']; rfl
          have ln : (h ++ t').length ≤ 399 := by rw [List.length_append]; omega
          refine suc ?_
          simp only [rational_Parse.j1, Bool.false_eq_true, if_false]
          rw [B_size]
          refine Ev.bind (pow10_ev (by omega)) ?_
          simp only [B_size, if_pos (show h.length + t'.length ≤ 9223372036854775807 by omega), B_append]
          rw [if_neg (by decide)]
          exact Ev.bind (number_ev (by omega) ha) (Ev.bind (redD_ev ((val_lim ha).mono (show _ ≤ 400 by omega)) ((ten_lim t'.length).mono (by omega)) (by omega) neg) (now fun _ => rfl))
        · rw [if_neg hd']
          rw [Bool.not_eq_true] at hd'
          rw [hd']
          exact j1_syn _ _ _
      · rw [if_neg (show ¬ (dgs h = true ∧ dgs t' = true) from fun e => hd e.1)]
        rw [Bool.not_eq_true] at hd
        simp only [hd, Bool.false_eq_true, if_false]
        exact j1_syn _ _ _
end Go.Proofs.YtoeldfopjalpkaaDoor.Spec
set_option linter.unusedSimpArgs false
set_option linter.unusedVariables false
namespace Go.Proofs.YtoeldfopjalpkaaDoor.Spec
open Go.RowKit Go.Proofs.YtoeldfopjalpkaaDoorW.PrintWords Go.Proofs.YtoeldfopjalpkaaDoorW.PrintLast Go.Proofs.YtoeldfopjalpkaaDoorW.PrintMore Go.Proofs.YtoeldfopjalpkaaDoor.Q Go.Proofs.YtoeldfopjalpkaaDoor.Nums

/-- A digit's byte. -/
def by8 (n : Int) : UInt8 := UInt8.ofNat n.toNat
theorem by8_nat {n : Int} (h0 : 48 ≤ n) (h1 : n ≤ 57) : ((by8 n).toNat : Int) = n := by
  unfold by8
  rw [UInt8.toNat_ofNat']
  omega
/-- The digits of a number. -/
def dgt (n : Nat) : List UInt8 := (txt (n : Int)).data.toList
theorem dgt_B (n : Nat) : txt (n : Int) = B (dgt n) := rfl
theorem dgt_zero : dgt 0 = [48] := rfl
theorem dgt_pos {n : Nat} (h : 0 < n) : dgt n = (rd10 (n : Int)).reverse.map by8 := by
  unfold dgt txt
  rw [if_pos (by omega)]
  rfl
theorem rdd : ∀ v : Int, 0 ≤ v → ((rd10 v).reverse.map by8).all isD = true ∧ lval 0 ((rd10 v).reverse.map by8) = v := by
  intro v hv
  by_cases h : 0 < v
  · obtain ⟨i1, i2⟩ := rdd (v / 10) (by omega)
    have hb := by8_nat (n := 48 + v % 10) (by omega) (by omega)
    rw [rd10_pos h, List.reverse_cons, List.map_append]
    refine ⟨?_, ?_⟩
    · rw [List.all_append, i1, Bool.true_and]
      show (isD (by8 (48 + v % 10)) && true) = true
      rw [Bool.and_true]
      exact decide_eq_true (by omega)
    · rw [lval_append, i2]
      show 10 * (v / 10) + (((by8 (48 + v % 10)).toNat : Int) - 48) = v
      omega
  · rw [rd10_zero h]
    exact ⟨rfl, by show (0 : Int) = v; omega⟩
termination_by v => v.toNat
decreasing_by omega
theorem dgt_dgs (n : Nat) : dgs (dgt n) = true := by
  by_cases h : 0 < n
  · rw [dgt_pos h]
    unfold dgs
    rw [(rdd (n : Int) (by omega)).1, rd10_pos (by omega)]
    simp
  · obtain rfl : n = 0 := by omega
    rw [dgt_zero]; decide
theorem dgt_val (n : Nat) : val (dgt n) = n := by
  by_cases h : 0 < n
  · unfold val
    rw [dgt_pos h, (rdd (n : Int) (by omega)).2]
    omega
  · obtain rfl : n = 0 := by omega
    rw [dgt_zero]; decide
theorem dgt_len {n k : Nat} (h : (n : Int) < 10 ^ k) : (dgt n).length ≤ k + 1 := by
  by_cases h0 : 0 < n
  · rw [dgt_pos h0, List.length_map, List.length_reverse]
    have := rd10_len h
    omega
  · obtain rfl : n = 0 := by omega
    rw [dgt_zero]; simp
theorem Lim.ten {n : Nat} (h : Lim 8 (n : Int)) : (n : Int) < 10 ^ 78 := Int.lt_of_lt_of_le h.2 (by decide)
theorem formatN_ev {n : Nat} (h : Lim 8 (n : Int)) : Ev (fun k => bignat_Format.f k (D (n : Int))) (B (dgt n)) := by
  have := format_ev (D_U (n : Int)) (h.small (by omega)).big (by rw [V_D _ (by omega)]; have := rd10_len h.ten; omega)
  rw [V_D _ (by omega), dgt_B] at this
  exact this
theorem p47 (l : List UInt8) : B l ++ (⟨#[47]⟩ : ByteArray) = B (l ++ [47]) := B_append l [47]
theorem isD_ok {c : UInt8} (h : isD c = true) : okc c = true := by
  have := of_decide_eq_true h
  unfold okc
  rw [Bool.and_eq_true, bne_iff_ne, bne_iff_ne]
  exact ⟨fun e => by rw [e, show (47 : UInt8).toNat = 47 from rfl] at this; omega, fun e => by rw [e, show (46 : UInt8).toNat = 46 from rfl] at this; omega⟩
theorem all_ok {l : List UInt8} (h : l.all isD = true) : l.all okc = true := List.all_eq_true.2 fun c hc => isD_ok (List.all_eq_true.1 h c hc)
theorem dgs_min {l t : List UInt8} (h : dgs l = true) : ∀ u, l ++ t ≠ 45 :: u := fun u e => by
  cases l with
  | nil => exact absurd h (by decide)
  | cons c l =>
    have h1 := dg_all h
    rw [List.all_cons, Bool.and_eq_true] at h1
    have h2 := of_decide_eq_true h1.1
    rw [List.cons_append] at e
    rw [(List.cons.inj e).1, show (45 : UInt8).toNat = 45 from rfl] at h2
    omega
end Go.Proofs.YtoeldfopjalpkaaDoor.Spec
