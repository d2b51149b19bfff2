/- Lemmas for the proof of one law of this seat (Spec13). -/
import Derived.Test.YtoeldfopjalpkaaDoorZRationalTextSpec12
set_option linter.unusedSimpArgs false
set_option linter.unusedVariables false
namespace Go.Proofs.YtoeldfopjalpkaaDoor.Spec
open Go.RowKit Go.Proofs.YtoeldfopjalpkaaDoorW.PrintWords Go.Proofs.YtoeldfopjalpkaaDoorW.PrintLast Go.Proofs.YtoeldfopjalpkaaDoorW.PrintMore Go.Proofs.YtoeldfopjalpkaaDoor.Q Go.Proofs.YtoeldfopjalpkaaDoor.Nums

theorem D_len_mono' {n m : Int} (hm : 0 ≤ m) (h : n ≤ m) : (D n).length ≤ (D m).length := by
  rcases Nat.lt_or_ge (D m).length (D n).length with g | g
  · by_cases hn : 0 ≤ n
    · have := D_mono hn g; omega
    · rw [D_neg (by omega)]; simp
  · exact g
theorem or0 {x : Int} (h0 : 0 ≤ x) (h1 : x < 4294967296) : Go.bits .or .u64 0 (shl .u64 x 0) = x := by
  have e : shl .u64 x 0 = x := by
    have := (shl_eq (x := x) (s := 0) (by omega) h0 h1).1
    simpa using this
  rw [e]
  have := or64 (x := 0) (y := x) 32 (by omega) (by omega) (by omega) h0 (by omega) (by omega)
  omega
theorem or1 {c x : Int} (c0 : 0 ≤ c) (c1 : c < 4294967296) (h0 : 0 ≤ x) (h1 : x < 4294967296) : Go.bits .or .u64 c (shl .u64 x 32) = c + x * 4294967296 := by
  have e : shl .u64 x 32 = x * 4294967296 := by
    unfold shl
    rw [show min (32 : Int).toNat IntKind.u64.bits = 32 by decide, show (2 : Int) ^ 32 = 4294967296 by decide]
    exact u64w (by omega) (by omega)
  rw [e, or_comm64 c0 (by omega) (by omega) (by omega)]
  have := or_hi h0 h1 c0 c1
  omega
theorem uint64_ev {a : List Int} (ha : U a) (sa : Big a) (hl : (D (V a)).length ≤ 2) : Ev (fun k => bignat_Uint64.f k a) (V a, true) := by
  have h1 := V_nonneg ha
  simp only [bignat_Uint64.f]
  refine Ev.bind (trim_ev ha sa) ?_
  have hv := V_D (V a) h1
  have hu := D_U (V a)
  revert hl hv hu
  generalize D (V a) = d
  generalize V a = v
  intro hl hv hu
  match d, hl with
  | [], _ =>
    rw [V_nil] at hv
    subst hv
    simp (disch := omega) only [if_neg, List.length_nil]
    refine suc ?_
    simp (disch := omega) only [bignat_Uint64.l0, if_neg, List.length_nil]
    exact now fun _ => rfl
  | [x], _ =>
    obtain ⟨hx, _⟩ := U_cons.1 hu
    rw [V_cons, V_nil] at hv
    have e0 := or0 hx.1 hx.2
    have er : rd [x] 0 = x := rfl
    have ev : v = x := by omega
    subst ev
    have el : (([v] : List Int).length : Int) = 1 := rfl
    simp (disch := omega) only [if_neg, el]
    refine suc ?_
    simp (disch := omega) only [bignat_Uint64.l0, if_pos, el, er, u64w, w64, Int.mul_zero, e0]
    refine suc ?_
    simp (disch := omega) only [bignat_Uint64.l0, if_neg]
    exact now fun _ => rfl
  | [x, y], _ =>
    obtain ⟨hx, hy'⟩ := U_cons.1 hu
    obtain ⟨hy, _⟩ := U_cons.1 hy'
    rw [V_cons, V_cons, V_nil] at hv
    have e0 := or0 hx.1 hx.2
    have e1 := or1 hx.1 hx.2 hy.1 hy.2
    have er : rd [x, y] 0 = x := rfl
    have er1 : rd [x, y] 1 = y := rfl
    have ev : x + y * 4294967296 = v := by omega
    have el : (([x, y] : List Int).length : Int) = 2 := rfl
    have z1 : (0 : Int) + 1 = 1 := rfl
    have z2 : (32 : Int) * 1 = 32 := rfl
    simp (disch := omega) only [if_neg, el]
    refine suc ?_
    simp (disch := omega) only [bignat_Uint64.l0, if_pos, el, er, u64w, w64, Int.mul_zero, e0, z1]
    refine suc ?_
    simp (disch := omega) only [bignat_Uint64.l0, if_pos, el, er1, u64w, w64, z2, e1]
    refine suc ?_
    simp (disch := omega) only [bignat_Uint64.l0, if_neg]
    exact now fun _ => by rw [ev]
theorem gs_l : ∀ (y x : Nat), x < 18446744073709551616 → y < 18446744073709551616 → Ev (fun k => bignat_gcdSmall.l0 k (x : Int) (y : Int)) (D (Nat.gcd x y : Nat)) := by
  intro y
  induction y using Nat.strongRecOn with
  | ind y ih =>
    intro x hx hy
    by_cases h : y = 0
    · subst h
      refine suc ?_
      simp (disch := omega) only [bignat_gcdSmall.l0, if_pos, from_eq, Option.bind_some]
      rw [Nat.gcd_zero_right]
      exact now fun _ => rfl
    · have hlt := Nat.mod_lt x (show 0 < y by omega)
      have := ih (x % y) hlt y hy (by omega)
      have e : Int.tmod (x : Int) (y : Int) = ((x % y : Nat) : Int) := by
        rw [Int.tmod_eq_emod_of_nonneg (by omega)]; rfl
      refine suc ?_
      simp (disch := omega) only [bignat_gcdSmall.l0, if_neg, e]
      rw [Nat.gcd_comm x y, Nat.gcd_rec y x, Nat.gcd_comm (x % y) y]
      exact this
theorem D_two_lt {x : Nat} (h : (D (x : Int)).length ≤ 2) : x < 18446744073709551616 := by
  by_cases h0 : 0 < x
  · have h1 := (D_len (n := (x : Int)) (by omega)).2
    have h2 := pow_le h
    have : (4294967296 : Int) ^ 2 = 18446744073709551616 := by decide
    omega
  · omega
theorem gcdSmall_ev {x y : Nat} (hx : (D (x : Int)).length ≤ 2) (hy : (D (y : Int)).length ≤ 2) : Ev (fun k => bignat_gcdSmall.f k (D (x : Int)) (D (y : Int))) (D (Nat.gcd x y : Nat)) := by
  have bx : Big (D (x : Int)) := by unfold Big; omega
  have by' : Big (D (y : Int)) := by unfold Big; omega
  have h1 := uint64_ev (D_U (x : Int)) bx (by rw [V_D _ (by omega)]; exact hx)
  have h2 := uint64_ev (D_U (y : Int)) by' (by rw [V_D _ (by omega)]; exact hy)
  rw [V_D _ (by omega)] at h1 h2
  simp only [bignat_gcdSmall.f]
  exact Ev.bind h1 (Ev.bind h2 (gs_l y x (D_two_lt hx) (D_two_lt hy)))
theorem gcd_l : ∀ (y x : Nat), (D (x : Int)).length ≤ 1048576 → (D (y : Int)).length ≤ 1048576 → Ev (fun k => bignat_GCD.l0 k (D (x : Int)) (D (y : Int))) (D (Nat.gcd x y : Nat)) := by
  intro y
  induction y using Nat.strongRecOn with
  | ind y ih =>
    intro x hx hy
    by_cases h : y = 0
    · subst h
      refine suc ?_
      rw [Nat.gcd_zero_right, show D ((0 : Nat) : Int) = [] from D_zero]
      simp (disch := omega) only [bignat_GCD.l0, if_neg, List.length_nil]
      exact now fun _ => rfl
    · have hlt := Nat.mod_lt x (show 0 < y by omega)
      have hdl := D_length_pos (n := (y : Int)) (by omega)
      have hj : Ev (fun k => bignat_GCD.j1 k (D (x : Int)) (D (y : Int)) false) (D (Nat.gcd x y : Nat)) := by
        have hl := D_len_mono' (n := ((x % y : Nat) : Int)) (m := (y : Int)) (by omega) (by omega)
        have := ih (x % y) hlt y hy (by omega)
        have hd := divMod_ev (D_U (x : Int)) (D_U (y : Int)) hx (by unfold Big; omega)
        rw [V_D _ (by omega), V_D _ (by omega)] at hd
        refine suc ?_
        simp only [bignat_GCD.j1, Bool.false_eq_true, if_false]
        refine Ev.bind hd ?_
        have e : (divO (x : Int) (y : Int)).2.1 = D ((x % y : Nat) : Int) := by
          unfold divO
          rw [if_pos (by omega)]; rfl
        simp only [e]
        rw [Nat.gcd_comm x y, Nat.gcd_rec y x, Nat.gcd_comm (x % y) y]
        exact this
      refine suc ?_
      simp (disch := omega) only [bignat_GCD.l0, if_pos]
      by_cases h1 : (D (x : Int)).length ≤ 2
      · by_cases h2 : (D (y : Int)).length ≤ 2
        · have e : decide (((D (y : Int)).length : Int) ≤ 2) = true := decide_eq_true (by omega)
          simp (disch := omega) only [if_pos, e]
          refine suc ?_
          simp only [bignat_GCD.j1, if_true]
          exact Ev.bind (gcdSmall_ev h1 h2) (now fun _ => rfl)
        · have e : decide (((D (y : Int)).length : Int) ≤ 2) = false := decide_eq_false (by omega)
          simp (disch := omega) only [if_pos, e]
          exact hj
      · simp (disch := omega) only [if_neg]
        exact hj
theorem gcd_ev {a b : List Int} (ha : U a) (hb : U b) (sa : a.length ≤ 1048576) (sb : b.length ≤ 1048576) {x y : Nat} (hx : V a = (x : Int)) (hy : V b = (y : Int)) : Ev (fun k => bignat_GCD.f k a b) (D (Nat.gcd x y : Nat)) := by
  have ba : Big a := by unfold Big; omega
  have bb : Big b := by unfold Big; omega
  have h1 := clone_ev ha ba
  have h2 := clone_ev hb bb
  have l1 := D_short ha
  have l2 := D_short hb
  rw [hx] at h1 l1
  rw [hy] at h2 l2
  simp only [bignat_GCD.f]
  exact Ev.bind h1 (Ev.bind h2 (gcd_l y x (by omega) (by omega)))
end Go.Proofs.YtoeldfopjalpkaaDoor.Spec
set_option linter.unusedSimpArgs false
set_option linter.unusedVariables false
namespace Go.Proofs.YtoeldfopjalpkaaDoor.Spec
open Go.RowKit Go.Proofs.YtoeldfopjalpkaaDoorW.PrintWords Go.Proofs.YtoeldfopjalpkaaDoorW.PrintLast Go.Proofs.YtoeldfopjalpkaaDoorW.PrintMore Go.Proofs.YtoeldfopjalpkaaDoor.Q Go.Proofs.YtoeldfopjalpkaaDoor.Nums

theorem V_snoc (o : List Int) (e : Int) : V (o ++ [e]) = V o + 4294967296 ^ o.length * e := by
  rw [V_append, V_cons, V_nil, Int.mul_zero, Int.add_zero]
theorem U_snoc' {o : List Int} (h : U o) {e : Int} (h0 : 0 ≤ e) (h1 : e < 4294967296) : U (o ++ [e]) := U_append.2 ⟨h, U_cons.2 ⟨⟨h0, h1⟩, U_nil⟩⟩
theorem or_comm32 {x y : Int} (hx0 : 0 ≤ x) (hx1 : x < 4294967296) (hy0 : 0 ≤ y) (hy1 : y < 4294967296) : Go.bits .or .u32 x y = Go.bits .or .u32 y x := by
  obtain ⟨a, rfl⟩ := Int.eq_ofNat_of_zero_le hx0
  obtain ⟨b, rfl⟩ := Int.eq_ofNat_of_zero_le hy0
  rw [(bits_nat .u32 32 (by decide) wraps_u32 a b (by omega) (by omega)).2, (bits_nat .u32 32 (by decide) wraps_u32 b a (by omega) (by omega)).2, Nat.or_comm]
theorem dbl_l {a : List Int} (ha : U a) (sa : Small a) (t : Int) : ∀ (n i : Nat) (o : List Int) (c : Int), i + n = a.length → o.length = i → U o → 0 ≤ c → c ≤ 1 →
    V o + 4294967296 ^ i * (2 * V (a.drop i) + c) = t → Ev (fun k => credenceref1_double.l0 k a c o (i : Int)) (D t) := by
  unfold Small at sa
  intro n
  induction n with
  | zero =>
    intro i o c hi ho uo c0 c1 h
    rw [List.drop_of_length_le (by omega), V_nil, Int.mul_zero, Int.zero_add] at h
    have hv := V_snoc o c
    rw [ho, h] at hv
    have hn := norm_ev (U_snoc' uo c0 (by omega)) (by unfold Big; simp; omega)
    rw [hv] at hn
    refine suc ?_
    simp (disch := omega) only [credenceref1_double.l0, if_neg, if_pos]
    exact Ev.bind hn (now fun _ => rfl)
  | succ n ih =>
    intro i o c hi ho uo c0 c1 h
    have da := U_getD ha i
    have hor := or32 (x := a.getD i 0 * 2 % 4294967296) (y := c) 1 (by omega) (by omega) (by omega) c0 (by omega) (by omega)
    refine suc ?_
    simp (disch := omega) only [credenceref1_double.l0, if_pos, rd_nat, hor, w64]
    refine ih (i + 1) _ _ (by omega) (by simp; omega) (U_snoc' uo (by omega) (by omega)) (by omega) (by omega) ?_
    rw [V_snoc, ho, pow_succ', ← h, V_drop_step (show i < a.length by omega), Int.mul_comm 4294967296 (4294967296 ^ i), Int.mul_assoc, Int.add_assoc, ← Int.mul_add]
    congr 2
    omega
theorem double_ev {x : Int} (hx : 0 ≤ x) (sx : Small (D x)) {b : Int} (b0 : 0 ≤ b) (b1 : b ≤ 1) : Ev (fun k => credenceref1_double.f k (D x) b) (D (2 * x + b)) := by
  simp only [credenceref1_double.f]
  exact dbl_l (D_U x) sx _ (D x).length 0 [] b (by omega) rfl U_nil b0 b1 (by rw [V_nil, Int.pow_zero, Int.one_mul, List.drop_zero, V_D x hx]; omega)
theorem half_l {a : List Int} (ha : U a) (sa : Small a) (t : Int) : ∀ (n i : Nat) (o : List Int), i + n = a.length → o.length = i → U o →
    V o + 4294967296 ^ i * (V (a.drop i) / 2) = t → Ev (fun k => credenceref1_half.l0 k a o (i : Int)) (D t) := by
  unfold Small at sa
  intro n
  induction n with
  | zero =>
    intro i o hi ho uo h
    rw [List.drop_of_length_le (by omega), V_nil, Int.zero_ediv, Int.mul_zero, Int.add_zero] at h
    have hn := norm_ev uo (by unfold Big; omega)
    rw [h] at hn
    refine suc ?_
    simp (disch := omega) only [credenceref1_half.l0, if_neg, if_pos]
    exact Ev.bind hn (now fun _ => rfl)
  | succ n ih =>
    intro i o hi ho uo h
    have da := U_getD ha i
    have hW := V_nonneg (U_drop ha (i + 1))
    have hs := V_drop_step (show i < a.length by omega)
    by_cases hl : i + 1 < a.length
    · have db := U_getD ha (i + 1)
      have hs2 := V_drop_step hl
      have hW2 := V_nonneg (U_drop ha (i + 1 + 1))
      have e1 : (i : Int) + 1 = ((i + 1 : Nat) : Int) := by omega
      have hor := or32 (x := a.getD (i + 1) 0 * 2147483648 % 4294967296) (y := a.getD i 0 / 2) 31 (by omega) (by omega) (by omega) (by omega) (by omega) (by omega)
      rw [or_comm32 (by omega) (by omega) (by omega) (by omega)] at hor
      refine suc ?_
      simp (disch := omega) only [credenceref1_half.l0, if_pos, w64, e1, rd_nat, hor]
      refine ih (i + 1) _ (by omega) (by simp; omega) (U_snoc' uo (by omega) (by omega)) ?_
      rw [V_snoc, ho, pow_succ', ← h, Int.mul_comm 4294967296 (4294967296 ^ i), Int.mul_assoc, Int.add_assoc, ← Int.mul_add]
      congr 2
      omega
    · have e1 : (i : Int) + 1 = ((i + 1 : Nat) : Int) := by omega
      have hz : V (a.drop (i + 1)) = 0 := by rw [List.drop_of_length_le (by omega), V_nil]
      refine suc ?_
      simp (disch := omega) only [credenceref1_half.l0, if_pos, if_neg, w64, e1, rd_nat]
      refine ih (i + 1) _ (by omega) (by simp; omega) (U_snoc' uo (by omega) (by omega)) ?_
      rw [V_snoc, ho, pow_succ', ← h, Int.mul_comm 4294967296 (4294967296 ^ i), Int.mul_assoc, Int.add_assoc, ← Int.mul_add]
      congr 2
      omega
theorem half_ev {x : Int} (hx : 0 ≤ x) (sx : Small (D x)) : Ev (fun k => credenceref1_half.f k (D x)) (D (x / 2)) := by
  simp only [credenceref1_half.f]
  exact half_l (D_U x) sx _ (D x).length 0 [] (by omega) rfl U_nil (by rw [V_nil, Int.pow_zero, Int.one_mul, List.drop_zero, V_D x hx]; omega)
end Go.Proofs.YtoeldfopjalpkaaDoor.Spec
set_option linter.unusedSimpArgs false
set_option linter.unusedVariables false
namespace Go.Proofs.YtoeldfopjalpkaaDoor.Spec
open Go.RowKit Go.Proofs.YtoeldfopjalpkaaDoorW.PrintWords Go.Proofs.YtoeldfopjalpkaaDoorW.PrintLast Go.Proofs.YtoeldfopjalpkaaDoorW.PrintMore Go.Proofs.YtoeldfopjalpkaaDoor.Q Go.Proofs.YtoeldfopjalpkaaDoor.Nums

theorem V_at {xs : List Int} (h : U xs) {j : Nat} (hj : j < xs.length) : xs.getD j 0 = V xs / 4294967296 ^ j % 4294967296 := by
  have h1 := V_split xs j (by omega)
  have h2 := V_drop_step hj
  have h3 := V_nonneg (U_take h j)
  have h4 := V_lt (U_take h j)
  rw [List.length_take, Nat.min_eq_left (by omega)] at h4
  have hd := U_getD h j
  have e : V xs / 4294967296 ^ j = V (xs.drop j) := by
    rw [h1, Int.add_mul_ediv_left _ _ (by have := pow_pos j; omega), Int.ediv_eq_zero_of_lt h3 h4, Int.zero_add]
  rw [e]
  omega
theorem p31 {s : Nat} (hs : s ≤ 31) : (4294967296 : Int) = 2 ^ s * (2 * 2 ^ (31 - s)) := by
  rw [← Int.mul_assoc, Int.mul_comm _ 2, Int.mul_assoc, ← Int.pow_add, show s + (31 - s) = 31 by omega]
  decide
theorem bit_mod {w : Int} {s : Nat} (hs : s ≤ 31) : w % 4294967296 / 2 ^ s % 2 = w / 2 ^ s % 2 := by
  have hp := two_pos s
  have h := Int.emod_add_mul_ediv w 4294967296
  have e : w / 2 ^ s = w % 4294967296 / 2 ^ s + 2 * (2 ^ (31 - s) * (w / 4294967296)) := by
    conv => lhs; rw [← h]
    conv => lhs; rw [show (4294967296 : Int) * (w / 4294967296) = 2 ^ s * (2 * 2 ^ (31 - s)) * (w / 4294967296) by rw [← p31 hs]]
    rw [Int.mul_assoc, Int.add_mul_ediv_left _ _ (by omega), Int.mul_assoc]
  rw [e]
  omega
theorem and1u {x : Int} (h0 : 0 ≤ x) (h1 : x < 4294967296) : Go.bits .and .u32 x 1 = x % 2 := by
  have := bits_mask .u32 32 (by decide) wraps_u32 1 (by decide) x h0 (by omega)
  simpa using this
theorem shr32 {x : Int} {s : Nat} (hs : s ≤ 31) : shr .u32 x (s : Int) = x / 2 ^ s := by
  unfold shr
  rw [show min (s : Int).toNat IntKind.u32.bits = s by simp [IntKind.bits]; omega]
theorem p2_lt {s : Nat} (hs : s ≤ 31) : (2 : Int) ^ s < 4294967296 := by
  have := pow2_le (show s ≤ 31 from hs)
  have : (2 : Int) ^ 31 = 2147483648 := by decide
  omega
theorem shl32 {s : Nat} (hs : s ≤ 31) : shl .u32 1 (s : Int) = 2 ^ s := by
  unfold shl
  rw [show min (s : Int).toNat IntKind.u32.bits = s by simp [IntKind.bits]; omega, Int.one_mul]
  exact wraps_u32 _ (Int.le_of_lt (two_pos s)) (p2_lt hs)
/-- The bit that the loop reads. -/
theorem bit_at {xs : List Int} (h : U xs) {j s : Nat} (hj : j < xs.length) (hs : s ≤ 31) :
    Go.bits .and .u32 (shr .u32 (xs.getD j 0) (s : Int)) 1 = V xs / 2 ^ (32 * j + s) % 2 := by
  have hd := U_getD h j
  have hp := two_pos s
  have hle : xs.getD j 0 / 2 ^ s ≤ xs.getD j 0 := Int.ediv_le_self _ hd.1
  have h0 : 0 ≤ xs.getD j 0 / 2 ^ s := Int.ediv_nonneg hd.1 (by omega)
  rw [shr32 hs, and1u h0 (by omega), V_at h hj, bit_mod hs, Int.pow_add, pow32, Int.ediv_ediv_of_nonneg (Int.le_of_lt (pow_pos j))]
/-- The bit that the loop sets. -/
theorem set_at {q : List Int} (h : U q) {j s : Nat} (hj : j < q.length) (hs : s ≤ 31) {Q : Int} (hq : V q = Q * 2 ^ (32 * j + s + 1)) :
    U (q.set j (Go.bits .or .u32 (q.getD j 0) (shl .u32 1 (s : Int)))) ∧ V (q.set j (Go.bits .or .u32 (q.getD j 0) (shl .u32 1 (s : Int)))) = V q + 2 ^ (32 * j + s) := by
  have hd := U_getD h j
  have hp := two_pos s
  have hp' := two_pos (31 - s)
  have hl := p2_lt hs
  have hB := pow_pos j
  have e : q.getD j 0 = 2 ^ s * (2 * (Q % 2 ^ (31 - s))) := by
    rw [V_at h hj, hq, Nat.add_assoc, Int.pow_add, pow32, Int.mul_left_comm, Int.mul_ediv_cancel_left _ (by omega), p31 hs, two_succ, Int.mul_comm Q, ← Int.mul_assoc (2 ^ s) 2, Int.mul_comm (2 ^ s) 2, Int.mul_emod_mul_of_pos _ _ (by omega)]
    rw [Int.mul_comm 2, Int.mul_assoc]
  have e1 : 2 ^ s * (2 * (Q % 2 ^ (31 - s))) % 2 ^ (s + 1) = 0 := by
    rw [← Int.mul_assoc, Int.mul_comm (2 ^ s) 2, ← two_succ]
    exact Int.mul_emod_right _ _
  have hor := or32 (x := q.getD j 0) (y := 2 ^ s) (s + 1) hd.1 (by rw [e]; exact e1) hd.2 (by omega) (by rw [two_succ]; omega) hl
  have hlt : q.getD j 0 + 2 ^ s < 4294967296 := by
    have hm := Int.emod_lt_of_pos Q hp'
    have h3 : 2 ^ s * (2 * (Q % 2 ^ (31 - s)) + 1) < 2 ^ s * (2 * 2 ^ (31 - s)) := Int.mul_lt_mul_of_pos_left (by omega) hp
    rw [← p31 hs, Int.mul_add, Int.mul_one, ← e] at h3
    exact h3
  rw [shl32 hs, hor]
  refine ⟨U_set h j (by omega) hlt, ?_⟩
  rw [V_set hj, Int.pow_add, pow32]
  congr 2
  omega
theorem dm_l {X Y : Int} (hX : 0 ≤ X) (hY : 0 < Y) (sX : (D X).length ≤ 1048576) (sY : (D Y).length ≤ 1048576) : ∀ (m : Nat) (q : List Int), m ≤ 32 * (D X).length → q.length = (D X).length → U q →
    V q = X / 2 ^ m / Y * 2 ^ m → Ev (fun k => credenceref1_NatDivMod.l0 k (D X) (D Y) q (D (X / 2 ^ m % Y)) ((m : Int) - 1)) (D (X / Y), D (X % Y), true) := by
  intro m
  induction m with
  | zero =>
    intro q hm hq uq h
    have h1 := norm_ev uq (by unfold Big; omega)
    have h2 := norm_ev (D_U (X % Y)) (by
      have := D_len_mono' (n := X % Y) (m := Y) (by omega) (Int.le_of_lt (Int.emod_lt_of_pos X hY))
      unfold Big; omega)
    rw [V_D _ (Int.emod_nonneg _ (by omega))] at h2
    rw [Int.pow_zero, Int.ediv_one, Int.mul_one] at h
    rw [h] at h1
    rw [Int.pow_zero, Int.ediv_one]
    refine suc ?_
    simp (disch := omega) only [credenceref1_NatDivMod.l0, if_neg]
    exact Ev.bind h1 (Ev.bind h2 (now fun _ => rfl))
  | succ m ih =>
    intro q hm hq uq h
    obtain ⟨j, s, hs, hms⟩ : ∃ j s : Nat, s ≤ 31 ∧ m = 32 * j + s := ⟨m / 32, m % 32, by omega, by omega⟩
    have hj : j < (D X).length := by omega
    have hbit := bit_at (D_U X) hj hs
    rw [V_D X hX, ← hms] at hbit
    have h2m := two_pos m
    have hA : X / 2 ^ m / 2 = X / 2 ^ (m + 1) := by
      rw [Int.ediv_ediv_of_nonneg (Int.le_of_lt h2m), two_succ, Int.mul_comm]
    have hA0 : 0 ≤ X / 2 ^ m := Int.ediv_nonneg hX (by omega)
    have hP := Int.emod_add_mul_ediv (X / 2 ^ (m + 1)) Y
    have hR0 := Int.emod_nonneg (X / 2 ^ (m + 1)) (show Y ≠ 0 by omega)
    have hR1 := Int.emod_lt_of_pos (X / 2 ^ (m + 1)) hY
    have hset := set_at uq (j := j) (s := s) (Q := X / 2 ^ (m + 1) / Y) (by omega) hs (by rw [← hms]; exact h)
    rw [← hms] at hset
    have hz : X / 2 ^ (m + 1) / Y * 2 ^ (m + 1) = 2 * (X / 2 ^ (m + 1) / Y) * 2 ^ m := by
      generalize X / 2 ^ (m + 1) / Y = z
      rw [two_succ, ← Int.mul_assoc, Int.mul_comm z 2]
    rw [hz] at h
    have e1 : wrap64 (Int.tdiv (((m + 1 : Nat) : Int) - 1) 32) = (j : Int) := by
      rw [show ((m + 1 : Nat) : Int) - 1 = (m : Int) by omega, Int.tdiv_eq_ediv_of_nonneg (by omega), w64 (by omega) (by omega)]; omega
    have e2 : IntKind.u64.wrap (Int.tmod (((m + 1 : Nat) : Int) - 1) 32) = (s : Int) := by
      rw [show ((m + 1 : Nat) : Int) - 1 = (m : Int) by omega, Int.tmod_eq_emod_of_nonneg (by omega), u64w (by omega) (by omega)]; omega
    have e3 : wrap64 (((m + 1 : Nat) : Int) - 1 - 1) = (m : Int) - 1 := by
      rw [show ((m + 1 : Nat) : Int) - 1 - 1 = (m : Int) - 1 by omega, w64 (by omega) (by omega)]
    generalize X / 2 ^ (m + 1) % Y = R at *
    generalize X / 2 ^ (m + 1) / Y = Qv at *
    have sR : (D R).length ≤ 1048576 := by
      have := D_len_mono' (n := R) (m := Y) (by omega) (by omega); omega
    have hdb := double_ev (x := R) hR0 (by unfold Small; omega) (b := X / 2 ^ m % 2) (by omega) (by omega)
    have hA2 : X / 2 ^ m = 2 * (R + Y * Qv) + X / 2 ^ m % 2 := by omega
    have sr : (D (2 * R + X / 2 ^ m % 2)).length ≤ 1048577 := by
      have h5 := D_len_mono' (n := 2 * R + X / 2 ^ m % 2) (m := 2 * Y) (by omega) (by omega)
      have h6 := (D_len hY).2
      have h7 := D_len_le (n := 2 * Y) (k := (D Y).length + 1) (by rw [pow_succ']; omega)
      omega
    have hb0 : 0 ≤ X / 2 ^ m % 2 := by omega
    generalize hrr : 2 * R + X / 2 ^ m % 2 = r at *
    have hr0 : 0 ≤ r := by omega
    have hc := ncmp_ev (D_U r) (D_U Y) (by unfold Big; omega) (by unfold Big; omega)
    have hsb := nsub_ev (D_U r) (D_U Y) (by unfold Small; omega) (by unfold Small; omega)
    rw [V_D r hr0, V_D Y (by omega)] at hc hsb
    have hA3 : X / 2 ^ m = r + Y * (2 * Qv) := by
      rw [hA2, Int.mul_add, Int.mul_left_comm]; omega
    refine suc ?_
    simp (disch := omega) only [credenceref1_NatDivMod.l0, if_pos, e1, e2, e3, rd_nat, hbit]
    refine Ev.bind hdb (Ev.bind hc ?_)
    by_cases hlt : r < Y
    · have hu := (Int.ediv_emod_unique (a := X / 2 ^ m) (r := r) (q := 2 * Qv) hY).2 ⟨hA3.symm, hr0, hlt⟩
      have hc0 : ¬ cmpI r Y ≥ 0 := by rw [cmpI_lt hlt]; omega
      simp only [if_neg hc0]
      have := ih q (by omega) hq uq (by rw [hu.1]; exact h)
      rw [hu.2] at this
      exact this
    · have hu := (Int.ediv_emod_unique (a := X / 2 ^ m) (r := r - Y) (q := 2 * Qv + 1) hY).2 ⟨by rw [hA3, Int.mul_add]; omega, by omega, by omega⟩
      have hc0 : cmpI r Y ≥ 0 := by have := cmpI_ge hlt; omega
      have hso : subO r Y = (D (r - Y), true) := by unfold subO; rw [if_neg hlt]
      rw [hso] at hsb
      simp only [if_pos hc0]
      refine Ev.bind hsb ?_
      simp (disch := omega) only [if_pos, Int.toNat_natCast]
      have := ih _ (by omega) (by rw [List.length_set]; exact hq) hset.1 (by rw [hset.2, hu.1, h, Int.add_mul, Int.one_mul])
      rw [hu.2] at this
      exact this
theorem natDivMod_ev {a b : List Int} (ha : U a) (hb : U b) (sa : a.length ≤ 1048576) (sb : b.length ≤ 1048576) : Ev (fun k => credenceref1_NatDivMod.f k a b) (divO (V a) (V b)) := by
  have va := V_nonneg ha
  have vb := V_nonneg hb
  have la := D_short ha
  have lb := D_short hb
  simp only [credenceref1_NatDivMod.f]
  refine Ev.bind (norm_ev ha (by unfold Big; omega)) (Ev.bind (norm_ev hb (by unfold Big; omega)) ?_)
  unfold divO
  by_cases h : 0 < V b
  · have := D_length_pos h
    have e : wrap64 (wrap64 (32 * ((D (V a)).length : Int)) - 1) = ((32 * (D (V a)).length : Nat) : Int) - 1 := by
      rw [w64 (n := 32 * ((D (V a)).length : Int)) (by omega) (by omega), w64 (by omega) (by omega)]; omega
    simp (disch := omega) only [if_neg, if_pos h, if_pos, Int.toNat_natCast, e]
    have hlt : V a / 2 ^ (32 * (D (V a)).length) = 0 := Int.ediv_eq_zero_of_lt va (by
      rw [pow32]
      by_cases g : 0 < V a
      · exact (D_len g).2
      · have : V a = 0 := by omega
        rw [this]; exact pow_pos _)
    have hz : D 0 = [] := D_zero
    have := dm_l va h (by omega) (by omega) (32 * (D (V a)).length) (List.replicate (D (V a)).length 0) (Nat.le_refl _) List.length_replicate (U_replicate _) (by rw [V_replicate, hlt, Int.zero_ediv, Int.zero_mul])
    rw [hlt, Int.zero_emod, hz] at this
    exact this
  · have e : D (V b) = [] := D_neg h
    rw [e]
    simp only [List.length_nil, if_neg h]
    exact now fun _ => rfl
end Go.Proofs.YtoeldfopjalpkaaDoor.Spec
set_option linter.unusedSimpArgs false
set_option linter.unusedVariables false
namespace Go.Proofs.YtoeldfopjalpkaaDoor.Spec
open Go.RowKit Go.Proofs.YtoeldfopjalpkaaDoorW.PrintWords Go.Proofs.YtoeldfopjalpkaaDoorW.PrintLast Go.Proofs.YtoeldfopjalpkaaDoorW.PrintMore Go.Proofs.YtoeldfopjalpkaaDoor.Q Go.Proofs.YtoeldfopjalpkaaDoor.Nums

theorem odd_at {x : Nat} (h : 0 < x) : Go.bits .and .u32 (rd (D (x : Int)) 0) 1 = ((x % 2 : Nat) : Int) := by
  rw [D_pos (show (0 : Int) < x by omega)]
  rw [show rd ((x : Int) % 4294967296 :: D ((x : Int) / 4294967296)) 0 = (x : Int) % 4294967296 from rfl, and1u (by omega) (by omega)]
  omega
theorem pos_at {x : Nat} (h : 0 < x) : 0 < ((D (x : Int)).length : Int) := by
  have := D_length_pos (n := (x : Int)) (by omega); omega
theorem shift_lt {g sh G : Nat} (hg : 0 < g) (h : g * 2 ^ sh = G) (sG : (D (G : Int)).length ≤ 1048576) : sh < 33554432 := by
  have hp := Nat.two_pow_pos sh
  have hG : 0 < G := by rw [← h]; exact Nat.mul_pos hg hp
  have h1 := (D_len (n := (G : Int)) (by omega)).2
  rw [← pow32] at h1
  have h2 : (2 : Int) ^ sh ≤ G := by
    have : 2 ^ sh ≤ G := by rw [← h]; exact Nat.le_mul_of_pos_left _ hg
    have e : ((2 ^ sh : Nat) : Int) = (2 : Int) ^ sh := by simp
    omega
  rcases Nat.lt_or_ge sh 33554432 with g | g
  · exact g
  · have := pow2_le (show 32 * (D (G : Int)).length ≤ sh by omega)
    omega
theorem half_nat {x : Nat} (sx : (D (x : Int)).length ≤ 1048576) : Ev (fun k => credenceref1_half.f k (D (x : Int))) (D ((x / 2 : Nat) : Int)) := by
  have := half_ev (x := (x : Int)) (by omega) (by unfold Small; omega)
  rw [show (x : Int) / 2 = ((x / 2 : Nat) : Int) by omega] at this
  exact this
theorem len_le {x y : Nat} (h : x ≤ y) (sy : (D (y : Int)).length ≤ 1048576) : (D (x : Int)).length ≤ 1048576 := by
  have := D_len_mono' (n := (x : Int)) (m := (y : Int)) (by omega) (by omega); omega
theorem gcd4 {G sh : Nat} (sG : (D (G : Int)).length ≤ 1048576) (hsh : sh < 33554432) : ∀ (n i x : Nat), i + n = sh → x * 2 ^ n = G → Ev (fun k => credenceref1_NatGCD.l4 k (D (x : Int)) (sh : Int) (i : Int)) (D (G : Int)) := by
  intro n
  induction n with
  | zero =>
    intro i x hi h
    rw [Nat.pow_zero, Nat.mul_one] at h
    subst h
    refine suc ?_
    simp (disch := omega) only [credenceref1_NatGCD.l4, if_neg]
    exact now fun _ => rfl
  | succ n ih =>
    intro i x hi h
    have hp := Nat.two_pow_pos n
    have hx : x ≤ G := by rw [← h]; exact Nat.le_mul_of_pos_right _ (Nat.two_pow_pos _)
    have sx := len_le hx sG
    have hd := double_ev (x := (x : Int)) (by omega) (by unfold Small; omega) (b := 0) (by omega) (by omega)
    have e1 : (2 : Int) * (x : Int) + 0 = ((2 * x : Nat) : Int) := by omega
    have e2 : wrap64 ((i : Int) + 1) = ((i + 1 : Nat) : Int) := by rw [w64 (by omega) (by omega)]; omega
    rw [e1] at hd
    refine suc ?_
    simp (disch := omega) only [credenceref1_NatGCD.l4, if_pos, e2]
    refine Ev.bind hd (ih (i + 1) (2 * x) (by omega) ?_)
    rw [← h, Nat.pow_succ]
    rw [Nat.mul_comm 2 x, Nat.mul_assoc, Nat.mul_comm 2]
theorem gcd_half_left {x y : Nat} (h : x % 2 = 0) (ho : y % 2 = 1) : Nat.gcd (x / 2) y = Nat.gcd x y := by
  have hc : Nat.Coprime 2 y := by
    rw [Nat.coprime_iff_gcd_eq_one, Nat.gcd_rec, ho]
    decide
  have e : x = 2 * (x / 2) := by omega
  conv => rhs; rw [e]
  exact (Nat.Coprime.gcd_mul_left_cancel _ hc).symm
theorem gcd_half_right {x y : Nat} (h : y % 2 = 0) (ho : x % 2 = 1) : Nat.gcd x (y / 2) = Nat.gcd x y := by
  rw [Nat.gcd_comm, gcd_half_left h ho, Nat.gcd_comm]
theorem gcd13 {G sh : Nat} (sG : (D (G : Int)).length ≤ 1048576) (hsh : sh < 33554432) : ∀ n : Nat,
    (∀ x y : Nat, x + y = n → 0 < x → 0 < y → x % 2 = 1 → (D (x : Int)).length ≤ 1048576 → (D (y : Int)).length ≤ 1048576 → Nat.gcd x y * 2 ^ sh = G → Ev (fun k => credenceref1_NatGCD.l3 k (D (x : Int)) (D (y : Int)) (sh : Int)) (D (G : Int))) ∧
    (∀ x y : Nat, x + y = n → 0 < x → 0 < y → (x % 2 = 1 ∨ y % 2 = 1) → (D (x : Int)).length ≤ 1048576 → (D (y : Int)).length ≤ 1048576 → Nat.gcd x y * 2 ^ sh = G → Ev (fun k => credenceref1_NatGCD.l2 k (D (x : Int)) (D (y : Int)) (sh : Int)) (D (G : Int))) ∧
    (∀ x y : Nat, x + y = n → 0 < x → (x % 2 = 1 ∨ y % 2 = 1) → (D (x : Int)).length ≤ 1048576 → (D (y : Int)).length ≤ 1048576 → Nat.gcd x y * 2 ^ sh = G → Ev (fun k => credenceref1_NatGCD.l1 k (D (x : Int)) (D (y : Int)) (sh : Int)) (D (G : Int))) := by
  intro n
  induction n using Nat.strongRecOn with
  | ind n ih =>
    have h3 : ∀ x y : Nat, x + y = n → 0 < x → 0 < y → x % 2 = 1 → (D (x : Int)).length ≤ 1048576 → (D (y : Int)).length ≤ 1048576 → Nat.gcd x y * 2 ^ sh = G → Ev (fun k => credenceref1_NatGCD.l3 k (D (x : Int)) (D (y : Int)) (sh : Int)) (D (G : Int)) := by
      intro x y hn x0 y0 xo sx sy h
      have oy := odd_at y0
      have ly := pos_at y0
      by_cases ho : y % 2 = 0
      · have e0 : ((y % 2 : Nat) : Int) = 0 := by omega
        refine suc ?_
        simp only [credenceref1_NatGCD.l3, if_pos ly, oy, if_pos e0]
        exact Ev.bind (half_nat sy) ((ih (x + y / 2) (by omega)).1 x (y / 2) rfl x0 (by omega) xo sx (len_le (by omega) sy) (by rw [gcd_half_right ho xo]; exact h))
      · have e0 : ¬ ((y % 2 : Nat) : Int) = 0 := by omega
        have hc := ncmp_ev (D_U (x : Int)) (D_U (y : Int)) (by unfold Big; omega) (by unfold Big; omega)
        have hs1 := nsub_ev (D_U (x : Int)) (D_U (y : Int)) (by unfold Small; omega) (by unfold Small; omega)
        have hs2 := nsub_ev (D_U (y : Int)) (D_U (x : Int)) (by unfold Small; omega) (by unfold Small; omega)
        rw [V_D _ (by omega), V_D _ (by omega)] at hc hs1 hs2
        refine suc ?_
        simp only [credenceref1_NatGCD.l3, if_pos ly, oy, if_neg e0]
        refine Ev.bind hc ?_
        by_cases hlt : y < x
        · have e1 : cmpI (x : Int) (y : Int) > 0 := by rw [cmpI_gt (by omega)]; omega
          have e2 : subO (x : Int) (y : Int) = (D ((x - y : Nat) : Int), true) := by
            unfold subO
            rw [if_neg (by omega), show (x : Int) - (y : Int) = ((x - y : Nat) : Int) by omega]
          rw [e2] at hs1
          simp only [if_pos e1]
          refine Ev.bind hs1 ((ih (y + (x - y)) (by omega)).2.2 y (x - y) rfl y0 (by omega) sy (len_le (by omega) sx) ?_)
          rw [Nat.gcd_sub_self_right (by omega), Nat.gcd_comm]; exact h
        · have e1 : ¬ cmpI (x : Int) (y : Int) > 0 := by
            unfold cmpI
            split
            · omega
            · rw [if_neg (by omega)]; omega
          have e2 : subO (y : Int) (x : Int) = (D ((y - x : Nat) : Int), true) := by
            unfold subO
            rw [if_neg (by omega), show (y : Int) - (x : Int) = ((y - x : Nat) : Int) by omega]
          rw [e2] at hs2
          simp only [if_neg e1]
          refine Ev.bind hs2 ((ih (x + (y - x)) (by omega)).2.2 x (y - x) rfl x0 (by omega) sx (len_le (by omega) sy) ?_)
          rw [Nat.gcd_sub_self_right (by omega)]; exact h
    have h2 : ∀ x y : Nat, x + y = n → 0 < x → 0 < y → (x % 2 = 1 ∨ y % 2 = 1) → (D (x : Int)).length ≤ 1048576 → (D (y : Int)).length ≤ 1048576 → Nat.gcd x y * 2 ^ sh = G → Ev (fun k => credenceref1_NatGCD.l2 k (D (x : Int)) (D (y : Int)) (sh : Int)) (D (G : Int)) := by
      intro x y hn x0 y0 xo sx sy h
      have ox := odd_at x0
      have lx := pos_at x0
      by_cases ho : x % 2 = 0
      · have e0 : ((x % 2 : Nat) : Int) = 0 := by omega
        refine suc ?_
        simp only [credenceref1_NatGCD.l2, if_pos lx, ox, if_pos e0]
        exact Ev.bind (half_nat sx) ((ih (x / 2 + y) (by omega)).2.1 (x / 2) y rfl (by omega) y0 (by omega) (len_le (by omega) sx) sy (by rw [gcd_half_left ho (by omega)]; exact h))
      · have e0 : ¬ ((x % 2 : Nat) : Int) = 0 := by omega
        refine suc ?_
        simp only [credenceref1_NatGCD.l2, if_pos lx, ox, if_neg e0]
        exact h3 x y hn x0 y0 (by omega) sx sy h
    refine ⟨h3, h2, ?_⟩
    intro x y hn x0 xo sx sy h
    by_cases y0 : 0 < y
    · have ly := pos_at y0
      refine suc ?_
      simp only [credenceref1_NatGCD.l1, if_pos ly, gt_iff_lt]
      exact h2 x y hn x0 y0 xo sx sy h
    · obtain rfl : y = 0 := by omega
      rw [Nat.gcd_zero_right] at h
      refine suc ?_
      rw [show D ((0 : Nat) : Int) = [] from D_zero]
      simp (disch := omega) only [credenceref1_NatGCD.l1, List.length_nil, if_neg]
      exact gcd4 sG hsh sh 0 x (by omega) h
theorem gcd0 {G : Nat} (sG : (D (G : Int)).length ≤ 1048576) : ∀ (x y sh : Nat), 0 < x → 0 < y → (D (x : Int)).length ≤ 1048576 → (D (y : Int)).length ≤ 1048576 → Nat.gcd x y * 2 ^ sh = G → Ev (fun k => credenceref1_NatGCD.l0 k (D (x : Int)) (D (y : Int)) (sh : Int)) (D (G : Int)) := by
  intro x
  induction x using Nat.strongRecOn with
  | ind x ih =>
    intro y sh x0 y0 sx sy h
    have hsh := shift_lt (Nat.gcd_pos_of_pos_left y x0) h sG
    have ox := odd_at x0
    have lx := pos_at x0
    have oy := odd_at y0
    have ly := pos_at y0
    by_cases ho : x % 2 = 0
    · have e0 : ((x % 2 : Nat) : Int) = 0 := by omega
      refine suc ?_
      simp only [credenceref1_NatGCD.l0, if_pos lx, ox, if_pos e0, if_pos ly, oy]
      by_cases hy : y % 2 = 0
      · have e1 : (((y % 2 : Nat) : Int) == 0) = true := by rw [beq_iff_eq]; omega
        have e2 : wrap64 ((sh : Int) + 1) = ((sh + 1 : Nat) : Int) := by rw [w64 (by omega) (by omega)]; omega
        refine suc ?_
        simp only [credenceref1_NatGCD.j1, e1, if_true, e2]
        refine Ev.bind (half_nat sx) (Ev.bind (half_nat sy) (ih (x / 2) (by omega) (y / 2) (sh + 1) (by omega) (by omega) (len_le (by omega) sx) (len_le (by omega) sy) ?_))
        have e : Nat.gcd x y = 2 * Nat.gcd (x / 2) (y / 2) := by
          rw [← Nat.gcd_mul_left]
          congr 1 <;> omega
        rw [← h, e, Nat.pow_succ, Nat.mul_comm 2, Nat.mul_assoc, Nat.mul_comm 2]
      · have e1 : (((y % 2 : Nat) : Int) == 0) = false := by rw [beq_eq_false_iff_ne]; omega
        refine suc ?_
        simp only [credenceref1_NatGCD.j1, e1, Bool.false_eq_true, if_false]
        exact (gcd13 sG hsh (x + y)).2.2 x y rfl x0 (by omega) sx sy h
    · have e0 : ¬ ((x % 2 : Nat) : Int) = 0 := by omega
      refine suc ?_
      simp only [credenceref1_NatGCD.l0, if_pos lx, ox, if_neg e0]
      refine suc ?_
      simp only [credenceref1_NatGCD.j1, Bool.false_eq_true, if_false]
      exact (gcd13 sG hsh (x + y)).2.2 x y rfl x0 (by omega) sx sy h
theorem natGCD_ev {a b : List Int} (ha : U a) (hb : U b) (sa : a.length ≤ 1048576) (sb : b.length ≤ 1048576) {x y : Nat} (hx : V a = (x : Int)) (hy : V b = (y : Int)) : Ev (fun k => credenceref1_NatGCD.f k a b) (D (Nat.gcd x y : Nat)) := by
  have h1 := norm_ev ha (by unfold Big; omega)
  have h2 := norm_ev hb (by unfold Big; omega)
  have l1 := D_short ha
  have l2 := D_short hb
  rw [hx] at h1 l1
  rw [hy] at h2 l2
  simp only [credenceref1_NatGCD.f]
  refine Ev.bind h1 (Ev.bind h2 ?_)
  by_cases x0 : x = 0
  · subst x0
    rw [Nat.gcd_zero_left, show D ((0 : Nat) : Int) = [] from D_zero]
    simp only [List.length_nil, show ((0 : Nat) : Int) = 0 from rfl, if_true]
    exact now fun _ => rfl
  · have lx := pos_at (x := x) (by omega)
    by_cases y0 : y = 0
    · subst y0
      rw [Nat.gcd_zero_right, show D ((0 : Nat) : Int) = [] from D_zero]
      simp (disch := omega) only [List.length_nil, if_neg, show ((0 : Nat) : Int) = 0 from rfl, if_true]
      exact now fun _ => rfl
    · have ly := pos_at (x := y) (by omega)
      simp (disch := omega) only [if_neg]
      exact gcd0 (len_le (Nat.gcd_le_left y (by omega)) (by omega)) x y 0 (by omega) (by omega) (by omega) (by omega) (by rw [Nat.pow_zero, Nat.mul_one])
end Go.Proofs.YtoeldfopjalpkaaDoor.Spec
set_option linter.unusedSimpArgs false
set_option linter.unusedVariables false
namespace Go.Proofs.YtoeldfopjalpkaaDoor.Spec
open Go.RowKit Go.Proofs.YtoeldfopjalpkaaDoorW.PrintWords Go.Proofs.YtoeldfopjalpkaaDoorW.PrintLast Go.Proofs.YtoeldfopjalpkaaDoorW.PrintMore Go.Proofs.YtoeldfopjalpkaaDoor.Q Go.Proofs.YtoeldfopjalpkaaDoor.Nums

theorem D_one : D 1 = [1] := by
  rw [D_pos (by omega), show (1 : Int) / 4294967296 = 0 by decide, D_zero]
  rfl
theorem D_nat0 : D ((0 : Nat) : Int) = [] := D_zero
/-- The canonical form of a sign, a numerator and a denominator. -/
def Fr (s : Bool) (n d : Nat) : Bool × List Int × List Int := if n = 0 ∨ d = 0 then (false, [], D 1) else (s, D ((n / Nat.gcd n d : Nat) : Int), D ((d / Nat.gcd n d : Nat) : Int))
theorem Fr_zero {s : Bool} {n d : Nat} (h : n = 0 ∨ d = 0) : Fr s n d = (false, [], D 1) := if_pos h
theorem Fr_pos {s : Bool} {n d : Nat} (hn : 0 < n) (hd : 0 < d) : Fr s n d = (s, D ((n / Nat.gcd n d : Nat) : Int), D ((d / Nat.gcd n d : Nat) : Int)) := if_neg (by omega)
theorem one_D {n : Nat} (h : 0 < n) : (n = 1 ∧ D (n : Int) = [1]) ∨ (n ≠ 1 ∧ ((D (n : Int)).length > 1 ∨ ((D (n : Int)).length = 1 ∧ rd (D (n : Int)) 0 ≠ 1))) := by
  by_cases h1 : n = 1
  · subst h1; exact .inl ⟨rfl, D_one⟩
  · refine .inr ⟨h1, ?_⟩
    have hl := D_length_pos (n := (n : Int)) (by omega)
    have hv := V_D (n : Int) (by omega)
    revert hl hv
    generalize D (n : Int) = d
    intro hl hv
    match d, hl with
    | [x], _ =>
      rw [V_cons, V_nil] at hv
      refine .inr ⟨rfl, ?_⟩
      rw [show rd [x] 0 = x from rfl]
      omega
    | _ :: _ :: _, _ => exact .inl (by simp)
theorem bang {α : Type} {n : Nat} (h : 0 < n) (g : Bool → Option α) :
    (if ((D (n : Int)).length : Int) > 1 then g true else (if 0 < ((D (n : Int)).length : Int) then g ((rd (D (n : Int)) 0) != 1) else none)) = g (n != 1) := by
  rcases one_D h with ⟨h1, h2⟩ | ⟨h1, h2 | ⟨h2, h3⟩⟩
  · subst h1; rw [h2]; rfl
  · rw [if_pos (by omega)]
    congr 1
    symm
    exact bne_iff_ne.2 h1
  · rw [if_neg (by omega), if_pos (by omega)]
    congr 1
    rw [bne_iff_ne.2 h1]
    exact bne_iff_ne.2 h3
theorem divO_nat {x g : Nat} (hg : 0 < g) : divO (x : Int) (g : Int) = (D ((x / g : Nat) : Int), D ((x % g : Nat) : Int), true) := by
  unfold divO
  rw [if_pos (by omega)]
  rfl
theorem gcd_len {x y : Nat} (hx : (D (x : Int)).length ≤ 1048576) (hy : (D (y : Int)).length ≤ 1048576) : (D ((Nat.gcd x y : Nat) : Int)).length ≤ 1048576 := by
  by_cases h : x = 0
  · subst h; rw [Nat.gcd_zero_left]; exact hy
  · exact len_le (Nat.gcd_le_left y (by omega)) hx
theorem reduce_ev {a b : List Int} (ha : U a) (hb : U b) (sa : a.length ≤ 1048576) (sb : b.length ≤ 1048576) {x y : Nat} (hx : V a = (x : Int)) (hy : V b = (y : Int)) (s : Bool) :
    Ev (fun k => rational_reduce.f k s a b) (Fr s x y) := by
  have h1 := normalize_ev ha (by unfold Big; omega)
  have h2 := normalize_ev hb (by unfold Big; omega)
  have l1 := D_short ha
  have l2 := D_short hb
  rw [hx] at h1 l1
  rw [hy] at h2 l2
  have sx : (D (x : Int)).length ≤ 1048576 := by omega
  have sy : (D (y : Int)).length ≤ 1048576 := by omega
  simp only [rational_reduce.f]
  refine Ev.bind h1 (Ev.bind h2 ?_)
  by_cases x0 : x = 0
  · subst x0
    simp only [D_nat0, D_zero, List.length_nil, show ((0 : Nat) : Int) = 0 from rfl, if_true]
    refine suc ?_
    simp only [rational_reduce.j0, if_true, rational_one.f, Option.bind_some]
    rw [Fr_zero (.inl rfl), D_one]
    exact now fun _ => rfl
  · have lx := pos_at (x := x) (by omega)
    simp (disch := omega) only [if_neg]
    by_cases y0 : y = 0
    · subst y0
      rw [show (((D ((0 : Nat) : Int)).length : Int) == 0) = true by rw [D_nat0]; rfl]
      refine suc ?_
      simp only [rational_reduce.j0, if_true, rational_one.f, Option.bind_some]
      rw [Fr_zero (.inr rfl), D_one]
      exact now fun _ => rfl
    · have ly := pos_at (x := y) (by omega)
      rw [show (((D (y : Int)).length : Int) == 0) = false by rw [beq_eq_false_iff_ne]; omega]
      rw [Fr_pos (by omega) (by omega)]
      refine suc ?_
      simp only [rational_reduce.j0, Bool.false_eq_true, if_false]
      refine Ev.congr (fun k => bang (n := y) (by omega) (fun b => rational_reduce.j1 k s (D (x : Int)) (D (y : Int)) b)) ?_
      by_cases y1 : y = 1
      · subst y1
        rw [Nat.gcd_one_right, Nat.div_one, Nat.div_one]
        simp only [bne_self_eq_false]
        refine suc ?_
        simp only [rational_reduce.j1, Bool.false_eq_true, if_false]
        exact now fun _ => rfl
      · rw [bne_iff_ne.2 y1]
        have hg := Nat.gcd_pos_of_pos_left y (show 0 < x by omega)
        have eg := gcd_ev (D_U (x : Int)) (D_U (y : Int)) sx sy (V_D _ (by omega)) (V_D _ (by omega))
        have sg := gcd_len sx sy
        generalize Nat.gcd x y = g at *
        have d1 := divMod_ev (D_U (x : Int)) (D_U (g : Int)) sx (by unfold Big; omega)
        have d2 := divMod_ev (D_U (y : Int)) (D_U (g : Int)) sy (by unfold Big; omega)
        rw [V_D _ (by omega), V_D _ (by omega), divO_nat hg] at d1 d2
        refine suc ?_
        simp only [rational_reduce.j1, if_true]
        refine Ev.bind eg ?_
        refine Ev.congr (fun k => bang (n := g) hg (fun b => rational_reduce.j2 k s (D (x : Int)) (D (y : Int)) (D (g : Int)) b)) ?_
        by_cases g1 : g = 1
        · subst g1
          rw [Nat.div_one, Nat.div_one]
          simp only [bne_self_eq_false]
          refine suc ?_
          simp only [rational_reduce.j2, Bool.false_eq_true, if_false]
          exact now fun _ => rfl
        · rw [bne_iff_ne.2 g1]
          refine suc ?_
          simp only [rational_reduce.j2, if_true]
          exact Ev.bind d1 (Ev.bind d2 (now fun _ => rfl))
theorem frac_ev {a b : List Int} (ha : U a) (hb : U b) (sa : a.length ≤ 1048576) (sb : b.length ≤ 1048576) {x y : Nat} (hx : V a = (x : Int)) (hy : V b = (y : Int)) (s : Bool) :
    Ev (fun k => credenceref1_frac.f k s a b) (Fr s x y) := by
  have eg := natGCD_ev ha hb sa sb hx hy
  have l1 := D_short ha
  have l2 := D_short hb
  rw [hx] at l1
  rw [hy] at l2
  have sg := gcd_len (x := x) (y := y) (by omega) (by omega)
  have d1 := natDivMod_ev ha (D_U ((Nat.gcd x y : Nat) : Int)) sa sg
  have d2 := natDivMod_ev hb (D_U ((Nat.gcd x y : Nat) : Int)) sb sg
  rw [hx, V_D _ (by omega)] at d1
  rw [hy, V_D _ (by omega)] at d2
  have one := natOf_ev (n := 1) (by omega) (by omega)
  simp only [credenceref1_frac.f]
  refine Ev.bind eg (Ev.bind d1 (Ev.bind d2 ?_))
  by_cases hg : 0 < Nat.gcd x y
  · rw [divO_nat hg, divO_nat hg]
    simp only [if_true]
    by_cases x0 : x = 0
    · rw [Fr_zero (.inl x0)]
      have e : x / Nat.gcd x y = 0 := by rw [x0, Nat.zero_div]
      rw [e]
      simp only [D_nat0, D_zero, List.length_nil, show ((0 : Nat) : Int) = 0 from rfl, if_true]
      exact Ev.bind one (now fun _ => rfl)
    · have q0 : 0 < x / Nat.gcd x y := Nat.div_pos (Nat.gcd_le_left y (by omega)) hg
      have lq := pos_at q0
      simp (disch := omega) only [if_neg]
      by_cases y0 : y = 0
      · rw [Fr_zero (.inr y0)]
        have e : y / Nat.gcd x y = 0 := by rw [y0, Nat.zero_div]
        rw [e]
        simp only [D_nat0, D_zero, List.length_nil, show ((0 : Nat) : Int) = 0 from rfl, if_true]
        exact Ev.bind one (now fun _ => rfl)
      · have q1 : 0 < y / Nat.gcd x y := Nat.div_pos (Nat.gcd_le_right x (by omega)) hg
        have lq1 := pos_at q1
        simp (disch := omega) only [if_neg]
        rw [Fr_pos (by omega) (by omega)]
        exact now fun _ => rfl
  · have hz : Nat.gcd x y = 0 := by omega
    have x0 : x = 0 := Nat.eq_zero_of_gcd_eq_zero_left hz
    rw [Fr_zero (.inl x0)]
    have e : ∀ z : Int, divO z ((Nat.gcd x y : Nat) : Int) = ([], [], false) := fun z => by
      unfold divO
      rw [if_neg (by omega)]
    simp only [e, Bool.false_eq_true, if_false]
    exact Ev.bind one (now fun _ => rfl)
theorem fsame_ev (s : Bool) (n d : List Int) (hn : Big n) (hd : Big d) : Ev (fun k => credencelaw2_same.f k s n d s n d) true := by
  have e : Ev (fun k => credenceref1_FracSame.f k s n d s n d) true := by
    simp only [credenceref1_FracSame.f, BEq.rfl, if_true]
    refine Ev.bind (natSame_ev n hn) ?_
    simp only [if_true]
    exact Ev.bind (natSame_ev d hd) (now fun _ => rfl)
  simp only [credencelaw2_same.f]
  exact Ev.bind e (now fun _ => rfl)
end Go.Proofs.YtoeldfopjalpkaaDoor.Spec
set_option linter.unusedSimpArgs false
set_option linter.unusedVariables false
namespace Go.Proofs.YtoeldfopjalpkaaDoor.Spec
open Go.RowKit Go.Proofs.YtoeldfopjalpkaaDoorW.PrintWords Go.Proofs.YtoeldfopjalpkaaDoorW.PrintLast Go.Proofs.YtoeldfopjalpkaaDoorW.PrintMore Go.Proofs.YtoeldfopjalpkaaDoor.Q Go.Proofs.YtoeldfopjalpkaaDoor.Nums

/-- The rational number of a sign, a numerator and a denominator. -/
def mk (s : Bool) (n d : Nat) : Rat := mkRat (if s = true then -(n : Int) else (n : Int)) d
/-- The canonical form of a rational number. -/
def C (q : Rat) : Bool × List Int × List Int := (decide (q.num < 0), D (q.num.natAbs : Int), D (q.den : Int))
theorem mk_zero (s : Bool) {n d : Nat} (h : n = 0 ∨ d = 0) : mk s n d = 0 := by
  unfold mk
  rcases h with h | h
  · subst h; cases s <;> simp [Rat.mkRat_eq_div] <;> grind
  · subst h; exact Rat.mkRat_zero _
theorem C_zero : C 0 = (false, [], D 1) := by
  unfold C
  rw [show (0 : Rat).num = 0 from rfl, show (0 : Rat).den = 1 from rfl]
  exact congrArg (fun z => (false, z, D 1)) D_zero
theorem mk_pos (s : Bool) {n d : Nat} (hn : 0 < n) (hd : 0 < d) : (mk s n d).num.natAbs = n / Nat.gcd n d ∧ (mk s n d).den = d / Nat.gcd n d ∧ ((mk s n d).num < 0 ↔ s = true) := by
  have hg : 0 < Nat.gcd n d := Nat.gcd_pos_of_pos_left d hn
  have q0 : 0 < n / Nat.gcd n d := Nat.div_pos (Nat.gcd_le_left d hn) hg
  have e : (if s = true then -(n : Int) else (n : Int)).natAbs = n := by cases s <;> simp
  have hdv : ((Nat.gcd n d : Nat) : Int) ∣ (n : Int) := Int.natCast_dvd_natCast.2 (Nat.gcd_dvd_left n d)
  have hnum : (mk s n d).num = if s = true then -((n / Nat.gcd n d : Nat) : Int) else ((n / Nat.gcd n d : Nat) : Int) := by
    unfold mk
    rw [Rat.num_mkRat, if_neg (by omega), e, Nat.gcd_comm]
    cases s
    · rfl
    · show -(n : Int) / _ = -_
      rw [Int.neg_ediv_of_dvd hdv]
      rfl
  refine ⟨?_, ?_, ?_⟩
  · rw [hnum]
    generalize n / Nat.gcd n d = z at *
    cases s <;> simp
  · unfold mk
    rw [Rat.den_mkRat, if_neg (by omega), e, Nat.gcd_comm]
  · rw [hnum]
    generalize n / Nat.gcd n d = z at *
    cases s <;> simp <;> omega
theorem Fr_C (s : Bool) (n d : Nat) : Fr s n d = C (mk s n d) := by
  by_cases h : n = 0 ∨ d = 0
  · rw [Fr_zero h, mk_zero s h, C_zero]
  · have hn : 0 < n := by omega
    have hd : 0 < d := by omega
    obtain ⟨h1, h2, h3⟩ := mk_pos s hn hd
    rw [Fr_pos hn hd]
    unfold C
    rw [h1, h2]
    refine congrArg (fun z => (z, _, _)) ?_
    cases s
    · exact (decide_eq_false (fun h => by simpa using h3.1 h)).symm
    · exact (decide_eq_true (h3.2 rfl)).symm
theorem mk_self (q : Rat) : mk (decide (q.num < 0)) q.num.natAbs q.den = q := by
  unfold mk
  have : (if decide (q.num < 0) = true then -((q.num.natAbs : Nat) : Int) else ((q.num.natAbs : Nat) : Int)) = q.num := by
    by_cases h : q.num < 0
    · rw [if_pos (decide_eq_true h)]; omega
    · rw [if_neg (by simp [h])]; omega
  rw [this]
  exact Rat.mkRat_self q
/-- The size of a rational number. -/
def Sz (k : Nat) (q : Rat) : Prop := Lim k (q.num.natAbs : Int) ∧ Lim k (q.den : Int)
theorem Lim.le {k : Nat} {x y : Nat} (h : Lim k (y : Int)) (hle : x ≤ y) : Lim k (x : Int) := ⟨by omega, by have := h.2; omega⟩
theorem Lim.one {k : Nat} (hk : 1 ≤ k) : Lim k (1 : Int) := by
  refine Lim.mono (j := 1) ⟨by omega, by decide⟩ hk
theorem mk_sz (s : Bool) {n d k : Nat} (hk : 1 ≤ k) (hn : Lim k (n : Int)) (hd : Lim k (d : Int)) : Sz k (mk s n d) := by
  by_cases h : n = 0 ∨ d = 0
  · rw [mk_zero s h]
    exact ⟨⟨by decide, by rw [show ((0 : Rat).num.natAbs : Int) = 0 from rfl]; exact Int.lt_of_le_of_lt (by omega) (Lim.one hk).2⟩, Lim.one hk⟩
  · obtain ⟨h1, h2, _⟩ := mk_pos s (n := n) (d := d) (by omega) (by omega)
    refine ⟨?_, ?_⟩
    · rw [h1]; exact hn.le (Nat.div_le_self _ _)
    · rw [h2]; exact hd.le (Nat.div_le_self _ _)
theorem den_pos (q : Rat) : 0 < q.den := Rat.den_pos q
theorem Lim.bigD {k : Nat} {n : Int} (h : Lim k n) (hk : k ≤ 1048576) : (D n).length ≤ 1048576 := Nat.le_trans (D_len_le h.2) hk
theorem bitD_ev {k x : Nat} (h : Lim k (x : Int)) (hk : k ≤ 1048576) : Ev (fun q => bignat_BitLen.f q (D (x : Int))) ((bl (x : Int) : Nat) : Int) := by
  have l := h.bigD hk
  have := bitLen_ev (D_U (x : Int)) (by unfold Big; omega)
  rw [V_D _ (by omega)] at this
  exact this
theorem redD_ev {k x y : Nat} (hx : Lim k (x : Int)) (hy : Lim k (y : Int)) (hk : k ≤ 1048576) (s : Bool) : Ev (fun q => rational_reduce.f q s (D (x : Int)) (D (y : Int))) (C (mk s x y)) := by
  rw [← Fr_C]
  exact reduce_ev (D_U _) (D_U _) (hx.bigD hk) (hy.bigD hk) (V_D _ (by omega)) (V_D _ (by omega)) s
theorem addN_ev {j x y : Nat} (hx : Lim j (x : Int)) (hy : Lim j (y : Int)) (hj : j ≤ 1048576) : Ev (fun q => bignat_Add.f q (D (x : Int)) (D (y : Int))) (D ((x + y : Nat) : Int)) := by
  rw [Int.natCast_add]; exact add_D hx hy (by omega) (by omega)
theorem drop_getD {xs : List Int} {i : Nat} (h : i < xs.length) : xs.drop i = xs.getD i 0 :: xs.drop (i + 1) := by
  rw [List.drop_eq_getElem_cons h, List.getD_eq_getElem?_getD, List.getElem?_eq_getElem h]
  rfl
theorem natSameG_l {xs ys : List Int} (hs : Big xs) (hl : xs.length = ys.length) : ∀ (n i : Nat), i + n = xs.length → Ev (fun k => credenceref1_NatSame.l0 k xs ys i) (decide (xs.drop i = ys.drop i)) := by
  unfold Big at hs
  intro n
  induction n with
  | zero =>
    intro i hi
    rw [List.drop_eq_nil_of_le (by omega), List.drop_eq_nil_of_le (by omega)]
    refine suc (now fun k => ?_)
    simp (disch := omega) only [credenceref1_NatSame.l0, if_neg]
    rfl
  | succ n ih =>
    intro i hi
    have := ih (i + 1) (by omega)
    rw [drop_getD (xs := xs) (by omega), drop_getD (xs := ys) (by omega)]
    refine suc ?_
    by_cases h : xs.getD i 0 = ys.getD i 0
    · simp (disch := omega) only [credenceref1_NatSame.l0, if_pos, w64, rd, Int.toNat_natCast, h, if_true]
      simp only [List.cons.injEq, true_and]
      exact this
    · simp (disch := omega) only [credenceref1_NatSame.l0, if_pos, rd, Int.toNat_natCast]
      rw [decide_eq_false (fun e => h (List.cons.inj e).1)]
      exact now fun _ => if_neg h
theorem natSameG_ev {xs ys : List Int} (hs : Big xs) : Ev (fun k => credenceref1_NatSame.f k xs ys) (decide (xs = ys)) := by
  simp only [credenceref1_NatSame.f]
  by_cases h : xs.length = ys.length
  · simp only [if_pos (show (xs.length : Int) = (ys.length : Int) by omega)]
    exact natSameG_l hs h xs.length 0 (by omega)
  · simp only [if_neg (show ¬ (xs.length : Int) = (ys.length : Int) by omega)]
    rw [decide_eq_false (fun e => h (congrArg List.length e))]
    exact now fun _ => rfl
theorem D_inj {x y : Nat} (h : D (x : Int) = D (y : Int)) : x = y := by
  have := congrArg V h
  rw [V_D _ (by omega), V_D _ (by omega)] at this
  omega
theorem C_inj {p q : Rat} (h : C p = C q) : p = q := by
  unfold C at h
  simp only [Prod.mk.injEq] at h
  rw [← mk_self p, ← mk_self q, h.1, D_inj h.2.1, D_inj h.2.2]
theorem sameG_ev {k : Nat} {p q : Rat} (h : Sz k p) (hk : k ≤ 1048576) : Ev (fun n => credencelaw2_same.f n (C p).1 (C p).2.1 (C p).2.2 (C q).1 (C q).2.1 (C q).2.2) (decide (p = q)) := by
  have e1 := natSameG_ev (ys := (C q).2.1) (h.1.small (by omega)).big
  have e2 := natSameG_ev (ys := (C q).2.2) (h.2.small (by omega)).big
  have e : Ev (fun n => credenceref1_FracSame.f n (C p).1 (C p).2.1 (C p).2.2 (C q).1 (C q).2.1 (C q).2.2) (decide (p = q)) := by
    simp only [credenceref1_FracSame.f]
    by_cases h1 : (C p).1 = (C q).1
    · simp only [if_pos (show ((C p).1 == (C q).1) = true by simpa using h1)]
      refine Ev.bind e1 ?_
      by_cases h2 : (C p).2.1 = (C q).2.1
      · simp only [if_pos (decide_eq_true (show D (p.num.natAbs : Int) = (C q).2.1 from h2))]
        refine Ev.bind e2 ?_
        by_cases h3 : (C p).2.2 = (C q).2.2
        · rw [decide_eq_true (show D (p.den : Int) = (C q).2.2 from h3), decide_eq_true (C_inj (Prod.ext h1 (Prod.ext h2 h3)))]
          exact now fun _ => rfl
        · rw [decide_eq_false (show ¬ D (p.den : Int) = (C q).2.2 from h3), decide_eq_false (fun e => h3 (by rw [e]))]
          exact now fun _ => rfl
      · simp only [decide_eq_false (show ¬ D (p.num.natAbs : Int) = (C q).2.1 from h2), Bool.false_eq_true, if_false]
        rw [decide_eq_false (fun e => h2 (by rw [e]))]
        exact now fun _ => rfl
    · simp only [if_neg (show ¬ ((C p).1 == (C q).1) = true by simpa using h1)]
      rw [decide_eq_false (fun e => h1 (by rw [e]))]
      exact now fun _ => rfl
  simp only [credencelaw2_same.f]
  exact Ev.bind e (now fun _ => rfl)
theorem sameC_ev {k : Nat} {p q : Rat} (e : p = q) (h : Sz k p) (hk : k ≤ 1048576) : Ev (fun n => credencelaw2_same.f n (C p).1 (C p).2.1 (C p).2.2 (C q).1 (C q).2.1 (C q).2.2) true := by
  have := sameG_ev (q := q) h hk
  rw [decide_eq_true e] at this
  exact this
end Go.Proofs.YtoeldfopjalpkaaDoor.Spec
set_option linter.unusedSimpArgs false
set_option linter.unusedVariables false
namespace Go.Proofs.YtoeldfopjalpkaaDoor.Spec
open Go.RowKit Go.Proofs.YtoeldfopjalpkaaDoorW.PrintWords Go.Proofs.YtoeldfopjalpkaaDoorW.PrintLast Go.Proofs.YtoeldfopjalpkaaDoorW.PrintMore Go.Proofs.YtoeldfopjalpkaaDoor.Q Go.Proofs.YtoeldfopjalpkaaDoor.Nums

def B (l : List UInt8) : ByteArray := ⟨l.toArray⟩
theorem B_of (s : ByteArray) : s = B s.data.toList := rfl
theorem B_size (l : List UInt8) : (B l).size = l.length := by simp [B, ByteArray.size]
theorem B_append (l m : List UInt8) : B l ++ B m = B (l ++ m) := by
  apply ByteArray.ext
  apply Array.toList_inj.1
  simp [B, ByteArray.data_append]
theorem B_toList (l : List UInt8) : (B l).toList = l := by rw [ByteArray.toList_eq]; rfl
theorem B_extract (l : List UInt8) (a b : Nat) : (B l).extract a b = B ((l.drop a).take (b - a)) := by
  apply ByteArray.ext
  apply Array.toList_inj.1
  simp [B, ByteArray.data_extract, List.extract_eq_take_drop]
theorem B_drop (l : List UInt8) (a : Nat) : (B l).extract a (B l).size = B (l.drop a) := by
  rw [B_extract, B_size, List.take_of_length_le (by rw [List.length_drop]; omega)]
theorem B_take (l : List UInt8) (b : Nat) : (B l).extract 0 b = B (l.take b) := by
  rw [B_extract, List.drop_zero, Nat.sub_zero]
theorem B_bt {pre : List UInt8} {c : UInt8} {l : List UInt8} : bt (B (pre ++ c :: l)) (pre.length : Int) = (c.toNat : Int) := by
  unfold bt
  rw [dif_pos (by rw [B_size]; simp)]
  simp [B, ByteArray.getElem_eq_getElem_data]
theorem B_bt0 {c : UInt8} {l : List UInt8} : bt (B (c :: l)) 0 = (c.toNat : Int) := B_bt (pre := []) (c := c) (l := l)
def isD (c : UInt8) : Bool := decide (48 ≤ c.toNat ∧ c.toNat ≤ 57)
def lval : Int → List UInt8 → Int
  | v, [] => v
  | v, c :: l => lval (10 * v + ((c.toNat : Int) - 48)) l
theorem lval_append : ∀ (l m : List UInt8) (v : Int), lval v (l ++ m) = lval (lval v l) m
  | [], _, _ => rfl
  | c :: l, m, v => by rw [List.cons_append]; exact lval_append l m _
theorem scan_B : ∀ (l pre : List UInt8) (v : Int), l.all isD = true → scan (B (pre ++ l)) l.length pre.length v = some (lval v l)
  | [], _, _, _ => rfl
  | c :: l, pre, v, h => by
    rw [List.all_cons, Bool.and_eq_true] at h
    have hc := of_decide_eq_true h.1
    have := scan_B l (pre ++ [c]) (10 * v + ((c.toNat : Int) - 48)) h.2
    rw [List.append_assoc, List.length_append] at this
    rw [List.length_cons]
    unfold scan
    rw [B_bt, if_neg (by omega)]
    exact this
theorem lval_nonneg : ∀ (l : List UInt8) (v : Int), l.all isD = true → 0 ≤ v → 0 ≤ lval v l
  | [], _, _, h => h
  | c :: l, v, h, hv => by
    rw [List.all_cons, Bool.and_eq_true] at h
    have hc := of_decide_eq_true h.1
    exact lval_nonneg l _ h.2 (by omega)
theorem lval_lim : ∀ (l : List UInt8) (v : Int) (k : Nat), l.all isD = true → Lim k v → Lim (k + l.length) (lval v l)
  | [], _, _, _, h => h
  | c :: l, v, k, h, hv => by
    rw [List.all_cons, Bool.and_eq_true] at h
    have hc := of_decide_eq_true h.1
    have := lval_lim l (10 * v + ((c.toNat : Int) - 48)) (k + 1) h.2 (by
      unfold Lim at hv ⊢
      rw [pow_succ']
      obtain ⟨a, b⟩ := hv
      generalize (4294967296 : Int) ^ k = P at *
      omega)
    rw [List.length_cons]
    show Lim _ (lval (10 * v + ((c.toNat : Int) - 48)) l)
    rw [show k + (l.length + 1) = k + 1 + l.length by omega]
    exact this
/-- The number that digits spell. -/
def val (l : List UInt8) : Nat := (lval 0 l).toNat
theorem val_eq {l : List UInt8} (h : l.all isD = true) : ((val l : Nat) : Int) = lval 0 l := by
  have := lval_nonneg l 0 h (by omega)
  unfold val
  omega
theorem val_lim {l : List UInt8} (h : l.all isD = true) : Lim l.length ((val l : Nat) : Int) := by
  rw [val_eq h]
  have := lval_lim l 0 0 h lim0
  rwa [Nat.zero_add] at this
theorem digits_l : ∀ (l pre : List UInt8), pre.length + l.length ≤ 4000 → Ev (fun k => rational_digits.l0 k (B (pre ++ l)) (pre.length : Int)) (l.all isD && !(pre ++ l).isEmpty)
  | [], pre, h => by
    refine suc ?_
    rw [List.append_nil]
    simp (disch := (rw [B_size]; omega)) only [rational_digits.l0, if_neg]
    rw [B_toList]
    exact now fun _ => by simp
  | c :: l, pre, h => by
    rw [List.length_cons] at h
    have ih := digits_l l (pre ++ [c]) (by simp; omega)
    rw [List.append_assoc, List.length_append] at ih
    have hs : (B (pre ++ c :: l)).size = pre.length + l.length + 1 := by rw [B_size]; simp; omega
    refine suc ?_
    simp (disch := omega) only [rational_digits.l0, if_pos, B_bt]
    unfold isD
    by_cases h1 : (c.toNat : Int) < 48
    · simp only [if_pos h1]
      rw [List.all_cons, decide_eq_false (by omega)]
      exact now fun _ => rfl
    · simp only [if_neg h1]
      by_cases h2 : (c.toNat : Int) > 57
      · simp only [if_pos h2]
        rw [List.all_cons, decide_eq_false (by omega)]
        exact now fun _ => rfl
      · simp only [if_neg h2]
        rw [List.all_cons, decide_eq_true (by omega), w64 (by omega) (by omega)]
        exact ih
theorem rdigits_ev {l : List UInt8} (h : l.length ≤ 4000) : Ev (fun k => rational_digits.f k (B l)) (l.all isD && !l.isEmpty) := by
  simp only [rational_digits.f]
  exact digits_l l [] (by simpa using h)
theorem Digits_l : ∀ (l pre : List UInt8), pre.length + l.length ≤ 4000 → Ev (fun k => credenceref1_Digits.l0 k (B (pre ++ l)) (pre.length : Int)) (l.all isD && !(pre ++ l).isEmpty)
  | [], pre, h => by
    refine suc ?_
    rw [List.append_nil]
    simp (disch := (rw [B_size]; omega)) only [credenceref1_Digits.l0, if_neg]
    rw [B_size]
    refine now fun _ => ?_
    cases pre with
    | nil => rfl
    | cons c p => rw [decide_eq_true (by simp)]; rfl
  | c :: l, pre, h => by
    rw [List.length_cons] at h
    have ih := Digits_l l (pre ++ [c]) (by simp; omega)
    rw [List.append_assoc, List.length_append] at ih
    have hs : (B (pre ++ c :: l)).size = pre.length + l.length + 1 := by rw [B_size]; simp; omega
    refine suc ?_
    simp (disch := omega) only [credenceref1_Digits.l0, if_pos, B_bt]
    unfold isD
    by_cases h1 : (c.toNat : Int) < 48
    · simp only [if_pos h1]
      rw [List.all_cons, decide_eq_false (by omega)]
      exact now fun _ => rfl
    · simp only [if_neg h1]
      by_cases h2 : (c.toNat : Int) > 57
      · simp only [if_pos h2]
        rw [List.all_cons, decide_eq_false (by omega)]
        exact now fun _ => rfl
      · simp only [if_neg h2]
        rw [List.all_cons, decide_eq_true (by omega), w64 (by omega) (by omega)]
        exact ih
theorem Digits_ev {l : List UInt8} (h : l.length ≤ 4000) : Ev (fun k => credenceref1_Digits.f k (B l)) (l.all isD && !l.isEmpty) := by
  simp only [credenceref1_Digits.f]
  exact Digits_l l [] (by simpa using h)
theorem trim0_ev : ∀ l : List UInt8, l.length ≤ 4000 → l.all isD = true → ∃ m : List UInt8, Ev (fun k => strings_trimLeftByte.l0 k (B l) 48) (B m) ∧ m.all isD = true ∧ m.length ≤ l.length ∧ lval 0 m = lval 0 l ∧ (∀ c t, m = c :: t → c.toNat ≠ 48)
  | [], _, _ => ⟨[], by
      refine suc (now fun _ => ?_)
      simp (disch := (rw [B_size]; simp)) only [strings_trimLeftByte.l0, if_neg], rfl, Nat.le_refl _, rfl, fun c t h => by cases h⟩
  | c :: l, hl, h => by
    rw [List.length_cons] at hl
    have h' := h
    rw [List.all_cons, Bool.and_eq_true] at h'
    have hs : (B (c :: l)).size = l.length + 1 := by rw [B_size]; rfl
    by_cases hc : c.toNat = 48
    · obtain ⟨m, e, m1, m2, m3, m4⟩ := trim0_ev l (by omega) h'.2
      refine ⟨m, ?_, m1, by rw [List.length_cons]; omega, ?_, m4⟩
      · refine suc ?_
        simp (disch := omega) only [strings_trimLeftByte.l0, if_pos, B_bt0, B_drop]
        exact e
      · rw [m3]
        show _ = lval (10 * 0 + ((c.toNat : Int) - 48)) l
        rw [show 10 * 0 + ((c.toNat : Int) - 48) = 0 by omega]
    · refine ⟨c :: l, ?_, h, Nat.le_refl _, rfl, fun c' t e => by obtain ⟨rfl, rfl⟩ := List.cons.inj e; exact hc⟩
      refine suc (now fun _ => ?_)
      simp (disch := omega) only [strings_trimLeftByte.l0, if_pos, B_bt0, if_neg]
theorem number_ev {l : List UInt8} (hl : l.length ≤ 4000) (h : l.all isD = true) : Ev (fun k => rational_number.f k (B l)) (D ((val l : Nat) : Int)) := by
  obtain ⟨m, e, m1, m2, m3, m4⟩ := trim0_ev l hl h
  have et : Ev (fun k => strings_TrimLeft.f k (B l) (⟨#[48]⟩ : ByteArray)) (B m) := by
    simp only [strings_TrimLeft.f, strings_trimLeftByte.f]
    exact e
  rw [val_eq h, ← m3]
  simp only [rational_number.f]
  refine Ev.bind et ?_
  have hp := parse_ev (s := B m) (by rw [B_size]; omega)
  cases m with
  | nil =>
    simp only [if_pos (show (B []).toList = ([] : List UInt8) from B_toList [])]
    rw [show lval 0 [] = 0 from rfl, D_zero]
    exact now fun _ => rfl
  | cons c t =>
    have hc := m4 c t rfl
    simp only [if_neg (show ¬ (B (c :: t)).toList = ([] : List UInt8) by rw [B_toList]; simp)]
    refine Ev.bind hp ?_
    have hsb : scan (B (c :: t)) (c :: t).length 0 0 = some (lval 0 (c :: t)) := scan_B (c :: t) [] 0 m1
    unfold parO
    rw [if_neg (by rw [B_size]; simp), B_bt0, if_neg (by omega), B_size, hsb]
    exact now fun _ => rfl
theorem natDigits_ev {l : List UInt8} (hl : l.length ≤ 4000) (h : l.all isD = true) : Ev (fun k => credenceref1_NatDigits.f k (B l)) (D ((val l : Nat) : Int)) := by
  have := nd (s := B l) (by rw [B_size]; omega) l.length 0 0 (lval 0 l) (by rw [B_size]; omega) lim0 (scan_B l [] 0 h)
  rw [D_zero] at this
  rw [val_eq h]
  simp only [credenceref1_NatDigits.f]
  exact this
theorem index_none : ∀ {l : List UInt8} {c : UInt8}, c ∉ l → Lib.indexByte l c = -1
  | [], _, _ => rfl
  | b :: l, c, h => by
    have h1 : ¬ (b == c) = true := fun e => h (by rw [eq_of_beq e]; simp)
    unfold Lib.indexByte
    rw [if_neg h1, index_none (fun e => h (List.mem_cons_of_mem _ e))]
    rfl
theorem index_at : ∀ {l t : List UInt8} {c : UInt8}, c ∉ l → Lib.indexByte (l ++ c :: t) c = (l.length : Int)
  | [], t, c, _ => by
    show Lib.indexByte (c :: t) c = _
    unfold Lib.indexByte
    rw [if_pos (BEq.rfl)]
    rfl
  | b :: l, t, c, h => by
    have h1 : ¬ (b == c) = true := fun e => h (by rw [eq_of_beq e]; simp)
    rw [List.cons_append]
    unfold Lib.indexByte
    rw [if_neg h1, index_at (fun e => h (List.mem_cons_of_mem _ e))]
    rw [if_neg (by intro e; have := eq_of_beq e; omega), List.length_cons]
    omega
theorem cut_none {l : List UInt8} {c : UInt8} (h : c ∉ l) : strings_Cut.f (B l) (⟨#[c]⟩ : ByteArray) = some (B l, (⟨#[]⟩ : ByteArray), false) := by
  have e : stringslite_Index.f (B l) (⟨#[c]⟩ : ByteArray) = some (-1) := by
    show some (Lib.indexByte l c) = _
    rw [index_none h]
  simp only [strings_Cut.f, stringslite_Cut.f, e, Option.bind_some]
  rfl
theorem cut_at {l t : List UInt8} {c : UInt8} (h : c ∉ l) (hl : l.length + t.length ≤ 4000) : strings_Cut.f (B (l ++ c :: t)) (⟨#[c]⟩ : ByteArray) = some (B l, B t, true) := by
  have e : stringslite_Index.f (B (l ++ c :: t)) (⟨#[c]⟩ : ByteArray) = some ((l.length : Nat) : Int) := by
    show some (Lib.indexByte (l ++ c :: t) c) = _
    rw [index_at h]
  have hs : (B (l ++ c :: t)).size = l.length + t.length + 1 := by rw [B_size]; simp; omega
  have h1 : ((⟨#[c]⟩ : ByteArray).size : Int) = 1 := rfl
  have hw : wrap64 ((l.length : Int) + 1) = ((l.length + 1 : Nat) : Int) := by rw [w64 (by omega) (by omega)]; omega
  simp (disch := omega) only [strings_Cut.f, stringslite_Cut.f, e, Option.bind_some, h1, hw, if_pos, Int.toNat_natCast, B_drop, B_take]
  rw [List.take_left, show l.length + 1 = (l ++ [c]).length by simp, show l ++ c :: t = (l ++ [c]) ++ t by simp, List.drop_left]
theorem minus_at (t : List UInt8) : strings_CutPrefix.f (B (45 :: t)) (⟨#[45]⟩ : ByteArray) = some (B t, true) := by
  have hs : (B (45 :: t)).size = t.length + 1 := by rw [B_size]; rfl
  have h1 : ((⟨#[45]⟩ : ByteArray).size : Int) = 1 := rfl
  have hp : stringslite_HasPrefix.f (B (45 :: t)) (⟨#[45]⟩ : ByteArray) = some true := by
    simp (disch := omega) only [stringslite_HasPrefix.f, h1, if_pos, B_take]
    rw [B_toList, ByteArray.toList_eq]
    rfl
  simp (disch := omega) only [strings_CutPrefix.f, stringslite_CutPrefix.f, hp, Option.bind_some, h1, if_true, if_pos]
  rw [show ((1 : Int)).toNat = 1 from rfl, B_drop]
  rfl
theorem minus_no {l : List UInt8} (h : ∀ t, l ≠ 45 :: t) : strings_CutPrefix.f (B l) (⟨#[45]⟩ : ByteArray) = some (B l, false) := by
  have h1 : ((⟨#[45]⟩ : ByteArray).size : Int) = 1 := rfl
  have hp : stringslite_HasPrefix.f (B l) (⟨#[45]⟩ : ByteArray) = some false := by
    cases l with
    | nil => rfl
    | cons c t =>
      have hs : (B (c :: t)).size = t.length + 1 := by rw [B_size]; rfl
      have hc : c ≠ 45 := fun e => h t (by rw [e])
      simp (disch := omega) only [stringslite_HasPrefix.f, h1, if_pos, B_take]
      rw [B_toList, ByteArray.toList_eq]
      refine congrArg some ?_
      show ((c :: t).take 1 == [45]) = false
      rw [beq_eq_false_iff_ne]
      intro e
      exact hc (List.cons.inj e).1
  simp only [strings_CutPrefix.f, stringslite_CutPrefix.f, hp, Option.bind_some, Bool.false_eq_true, if_false]
def okc (c : UInt8) : Bool := c != 47 && c != 46
def okO (q : Rat) : Bool × List Int × List Int × Int := ((C q).1, (C q).2.1, (C q).2.2, 0)
def synO : Bool × List Int × List Int × Int := (false, [], [], 2)
def dgs (l : List UInt8) : Bool := l.all isD && !l.isEmpty
/-- What a text is worth: a sign, digits, and what follows them. -/
def resO (neg : Bool) (h : List UInt8) : List UInt8 → Bool × List Int × List Int × Int
  | [] => if dgs h = true then okO (mk neg (val h) 1) else synO
  | c :: t => if dgs h = true ∧ dgs t = true then (if c = 47 then (if val t = 0 then (false, [], [], 20) else okO (mk neg (val h) (val t))) else okO (mk neg (val (h ++ t)) (10 ^ t.length))) else synO
theorem resO_nil (neg : Bool) (h : List UInt8) : resO neg h [] = if dgs h = true then okO (mk neg (val h) 1) else synO := rfl
theorem resO_cons (neg : Bool) (h : List UInt8) (c : UInt8) (t : List UInt8) : resO neg h (c :: t) = if dgs h = true ∧ dgs t = true then (if c = 47 then (if val t = 0 then (false, [], [], 20) else okO (mk neg (val h) (val t))) else okO (mk neg (val (h ++ t)) (10 ^ t.length))) else synO := rfl
theorem split_ok : ∀ r : List UInt8, ∃ h t, r = h ++ t ∧ h.all okc = true ∧ (t = [] ∨ ∃ t', t = 47 :: t' ∨ t = 46 :: t')
  | [] => ⟨[], [], rfl, rfl, .inl rfl⟩
  | c :: r => by
    by_cases hc : okc c = true
    · obtain ⟨h, t, e, h1, h2⟩ := split_ok r
      exact ⟨c :: h, t, by rw [e]; rfl, by rw [List.all_cons, hc, h1]; rfl, h2⟩
    · refine ⟨[], c :: r, rfl, rfl, .inr ⟨r, ?_⟩⟩
      unfold okc at hc
      by_cases h1 : c = 47
      · exact .inl (by rw [h1])
      · by_cases h2 : c = 46
        · exact .inr (by rw [h2])
        · exact absurd (by simp [h1, h2]) hc
theorem ok_47 {h : List UInt8} (ho : h.all okc = true) : (47 : UInt8) ∉ h := fun e => by
  have := List.all_eq_true.1 ho 47 e
  exact absurd this (by decide)
theorem ok_46 {h : List UInt8} (ho : h.all okc = true) : (46 : UInt8) ∉ h := fun e => by
  have := List.all_eq_true.1 ho 46 e
  exact absurd this (by decide)
theorem dg_no {l m : List UInt8} {c : UInt8} (hc : isD c = false) : dgs (l ++ c :: m) = false := by
  unfold dgs
  rw [List.all_append, List.all_cons, hc, Bool.false_and, Bool.and_false, Bool.false_and]
theorem dg_all {l : List UInt8} (h : dgs l = true) : l.all isD = true := by
  unfold dgs at h
  rw [Bool.and_eq_true] at h
  exact h.1
theorem one_lim {k : Nat} (hk : 1 ≤ k) : Lim k ((1 : Nat) : Int) := Lim.one hk
theorem redL {l : List UInt8} {y : Nat} {k : Nat} (h : dgs l = true) (hl : l.length ≤ k) (h1 : 1 ≤ k) (hy : Lim k (y : Int)) (hk : k ≤ 1048576) (s : Bool) : Ev (fun q => rational_reduce.f q s (D ((val l : Nat) : Int)) (D (y : Int))) (C (mk s (val l) y)) :=
  redD_ev ((val_lim (dg_all h)).mono hl) hy hk s
theorem ten_lim (n : Nat) : Lim (n + 1) ((10 ^ n : Nat) : Int) := by
  refine ⟨Int.natCast_nonneg _, ?_⟩
  rw [Int.natCast_pow]
  have h : ((10 : Nat) : Int) ^ n ≤ 4294967296 ^ n := ipow_base (by omega) (by omega) n
  have h2 : (4294967296 : Int) ^ n < 4294967296 ^ (n + 1) := by
    rw [Int.pow_succ]
    have : (0 : Int) < 4294967296 ^ n := Int.pow_pos (by omega)
    omega
  omega
theorem pow10_ev {n : Nat} (hn : n ≤ 400) : Ev (fun k => bignat_Pow.f k ([10] : List Int) (n : Int)) (D ((10 ^ n : Nat) : Int), 0) := by
  have hu : U [10] := U_cons.2 ⟨by omega, U_nil⟩
  have hv : V [10] = 10 := by rw [V_cons, V_nil]; rfl
  have := pow_ev hu (by unfold Small; simp) (e := n) (by omega)
  rw [hv] at this
  have hb : bl ((10 : Int) ^ n) ≤ 65536 := by
    have h2 := (ten_lim n).2
    rw [Int.natCast_pow, ← pow32] at h2
    have h := bl_mono (Int.le_of_lt h2)
    rw [bl_two] at h
    show bl (((10 : Nat) : Int) ^ n) ≤ _
    omega
  rw [powO_small hb] at this
  rw [Int.natCast_pow]
  exact this
theorem first47 : ∀ {l : List UInt8}, (47 : UInt8) ∈ l → ∃ a b, l = a ++ 47 :: b ∧ (47 : UInt8) ∉ a
  | [], h => by cases h
  | c :: l, h => by
    by_cases hc : c = 47
    · exact ⟨[], l, by rw [hc]; rfl, by simp⟩
    · rcases List.mem_cons.1 h with h | h
      · exact absurd h.symm hc
      · obtain ⟨a, b, e, n⟩ := first47 h
        exact ⟨c :: a, b, by rw [e]; rfl, fun e => by
          rcases List.mem_cons.1 e with e | e
          · exact hc e.symm
          · exact n e⟩
theorem D_len0 (n : Nat) : ((D (n : Int)).length : Int) = 0 ↔ n = 0 := by
  constructor
  · intro h
    by_cases h0 : n = 0
    · exact h0
    · have := D_length_pos (n := (n : Int)) (by omega); omega
  · intro h; subst h; rw [show ((0 : Nat) : Int) = 0 from rfl, D_zero]; rfl
/-- The sign as it is written. -/
def sgnT (neg : Bool) : List UInt8 := if neg = true then [45] else []
theorem cutP {neg : Bool} {r : List UInt8} (hn : neg = false → ∀ u, r ≠ 45 :: u) : strings_CutPrefix.f (B (sgnT neg ++ r)) (⟨#[45]⟩ : ByteArray) = some (B r, neg) := by
  cases neg
  · exact minus_no (hn rfl)
  · exact minus_at r
theorem dg_len {h : List UInt8} : dgs h = (h.all isD && !h.isEmpty) := rfl
theorem j2_syn (neg : Bool) (a b : ByteArray) : Ev (fun k => rational_Parse.j2 k neg a b true) synO := by
  refine suc (now fun _ => ?_)
  simp only [rational_Parse.j2, if_true]
  rfl
theorem j1_syn (neg : Bool) (a b : ByteArray) : Ev (fun k => rational_Parse.j1 k neg a b true) synO := by
  refine suc (now fun _ => ?_)
  simp only [rational_Parse.j1, if_true]
  rfl
theorem parseB_ev (neg : Bool) {h t : List UInt8} (ho : h.all okc = true) (hl : h.length + t.length ≤ 399) (ht : t = [] ∨ ∃ t', t = 47 :: t' ∨ t = 46 :: t') (hn : neg = false → ∀ u, h ++ t ≠ 45 :: u) : Ev (fun k => rational_Parse.f k (B (sgnT neg ++ (h ++ t)))) (resO neg h t) := by
  have hs : (B (sgnT neg ++ (h ++ t))).size ≤ 400 := by
    rw [B_size, List.length_append, List.length_append]
    have : (sgnT neg).length ≤ 1 := by cases neg <;> decide
    omega
  have eh := rdigits_ev (l := h) (by omega)
  rw [← dg_len] at eh
  simp (disch := omega) only [rational_Parse.f, if_neg, cutP hn, Option.bind_some]
  rcases ht with rfl | ⟨t', rfl | rfl⟩
  · rw [List.append_nil]
    simp only [cut_none (ok_47 ho), cut_none (ok_46 ho), Option.bind_some, Bool.false_eq_true, if_false]
    refine Ev.bind eh ?_
    rw [resO_nil]
    by_cases hd : dgs h = true
    · rw [hd]
      have r := redL (y := 1) (k := 399) hd (by omega) (by omega) (one_lim (by omega)) (by omega) neg
      rw [show D ((1 : Nat) : Int) = [1] from D_one] at r
      refine suc ?_
      simp only [rational_Parse.j0, if_true]
      refine Ev.bind (number_ev (by omega) (dg_all hd)) ?_
      simp only [rational_one.f, Option.bind_some]
      exact Ev.bind r (now fun _ => rfl)
    · rw [if_neg hd]
      rw [Bool.not_eq_true] at hd
      rw [hd]
      refine suc ?_
      simp only [rational_Parse.j0, Bool.false_eq_true, if_false]
      exact j1_syn _ _ _
  · rw [List.length_cons] at hl
    have et := rdigits_ev (l := t') (by omega)
    rw [← dg_len] at et
    simp only [cut_at (ok_47 ho) (show h.length + t'.length ≤ 4000 by omega), Option.bind_some, if_true]
    refine Ev.bind eh ?_
    rw [resO_cons]
    by_cases hd : dgs h = true
    · simp only [hd, if_true, true_and]
      refine Ev.bind et ?_
      by_cases hd' : dgs t' = true
      · simp only [hd', Bool.not_true, if_true]
        have nt := number_ev (l := t') (by omega) (dg_all hd')
        refine suc ?_
        simp only [rational_Parse.j2, Bool.false_eq_true, if_false]
        refine Ev.bind nt ?_
        by_cases hz : val t' = 0
        · simp only [if_pos ((D_len0 _).2 hz), if_pos hz]
          exact now fun _ => rfl
        · simp only [if_neg (fun e => hz ((D_len0 _).1 e)), if_neg hz]
          exact Ev.bind (number_ev (by omega) (dg_all hd)) (Ev.bind (redL (k := 399) hd (by omega) (by omega) ((val_lim (dg_all hd')).mono (by omega)) (by omega) neg) (now fun _ => rfl))
      · rw [if_neg hd']
        rw [Bool.not_eq_true] at hd'
        rw [hd']
        exact j2_syn _ _ _
    · rw [if_neg (show ¬ (dgs h = true ∧ dgs t' = true) from fun e => hd e.1)]
      rw [Bool.not_eq_true] at hd
      simp only [hd, Bool.false_eq_true, if_false]
      exact j2_syn _ _ _
  · rw [List.length_cons] at hl
    have et := rdigits_ev (l := t') (by omega)
    rw [← dg_len] at et
    by_cases hm : (47 : UInt8) ∈ t'
    · obtain ⟨a, b, rfl, na⟩ := first47 hm
      have n47 : (47 : UInt8) ∉ h ++ 46 :: a := fun e => by
        rcases List.mem_append.1 e with e | e
        · exact ok_47 ho e
        · rcases List.mem_cons.1 e with e | e
          · exact absurd e (by decide)
          · exact na e
      have hl' : h.length + (a.length + b.length + 1) + 1 ≤ 399 := by simp at hl; omega
      have e1 : h ++ 46 :: (a ++ 47 :: b) = (h ++ 46 :: a) ++ 47 :: b := by simp
      rw [e1]
      have ed := rdigits_ev (l := h ++ 46 :: a) (by simp; omega)
      rw [← dg_len, dg_no (by decide)] at ed
      simp only [cut_at n47 (show (h ++ 46 :: a).length + b.length ≤ 4000 by simp; omega), Option.bind_some, if_true]
      refine Ev.bind ed ?_
      rw [resO_cons]
      rw [dg_no (by decide)]
      simp only [Bool.false_eq_true, and_false, if_false]
      exact j2_syn _ _ _
    · have n47 : (47 : UInt8) ∉ h ++ 46 :: t' := fun e => by
        rcases List.mem_append.1 e with e | e
        · exact ok_47 ho e
        · rcases List.mem_cons.1 e with e | e
          · exact absurd e (by decide)
          · exact hm e
      simp only [cut_none n47, cut_at (ok_46 ho) (show h.length + t'.length ≤ 4000 by omega), Option.bind_some, Bool.false_eq_true, if_false, if_true]
      refine suc ?_
      simp only [rational_Parse.j0, Bool.false_eq_true, if_false, if_true]
      refine Ev.bind eh ?_
      rw [resO_cons]
      by_cases hd : dgs h = true
      · simp only [hd, if_true, true_and]
        refine Ev.bind et ?_
        by_cases hd' : dgs t' = true
        · simp only [hd', Bool.not_true, if_true]
          have ha : (h ++ t').all isD = true := by rw [List.all_append, dg_all hd, dg_all hd']; rfl
          have ln : (h ++ t').length ≤ 399 := by rw [List.length_append]; omega
          refine suc ?_
          simp only [rational_Parse.j1, Bool.false_eq_true, if_false]
          rw [B_size]
          refine Ev.bind (pow10_ev (by omega)) ?_
          simp only [B_size, if_pos (show h.length + t'.length ≤ 9223372036854775807 by omega), B_append]
          rw [if_neg (by decide)]
          exact Ev.bind (number_ev (by omega) ha) (Ev.bind (redD_ev ((val_lim ha).mono (show _ ≤ 400 by omega)) ((ten_lim t'.length).mono (by omega)) (by omega) neg) (now fun _ => rfl))
        · rw [if_neg hd']
          rw [Bool.not_eq_true] at hd'
          rw [hd']
          exact j1_syn _ _ _
      · rw [if_neg (show ¬ (dgs h = true ∧ dgs t' = true) from fun e => hd e.1)]
        rw [Bool.not_eq_true] at hd
        simp only [hd, Bool.false_eq_true, if_false]
        exact j1_syn _ _ _
end Go.Proofs.YtoeldfopjalpkaaDoor.Spec
set_option linter.unusedSimpArgs false
set_option linter.unusedVariables false
namespace Go.Proofs.YtoeldfopjalpkaaDoor.Spec
open Go.RowKit Go.Proofs.YtoeldfopjalpkaaDoorW.PrintWords Go.Proofs.YtoeldfopjalpkaaDoorW.PrintLast Go.Proofs.YtoeldfopjalpkaaDoorW.PrintMore Go.Proofs.YtoeldfopjalpkaaDoor.Q Go.Proofs.YtoeldfopjalpkaaDoor.Nums

theorem fracC_ev {x y k : Nat} (hx : Lim k (x : Int)) (hy : Lim k (y : Int)) (hk : k ≤ 1048576) (s : Bool) : Ev (fun q => credenceref1_frac.f q s (D (x : Int)) (D (y : Int))) (C (mk s x y)) := by
  rw [← Fr_C]
  exact frac_ev (D_U _) (D_U _) (hx.bigD hk) (hy.bigD hk) (V_D _ (by omega)) (V_D _ (by omega)) s
theorem nmulN_ev {j k x y : Nat} (hx : Lim j (x : Int)) (hy : Lim k (y : Int)) (hj : j ≤ 1048576) (hk : k ≤ 1048576) : Ev (fun q => credenceref1_NatMul.f q (D (x : Int)) (D (y : Int))) (D ((x * y : Nat) : Int)) := by
  have := nmul_ev (D_U (x : Int)) (D_U (y : Int)) (hx.small (by omega)) (hy.small (by omega))
  rw [V_D _ (by omega), V_D _ (by omega)] at this
  rw [Int.natCast_mul]
  exact this
theorem natOfN_ev {n : Nat} (h : n < 1000) : Ev (fun k => credenceref1_NatOf.f k (n : Int)) (D (n : Int)) := natOf_ev (by omega) (by omega)
theorem fl1_ev (neg : Bool) {h t : List UInt8} (hd : dgs h = true) (hd' : dgs t = true) (hl : h.length + t.length ≤ 398) : ∀ n j : Nat, j + n = t.length → Ev (fun k => credenceref1_FracParse.l1 k (B (h ++ 46 :: t)) neg (h.length : Int) (D ((10 ^ j : Nat) : Int)) ((h.length + 1 + j : Nat) : Int)) (okO (mk neg (val (h ++ t)) (10 ^ t.length))) := by
  have hs : (B (h ++ 46 :: t)).size = h.length + t.length + 1 := by rw [B_size]; simp; omega
  intro n
  induction n with
  | zero =>
    intro j hj
    obtain rfl : j = t.length := by omega
    have ha : (h ++ t).all isD = true := by rw [List.all_append, dg_all hd, dg_all hd']; rfl
    have ln : (h ++ t).length ≤ 399 := by rw [List.length_append]; omega
    have hw : wrap64 ((h.length : Int) + 1) = ((h.length + 1 : Nat) : Int) := by rw [w64 (by omega) (by omega)]; omega
    have e1 : (B (h ++ 46 :: t)).extract 0 h.length = B h := by rw [B_take, List.take_left]
    have e2 : (B (h ++ 46 :: t)).extract (h.length + 1) (B (h ++ 46 :: t)).size = B t := by
      rw [B_drop, show h.length + 1 = (h ++ [46]).length by simp, show h ++ 46 :: t = (h ++ [46]) ++ t by simp, List.drop_left]
    refine suc ?_
    simp (disch := omega) only [credenceref1_FracParse.l1, if_neg, if_pos, hw, Int.toNat_natCast, e1, e2, B_append]
    simp only [B_size, if_pos (show h.length + t.length ≤ 9223372036854775807 by omega)]
    exact Ev.bind (natDigits_ev (by omega) ha) (Ev.bind (fracC_ev ((val_lim ha).mono (show _ ≤ 400 by omega)) ((ten_lim t.length).mono (by omega)) (by omega) neg) (now fun _ => rfl))
  | succ n ih =>
    intro j hj
    have := ih (j + 1) (by omega)
    have hw : wrap64 (((h.length + 1 + j : Nat) : Int) + 1) = ((h.length + 1 + (j + 1) : Nat) : Int) := by rw [w64 (by omega) (by omega)]; omega
    have hm := nmulN_ev (ten_lim j) (y := 10) (k := 1) ⟨by omega, by decide⟩ (by omega) (by omega)
    rw [show 10 ^ j * 10 = 10 ^ (j + 1) from (Nat.pow_succ 10 j).symm] at hm
    refine suc ?_
    simp (disch := omega) only [credenceref1_FracParse.l1, if_pos, hw]
    exact Ev.bind (natOfN_ev (n := 10) (by omega)) (Ev.bind hm this)
theorem j4_syn (neg : Bool) (s : ByteArray) (x : Int) : Ev (fun k => credenceref1_FracParse.j4 k s neg x true) synO := by
  refine suc (now fun _ => ?_)
  simp only [credenceref1_FracParse.j4, if_true]
  rfl
theorem fj3_ev (neg : Bool) {h t : List UInt8} (hl : h.length + t.length ≤ 399) (ht : t = [] ∨ ∃ t', t = 47 :: t' ∨ t = 46 :: t') : Ev (fun k => credenceref1_FracParse.j3 k (B (h ++ t)) neg (h.length : Int)) (resO neg h t) := by
  have hs : (B (h ++ t)).size = h.length + t.length := by rw [B_size]; simp
  have eh := Digits_ev (l := h) (by omega)
  rw [← dg_len] at eh
  have e1 : (B (h ++ t)).extract 0 h.length = B h := by rw [B_take, List.take_left]
  refine suc ?_
  simp (disch := omega) only [credenceref1_FracParse.j3, if_pos, Int.toNat_natCast, e1]
  refine Ev.bind eh ?_
  rcases ht with rfl | ⟨t', ht⟩
  · rw [resO_nil]
    rw [List.append_nil] at hs ⊢
    by_cases hd : dgs h = true
    · simp only [hd, if_true, if_neg (show ¬ (h.length : Int) < ((B h).size : Int) by rw [B_size]; omega)]
      refine suc ?_
      simp only [credenceref1_FracParse.j4, Bool.false_eq_true, if_false, if_pos (show (h.length : Int) = ((B h).size : Int) by rw [B_size])]
      exact Ev.bind (natDigits_ev (by omega) (dg_all hd)) (Ev.bind (natOfN_ev (n := 1) (by omega)) (Ev.bind (fracC_ev ((val_lim (dg_all hd)).mono (show _ ≤ 400 by omega)) (one_lim (by omega)) (by omega) neg) (now fun _ => rfl)))
    · rw [if_neg hd]
      rw [Bool.not_eq_true] at hd
      simp only [hd, Bool.false_eq_true, if_false]
      exact j4_syn _ _ _
  · obtain ⟨c, rfl, hc⟩ : ∃ c, t = c :: t' ∧ (c = 47 ∨ c = 46) := by
      rcases ht with rfl | rfl
      · exact ⟨47, rfl, .inl rfl⟩
      · exact ⟨46, rfl, .inr rfl⟩
    rw [List.length_cons] at hl hs
    have et := Digits_ev (l := t') (by omega)
    rw [← dg_len] at et
    have hw : wrap64 ((h.length : Int) + 1) = ((h.length + 1 : Nat) : Int) := by rw [w64 (by omega) (by omega)]; omega
    have e2 : (B (h ++ c :: t')).extract (h.length + 1) (B (h ++ c :: t')).size = B t' := by
      rw [B_drop, show h.length + 1 = (h ++ [c]).length by simp, show h ++ c :: t' = (h ++ [c]) ++ t' by simp, List.drop_left]
    rw [resO_cons]
    by_cases hd : dgs h = true
    · simp (disch := omega) only [hd, if_true, if_pos, hw, Int.toNat_natCast, e2, true_and]
      refine Ev.bind et ?_
      by_cases hd' : dgs t' = true
      · simp only [hd', Bool.not_true, if_true]
        refine suc ?_
        simp (disch := omega) only [credenceref1_FracParse.j4, Bool.false_eq_true, if_false, if_neg, if_pos, B_bt, hw, Int.toNat_natCast, e1, e2]
        rcases hc with rfl | rfl
        · simp only [if_pos (show (((47 : UInt8).toNat : Nat) : Int) = 47 from rfl), if_true]
          refine Ev.bind (natDigits_ev (l := t') (by omega) (dg_all hd')) ?_
          by_cases hz : val t' = 0
          · simp only [if_pos ((D_len0 _).2 hz), if_pos hz]
            exact now fun _ => rfl
          · simp only [if_neg (fun e => hz ((D_len0 _).1 e)), if_neg hz]
            exact Ev.bind (natDigits_ev (by omega) (dg_all hd)) (Ev.bind (fracC_ev ((val_lim (dg_all hd)).mono (show _ ≤ 400 by omega)) ((val_lim (dg_all hd')).mono (by omega)) (by omega) neg) (now fun _ => rfl))
        · simp only [if_neg (show ¬ (((46 : UInt8).toNat : Nat) : Int) = 47 by decide)]
          rw [if_neg (by decide)]
          have := fl1_ev neg hd hd' (by omega) t'.length 0 (by omega)
          exact Ev.bind (natOfN_ev (n := 1) (by omega)) this
      · rw [if_neg hd']
        rw [Bool.not_eq_true] at hd'
        rw [hd']
        exact j4_syn _ _ _
    · rw [if_neg (show ¬ (dgs h = true ∧ dgs t' = true) from fun e => hd e.1)]
      rw [Bool.not_eq_true] at hd
      simp only [hd, Bool.false_eq_true, if_false]
      exact j4_syn _ _ _
theorem fl0_ev (neg : Bool) {t : List UInt8} {r : Bool × List Int × List Int × Int} (ht : t = [] ∨ ∃ t', t = 47 :: t' ∨ t = 46 :: t') : ∀ (h pre : List UInt8), h.all okc = true → pre.length + h.length + t.length ≤ 399 → Ev (fun k => credenceref1_FracParse.j3 k (B (pre ++ (h ++ t))) neg ((pre.length + h.length : Nat) : Int)) r → Ev (fun k => credenceref1_FracParse.l0 k (B (pre ++ (h ++ t))) neg (pre.length : Int)) r
  | [], pre, _, hl, e => by
    rw [List.nil_append] at e ⊢
    have hs : (B (pre ++ t)).size = pre.length + t.length := by rw [B_size]; simp
    refine suc ?_
    rcases ht with rfl | ⟨t', rfl | rfl⟩
    · rw [List.length_nil] at hs
      simp (disch := omega) only [credenceref1_FracParse.l0, if_neg]
      exact e
    · rw [List.length_cons] at hs
      simp (disch := omega) only [credenceref1_FracParse.l0, if_pos, B_bt]
      rw [show (((47 : UInt8).toNat : Nat) : Int) = 47 from rfl]
      simp only [if_true]
      exact e
    · rw [List.length_cons] at hs
      simp (disch := omega) only [credenceref1_FracParse.l0, if_pos, B_bt]
      rw [show (((46 : UInt8).toNat : Nat) : Int) = 46 from rfl]
      simp only [if_true, if_neg (show ¬ (46 : Int) = 47 by decide)]
      exact e
  | c :: h, pre, ho, hl, e => by
    rw [List.all_cons, Bool.and_eq_true] at ho
    rw [List.length_cons] at hl e
    have hc : c ≠ 47 ∧ c ≠ 46 := by
      have := ho.1
      unfold okc at this
      rw [Bool.and_eq_true, bne_iff_ne, bne_iff_ne] at this
      exact this
    have n1 : ¬ ((c.toNat : Nat) : Int) = 47 := fun e => hc.1 (UInt8.toNat_inj.1 (show c.toNat = (47 : UInt8).toNat by have h8 : (47 : UInt8).toNat = 47 := rfl; omega))
    have n2 : ¬ ((c.toNat : Nat) : Int) = 46 := fun e => hc.2 (UInt8.toNat_inj.1 (show c.toNat = (46 : UInt8).toNat by have h8 : (46 : UInt8).toNat = 46 := rfl; omega))
    have hs : (B (pre ++ (c :: h ++ t))).size = pre.length + h.length + t.length + 1 := by rw [B_size]; simp; omega
    have ih := fl0_ev neg (r := r) ht h (pre ++ [c]) ho.2 (by simp; omega) (by
      rw [List.append_assoc, List.length_append]
      have : pre.length + [c].length + h.length = pre.length + (h.length + 1) := by simp; omega
      rw [this]
      exact e)
    rw [List.append_assoc, List.length_append] at ih
    have b1 : bt (B (pre ++ (c :: h ++ t))) (pre.length : Int) = (c.toNat : Int) := B_bt
    refine suc ?_
    simp (disch := omega) only [credenceref1_FracParse.l0, if_pos, b1, if_neg n1, if_neg n2, w64]
    exact ih
theorem fracB_ev (neg : Bool) {h t : List UInt8} (ho : h.all okc = true) (hl : h.length + t.length ≤ 399) (ht : t = [] ∨ ∃ t', t = 47 :: t' ∨ t = 46 :: t') (hn : neg = false → ∀ u, h ++ t ≠ 45 :: u) : Ev (fun k => credenceref1_FracParse.f k (B (sgnT neg ++ (h ++ t)))) (resO neg h t) := by
  have key : Ev (fun k => credenceref1_FracParse.j1 k (B (h ++ t)) neg) (resO neg h t) := by
    refine suc ?_
    simp only [credenceref1_FracParse.j1]
    have := fl0_ev neg (r := resO neg h t) ht h [] ho (by simpa using hl) (by
      rw [List.nil_append, List.length_nil, Nat.zero_add]
      exact fj3_ev neg hl ht)
    rw [List.nil_append] at this
    exact this
  have hL : (h ++ t).length ≤ 399 := by rw [List.length_append]; exact hl
  cases neg with
  | true =>
    show Ev (fun k => credenceref1_FracParse.f k (B (45 :: (h ++ t)))) _
    have hs : (B (45 :: (h ++ t))).size = (h ++ t).length + 1 := by rw [B_size]; rfl
    have b0 : (bt (B (45 :: (h ++ t))) 0 == 45) = true := by rw [B_bt0]; rfl
    simp (disch := omega) only [credenceref1_FracParse.f, if_neg, if_pos, b0]
    refine suc ?_
    simp (disch := omega) only [credenceref1_FracParse.j0, if_true, if_pos, B_drop]
    exact key
  | false =>
    show Ev (fun k => credenceref1_FracParse.f k (B (h ++ t))) _
    have hn := hn rfl
    have j0 : Ev (fun k => credenceref1_FracParse.j0 k (B (h ++ t)) false) (resO false h t) := by
      refine suc ?_
      simp only [credenceref1_FracParse.j0, Bool.false_eq_true, if_false]
      exact key
    generalize h ++ t = l at *
    cases l with
    | nil => 
      simp only [credenceref1_FracParse.f]
      simp (disch := (rw [B_size]; simp)) only [if_neg]
      exact j0
    | cons c u =>
      have hs : (B (c :: u)).size = u.length + 1 := by rw [B_size]; rfl
      rw [List.length_cons] at hL
      have hc : c ≠ 45 := fun e => hn u (by rw [e])
      have b0 : (bt (B (c :: u)) 0 == 45) = false := by
        rw [B_bt0, beq_eq_false_iff_ne]
        intro e
        exact hc (UInt8.toNat_inj.1 (show c.toNat = (45 : UInt8).toNat by have h8 : (45 : UInt8).toNat = 45 := rfl; omega))
      simp (disch := omega) only [credenceref1_FracParse.f, if_neg, if_pos, b0]
      exact j0
end Go.Proofs.YtoeldfopjalpkaaDoor.Spec
set_option linter.unusedSimpArgs false
set_option linter.unusedVariables false
namespace Go.Proofs.YtoeldfopjalpkaaDoor.Spec
open Go.RowKit Go.Proofs.YtoeldfopjalpkaaDoorW.PrintWords Go.Proofs.YtoeldfopjalpkaaDoorW.PrintLast Go.Proofs.YtoeldfopjalpkaaDoorW.PrintMore Go.Proofs.YtoeldfopjalpkaaDoor.Q Go.Proofs.YtoeldfopjalpkaaDoor.Nums

/-- A digit's byte. -/
def by8 (n : Int) : UInt8 := UInt8.ofNat n.toNat
theorem by8_nat {n : Int} (h0 : 48 ≤ n) (h1 : n ≤ 57) : ((by8 n).toNat : Int) = n := by
  unfold by8
  rw [UInt8.toNat_ofNat']
  omega
/-- The digits of a number. -/
def dgt (n : Nat) : List UInt8 := (txt (n : Int)).data.toList
theorem dgt_B (n : Nat) : txt (n : Int) = B (dgt n) := rfl
theorem dgt_zero : dgt 0 = [48] := rfl
theorem dgt_pos {n : Nat} (h : 0 < n) : dgt n = (rd10 (n : Int)).reverse.map by8 := by
  unfold dgt txt
  rw [if_pos (by omega)]
  rfl
theorem rdd : ∀ v : Int, 0 ≤ v → ((rd10 v).reverse.map by8).all isD = true ∧ lval 0 ((rd10 v).reverse.map by8) = v := by
  intro v hv
  by_cases h : 0 < v
  · obtain ⟨i1, i2⟩ := rdd (v / 10) (by omega)
    have hb := by8_nat (n := 48 + v % 10) (by omega) (by omega)
    rw [rd10_pos h, List.reverse_cons, List.map_append]
    refine ⟨?_, ?_⟩
    · rw [List.all_append, i1, Bool.true_and]
      show (isD (by8 (48 + v % 10)) && true) = true
      rw [Bool.and_true]
      exact decide_eq_true (by omega)
    · rw [lval_append, i2]
      show 10 * (v / 10) + (((by8 (48 + v % 10)).toNat : Int) - 48) = v
      omega
  · rw [rd10_zero h]
    exact ⟨rfl, by show (0 : Int) = v; omega⟩
termination_by v => v.toNat
decreasing_by omega
theorem dgt_dgs (n : Nat) : dgs (dgt n) = true := by
  by_cases h : 0 < n
  · rw [dgt_pos h]
    unfold dgs
    rw [(rdd (n : Int) (by omega)).1, rd10_pos (by omega)]
    simp
  · obtain rfl : n = 0 := by omega
    rw [dgt_zero]; decide
theorem dgt_val (n : Nat) : val (dgt n) = n := by
  by_cases h : 0 < n
  · unfold val
    rw [dgt_pos h, (rdd (n : Int) (by omega)).2]
    omega
  · obtain rfl : n = 0 := by omega
    rw [dgt_zero]; decide
theorem dgt_len {n k : Nat} (h : (n : Int) < 10 ^ k) : (dgt n).length ≤ k + 1 := by
  by_cases h0 : 0 < n
  · rw [dgt_pos h0, List.length_map, List.length_reverse]
    have := rd10_len h
    omega
  · obtain rfl : n = 0 := by omega
    rw [dgt_zero]; simp
theorem Lim.ten {n : Nat} (h : Lim 8 (n : Int)) : (n : Int) < 10 ^ 78 := Int.lt_of_lt_of_le h.2 (by decide)
theorem formatN_ev {n : Nat} (h : Lim 8 (n : Int)) : Ev (fun k => bignat_Format.f k (D (n : Int))) (B (dgt n)) := by
  have := format_ev (D_U (n : Int)) (h.small (by omega)).big (by rw [V_D _ (by omega)]; have := rd10_len h.ten; omega)
  rw [V_D _ (by omega), dgt_B] at this
  exact this
theorem nformatN_ev {n : Nat} (h : Lim 8 (n : Int)) : Ev (fun k => credenceref1_NatFormat.f k (D (n : Int))) (B (dgt n)) := by
  have := nformat_ev (D_U (n : Int)) (h.small (by omega)) (by rw [V_D _ (by omega)]; have := rd10_len h.ten; omega)
  rw [V_D _ (by omega), dgt_B] at this
  exact this
/-- What stands behind the numerator. -/
def tailT (d : Nat) : List UInt8 := if d = 1 then [] else 47 :: dgt d
/-- The text of a rational number. -/
def fmtT (q : Rat) : List UInt8 := sgnT (decide (q.num < 0)) ++ (dgt q.num.natAbs ++ tailT q.den)
theorem m45 (l : List UInt8) : (⟨#[45]⟩ : ByteArray) ++ B l = B (45 :: l) := B_append [45] l
theorem m47 (l : List UInt8) : (⟨#[47]⟩ : ByteArray) ++ B l = B (47 :: l) := B_append [47] l
theorem p47 (l : List UInt8) : B l ++ (⟨#[47]⟩ : ByteArray) = B (l ++ [47]) := B_append l [47]
theorem formatC_ev {q : Rat} (h : Sz 8 q) {s : Bool} {a b : List Int} (hn : Ev (fun k => rational_Normalize.f k s a b) (C q)) : Ev (fun k => rational_Format.f k s a b) (B (fmtT q)) := by
  have e1 := formatN_ev h.1
  have e2 := formatN_ev h.2
  have l1 := dgt_len h.1.ten
  have l2 := dgt_len h.2.ten
  simp only [rational_Format.f]
  refine Ev.bind hn (Ev.bind e1 ?_)
  unfold fmtT tailT
  have d1 := one_D (den_pos q)
  have g1 : (C q).1 = decide (q.num < 0) := rfl
  have g2 : (C q).2.2 = D (q.den : Int) := rfl
  rw [g1, g2]
  generalize dgt q.num.natAbs = u at *
  generalize D (q.den : Int) = d at *
  rcases d1 with ⟨h1, rfl⟩ | ⟨h1, h2⟩
  · rw [if_pos h1, List.append_nil]
    cases decide (q.num < 0)
    · simp only [Bool.false_eq_true, if_false, sgnT, List.nil_append, show ¬ (([1] : List Int).length : Int) > 1 by decide, show (0 : Int) < (([1] : List Int).length : Int) by decide, if_true, show rd [1] 0 = 1 from rfl]
      exact now fun _ => rfl
    · simp only [if_true, sgnT, show ¬ (([1] : List Int).length : Int) > 1 by decide, if_false, show (0 : Int) < (([1] : List Int).length : Int) by decide, show rd [1] 0 = 1 from rfl, B_size, if_pos (show 1 + u.length ≤ 9223372036854775807 by omega), m45]
      exact now fun _ => rfl
  · rw [if_neg h1]
    generalize dgt q.den = v at *
    have z : ∀ x : List UInt8, x.length ≤ 100 → (if 1 + v.length ≤ 9223372036854775807 then (if x.length + (47 :: v).length ≤ 9223372036854775807 then some (B (x ++ 47 :: v)) else none) else none) = some (B (x ++ 47 :: v)) := fun x hx => by
      rw [if_pos (by omega), if_pos (by rw [List.length_cons]; omega)]
    cases decide (q.num < 0)
    · simp only [Bool.false_eq_true, if_false, sgnT, List.nil_append]
      rcases h2 with h2 | ⟨h2, h3⟩
      · simp only [if_pos (show (d.length : Int) > 1 by omega)]
        refine Ev.bind e2 ?_
        simp only [B_size, m47, B_append, z u (by omega)]
        exact now fun _ => rfl
      · simp only [if_neg (show ¬ (d.length : Int) > 1 by omega), if_pos (show (0 : Int) < (d.length : Int) by omega), if_neg h3]
        refine Ev.bind e2 ?_
        simp only [B_size, m47, B_append, z u (by omega)]
        exact now fun _ => rfl
    · simp only [if_true, sgnT, B_size, if_pos (show 1 + u.length ≤ 9223372036854775807 by omega), m45]
      rcases h2 with h2 | ⟨h2, h3⟩
      · simp only [if_pos (show (d.length : Int) > 1 by omega)]
        refine Ev.bind e2 ?_
        simp only [B_size, m47, B_append, z (45 :: u) (by rw [List.length_cons]; omega)]
        exact now fun _ => rfl
      · simp only [if_neg (show ¬ (d.length : Int) > 1 by omega), if_pos (show (0 : Int) < (d.length : Int) by omega), if_neg h3]
        refine Ev.bind e2 ?_
        simp only [B_size, m47, B_append, z (45 :: u) (by rw [List.length_cons]; omega)]
        exact now fun _ => rfl
theorem fformatC_ev {q : Rat} (h : Sz 8 q) {s : Bool} {a b : List Int} (hn : Ev (fun k => credenceref1_frac.f k s a b) (C q)) : Ev (fun k => credenceref1_FracFormat.f k s a b) (B (fmtT q)) := by
  have e1 := nformatN_ev h.1
  have e2 := nformatN_ev h.2
  have l1 := dgt_len h.1.ten
  have l2 := dgt_len h.2.ten
  have ec := ncmp_ev (D_U (q.den : Int)) (D_U ((1 : Nat) : Int)) (h.2.small (by omega)).big ((one_lim (k := 1) (by omega)).small (by omega)).big
  rw [V_D _ (by omega), V_D _ (by omega)] at ec
  have en : Ev (fun k => credenceref1_FracNorm.f k s a b) (C q) := by
    simp only [credenceref1_FracNorm.f]
    exact Ev.bind hn (now fun _ => rfl)
  have J : ∀ (x : List UInt8) (s' : Bool) (n' : List Int), x.length ≤ 100 → Ev (fun k => credenceref1_FracFormat.j0 k (B x) s' n' (D (q.den : Int))) (B (x ++ tailT q.den)) := fun x s' n' hx => by
    refine suc ?_
    simp only [credenceref1_FracFormat.j0]
    refine Ev.bind (natOfN_ev (n := 1) (by omega)) (Ev.bind ec ?_)
    unfold tailT
    by_cases h1 : q.den = 1
    · rw [cmpI_eq (by omega), if_pos h1, List.append_nil]
      simp only [if_true]
      exact now fun _ => rfl
    · have hc : ¬ cmpI (q.den : Int) ((1 : Nat) : Int) = 0 := by
        have := den_pos q
        rw [cmpI_gt (by omega)]; decide
      rw [if_neg h1]
      simp only [if_neg hc, B_size, if_pos (show x.length + 1 ≤ 9223372036854775807 by omega), p47]
      refine Ev.bind e2 ?_
      simp only [B_size, List.length_append, List.length_singleton, if_pos (show x.length + 1 + (dgt q.den).length ≤ 9223372036854775807 by omega), B_append]
      rw [show x ++ [47] ++ dgt q.den = x ++ 47 :: dgt q.den by simp]
      exact now fun _ => rfl
  simp only [credenceref1_FracFormat.f]
  refine Ev.bind en (Ev.bind e1 ?_)
  have g1 : (C q).1 = decide (q.num < 0) := rfl
  have g2 : (C q).2.2 = D (q.den : Int) := rfl
  unfold fmtT
  rw [g1, g2]
  cases decide (q.num < 0)
  · simp only [Bool.false_eq_true, if_false, sgnT, List.nil_append]
    exact J _ _ _ (by omega)
  · simp only [if_true, sgnT, B_size, if_pos (show 1 + (dgt q.num.natAbs).length ≤ 9223372036854775807 by omega), m45]
    exact J (45 :: dgt q.num.natAbs) _ _ (by rw [List.length_cons]; omega)
theorem isD_ok {c : UInt8} (h : isD c = true) : okc c = true := by
  have := of_decide_eq_true h
  unfold okc
  rw [Bool.and_eq_true, bne_iff_ne, bne_iff_ne]
  exact ⟨fun e => by rw [e, show (47 : UInt8).toNat = 47 from rfl] at this; omega, fun e => by rw [e, show (46 : UInt8).toNat = 46 from rfl] at this; omega⟩
theorem all_ok {l : List UInt8} (h : l.all isD = true) : l.all okc = true := List.all_eq_true.2 fun c hc => isD_ok (List.all_eq_true.1 h c hc)
theorem dgs_min {l t : List UInt8} (h : dgs l = true) : ∀ u, l ++ t ≠ 45 :: u := fun u e => by
  cases l with
  | nil => exact absurd h (by decide)
  | cons c l =>
    have h1 := dg_all h
    rw [List.all_cons, Bool.and_eq_true] at h1
    have h2 := of_decide_eq_true h1.1
    rw [List.cons_append] at e
    rw [(List.cons.inj e).1, show (45 : UInt8).toNat = 45 from rfl] at h2
    omega
/-- What is written is read again. -/
theorem back_ev {q : Rat} (h : Sz 8 q) : Ev (fun k => rational_Parse.f k (B (fmtT q))) (okO q) := by
  have l1 := dgt_len h.1.ten
  have l2 := dgt_len h.2.ten
  have d1 := dgt_dgs q.num.natAbs
  have d2 := dgt_dgs q.den
  have key : resO (decide (q.num < 0)) (dgt q.num.natAbs) (tailT q.den) = okO q := by
    unfold tailT
    by_cases h1 : q.den = 1
    · rw [if_pos h1, resO_nil, if_pos d1, dgt_val, ← h1, mk_self]
    · have := den_pos q
      rw [if_neg h1, resO_cons, if_pos ⟨d1, d2⟩, if_pos rfl, dgt_val, dgt_val, if_neg (by omega), mk_self]
  rw [← key]
  have ht : tailT q.den = [] ∨ ∃ t', tailT q.den = 47 :: t' ∨ tailT q.den = 46 :: t' := by
    unfold tailT
    split
    · exact .inl rfl
    · exact .inr ⟨_, .inl rfl⟩
  have lt : (tailT q.den).length ≤ 80 := by
    unfold tailT
    split
    · simp
    · rw [List.length_cons]; omega
  exact parseB_ev _ (all_ok (dg_all d1)) (by omega) ht (fun _ => dgs_min d1)
/-- The answers are short. -/
theorem resO_big (neg : Bool) {h t : List UInt8} (hl : h.length + t.length ≤ 399) : (resO neg h t).2.1.length ≤ 1048576 ∧ (resO neg h t).2.2.1.length ≤ 1048576 := by
  have ok : ∀ q : Rat, Sz 400 q → (okO q).2.1.length ≤ 1048576 ∧ (okO q).2.2.1.length ≤ 1048576 := fun q hq => ⟨hq.1.bigD (by omega), hq.2.bigD (by omega)⟩
  have syn : synO.2.1.length ≤ 1048576 ∧ synO.2.2.1.length ≤ 1048576 := ⟨by decide, by decide⟩
  cases t with
  | nil =>
    rw [List.length_nil] at hl
    rw [resO_nil]
    split
    · rename_i hd
      exact ok _ (mk_sz _ (by omega) ((val_lim (dg_all hd)).mono (by omega)) (one_lim (by omega)))
    · exact syn
  | cons c t =>
    rw [List.length_cons] at hl
    rw [resO_cons]
    split
    · rename_i hd
      have ha : (h ++ t).all isD = true := by rw [List.all_append, dg_all hd.1, dg_all hd.2]; rfl
      have ln : (h ++ t).length ≤ 399 := by rw [List.length_append]; omega
      split
      · split
        · exact ⟨by simp, by simp⟩
        · exact ok _ (mk_sz _ (by omega) ((val_lim (dg_all hd.1)).mono (by omega)) ((val_lim (dg_all hd.2)).mono (by omega)))
      · exact ok _ (mk_sz _ (by omega) ((val_lim ha).mono (by omega)) ((ten_lim t.length).mono (by omega)))
    · exact syn
end Go.Proofs.YtoeldfopjalpkaaDoor.Spec
