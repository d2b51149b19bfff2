/- Lemmas for the proof of one law of this seat (Spec13). -/
import Derived.Test.YtoeldfopjalpkaaDoorZRationalListsSpec10
set_option linter.unusedSimpArgs false
set_option linter.unusedVariables false
namespace Go.Proofs.YtoeldfopjalpkaaDoor.Spec
open Go.RowKit Go.Proofs.YtoeldfopjalpkaaDoorW.PrintWords Go.Proofs.YtoeldfopjalpkaaDoorW.PrintLast Go.Proofs.YtoeldfopjalpkaaDoorW.PrintMore Go.Proofs.YtoeldfopjalpkaaDoor.Q Go.Proofs.YtoeldfopjalpkaaDoor.Nums

theorem D_len_mono' {n m : Int} (hm : 0 ≤ m) (h : n ≤ m) : (D n).length ≤ (D m).length := by
  rcases Nat.lt_or_ge (D m).length (D n).length with g | g
  · by_cases hn : 0 ≤ n
    · have := D_mono hn g; omega
    · rw [D_neg (by omega)]; simp
  · exact g
theorem or0 {x : Int} (h0 : 0 ≤ x) (h1 : x < 4294967296) : Go.bits .or .u64 0 (shl .u64 x 0) = x := by
  have e : shl .u64 x 0 = x := by
    have := (shl_eq (x := x) (s := 0) (by omega) h0 h1).1
    simpa using this
  rw [e]
  have := or64 (x := 0) (y := x) 32 (by omega) (by omega) (by omega) h0 (by omega) (by omega)
  omega
theorem or1 {c x : Int} (c0 : 0 ≤ c) (c1 : c < 4294967296) (h0 : 0 ≤ x) (h1 : x < 4294967296) : Go.bits .or .u64 c (shl .u64 x 32) = c + x * 4294967296 := by
  have e : shl .u64 x 32 = x * 4294967296 := by
    unfold shl
    rw [show min (32 : Int).toNat IntKind.u64.bits = 32 by decide, show (2 : Int) ^ 32 = 4294967296 by decide]
    exact u64w (by omega) (by omega)
  rw [e, or_comm64 c0 (by omega) (by omega) (by omega)]
  have := or_hi h0 h1 c0 c1
  omega
theorem uint64_ev {a : List Int} (ha : U a) (sa : Big a) (hl : (D (V a)).length ≤ 2) : Ev (fun k => bignat_Uint64.f k a) (V a, true) := by
  have h1 := V_nonneg ha
  simp only [bignat_Uint64.f]
  refine Ev.bind (trim_ev ha sa) ?_
  have hv := V_D (V a) h1
  have hu := D_U (V a)
  revert hl hv hu
  generalize D (V a) = d
  generalize V a = v
  intro hl hv hu
  match d, hl with
  | [], _ =>
    rw [V_nil] at hv
    subst hv
    simp (disch := omega) only [if_neg, List.length_nil]
    refine suc ?_
    simp (disch := omega) only [bignat_Uint64.l0, if_neg, List.length_nil]
    exact now fun _ => rfl
  | [x], _ =>
    obtain ⟨hx, _⟩ := U_cons.1 hu
    rw [V_cons, V_nil] at hv
    have e0 := or0 hx.1 hx.2
    have er : rd [x] 0 = x := rfl
    have ev : v = x := by omega
    subst ev
    have el : (([v] : List Int).length : Int) = 1 := rfl
    simp (disch := omega) only [if_neg, el]
    refine suc ?_
    simp (disch := omega) only [bignat_Uint64.l0, if_pos, el, er, u64w, w64, Int.mul_zero, e0]
    refine suc ?_
    simp (disch := omega) only [bignat_Uint64.l0, if_neg]
    exact now fun _ => rfl
  | [x, y], _ =>
    obtain ⟨hx, hy'⟩ := U_cons.1 hu
    obtain ⟨hy, _⟩ := U_cons.1 hy'
    rw [V_cons, V_cons, V_nil] at hv
    have e0 := or0 hx.1 hx.2
    have e1 := or1 hx.1 hx.2 hy.1 hy.2
    have er : rd [x, y] 0 = x := rfl
    have er1 : rd [x, y] 1 = y := rfl
    have ev : x + y * 4294967296 = v := by omega
    have el : (([x, y] : List Int).length : Int) = 2 := rfl
    have z1 : (0 : Int) + 1 = 1 := rfl
    have z2 : (32 : Int) * 1 = 32 := rfl
    simp (disch := omega) only [if_neg, el]
    refine suc ?_
    simp (disch := omega) only [bignat_Uint64.l0, if_pos, el, er, u64w, w64, Int.mul_zero, e0, z1]
    refine suc ?_
    simp (disch := omega) only [bignat_Uint64.l0, if_pos, el, er1, u64w, w64, z2, e1]
    refine suc ?_
    simp (disch := omega) only [bignat_Uint64.l0, if_neg]
    exact now fun _ => by rw [ev]
theorem gs_l : ∀ (y x : Nat), x < 18446744073709551616 → y < 18446744073709551616 → Ev (fun k => bignat_gcdSmall.l0 k (x : Int) (y : Int)) (D (Nat.gcd x y : Nat)) := by
  intro y
  induction y using Nat.strongRecOn with
  | ind y ih =>
    intro x hx hy
    by_cases h : y = 0
    · subst h
      refine suc ?_
      simp (disch := omega) only [bignat_gcdSmall.l0, if_pos, from_eq, Option.bind_some]
      rw [Nat.gcd_zero_right]
      exact now fun _ => rfl
    · have hlt := Nat.mod_lt x (show 0 < y by omega)
      have := ih (x % y) hlt y hy (by omega)
      have e : Int.tmod (x : Int) (y : Int) = ((x % y : Nat) : Int) := by
        rw [Int.tmod_eq_emod_of_nonneg (by omega)]; rfl
      refine suc ?_
      simp (disch := omega) only [bignat_gcdSmall.l0, if_neg, e]
      rw [Nat.gcd_comm x y, Nat.gcd_rec y x, Nat.gcd_comm (x % y) y]
      exact this
theorem D_two_lt {x : Nat} (h : (D (x : Int)).length ≤ 2) : x < 18446744073709551616 := by
  by_cases h0 : 0 < x
  · have h1 := (D_len (n := (x : Int)) (by omega)).2
    have h2 := pow_le h
    have : (4294967296 : Int) ^ 2 = 18446744073709551616 := by decide
    omega
  · omega
theorem gcdSmall_ev {x y : Nat} (hx : (D (x : Int)).length ≤ 2) (hy : (D (y : Int)).length ≤ 2) : Ev (fun k => bignat_gcdSmall.f k (D (x : Int)) (D (y : Int))) (D (Nat.gcd x y : Nat)) := by
  have bx : Big (D (x : Int)) := by unfold Big; omega
  have by' : Big (D (y : Int)) := by unfold Big; omega
  have h1 := uint64_ev (D_U (x : Int)) bx (by rw [V_D _ (by omega)]; exact hx)
  have h2 := uint64_ev (D_U (y : Int)) by' (by rw [V_D _ (by omega)]; exact hy)
  rw [V_D _ (by omega)] at h1 h2
  simp only [bignat_gcdSmall.f]
  exact Ev.bind h1 (Ev.bind h2 (gs_l y x (D_two_lt hx) (D_two_lt hy)))
theorem gcd_l : ∀ (y x : Nat), (D (x : Int)).length ≤ 1048576 → (D (y : Int)).length ≤ 1048576 → Ev (fun k => bignat_GCD.l0 k (D (x : Int)) (D (y : Int))) (D (Nat.gcd x y : Nat)) := by
  intro y
  induction y using Nat.strongRecOn with
  | ind y ih =>
    intro x hx hy
    by_cases h : y = 0
    · subst h
      refine suc ?_
      rw [Nat.gcd_zero_right, show D ((0 : Nat) : Int) = [] from D_zero]
      simp (disch := omega) only [bignat_GCD.l0, if_neg, List.length_nil]
      exact now fun _ => rfl
    · have hlt := Nat.mod_lt x (show 0 < y by omega)
      have hdl := D_length_pos (n := (y : Int)) (by omega)
      have hj : Ev (fun k => bignat_GCD.j1 k (D (x : Int)) (D (y : Int)) false) (D (Nat.gcd x y : Nat)) := by
        have hl := D_len_mono' (n := ((x % y : Nat) : Int)) (m := (y : Int)) (by omega) (by omega)
        have := ih (x % y) hlt y hy (by omega)
        have hd := divMod_ev (D_U (x : Int)) (D_U (y : Int)) hx (by unfold Big; omega)
        rw [V_D _ (by omega), V_D _ (by omega)] at hd
        refine suc ?_
        simp only [bignat_GCD.j1, Bool.false_eq_true, if_false]
        refine Ev.bind hd ?_
        have e : (divO (x : Int) (y : Int)).2.1 = D ((x % y : Nat) : Int) := by
          unfold divO
          rw [if_pos (by omega)]; rfl
        simp only [e]
        rw [Nat.gcd_comm x y, Nat.gcd_rec y x, Nat.gcd_comm (x % y) y]
        exact this
      refine suc ?_
      simp (disch := omega) only [bignat_GCD.l0, if_pos]
      by_cases h1 : (D (x : Int)).length ≤ 2
      · by_cases h2 : (D (y : Int)).length ≤ 2
        · have e : decide (((D (y : Int)).length : Int) ≤ 2) = true := decide_eq_true (by omega)
          simp (disch := omega) only [if_pos, e]
          refine suc ?_
          simp only [bignat_GCD.j1, if_true]
          exact Ev.bind (gcdSmall_ev h1 h2) (now fun _ => rfl)
        · have e : decide (((D (y : Int)).length : Int) ≤ 2) = false := decide_eq_false (by omega)
          simp (disch := omega) only [if_pos, e]
          exact hj
      · simp (disch := omega) only [if_neg]
        exact hj
theorem gcd_ev {a b : List Int} (ha : U a) (hb : U b) (sa : a.length ≤ 1048576) (sb : b.length ≤ 1048576) {x y : Nat} (hx : V a = (x : Int)) (hy : V b = (y : Int)) : Ev (fun k => bignat_GCD.f k a b) (D (Nat.gcd x y : Nat)) := by
  have ba : Big a := by unfold Big; omega
  have bb : Big b := by unfold Big; omega
  have h1 := clone_ev ha ba
  have h2 := clone_ev hb bb
  have l1 := D_short ha
  have l2 := D_short hb
  rw [hx] at h1 l1
  rw [hy] at h2 l2
  simp only [bignat_GCD.f]
  exact Ev.bind h1 (Ev.bind h2 (gcd_l y x (by omega) (by omega)))
end Go.Proofs.YtoeldfopjalpkaaDoor.Spec
set_option linter.unusedSimpArgs false
set_option linter.unusedVariables false
namespace Go.Proofs.YtoeldfopjalpkaaDoor.Spec
open Go.RowKit Go.Proofs.YtoeldfopjalpkaaDoorW.PrintWords Go.Proofs.YtoeldfopjalpkaaDoorW.PrintLast Go.Proofs.YtoeldfopjalpkaaDoorW.PrintMore Go.Proofs.YtoeldfopjalpkaaDoor.Q Go.Proofs.YtoeldfopjalpkaaDoor.Nums

theorem V_snoc (o : List Int) (e : Int) : V (o ++ [e]) = V o + 4294967296 ^ o.length * e := by
  rw [V_append, V_cons, V_nil, Int.mul_zero, Int.add_zero]
theorem U_snoc' {o : List Int} (h : U o) {e : Int} (h0 : 0 ≤ e) (h1 : e < 4294967296) : U (o ++ [e]) := U_append.2 ⟨h, U_cons.2 ⟨⟨h0, h1⟩, U_nil⟩⟩
theorem or_comm32 {x y : Int} (hx0 : 0 ≤ x) (hx1 : x < 4294967296) (hy0 : 0 ≤ y) (hy1 : y < 4294967296) : Go.bits .or .u32 x y = Go.bits .or .u32 y x := by
  obtain ⟨a, rfl⟩ := Int.eq_ofNat_of_zero_le hx0
  obtain ⟨b, rfl⟩ := Int.eq_ofNat_of_zero_le hy0
  rw [(bits_nat .u32 32 (by decide) wraps_u32 a b (by omega) (by omega)).2, (bits_nat .u32 32 (by decide) wraps_u32 b a (by omega) (by omega)).2, Nat.or_comm]
theorem dbl_l {a : List Int} (ha : U a) (sa : Small a) (t : Int) : ∀ (n i : Nat) (o : List Int) (c : Int), i + n = a.length → o.length = i → U o → 0 ≤ c → c ≤ 1 →
    V o + 4294967296 ^ i * (2 * V (a.drop i) + c) = t → Ev (fun k => credenceref1_double.l0 k a c o (i : Int)) (D t) := by
  unfold Small at sa
  intro n
  induction n with
  | zero =>
    intro i o c hi ho uo c0 c1 h
    rw [List.drop_of_length_le (by omega), V_nil, Int.mul_zero, Int.zero_add] at h
    have hv := V_snoc o c
    rw [ho, h] at hv
    have hn := norm_ev (U_snoc' uo c0 (by omega)) (by unfold Big; simp; omega)
    rw [hv] at hn
    refine suc ?_
    simp (disch := omega) only [credenceref1_double.l0, if_neg, if_pos]
    exact Ev.bind hn (now fun _ => rfl)
  | succ n ih =>
    intro i o c hi ho uo c0 c1 h
    have da := U_getD ha i
    have hor := or32 (x := a.getD i 0 * 2 % 4294967296) (y := c) 1 (by omega) (by omega) (by omega) c0 (by omega) (by omega)
    refine suc ?_
    simp (disch := omega) only [credenceref1_double.l0, if_pos, rd_nat, hor, w64]
    refine ih (i + 1) _ _ (by omega) (by simp; omega) (U_snoc' uo (by omega) (by omega)) (by omega) (by omega) ?_
    rw [V_snoc, ho, pow_succ', ← h, V_drop_step (show i < a.length by omega), Int.mul_comm 4294967296 (4294967296 ^ i), Int.mul_assoc, Int.add_assoc, ← Int.mul_add]
    congr 2
    omega
theorem double_ev {x : Int} (hx : 0 ≤ x) (sx : Small (D x)) {b : Int} (b0 : 0 ≤ b) (b1 : b ≤ 1) : Ev (fun k => credenceref1_double.f k (D x) b) (D (2 * x + b)) := by
  simp only [credenceref1_double.f]
  exact dbl_l (D_U x) sx _ (D x).length 0 [] b (by omega) rfl U_nil b0 b1 (by rw [V_nil, Int.pow_zero, Int.one_mul, List.drop_zero, V_D x hx]; omega)
theorem half_l {a : List Int} (ha : U a) (sa : Small a) (t : Int) : ∀ (n i : Nat) (o : List Int), i + n = a.length → o.length = i → U o →
    V o + 4294967296 ^ i * (V (a.drop i) / 2) = t → Ev (fun k => credenceref1_half.l0 k a o (i : Int)) (D t) := by
  unfold Small at sa
  intro n
  induction n with
  | zero =>
    intro i o hi ho uo h
    rw [List.drop_of_length_le (by omega), V_nil, Int.zero_ediv, Int.mul_zero, Int.add_zero] at h
    have hn := norm_ev uo (by unfold Big; omega)
    rw [h] at hn
    refine suc ?_
    simp (disch := omega) only [credenceref1_half.l0, if_neg, if_pos]
    exact Ev.bind hn (now fun _ => rfl)
  | succ n ih =>
    intro i o hi ho uo h
    have da := U_getD ha i
    have hW := V_nonneg (U_drop ha (i + 1))
    have hs := V_drop_step (show i < a.length by omega)
    by_cases hl : i + 1 < a.length
    · have db := U_getD ha (i + 1)
      have hs2 := V_drop_step hl
      have hW2 := V_nonneg (U_drop ha (i + 1 + 1))
      have e1 : (i : Int) + 1 = ((i + 1 : Nat) : Int) := by omega
      have hor := or32 (x := a.getD (i + 1) 0 * 2147483648 % 4294967296) (y := a.getD i 0 / 2) 31 (by omega) (by omega) (by omega) (by omega) (by omega) (by omega)
      rw [or_comm32 (by omega) (by omega) (by omega) (by omega)] at hor
      refine suc ?_
      simp (disch := omega) only [credenceref1_half.l0, if_pos, w64, e1, rd_nat, hor]
      refine ih (i + 1) _ (by omega) (by simp; omega) (U_snoc' uo (by omega) (by omega)) ?_
      rw [V_snoc, ho, pow_succ', ← h, Int.mul_comm 4294967296 (4294967296 ^ i), Int.mul_assoc, Int.add_assoc, ← Int.mul_add]
      congr 2
      omega
    · have e1 : (i : Int) + 1 = ((i + 1 : Nat) : Int) := by omega
      have hz : V (a.drop (i + 1)) = 0 := by rw [List.drop_of_length_le (by omega), V_nil]
      refine suc ?_
      simp (disch := omega) only [credenceref1_half.l0, if_pos, if_neg, w64, e1, rd_nat]
      refine ih (i + 1) _ (by omega) (by simp; omega) (U_snoc' uo (by omega) (by omega)) ?_
      rw [V_snoc, ho, pow_succ', ← h, Int.mul_comm 4294967296 (4294967296 ^ i), Int.mul_assoc, Int.add_assoc, ← Int.mul_add]
      congr 2
      omega
theorem half_ev {x : Int} (hx : 0 ≤ x) (sx : Small (D x)) : Ev (fun k => credenceref1_half.f k (D x)) (D (x / 2)) := by
  simp only [credenceref1_half.f]
  exact half_l (D_U x) sx _ (D x).length 0 [] (by omega) rfl U_nil (by rw [V_nil, Int.pow_zero, Int.one_mul, List.drop_zero, V_D x hx]; omega)
end Go.Proofs.YtoeldfopjalpkaaDoor.Spec
set_option linter.unusedSimpArgs false
set_option linter.unusedVariables false
namespace Go.Proofs.YtoeldfopjalpkaaDoor.Spec
open Go.RowKit Go.Proofs.YtoeldfopjalpkaaDoorW.PrintWords Go.Proofs.YtoeldfopjalpkaaDoorW.PrintLast Go.Proofs.YtoeldfopjalpkaaDoorW.PrintMore Go.Proofs.YtoeldfopjalpkaaDoor.Q Go.Proofs.YtoeldfopjalpkaaDoor.Nums

theorem V_at {xs : List Int} (h : U xs) {j : Nat} (hj : j < xs.length) : xs.getD j 0 = V xs / 4294967296 ^ j % 4294967296 := by
  have h1 := V_split xs j (by omega)
  have h2 := V_drop_step hj
  have h3 := V_nonneg (U_take h j)
  have h4 := V_lt (U_take h j)
  rw [List.length_take, Nat.min_eq_left (by omega)] at h4
  have hd := U_getD h j
  have e : V xs / 4294967296 ^ j = V (xs.drop j) := by
    rw [h1, Int.add_mul_ediv_left _ _ (by have := pow_pos j; omega), Int.ediv_eq_zero_of_lt h3 h4, Int.zero_add]
  rw [e]
  omega
theorem p31 {s : Nat} (hs : s ≤ 31) : (4294967296 : Int) = 2 ^ s * (2 * 2 ^ (31 - s)) := by
  rw [← Int.mul_assoc, Int.mul_comm _ 2, Int.mul_assoc, ← Int.pow_add, show s + (31 - s) = 31 by omega]
  decide
theorem bit_mod {w : Int} {s : Nat} (hs : s ≤ 31) : w % 4294967296 / 2 ^ s % 2 = w / 2 ^ s % 2 := by
  have hp := two_pos s
  have h := Int.emod_add_mul_ediv w 4294967296
  have e : w / 2 ^ s = w % 4294967296 / 2 ^ s + 2 * (2 ^ (31 - s) * (w / 4294967296)) := by
    conv => lhs; rw [← h]
    conv => lhs; rw [show (4294967296 : Int) * (w / 4294967296) = 2 ^ s * (2 * 2 ^ (31 - s)) * (w / 4294967296) by rw [← p31 hs]]
    rw [Int.mul_assoc, Int.add_mul_ediv_left _ _ (by omega), Int.mul_assoc]
  rw [e]
  omega
theorem and1u {x : Int} (h0 : 0 ≤ x) (h1 : x < 4294967296) : Go.bits .and .u32 x 1 = x % 2 := by
  have := bits_mask .u32 32 (by decide) wraps_u32 1 (by decide) x h0 (by omega)
  simpa using this
theorem shr32 {x : Int} {s : Nat} (hs : s ≤ 31) : shr .u32 x (s : Int) = x / 2 ^ s := by
  unfold shr
  rw [show min (s : Int).toNat IntKind.u32.bits = s by simp [IntKind.bits]; omega]
theorem p2_lt {s : Nat} (hs : s ≤ 31) : (2 : Int) ^ s < 4294967296 := by
  have := pow2_le (show s ≤ 31 from hs)
  have : (2 : Int) ^ 31 = 2147483648 := by decide
  omega
theorem shl32 {s : Nat} (hs : s ≤ 31) : shl .u32 1 (s : Int) = 2 ^ s := by
  unfold shl
  rw [show min (s : Int).toNat IntKind.u32.bits = s by simp [IntKind.bits]; omega, Int.one_mul]
  exact wraps_u32 _ (Int.le_of_lt (two_pos s)) (p2_lt hs)
/-- The bit that the loop reads. -/
theorem bit_at {xs : List Int} (h : U xs) {j s : Nat} (hj : j < xs.length) (hs : s ≤ 31) :
    Go.bits .and .u32 (shr .u32 (xs.getD j 0) (s : Int)) 1 = V xs / 2 ^ (32 * j + s) % 2 := by
  have hd := U_getD h j
  have hp := two_pos s
  have hle : xs.getD j 0 / 2 ^ s ≤ xs.getD j 0 := Int.ediv_le_self _ hd.1
  have h0 : 0 ≤ xs.getD j 0 / 2 ^ s := Int.ediv_nonneg hd.1 (by omega)
  rw [shr32 hs, and1u h0 (by omega), V_at h hj, bit_mod hs, Int.pow_add, pow32, Int.ediv_ediv_of_nonneg (Int.le_of_lt (pow_pos j))]
/-- The bit that the loop sets. -/
theorem set_at {q : List Int} (h : U q) {j s : Nat} (hj : j < q.length) (hs : s ≤ 31) {Q : Int} (hq : V q = Q * 2 ^ (32 * j + s + 1)) :
    U (q.set j (Go.bits .or .u32 (q.getD j 0) (shl .u32 1 (s : Int)))) ∧ V (q.set j (Go.bits .or .u32 (q.getD j 0) (shl .u32 1 (s : Int)))) = V q + 2 ^ (32 * j + s) := by
  have hd := U_getD h j
  have hp := two_pos s
  have hp' := two_pos (31 - s)
  have hl := p2_lt hs
  have hB := pow_pos j
  have e : q.getD j 0 = 2 ^ s * (2 * (Q % 2 ^ (31 - s))) := by
    rw [V_at h hj, hq, Nat.add_assoc, Int.pow_add, pow32, Int.mul_left_comm, Int.mul_ediv_cancel_left _ (by omega), p31 hs, two_succ, Int.mul_comm Q, ← Int.mul_assoc (2 ^ s) 2, Int.mul_comm (2 ^ s) 2, Int.mul_emod_mul_of_pos _ _ (by omega)]
    rw [Int.mul_comm 2, Int.mul_assoc]
  have e1 : 2 ^ s * (2 * (Q % 2 ^ (31 - s))) % 2 ^ (s + 1) = 0 := by
    rw [← Int.mul_assoc, Int.mul_comm (2 ^ s) 2, ← two_succ]
    exact Int.mul_emod_right _ _
  have hor := or32 (x := q.getD j 0) (y := 2 ^ s) (s + 1) hd.1 (by rw [e]; exact e1) hd.2 (by omega) (by rw [two_succ]; omega) hl
  have hlt : q.getD j 0 + 2 ^ s < 4294967296 := by
    have hm := Int.emod_lt_of_pos Q hp'
    have h3 : 2 ^ s * (2 * (Q % 2 ^ (31 - s)) + 1) < 2 ^ s * (2 * 2 ^ (31 - s)) := Int.mul_lt_mul_of_pos_left (by omega) hp
    rw [← p31 hs, Int.mul_add, Int.mul_one, ← e] at h3
    exact h3
  rw [shl32 hs, hor]
  refine ⟨U_set h j (by omega) hlt, ?_⟩
  rw [V_set hj, Int.pow_add, pow32]
  congr 2
  omega
theorem dm_l {X Y : Int} (hX : 0 ≤ X) (hY : 0 < Y) (sX : (D X).length ≤ 1048576) (sY : (D Y).length ≤ 1048576) : ∀ (m : Nat) (q : List Int), m ≤ 32 * (D X).length → q.length = (D X).length → U q →
    V q = X / 2 ^ m / Y * 2 ^ m → Ev (fun k => credenceref1_NatDivMod.l0 k (D X) (D Y) q (D (X / 2 ^ m % Y)) ((m : Int) - 1)) (D (X / Y), D (X % Y), true) := by
  intro m
  induction m with
  | zero =>
    intro q hm hq uq h
    have h1 := norm_ev uq (by unfold Big; omega)
    have h2 := norm_ev (D_U (X % Y)) (by
      have := D_len_mono' (n := X % Y) (m := Y) (by omega) (Int.le_of_lt (Int.emod_lt_of_pos X hY))
      unfold Big; omega)
    rw [V_D _ (Int.emod_nonneg _ (by omega))] at h2
    rw [Int.pow_zero, Int.ediv_one, Int.mul_one] at h
    rw [h] at h1
    rw [Int.pow_zero, Int.ediv_one]
    refine suc ?_
    simp (disch := omega) only [credenceref1_NatDivMod.l0, if_neg]
    exact Ev.bind h1 (Ev.bind h2 (now fun _ => rfl))
  | succ m ih =>
    intro q hm hq uq h
    obtain ⟨j, s, hs, hms⟩ : ∃ j s : Nat, s ≤ 31 ∧ m = 32 * j + s := ⟨m / 32, m % 32, by omega, by omega⟩
    have hj : j < (D X).length := by omega
    have hbit := bit_at (D_U X) hj hs
    rw [V_D X hX, ← hms] at hbit
    have h2m := two_pos m
    have hA : X / 2 ^ m / 2 = X / 2 ^ (m + 1) := by
      rw [Int.ediv_ediv_of_nonneg (Int.le_of_lt h2m), two_succ, Int.mul_comm]
    have hA0 : 0 ≤ X / 2 ^ m := Int.ediv_nonneg hX (by omega)
    have hP := Int.emod_add_mul_ediv (X / 2 ^ (m + 1)) Y
    have hR0 := Int.emod_nonneg (X / 2 ^ (m + 1)) (show Y ≠ 0 by omega)
    have hR1 := Int.emod_lt_of_pos (X / 2 ^ (m + 1)) hY
    have hset := set_at uq (j := j) (s := s) (Q := X / 2 ^ (m + 1) / Y) (by omega) hs (by rw [← hms]; exact h)
    rw [← hms] at hset
    have hz : X / 2 ^ (m + 1) / Y * 2 ^ (m + 1) = 2 * (X / 2 ^ (m + 1) / Y) * 2 ^ m := by
      generalize X / 2 ^ (m + 1) / Y = z
      rw [two_succ, ← Int.mul_assoc, Int.mul_comm z 2]
    rw [hz] at h
    have e1 : wrap64 (Int.tdiv (((m + 1 : Nat) : Int) - 1) 32) = (j : Int) := by
      rw [show ((m + 1 : Nat) : Int) - 1 = (m : Int) by omega, Int.tdiv_eq_ediv_of_nonneg (by omega), w64 (by omega) (by omega)]; omega
    have e2 : IntKind.u64.wrap (Int.tmod (((m + 1 : Nat) : Int) - 1) 32) = (s : Int) := by
      rw [show ((m + 1 : Nat) : Int) - 1 = (m : Int) by omega, Int.tmod_eq_emod_of_nonneg (by omega), u64w (by omega) (by omega)]; omega
    have e3 : wrap64 (((m + 1 : Nat) : Int) - 1 - 1) = (m : Int) - 1 := by
      rw [show ((m + 1 : Nat) : Int) - 1 - 1 = (m : Int) - 1 by omega, w64 (by omega) (by omega)]
    generalize X / 2 ^ (m + 1) % Y = R at *
    generalize X / 2 ^ (m + 1) / Y = Qv at *
    have sR : (D R).length ≤ 1048576 := by
      have := D_len_mono' (n := R) (m := Y) (by omega) (by omega); omega
    have hdb := double_ev (x := R) hR0 (by unfold Small; omega) (b := X / 2 ^ m % 2) (by omega) (by omega)
    have hA2 : X / 2 ^ m = 2 * (R + Y * Qv) + X / 2 ^ m % 2 := by omega
    have sr : (D (2 * R + X / 2 ^ m % 2)).length ≤ 1048577 := by
      have h5 := D_len_mono' (n := 2 * R + X / 2 ^ m % 2) (m := 2 * Y) (by omega) (by omega)
      have h6 := (D_len hY).2
      have h7 := D_len_le (n := 2 * Y) (k := (D Y).length + 1) (by rw [pow_succ']; omega)
      omega
    have hb0 : 0 ≤ X / 2 ^ m % 2 := by omega
    generalize hrr : 2 * R + X / 2 ^ m % 2 = r at *
    have hr0 : 0 ≤ r := by omega
    have hc := ncmp_ev (D_U r) (D_U Y) (by unfold Big; omega) (by unfold Big; omega)
    have hsb := nsub_ev (D_U r) (D_U Y) (by unfold Small; omega) (by unfold Small; omega)
    rw [V_D r hr0, V_D Y (by omega)] at hc hsb
    have hA3 : X / 2 ^ m = r + Y * (2 * Qv) := by
      rw [hA2, Int.mul_add, Int.mul_left_comm]; omega
    refine suc ?_
    simp (disch := omega) only [credenceref1_NatDivMod.l0, if_pos, e1, e2, e3, rd_nat, hbit]
    refine Ev.bind hdb (Ev.bind hc ?_)
    by_cases hlt : r < Y
    · have hu := (Int.ediv_emod_unique (a := X / 2 ^ m) (r := r) (q := 2 * Qv) hY).2 ⟨hA3.symm, hr0, hlt⟩
      have hc0 : ¬ cmpI r Y ≥ 0 := by rw [cmpI_lt hlt]; omega
      simp only [if_neg hc0]
      have := ih q (by omega) hq uq (by rw [hu.1]; exact h)
      rw [hu.2] at this
      exact this
    · have hu := (Int.ediv_emod_unique (a := X / 2 ^ m) (r := r - Y) (q := 2 * Qv + 1) hY).2 ⟨by rw [hA3, Int.mul_add]; omega, by omega, by omega⟩
      have hc0 : cmpI r Y ≥ 0 := by have := cmpI_ge hlt; omega
      have hso : subO r Y = (D (r - Y), true) := by unfold subO; rw [if_neg hlt]
      rw [hso] at hsb
      simp only [if_pos hc0]
      refine Ev.bind hsb ?_
      simp (disch := omega) only [if_pos, Int.toNat_natCast]
      have := ih _ (by omega) (by rw [List.length_set]; exact hq) hset.1 (by rw [hset.2, hu.1, h, Int.add_mul, Int.one_mul])
      rw [hu.2] at this
      exact this
theorem natDivMod_ev {a b : List Int} (ha : U a) (hb : U b) (sa : a.length ≤ 1048576) (sb : b.length ≤ 1048576) : Ev (fun k => credenceref1_NatDivMod.f k a b) (divO (V a) (V b)) := by
  have va := V_nonneg ha
  have vb := V_nonneg hb
  have la := D_short ha
  have lb := D_short hb
  simp only [credenceref1_NatDivMod.f]
  refine Ev.bind (norm_ev ha (by unfold Big; omega)) (Ev.bind (norm_ev hb (by unfold Big; omega)) ?_)
  unfold divO
  by_cases h : 0 < V b
  · have := D_length_pos h
    have e : wrap64 (wrap64 (32 * ((D (V a)).length : Int)) - 1) = ((32 * (D (V a)).length : Nat) : Int) - 1 := by
      rw [w64 (n := 32 * ((D (V a)).length : Int)) (by omega) (by omega), w64 (by omega) (by omega)]; omega
    simp (disch := omega) only [if_neg, if_pos h, if_pos, Int.toNat_natCast, e]
    have hlt : V a / 2 ^ (32 * (D (V a)).length) = 0 := Int.ediv_eq_zero_of_lt va (by
      rw [pow32]
      by_cases g : 0 < V a
      · exact (D_len g).2
      · have : V a = 0 := by omega
        rw [this]; exact pow_pos _)
    have hz : D 0 = [] := D_zero
    have := dm_l va h (by omega) (by omega) (32 * (D (V a)).length) (List.replicate (D (V a)).length 0) (Nat.le_refl _) List.length_replicate (U_replicate _) (by rw [V_replicate, hlt, Int.zero_ediv, Int.zero_mul])
    rw [hlt, Int.zero_emod, hz] at this
    exact this
  · have e : D (V b) = [] := D_neg h
    rw [e]
    simp only [List.length_nil, if_neg h]
    exact now fun _ => rfl
end Go.Proofs.YtoeldfopjalpkaaDoor.Spec
set_option linter.unusedSimpArgs false
set_option linter.unusedVariables false
namespace Go.Proofs.YtoeldfopjalpkaaDoor.Spec
open Go.RowKit Go.Proofs.YtoeldfopjalpkaaDoorW.PrintWords Go.Proofs.YtoeldfopjalpkaaDoorW.PrintLast Go.Proofs.YtoeldfopjalpkaaDoorW.PrintMore Go.Proofs.YtoeldfopjalpkaaDoor.Q Go.Proofs.YtoeldfopjalpkaaDoor.Nums

theorem odd_at {x : Nat} (h : 0 < x) : Go.bits .and .u32 (rd (D (x : Int)) 0) 1 = ((x % 2 : Nat) : Int) := by
  rw [D_pos (show (0 : Int) < x by omega)]
  rw [show rd ((x : Int) % 4294967296 :: D ((x : Int) / 4294967296)) 0 = (x : Int) % 4294967296 from rfl, and1u (by omega) (by omega)]
  omega
theorem pos_at {x : Nat} (h : 0 < x) : 0 < ((D (x : Int)).length : Int) := by
  have := D_length_pos (n := (x : Int)) (by omega); omega
theorem shift_lt {g sh G : Nat} (hg : 0 < g) (h : g * 2 ^ sh = G) (sG : (D (G : Int)).length ≤ 1048576) : sh < 33554432 := by
  have hp := Nat.two_pow_pos sh
  have hG : 0 < G := by rw [← h]; exact Nat.mul_pos hg hp
  have h1 := (D_len (n := (G : Int)) (by omega)).2
  rw [← pow32] at h1
  have h2 : (2 : Int) ^ sh ≤ G := by
    have : 2 ^ sh ≤ G := by rw [← h]; exact Nat.le_mul_of_pos_left _ hg
    have e : ((2 ^ sh : Nat) : Int) = (2 : Int) ^ sh := by simp
    omega
  rcases Nat.lt_or_ge sh 33554432 with g | g
  · exact g
  · have := pow2_le (show 32 * (D (G : Int)).length ≤ sh by omega)
    omega
theorem half_nat {x : Nat} (sx : (D (x : Int)).length ≤ 1048576) : Ev (fun k => credenceref1_half.f k (D (x : Int))) (D ((x / 2 : Nat) : Int)) := by
  have := half_ev (x := (x : Int)) (by omega) (by unfold Small; omega)
  rw [show (x : Int) / 2 = ((x / 2 : Nat) : Int) by omega] at this
  exact this
theorem len_le {x y : Nat} (h : x ≤ y) (sy : (D (y : Int)).length ≤ 1048576) : (D (x : Int)).length ≤ 1048576 := by
  have := D_len_mono' (n := (x : Int)) (m := (y : Int)) (by omega) (by omega); omega
theorem gcd4 {G sh : Nat} (sG : (D (G : Int)).length ≤ 1048576) (hsh : sh < 33554432) : ∀ (n i x : Nat), i + n = sh → x * 2 ^ n = G → Ev (fun k => credenceref1_NatGCD.l4 k (D (x : Int)) (sh : Int) (i : Int)) (D (G : Int)) := by
  intro n
  induction n with
  | zero =>
    intro i x hi h
    rw [Nat.pow_zero, Nat.mul_one] at h
    subst h
    refine suc ?_
    simp (disch := omega) only [credenceref1_NatGCD.l4, if_neg]
    exact now fun _ => rfl
  | succ n ih =>
    intro i x hi h
    have hp := Nat.two_pow_pos n
    have hx : x ≤ G := by rw [← h]; exact Nat.le_mul_of_pos_right _ (Nat.two_pow_pos _)
    have sx := len_le hx sG
    have hd := double_ev (x := (x : Int)) (by omega) (by unfold Small; omega) (b := 0) (by omega) (by omega)
    have e1 : (2 : Int) * (x : Int) + 0 = ((2 * x : Nat) : Int) := by omega
    have e2 : wrap64 ((i : Int) + 1) = ((i + 1 : Nat) : Int) := by rw [w64 (by omega) (by omega)]; omega
    rw [e1] at hd
    refine suc ?_
    simp (disch := omega) only [credenceref1_NatGCD.l4, if_pos, e2]
    refine Ev.bind hd (ih (i + 1) (2 * x) (by omega) ?_)
    rw [← h, Nat.pow_succ]
    rw [Nat.mul_comm 2 x, Nat.mul_assoc, Nat.mul_comm 2]
theorem gcd_half_left {x y : Nat} (h : x % 2 = 0) (ho : y % 2 = 1) : Nat.gcd (x / 2) y = Nat.gcd x y := by
  have hc : Nat.Coprime 2 y := by
    rw [Nat.coprime_iff_gcd_eq_one, Nat.gcd_rec, ho]
    decide
  have e : x = 2 * (x / 2) := by omega
  conv => rhs; rw [e]
  exact (Nat.Coprime.gcd_mul_left_cancel _ hc).symm
theorem gcd_half_right {x y : Nat} (h : y % 2 = 0) (ho : x % 2 = 1) : Nat.gcd x (y / 2) = Nat.gcd x y := by
  rw [Nat.gcd_comm, gcd_half_left h ho, Nat.gcd_comm]
theorem gcd13 {G sh : Nat} (sG : (D (G : Int)).length ≤ 1048576) (hsh : sh < 33554432) : ∀ n : Nat,
    (∀ x y : Nat, x + y = n → 0 < x → 0 < y → x % 2 = 1 → (D (x : Int)).length ≤ 1048576 → (D (y : Int)).length ≤ 1048576 → Nat.gcd x y * 2 ^ sh = G → Ev (fun k => credenceref1_NatGCD.l3 k (D (x : Int)) (D (y : Int)) (sh : Int)) (D (G : Int))) ∧
    (∀ x y : Nat, x + y = n → 0 < x → 0 < y → (x % 2 = 1 ∨ y % 2 = 1) → (D (x : Int)).length ≤ 1048576 → (D (y : Int)).length ≤ 1048576 → Nat.gcd x y * 2 ^ sh = G → Ev (fun k => credenceref1_NatGCD.l2 k (D (x : Int)) (D (y : Int)) (sh : Int)) (D (G : Int))) ∧
    (∀ x y : Nat, x + y = n → 0 < x → (x % 2 = 1 ∨ y % 2 = 1) → (D (x : Int)).length ≤ 1048576 → (D (y : Int)).length ≤ 1048576 → Nat.gcd x y * 2 ^ sh = G → Ev (fun k => credenceref1_NatGCD.l1 k (D (x : Int)) (D (y : Int)) (sh : Int)) (D (G : Int))) := by
  intro n
  induction n using Nat.strongRecOn with
  | ind n ih =>
    have h3 : ∀ x y : Nat, x + y = n → 0 < x → 0 < y → x % 2 = 1 → (D (x : Int)).length ≤ 1048576 → (D (y : Int)).length ≤ 1048576 → Nat.gcd x y * 2 ^ sh = G → Ev (fun k => credenceref1_NatGCD.l3 k (D (x : Int)) (D (y : Int)) (sh : Int)) (D (G : Int)) := by
      intro x y hn x0 y0 xo sx sy h
      have oy := odd_at y0
      have ly := pos_at y0
      by_cases ho : y % 2 = 0
      · have e0 : ((y % 2 : Nat) : Int) = 0 := by omega
        refine suc ?_
        simp only [credenceref1_NatGCD.l3, if_pos ly, oy, if_pos e0]
        exact Ev.bind (half_nat sy) ((ih (x + y / 2) (by omega)).1 x (y / 2) rfl x0 (by omega) xo sx (len_le (by omega) sy) (by rw [gcd_half_right ho xo]; exact h))
      · have e0 : ¬ ((y % 2 : Nat) : Int) = 0 := by omega
        have hc := ncmp_ev (D_U (x : Int)) (D_U (y : Int)) (by unfold Big; omega) (by unfold Big; omega)
        have hs1 := nsub_ev (D_U (x : Int)) (D_U (y : Int)) (by unfold Small; omega) (by unfold Small; omega)
        have hs2 := nsub_ev (D_U (y : Int)) (D_U (x : Int)) (by unfold Small; omega) (by unfold Small; omega)
        rw [V_D _ (by omega), V_D _ (by omega)] at hc hs1 hs2
        refine suc ?_
        simp only [credenceref1_NatGCD.l3, if_pos ly, oy, if_neg e0]
        refine Ev.bind hc ?_
        by_cases hlt : y < x
        · have e1 : cmpI (x : Int) (y : Int) > 0 := by rw [cmpI_gt (by omega)]; omega
          have e2 : subO (x : Int) (y : Int) = (D ((x - y : Nat) : Int), true) := by
            unfold subO
            rw [if_neg (by omega), show (x : Int) - (y : Int) = ((x - y : Nat) : Int) by omega]
          rw [e2] at hs1
          simp only [if_pos e1]
          refine Ev.bind hs1 ((ih (y + (x - y)) (by omega)).2.2 y (x - y) rfl y0 (by omega) sy (len_le (by omega) sx) ?_)
          rw [Nat.gcd_sub_self_right (by omega), Nat.gcd_comm]; exact h
        · have e1 : ¬ cmpI (x : Int) (y : Int) > 0 := by
            unfold cmpI
            split
            · omega
            · rw [if_neg (by omega)]; omega
          have e2 : subO (y : Int) (x : Int) = (D ((y - x : Nat) : Int), true) := by
            unfold subO
            rw [if_neg (by omega), show (y : Int) - (x : Int) = ((y - x : Nat) : Int) by omega]
          rw [e2] at hs2
          simp only [if_neg e1]
          refine Ev.bind hs2 ((ih (x + (y - x)) (by omega)).2.2 x (y - x) rfl x0 (by omega) sx (len_le (by omega) sy) ?_)
          rw [Nat.gcd_sub_self_right (by omega)]; exact h
    have h2 : ∀ x y : Nat, x + y = n → 0 < x → 0 < y → (x % 2 = 1 ∨ y % 2 = 1) → (D (x : Int)).length ≤ 1048576 → (D (y : Int)).length ≤ 1048576 → Nat.gcd x y * 2 ^ sh = G → Ev (fun k => credenceref1_NatGCD.l2 k (D (x : Int)) (D (y : Int)) (sh : Int)) (D (G : Int)) := by
      intro x y hn x0 y0 xo sx sy h
      have ox := odd_at x0
      have lx := pos_at x0
      by_cases ho : x % 2 = 0
      · have e0 : ((x % 2 : Nat) : Int) = 0 := by omega
        refine suc ?_
        simp only [credenceref1_NatGCD.l2, if_pos lx, ox, if_pos e0]
        exact Ev.bind (half_nat sx) ((ih (x / 2 + y) (by omega)).2.1 (x / 2) y rfl (by omega) y0 (by omega) (len_le (by omega) sx) sy (by rw [gcd_half_left ho (by omega)]; exact h))
      · have e0 : ¬ ((x % 2 : Nat) : Int) = 0 := by omega
        refine suc ?_
        simp only [credenceref1_NatGCD.l2, if_pos lx, ox, if_neg e0]
        exact h3 x y hn x0 y0 (by omega) sx sy h
    refine ⟨h3, h2, ?_⟩
    intro x y hn x0 xo sx sy h
    by_cases y0 : 0 < y
    · have ly := pos_at y0
      refine suc ?_
      simp only [credenceref1_NatGCD.l1, if_pos ly, gt_iff_lt]
      exact h2 x y hn x0 y0 xo sx sy h
    · obtain rfl : y = 0 := by omega
      rw [Nat.gcd_zero_right] at h
      refine suc ?_
      rw [show D ((0 : Nat) : Int) = [] from D_zero]
      simp (disch := omega) only [credenceref1_NatGCD.l1, List.length_nil, if_neg]
      exact gcd4 sG hsh sh 0 x (by omega) h
theorem gcd0 {G : Nat} (sG : (D (G : Int)).length ≤ 1048576) : ∀ (x y sh : Nat), 0 < x → 0 < y → (D (x : Int)).length ≤ 1048576 → (D (y : Int)).length ≤ 1048576 → Nat.gcd x y * 2 ^ sh = G → Ev (fun k => credenceref1_NatGCD.l0 k (D (x : Int)) (D (y : Int)) (sh : Int)) (D (G : Int)) := by
  intro x
  induction x using Nat.strongRecOn with
  | ind x ih =>
    intro y sh x0 y0 sx sy h
    have hsh := shift_lt (Nat.gcd_pos_of_pos_left y x0) h sG
    have ox := odd_at x0
    have lx := pos_at x0
    have oy := odd_at y0
    have ly := pos_at y0
    by_cases ho : x % 2 = 0
    · have e0 : ((x % 2 : Nat) : Int) = 0 := by omega
      refine suc ?_
      simp only [credenceref1_NatGCD.l0, if_pos lx, ox, if_pos e0, if_pos ly, oy]
      by_cases hy : y % 2 = 0
      · have e1 : (((y % 2 : Nat) : Int) == 0) = true := by rw [beq_iff_eq]; omega
        have e2 : wrap64 ((sh : Int) + 1) = ((sh + 1 : Nat) : Int) := by rw [w64 (by omega) (by omega)]; omega
        refine suc ?_
        simp only [credenceref1_NatGCD.j1, e1, if_true, e2]
        refine Ev.bind (half_nat sx) (Ev.bind (half_nat sy) (ih (x / 2) (by omega) (y / 2) (sh + 1) (by omega) (by omega) (len_le (by omega) sx) (len_le (by omega) sy) ?_))
        have e : Nat.gcd x y = 2 * Nat.gcd (x / 2) (y / 2) := by
          rw [← Nat.gcd_mul_left]
          congr 1 <;> omega
        rw [← h, e, Nat.pow_succ, Nat.mul_comm 2, Nat.mul_assoc, Nat.mul_comm 2]
      · have e1 : (((y % 2 : Nat) : Int) == 0) = false := by rw [beq_eq_false_iff_ne]; omega
        refine suc ?_
        simp only [credenceref1_NatGCD.j1, e1, Bool.false_eq_true, if_false]
        exact (gcd13 sG hsh (x + y)).2.2 x y rfl x0 (by omega) sx sy h
    · have e0 : ¬ ((x % 2 : Nat) : Int) = 0 := by omega
      refine suc ?_
      simp only [credenceref1_NatGCD.l0, if_pos lx, ox, if_neg e0]
      refine suc ?_
      simp only [credenceref1_NatGCD.j1, Bool.false_eq_true, if_false]
      exact (gcd13 sG hsh (x + y)).2.2 x y rfl x0 (by omega) sx sy h
theorem natGCD_ev {a b : List Int} (ha : U a) (hb : U b) (sa : a.length ≤ 1048576) (sb : b.length ≤ 1048576) {x y : Nat} (hx : V a = (x : Int)) (hy : V b = (y : Int)) : Ev (fun k => credenceref1_NatGCD.f k a b) (D (Nat.gcd x y : Nat)) := by
  have h1 := norm_ev ha (by unfold Big; omega)
  have h2 := norm_ev hb (by unfold Big; omega)
  have l1 := D_short ha
  have l2 := D_short hb
  rw [hx] at h1 l1
  rw [hy] at h2 l2
  simp only [credenceref1_NatGCD.f]
  refine Ev.bind h1 (Ev.bind h2 ?_)
  by_cases x0 : x = 0
  · subst x0
    rw [Nat.gcd_zero_left, show D ((0 : Nat) : Int) = [] from D_zero]
    simp only [List.length_nil, show ((0 : Nat) : Int) = 0 from rfl, if_true]
    exact now fun _ => rfl
  · have lx := pos_at (x := x) (by omega)
    by_cases y0 : y = 0
    · subst y0
      rw [Nat.gcd_zero_right, show D ((0 : Nat) : Int) = [] from D_zero]
      simp (disch := omega) only [List.length_nil, if_neg, show ((0 : Nat) : Int) = 0 from rfl, if_true]
      exact now fun _ => rfl
    · have ly := pos_at (x := y) (by omega)
      simp (disch := omega) only [if_neg]
      exact gcd0 (len_le (Nat.gcd_le_left y (by omega)) (by omega)) x y 0 (by omega) (by omega) (by omega) (by omega) (by rw [Nat.pow_zero, Nat.mul_one])
end Go.Proofs.YtoeldfopjalpkaaDoor.Spec
set_option linter.unusedSimpArgs false
set_option linter.unusedVariables false
namespace Go.Proofs.YtoeldfopjalpkaaDoor.Spec
open Go.RowKit Go.Proofs.YtoeldfopjalpkaaDoorW.PrintWords Go.Proofs.YtoeldfopjalpkaaDoorW.PrintLast Go.Proofs.YtoeldfopjalpkaaDoorW.PrintMore Go.Proofs.YtoeldfopjalpkaaDoor.Q Go.Proofs.YtoeldfopjalpkaaDoor.Nums

theorem D_one : D 1 = [1] := by
  rw [D_pos (by omega), show (1 : Int) / 4294967296 = 0 by decide, D_zero]
  rfl
theorem D_nat0 : D ((0 : Nat) : Int) = [] := D_zero
/-- The canonical form of a sign, a numerator and a denominator. -/
def Fr (s : Bool) (n d : Nat) : Bool × List Int × List Int := if n = 0 ∨ d = 0 then (false, [], D 1) else (s, D ((n / Nat.gcd n d : Nat) : Int), D ((d / Nat.gcd n d : Nat) : Int))
theorem Fr_zero {s : Bool} {n d : Nat} (h : n = 0 ∨ d = 0) : Fr s n d = (false, [], D 1) := if_pos h
theorem Fr_pos {s : Bool} {n d : Nat} (hn : 0 < n) (hd : 0 < d) : Fr s n d = (s, D ((n / Nat.gcd n d : Nat) : Int), D ((d / Nat.gcd n d : Nat) : Int)) := if_neg (by omega)
theorem one_D {n : Nat} (h : 0 < n) : (n = 1 ∧ D (n : Int) = [1]) ∨ (n ≠ 1 ∧ ((D (n : Int)).length > 1 ∨ ((D (n : Int)).length = 1 ∧ rd (D (n : Int)) 0 ≠ 1))) := by
  by_cases h1 : n = 1
  · subst h1; exact .inl ⟨rfl, D_one⟩
  · refine .inr ⟨h1, ?_⟩
    have hl := D_length_pos (n := (n : Int)) (by omega)
    have hv := V_D (n : Int) (by omega)
    revert hl hv
    generalize D (n : Int) = d
    intro hl hv
    match d, hl with
    | [x], _ =>
      rw [V_cons, V_nil] at hv
      refine .inr ⟨rfl, ?_⟩
      rw [show rd [x] 0 = x from rfl]
      omega
    | _ :: _ :: _, _ => exact .inl (by simp)
theorem bang {α : Type} {n : Nat} (h : 0 < n) (g : Bool → Option α) :
    (if ((D (n : Int)).length : Int) > 1 then g true else (if 0 < ((D (n : Int)).length : Int) then g ((rd (D (n : Int)) 0) != 1) else none)) = g (n != 1) := by
  rcases one_D h with ⟨h1, h2⟩ | ⟨h1, h2 | ⟨h2, h3⟩⟩
  · subst h1; rw [h2]; rfl
  · rw [if_pos (by omega)]
    congr 1
    symm
    exact bne_iff_ne.2 h1
  · rw [if_neg (by omega), if_pos (by omega)]
    congr 1
    rw [bne_iff_ne.2 h1]
    exact bne_iff_ne.2 h3
theorem divO_nat {x g : Nat} (hg : 0 < g) : divO (x : Int) (g : Int) = (D ((x / g : Nat) : Int), D ((x % g : Nat) : Int), true) := by
  unfold divO
  rw [if_pos (by omega)]
  rfl
theorem gcd_len {x y : Nat} (hx : (D (x : Int)).length ≤ 1048576) (hy : (D (y : Int)).length ≤ 1048576) : (D ((Nat.gcd x y : Nat) : Int)).length ≤ 1048576 := by
  by_cases h : x = 0
  · subst h; rw [Nat.gcd_zero_left]; exact hy
  · exact len_le (Nat.gcd_le_left y (by omega)) hx
theorem reduce_ev {a b : List Int} (ha : U a) (hb : U b) (sa : a.length ≤ 1048576) (sb : b.length ≤ 1048576) {x y : Nat} (hx : V a = (x : Int)) (hy : V b = (y : Int)) (s : Bool) :
    Ev (fun k => rational_reduce.f k s a b) (Fr s x y) := by
  have h1 := normalize_ev ha (by unfold Big; omega)
  have h2 := normalize_ev hb (by unfold Big; omega)
  have l1 := D_short ha
  have l2 := D_short hb
  rw [hx] at h1 l1
  rw [hy] at h2 l2
  have sx : (D (x : Int)).length ≤ 1048576 := by omega
  have sy : (D (y : Int)).length ≤ 1048576 := by omega
  simp only [rational_reduce.f]
  refine Ev.bind h1 (Ev.bind h2 ?_)
  by_cases x0 : x = 0
  · subst x0
    simp only [D_nat0, D_zero, List.length_nil, show ((0 : Nat) : Int) = 0 from rfl, if_true]
    refine suc ?_
    simp only [rational_reduce.j0, if_true, rational_one.f, Option.bind_some]
    rw [Fr_zero (.inl rfl), D_one]
    exact now fun _ => rfl
  · have lx := pos_at (x := x) (by omega)
    simp (disch := omega) only [if_neg]
    by_cases y0 : y = 0
    · subst y0
      rw [show (((D ((0 : Nat) : Int)).length : Int) == 0) = true by rw [D_nat0]; rfl]
      refine suc ?_
      simp only [rational_reduce.j0, if_true, rational_one.f, Option.bind_some]
      rw [Fr_zero (.inr rfl), D_one]
      exact now fun _ => rfl
    · have ly := pos_at (x := y) (by omega)
      rw [show (((D (y : Int)).length : Int) == 0) = false by rw [beq_eq_false_iff_ne]; omega]
      rw [Fr_pos (by omega) (by omega)]
      refine suc ?_
      simp only [rational_reduce.j0, Bool.false_eq_true, if_false]
      refine Ev.congr (fun k => bang (n := y) (by omega) (fun b => rational_reduce.j1 k s (D (x : Int)) (D (y : Int)) b)) ?_
      by_cases y1 : y = 1
      · subst y1
        rw [Nat.gcd_one_right, Nat.div_one, Nat.div_one]
        simp only [bne_self_eq_false]
        refine suc ?_
        simp only [rational_reduce.j1, Bool.false_eq_true, if_false]
        exact now fun _ => rfl
      · rw [bne_iff_ne.2 y1]
        have hg := Nat.gcd_pos_of_pos_left y (show 0 < x by omega)
        have eg := gcd_ev (D_U (x : Int)) (D_U (y : Int)) sx sy (V_D _ (by omega)) (V_D _ (by omega))
        have sg := gcd_len sx sy
        generalize Nat.gcd x y = g at *
        have d1 := divMod_ev (D_U (x : Int)) (D_U (g : Int)) sx (by unfold Big; omega)
        have d2 := divMod_ev (D_U (y : Int)) (D_U (g : Int)) sy (by unfold Big; omega)
        rw [V_D _ (by omega), V_D _ (by omega), divO_nat hg] at d1 d2
        refine suc ?_
        simp only [rational_reduce.j1, if_true]
        refine Ev.bind eg ?_
        refine Ev.congr (fun k => bang (n := g) hg (fun b => rational_reduce.j2 k s (D (x : Int)) (D (y : Int)) (D (g : Int)) b)) ?_
        by_cases g1 : g = 1
        · subst g1
          rw [Nat.div_one, Nat.div_one]
          simp only [bne_self_eq_false]
          refine suc ?_
          simp only [rational_reduce.j2, Bool.false_eq_true, if_false]
          exact now fun _ => rfl
        · rw [bne_iff_ne.2 g1]
          refine suc ?_
          simp only [rational_reduce.j2, if_true]
          exact Ev.bind d1 (Ev.bind d2 (now fun _ => rfl))
theorem frac_ev {a b : List Int} (ha : U a) (hb : U b) (sa : a.length ≤ 1048576) (sb : b.length ≤ 1048576) {x y : Nat} (hx : V a = (x : Int)) (hy : V b = (y : Int)) (s : Bool) :
    Ev (fun k => credenceref1_frac.f k s a b) (Fr s x y) := by
  have eg := natGCD_ev ha hb sa sb hx hy
  have l1 := D_short ha
  have l2 := D_short hb
  rw [hx] at l1
  rw [hy] at l2
  have sg := gcd_len (x := x) (y := y) (by omega) (by omega)
  have d1 := natDivMod_ev ha (D_U ((Nat.gcd x y : Nat) : Int)) sa sg
  have d2 := natDivMod_ev hb (D_U ((Nat.gcd x y : Nat) : Int)) sb sg
  rw [hx, V_D _ (by omega)] at d1
  rw [hy, V_D _ (by omega)] at d2
  have one := natOf_ev (n := 1) (by omega) (by omega)
  simp only [credenceref1_frac.f]
  refine Ev.bind eg (Ev.bind d1 (Ev.bind d2 ?_))
  by_cases hg : 0 < Nat.gcd x y
  · rw [divO_nat hg, divO_nat hg]
    simp only [if_true]
    by_cases x0 : x = 0
    · rw [Fr_zero (.inl x0)]
      have e : x / Nat.gcd x y = 0 := by rw [x0, Nat.zero_div]
      rw [e]
      simp only [D_nat0, D_zero, List.length_nil, show ((0 : Nat) : Int) = 0 from rfl, if_true]
      exact Ev.bind one (now fun _ => rfl)
    · have q0 : 0 < x / Nat.gcd x y := Nat.div_pos (Nat.gcd_le_left y (by omega)) hg
      have lq := pos_at q0
      simp (disch := omega) only [if_neg]
      by_cases y0 : y = 0
      · rw [Fr_zero (.inr y0)]
        have e : y / Nat.gcd x y = 0 := by rw [y0, Nat.zero_div]
        rw [e]
        simp only [D_nat0, D_zero, List.length_nil, show ((0 : Nat) : Int) = 0 from rfl, if_true]
        exact Ev.bind one (now fun _ => rfl)
      · have q1 : 0 < y / Nat.gcd x y := Nat.div_pos (Nat.gcd_le_right x (by omega)) hg
        have lq1 := pos_at q1
        simp (disch := omega) only [if_neg]
        rw [Fr_pos (by omega) (by omega)]
        exact now fun _ => rfl
  · have hz : Nat.gcd x y = 0 := by omega
    have x0 : x = 0 := Nat.eq_zero_of_gcd_eq_zero_left hz
    rw [Fr_zero (.inl x0)]
    have e : ∀ z : Int, divO z ((Nat.gcd x y : Nat) : Int) = ([], [], false) := fun z => by
      unfold divO
      rw [if_neg (by omega)]
    simp only [e, Bool.false_eq_true, if_false]
    exact Ev.bind one (now fun _ => rfl)
/-- The absolute value. -/
theorem mag_eq {n : Int} (h0 : -9223372036854775808 ≤ n) (h1 : n ≤ 9223372036854775807) : rational_magnitude.f n = some (D (n.natAbs : Int)) := by
  simp only [rational_magnitude.f]
  by_cases h : n < 0
  · have e : IntKind.u64.wrap (IntKind.u64.wrap (wrap64 (-wrap64 (n + 1))) + 1) = (n.natAbs : Int) := by
      rw [w64 (n := n + 1) (by omega) (by omega), w64 (by omega) (by omega), u64w (n := -(n + 1)) (by omega) (by omega), u64w (by omega) (by omega)]; omega
    simp only [if_pos h, e]
    rw [from_eq (by omega) (by omega)]
    rfl
  · have e : IntKind.u64.wrap n = (n.natAbs : Int) := by rw [u64w (by omega) (by omega)]; omega
    simp only [if_neg h, e]
    rw [from_eq (by omega) (by omega)]
    rfl
theorem size_ev {n : Int} (h0 : -9223372036854775808 ≤ n) (h1 : n ≤ 9223372036854775807) : Ev (fun k => credenceref1_size.f k n) (D (n.natAbs : Int)) := by
  simp only [credenceref1_size.f]
  by_cases h : n < 0
  · have e : IntKind.u64.wrap (IntKind.u64.wrap (wrap64 (-wrap64 (n + 1))) + 1) = (n.natAbs : Int) := by
      rw [w64 (n := n + 1) (by omega) (by omega), w64 (by omega) (by omega), u64w (n := -(n + 1)) (by omega) (by omega), u64w (by omega) (by omega)]; omega
    simp only [if_pos h, e]
    exact Ev.bind (natOf_ev (by omega) (by omega)) (now fun _ => rfl)
  · have e : IntKind.u64.wrap n = (n.natAbs : Int) := by rw [u64w (by omega) (by omega)]; omega
    simp only [if_neg h, e]
    exact Ev.bind (natOf_ev (by omega) (by omega)) (now fun _ => rfl)
theorem abs_len {n : Int} (h0 : -9223372036854775808 ≤ n) (h1 : n ≤ 9223372036854775807) : (D (n.natAbs : Int)).length ≤ 2 := D_len_le (by
  have : (4294967296 : Int) ^ 2 = 18446744073709551616 := by decide
  omega)
/-- What New returns. -/
def newO (n d : Int) : Bool × List Int × List Int × Int := if d = 0 then (false, [], [], 20) else ((Fr (decide (n < 0) != decide (d < 0)) n.natAbs d.natAbs).1, (Fr (decide (n < 0) != decide (d < 0)) n.natAbs d.natAbs).2.1, (Fr (decide (n < 0) != decide (d < 0)) n.natAbs d.natAbs).2.2, 0)
theorem new_ev {n d : Int} (n0 : -9223372036854775808 ≤ n) (n1 : n ≤ 9223372036854775807) (d0 : -9223372036854775808 ≤ d) (d1 : d ≤ 9223372036854775807) : Ev (fun k => rational_New.f k n d) (newO n d) := by
  have l1 := abs_len n0 n1
  have l2 := abs_len d0 d1
  have hr := reduce_ev (D_U (n.natAbs : Int)) (D_U (d.natAbs : Int)) (by omega) (by omega) (V_D _ (by omega)) (V_D _ (by omega)) (decide (n < 0) != decide (d < 0))
  simp only [rational_New.f]
  unfold newO
  by_cases h : d = 0
  · simp only [if_pos h]
    exact now fun _ => rfl
  · simp only [if_neg h, mag_eq n0 n1, mag_eq d0 d1, Option.bind_some]
    exact Ev.bind hr (now fun _ => rfl)
theorem fnew_ev {n d : Int} (n0 : -9223372036854775808 ≤ n) (n1 : n ≤ 9223372036854775807) (d0 : -9223372036854775808 ≤ d) (d1 : d ≤ 9223372036854775807) : Ev (fun k => credenceref1_FracNew.f k n d) (newO n d) := by
  have l1 := abs_len n0 n1
  have l2 := abs_len d0 d1
  have hr := frac_ev (D_U (n.natAbs : Int)) (D_U (d.natAbs : Int)) (by omega) (by omega) (V_D _ (by omega)) (V_D _ (by omega)) (decide (n < 0) != decide (d < 0))
  simp only [credenceref1_FracNew.f]
  unfold newO
  by_cases h : d = 0
  · simp only [if_pos h]
    exact now fun _ => rfl
  · simp only [if_neg h]
    exact Ev.bind (size_ev n0 n1) (Ev.bind (size_ev d0 d1) (Ev.bind hr (now fun _ => rfl)))
end Go.Proofs.YtoeldfopjalpkaaDoor.Spec
set_option linter.unusedSimpArgs false
set_option linter.unusedVariables false
namespace Go.Proofs.YtoeldfopjalpkaaDoor.Spec
open Go.RowKit Go.Proofs.YtoeldfopjalpkaaDoorW.PrintWords Go.Proofs.YtoeldfopjalpkaaDoorW.PrintLast Go.Proofs.YtoeldfopjalpkaaDoorW.PrintMore Go.Proofs.YtoeldfopjalpkaaDoor.Q Go.Proofs.YtoeldfopjalpkaaDoor.Nums

/-- The rational number of a sign, a numerator and a denominator. -/
def mk (s : Bool) (n d : Nat) : Rat := mkRat (if s = true then -(n : Int) else (n : Int)) d
/-- The canonical form of a rational number. -/
def C (q : Rat) : Bool × List Int × List Int := (decide (q.num < 0), D (q.num.natAbs : Int), D (q.den : Int))
theorem mk_zero (s : Bool) {n d : Nat} (h : n = 0 ∨ d = 0) : mk s n d = 0 := by
  unfold mk
  rcases h with h | h
  · subst h; cases s <;> simp [Rat.mkRat_eq_div] <;> grind
  · subst h; exact Rat.mkRat_zero _
theorem C_zero : C 0 = (false, [], D 1) := by
  unfold C
  rw [show (0 : Rat).num = 0 from rfl, show (0 : Rat).den = 1 from rfl]
  exact congrArg (fun z => (false, z, D 1)) D_zero
theorem mk_pos (s : Bool) {n d : Nat} (hn : 0 < n) (hd : 0 < d) : (mk s n d).num.natAbs = n / Nat.gcd n d ∧ (mk s n d).den = d / Nat.gcd n d ∧ ((mk s n d).num < 0 ↔ s = true) := by
  have hg : 0 < Nat.gcd n d := Nat.gcd_pos_of_pos_left d hn
  have q0 : 0 < n / Nat.gcd n d := Nat.div_pos (Nat.gcd_le_left d hn) hg
  have e : (if s = true then -(n : Int) else (n : Int)).natAbs = n := by cases s <;> simp
  have hdv : ((Nat.gcd n d : Nat) : Int) ∣ (n : Int) := Int.natCast_dvd_natCast.2 (Nat.gcd_dvd_left n d)
  have hnum : (mk s n d).num = if s = true then -((n / Nat.gcd n d : Nat) : Int) else ((n / Nat.gcd n d : Nat) : Int) := by
    unfold mk
    rw [Rat.num_mkRat, if_neg (by omega), e, Nat.gcd_comm]
    cases s
    · rfl
    · show -(n : Int) / _ = -_
      rw [Int.neg_ediv_of_dvd hdv]
      rfl
  refine ⟨?_, ?_, ?_⟩
  · rw [hnum]
    generalize n / Nat.gcd n d = z at *
    cases s <;> simp
  · unfold mk
    rw [Rat.den_mkRat, if_neg (by omega), e, Nat.gcd_comm]
  · rw [hnum]
    generalize n / Nat.gcd n d = z at *
    cases s <;> simp <;> omega
theorem Fr_C (s : Bool) (n d : Nat) : Fr s n d = C (mk s n d) := by
  by_cases h : n = 0 ∨ d = 0
  · rw [Fr_zero h, mk_zero s h, C_zero]
  · have hn : 0 < n := by omega
    have hd : 0 < d := by omega
    obtain ⟨h1, h2, h3⟩ := mk_pos s hn hd
    rw [Fr_pos hn hd]
    unfold C
    rw [h1, h2]
    refine congrArg (fun z => (z, _, _)) ?_
    cases s
    · exact (decide_eq_false (fun h => by simpa using h3.1 h)).symm
    · exact (decide_eq_true (h3.2 rfl)).symm
theorem mk_self (q : Rat) : mk (decide (q.num < 0)) q.num.natAbs q.den = q := by
  unfold mk
  have : (if decide (q.num < 0) = true then -((q.num.natAbs : Nat) : Int) else ((q.num.natAbs : Nat) : Int)) = q.num := by
    by_cases h : q.num < 0
    · rw [if_pos (decide_eq_true h)]; omega
    · rw [if_neg (by simp [h])]; omega
  rw [this]
  exact Rat.mkRat_self q
/-- The value, as a quotient. -/
theorem mk_div (s : Bool) (n d : Nat) : mk s n d = (if s = true then -(n : Rat) else (n : Rat)) / (d : Rat) := by
  unfold mk
  rw [Rat.mkRat_eq_div]
  cases s <;> simp [Rat.intCast_natCast]
theorem cast_ne {d : Nat} (h : 0 < d) : (d : Rat) ≠ 0 := by
  intro e
  have : d = 0 := Rat.natCast_inj.1 (by simpa using e)
  omega
theorem mk_scale (s : Bool) (n d k : Nat) (hk : 0 < k) : mk s (n * k) (d * k) = mk s n d := by
  have h := cast_ne hk
  rw [mk_div, mk_div, Rat.natCast_mul, Rat.natCast_mul]
  by_cases hd : d = 0
  · subst hd; simp [Rat.div_def]
  · have hd := cast_ne (d := d) (by omega)
    cases s <;> grind
theorem mk_add (s : Bool) (x z d : Nat) : mk s x d + mk s z d = mk s (x + z) d := by
  rw [mk_div, mk_div, mk_div, Rat.natCast_add]
  cases s <;> grind
theorem mk_sub (s t : Bool) (h : s ≠ t) {x z : Nat} (hle : z ≤ x) (d : Nat) : mk s x d + mk t z d = mk s (x - z) d := by
  obtain ⟨y, rfl⟩ := Nat.exists_eq_add_of_le hle
  rw [mk_div, mk_div, mk_div, Nat.add_sub_cancel_left, Rat.natCast_add]
  cases s <;> cases t <;> first | exact absurd rfl h | grind
theorem mk_mul (s t : Bool) (x y z w : Nat) : mk s x y * mk t z w = mk (s != t) (x * z) (y * w) := by
  unfold mk
  rw [Rat.mkRat_mul_mkRat]
  congr 1
  cases s <;> cases t <;> simp [Int.neg_mul, Int.mul_neg]
/-- The size of a rational number. -/
def Sz (k : Nat) (q : Rat) : Prop := Lim k (q.num.natAbs : Int) ∧ Lim k (q.den : Int)
theorem Lim.le {k : Nat} {x y : Nat} (h : Lim k (y : Int)) (hle : x ≤ y) : Lim k (x : Int) := ⟨by omega, by have := h.2; omega⟩
theorem Lim.one {k : Nat} (hk : 1 ≤ k) : Lim k (1 : Int) := by
  refine Lim.mono (j := 1) ⟨by omega, by decide⟩ hk
theorem mk_sz (s : Bool) {n d k : Nat} (hk : 1 ≤ k) (hn : Lim k (n : Int)) (hd : Lim k (d : Int)) : Sz k (mk s n d) := by
  by_cases h : n = 0 ∨ d = 0
  · rw [mk_zero s h]
    exact ⟨⟨by decide, by rw [show ((0 : Rat).num.natAbs : Int) = 0 from rfl]; exact Int.lt_of_le_of_lt (by omega) (Lim.one hk).2⟩, Lim.one hk⟩
  · obtain ⟨h1, h2, _⟩ := mk_pos s (n := n) (d := d) (by omega) (by omega)
    refine ⟨?_, ?_⟩
    · rw [h1]; exact hn.le (Nat.div_le_self _ _)
    · rw [h2]; exact hd.le (Nat.div_le_self _ _)
theorem Sz.mono {j k : Nat} {q : Rat} (h : Sz j q) (hk : j ≤ k) : Sz k q := ⟨h.1.mono hk, h.2.mono hk⟩
theorem den_pos (q : Rat) : 0 < q.den := Rat.den_pos q
theorem bl_natz {x : Nat} : ((bl (x : Int) : Nat) : Int) = 0 ↔ x = 0 := by
  constructor
  · intro h
    have h1 := bl_lt (x : Int)
    have : bl (x : Int) = 0 := by omega
    rw [this] at h1
    omega
  · intro h
    subst h
    rw [bl_zero (by omega)]
    rfl
theorem Lim.bigD {k : Nat} {n : Int} (h : Lim k n) (hk : k ≤ 1048576) : (D n).length ≤ 1048576 := Nat.le_trans (D_len_le h.2) hk
theorem bitD_ev {k x : Nat} (h : Lim k (x : Int)) (hk : k ≤ 1048576) : Ev (fun q => bignat_BitLen.f q (D (x : Int))) ((bl (x : Int) : Nat) : Int) := by
  have l := h.bigD hk
  have := bitLen_ev (D_U (x : Int)) (by unfold Big; omega)
  rw [V_D _ (by omega)] at this
  exact this
theorem redD_ev {k x y : Nat} (hx : Lim k (x : Int)) (hy : Lim k (y : Int)) (hk : k ≤ 1048576) (s : Bool) : Ev (fun q => rational_reduce.f q s (D (x : Int)) (D (y : Int))) (C (mk s x y)) := by
  rw [← Fr_C]
  exact reduce_ev (D_U _) (D_U _) (hx.bigD hk) (hy.bigD hk) (V_D _ (by omega)) (V_D _ (by omega)) s
theorem partsC_ev {k : Nat} {p : Rat} (h : Sz k p) (hk : k ≤ 1048576) : Ev (fun q => rational_parts.f q (C p).1 (C p).2.1 (C p).2.2) (C p) := by
  have h1 := bitD_ev h.1 hk
  have h2 := bitD_ev h.2 hk
  have hd := den_pos p
  simp only [rational_parts.f]
  refine Ev.bind h2 ?_
  simp only [if_neg (fun h => absurd (bl_natz.1 h) (show ¬ p.den = 0 by omega))]
  refine Ev.bind h1 ?_
  by_cases x0 : p.num.natAbs = 0
  · have p0 : p = 0 := by
      rw [← mk_self p, mk_zero _ (.inl x0)]
    simp only [if_pos (bl_natz.2 x0), rational_one.f, Option.bind_some]
    rw [p0, C_zero, D_one]
    exact now fun _ => rfl
  · simp only [if_neg (fun h => x0 (bl_natz.1 h))]
    exact now fun _ => rfl
theorem Lim.addN {j x y : Nat} (hx : Lim j (x : Int)) (hy : Lim j (y : Int)) : Lim (j + 1) ((x + y : Nat) : Int) := by
  rw [Int.natCast_add]; exact hx.add hy
theorem Lim.mulN {j k x y : Nat} (hx : Lim j (x : Int)) (hy : Lim k (y : Int)) : Lim (j + k) ((x * y : Nat) : Int) := by
  rw [Int.natCast_mul]; exact hx.mul hy
theorem addN_ev {j x y : Nat} (hx : Lim j (x : Int)) (hy : Lim j (y : Int)) (hj : j ≤ 1048576) : Ev (fun q => bignat_Add.f q (D (x : Int)) (D (y : Int))) (D ((x + y : Nat) : Int)) := by
  rw [Int.natCast_add]; exact add_D hx hy (by omega) (by omega)
theorem mulN_ev {j k x y : Nat} (hx : Lim j (x : Int)) (hy : Lim k (y : Int)) (hj : j ≤ 1048576) (hk : k ≤ 1048576) : Ev (fun q => bignat_Mul.f q (D (x : Int)) (D (y : Int))) (D ((x * y : Nat) : Int)) := by
  rw [Int.natCast_mul]; exact mul_D hx hy (by omega) (by omega)
theorem subN_ev {j x y : Nat} (hx : Lim j (x : Int)) (hy : Lim j (y : Int)) (hj : j ≤ 1048576) : Ev (fun q => bignat_Sub.f q (D (x : Int)) (D (y : Int))) (if x < y then ([], false) else (D ((x - y : Nat) : Int), true)) := by
  have := sub_ev (D_U (x : Int)) (D_U (y : Int)) (hx.small (by omega)) (hy.small (by omega))
  rw [V_D _ (by omega), V_D _ (by omega)] at this
  unfold subO at this
  by_cases h : x < y
  · rw [if_pos h]; rw [if_pos (by omega)] at this; exact this
  · rw [if_neg h]; rw [if_neg (by omega), show (x : Int) - (y : Int) = ((x - y : Nat) : Int) by omega] at this; exact this
theorem cmpN_ev {j k x y : Nat} (hx : Lim j (x : Int)) (hy : Lim k (y : Int)) (hj : j ≤ 1048576) (hk : k ≤ 1048576) : Ev (fun q => bignat_Cmp.f q (D (x : Int)) (D (y : Int))) (cmpI (x : Int) (y : Int)) := by
  have := cmp_ev (D_U (x : Int)) (D_U (y : Int)) (hx.small (by omega)).big (hy.small (by omega)).big
  rw [V_D _ (by omega), V_D _ (by omega)] at this
  exact this
theorem addj_ev {j x z y : Nat} (hx : Lim j (x : Int)) (hz : Lim j (z : Int)) (hy : Lim j (y : Int)) (hj : j + 1 ≤ 1048576) (s t : Bool) : Ev (fun q => rational_Add.j0 q s t (D (x : Int)) (D (z : Int)) (D (y : Int))) (C (mk s x y + mk t z y)) := by
  refine suc ?_
  simp only [rational_Add.j0]
  by_cases h : s = t
  · subst h
    simp only [BEq.rfl, if_true]
    rw [mk_add]
    exact Ev.bind (addN_ev hx hz (by omega)) (Ev.bind (redD_ev (hx.addN hz) (hy.mono (by omega)) (by omega) s) (now fun _ => rfl))
  · simp only [if_neg (show ¬ (s == t) = true by simpa using h)]
    have e1 := subN_ev hx hz (by omega)
    have e2 := subN_ev hz hx (by omega)
    by_cases hlt : x < z
    · rw [if_pos hlt] at e1
      rw [if_neg (by omega)] at e2
      rw [Rat.add_comm, mk_sub t s (Ne.symm h) (by omega)]
      refine Ev.bind e1 ?_
      simp only [Bool.false_eq_true, if_false]
      exact Ev.bind e2 (Ev.bind (redD_ev (hz.le (by omega)) hy (by omega) t) (now fun _ => rfl))
    · rw [if_neg hlt] at e1
      rw [mk_sub s t h (by omega)]
      refine Ev.bind e1 ?_
      simp only [if_true]
      exact Ev.bind (redD_ev (hx.le (by omega)) hy (by omega) s) (now fun _ => rfl)
theorem addC_ev {j k : Nat} {p q : Rat} (hp : Sz j p) (hq : Sz k q) (hj : j + k + 1 ≤ 1048576) : Ev (fun n => rational_Add.f n (C p).1 (C p).2.1 (C p).2.2 (C q).1 (C q).2.1 (C q).2.2) (C (p + q)) := by
  have e1 := partsC_ev hp (by omega)
  have e2 := partsC_ev hq (by omega)
  have ec := cmpN_ev hp.2 hq.2 (by omega) (by omega)
  have m1 := mulN_ev hp.1 hq.2 (by omega) (by omega)
  have m2 := mulN_ev hq.1 hp.2 (by omega) (by omega)
  have m3 := mulN_ev hp.2 hq.2 (by omega) (by omega)
  have l1 := hp.1.mulN hq.2
  have l2 : Lim (j + k) ((q.num.natAbs * p.den : Nat) : Int) := by rw [Nat.add_comm]; exact hq.1.mulN hp.2
  have l3 := hp.2.mulN hq.2
  have dp := den_pos p
  have dq := den_pos q
  simp only [rational_Add.f]
  refine Ev.bind e1 (Ev.bind e2 (Ev.bind ec ?_))
  by_cases h : p.den = q.den
  · rw [cmpI_eq (by omega)]
    simp only [if_true]
    have := addj_ev (hp.1.mono (show j ≤ j + k by omega)) (hq.1.mono (show k ≤ j + k by omega)) (hp.2.mono (show j ≤ j + k by omega)) (by omega) (decide (p.num < 0)) (decide (q.num < 0))
    rw [mk_self, h, mk_self, ← h] at this
    exact this
  · have e0 : ¬ cmpI (p.den : Int) (q.den : Int) = 0 := by
      unfold cmpI
      split
      · omega
      · rw [if_pos (by omega)]; omega
    simp only [if_neg e0]
    refine Ev.bind m1 (Ev.bind m2 (Ev.bind m3 ?_))
    have := addj_ev l1 l2 l3 (by omega) (decide (p.num < 0)) (decide (q.num < 0))
    rw [mk_scale _ _ _ _ dq, mk_self, show p.den * q.den = q.den * p.den from Nat.mul_comm _ _, mk_scale _ _ _ _ dp, mk_self, Nat.mul_comm q.den p.den] at this
    exact this
theorem mulC_ev {j k : Nat} {p q : Rat} (hp : Sz j p) (hq : Sz k q) (hj : j + k ≤ 1048576) : Ev (fun n => rational_Mul.f n (C p).1 (C p).2.1 (C p).2.2 (C q).1 (C q).2.1 (C q).2.2) (C (p * q)) := by
  have e : p * q = mk (decide (p.num < 0) != decide (q.num < 0)) (p.num.natAbs * q.num.natAbs) (p.den * q.den) := by
    rw [← mk_mul, mk_self, mk_self]
  simp only [rational_Mul.f]
  rw [e]
  exact Ev.bind (partsC_ev hp (by omega)) (Ev.bind (partsC_ev hq (by omega)) (Ev.bind (mulN_ev hp.1 hq.1 (by omega) (by omega)) (Ev.bind (mulN_ev hp.2 hq.2 (by omega) (by omega)) (Ev.bind (redD_ev (hp.1.mulN hq.1) (hp.2.mulN hq.2) hj _) (now fun _ => rfl)))))
theorem Sz.mul {j k : Nat} {p q : Rat} (hp : Sz j p) (hq : Sz k q) (h1 : 1 ≤ j + k) : Sz (j + k) (p * q) := by
  have e : p * q = mk (decide (p.num < 0) != decide (q.num < 0)) (p.num.natAbs * q.num.natAbs) (p.den * q.den) := by
    rw [← mk_mul, mk_self, mk_self]
  rw [e]
  exact mk_sz _ h1 (hp.1.mulN hq.1) (hp.2.mulN hq.2)
theorem Sz.add {j k : Nat} {p q : Rat} (hp : Sz j p) (hq : Sz k q) : Sz (j + k + 1) (p + q) := by
  have dp := den_pos p
  have dq := den_pos q
  have l1 := hp.1.mulN hq.2
  have l2 : Lim (j + k) ((q.num.natAbs * p.den : Nat) : Int) := by rw [Nat.add_comm]; exact hq.1.mulN hp.2
  have l3 := hp.2.mulN hq.2
  have e : p + q = mk (decide (p.num < 0)) (p.num.natAbs * q.den) (p.den * q.den) + mk (decide (q.num < 0)) (q.num.natAbs * p.den) (p.den * q.den) := by
    rw [mk_scale _ _ _ _ dq, mk_self, Nat.mul_comm p.den q.den, mk_scale _ _ _ _ dp, mk_self]
  rw [e]
  generalize decide (p.num < 0) = s
  generalize decide (q.num < 0) = t
  by_cases h : s = t
  · subst h
    rw [mk_add]
    exact mk_sz _ (by omega) (l1.addN l2) (l3.mono (by omega))
  · by_cases hlt : p.num.natAbs * q.den < q.num.natAbs * p.den
    · rw [Rat.add_comm, mk_sub t s (Ne.symm h) (by omega)]
      exact mk_sz _ (by omega) ((l2.le (Nat.sub_le _ _)).mono (by omega)) (l3.mono (by omega))
    · rw [mk_sub s t h (by omega)]
      exact mk_sz _ (by omega) ((l1.le (Nat.sub_le _ _)).mono (by omega)) (l3.mono (by omega))
theorem drop_getD {xs : List Int} {i : Nat} (h : i < xs.length) : xs.drop i = xs.getD i 0 :: xs.drop (i + 1) := by
  rw [List.drop_eq_getElem_cons h, List.getD_eq_getElem?_getD, List.getElem?_eq_getElem h]
  rfl
theorem natSameG_l {xs ys : List Int} (hs : Big xs) (hl : xs.length = ys.length) : ∀ (n i : Nat), i + n = xs.length → Ev (fun k => credenceref1_NatSame.l0 k xs ys i) (decide (xs.drop i = ys.drop i)) := by
  unfold Big at hs
  intro n
  induction n with
  | zero =>
    intro i hi
    rw [List.drop_eq_nil_of_le (by omega), List.drop_eq_nil_of_le (by omega)]
    refine suc (now fun k => ?_)
    simp (disch := omega) only [credenceref1_NatSame.l0, if_neg]
    rfl
  | succ n ih =>
    intro i hi
    have := ih (i + 1) (by omega)
    rw [drop_getD (xs := xs) (by omega), drop_getD (xs := ys) (by omega)]
    refine suc ?_
    by_cases h : xs.getD i 0 = ys.getD i 0
    · simp (disch := omega) only [credenceref1_NatSame.l0, if_pos, w64, rd, Int.toNat_natCast, h, if_true]
      simp only [List.cons.injEq, true_and]
      exact this
    · simp (disch := omega) only [credenceref1_NatSame.l0, if_pos, rd, Int.toNat_natCast]
      rw [decide_eq_false (fun e => h (List.cons.inj e).1)]
      exact now fun _ => if_neg h
theorem natSameG_ev {xs ys : List Int} (hs : Big xs) : Ev (fun k => credenceref1_NatSame.f k xs ys) (decide (xs = ys)) := by
  simp only [credenceref1_NatSame.f]
  by_cases h : xs.length = ys.length
  · simp only [if_pos (show (xs.length : Int) = (ys.length : Int) by omega)]
    exact natSameG_l hs h xs.length 0 (by omega)
  · simp only [if_neg (show ¬ (xs.length : Int) = (ys.length : Int) by omega)]
    rw [decide_eq_false (fun e => h (congrArg List.length e))]
    exact now fun _ => rfl
theorem D_inj {x y : Nat} (h : D (x : Int) = D (y : Int)) : x = y := by
  have := congrArg V h
  rw [V_D _ (by omega), V_D _ (by omega)] at this
  omega
theorem C_inj {p q : Rat} (h : C p = C q) : p = q := by
  unfold C at h
  simp only [Prod.mk.injEq] at h
  rw [← mk_self p, ← mk_self q, h.1, D_inj h.2.1, D_inj h.2.2]
theorem sameG_ev {k : Nat} {p q : Rat} (h : Sz k p) (hk : k ≤ 1048576) : Ev (fun n => credencelaw2_same.f n (C p).1 (C p).2.1 (C p).2.2 (C q).1 (C q).2.1 (C q).2.2) (decide (p = q)) := by
  have e1 := natSameG_ev (ys := (C q).2.1) (h.1.small (by omega)).big
  have e2 := natSameG_ev (ys := (C q).2.2) (h.2.small (by omega)).big
  have e : Ev (fun n => credenceref1_FracSame.f n (C p).1 (C p).2.1 (C p).2.2 (C q).1 (C q).2.1 (C q).2.2) (decide (p = q)) := by
    simp only [credenceref1_FracSame.f]
    by_cases h1 : (C p).1 = (C q).1
    · simp only [if_pos (show ((C p).1 == (C q).1) = true by simpa using h1)]
      refine Ev.bind e1 ?_
      by_cases h2 : (C p).2.1 = (C q).2.1
      · simp only [if_pos (decide_eq_true (show D (p.num.natAbs : Int) = (C q).2.1 from h2))]
        refine Ev.bind e2 ?_
        by_cases h3 : (C p).2.2 = (C q).2.2
        · rw [decide_eq_true (show D (p.den : Int) = (C q).2.2 from h3), decide_eq_true (C_inj (Prod.ext h1 (Prod.ext h2 h3)))]
          exact now fun _ => rfl
        · rw [decide_eq_false (show ¬ D (p.den : Int) = (C q).2.2 from h3), decide_eq_false (fun e => h3 (by rw [e]))]
          exact now fun _ => rfl
      · simp only [decide_eq_false (show ¬ D (p.num.natAbs : Int) = (C q).2.1 from h2), Bool.false_eq_true, if_false]
        rw [decide_eq_false (fun e => h2 (by rw [e]))]
        exact now fun _ => rfl
    · simp only [if_neg (show ¬ ((C p).1 == (C q).1) = true by simpa using h1)]
      rw [decide_eq_false (fun e => h1 (by rw [e]))]
      exact now fun _ => rfl
  simp only [credencelaw2_same.f]
  exact Ev.bind e (now fun _ => rfl)
theorem sameC_ev {k : Nat} {p q : Rat} (e : p = q) (h : Sz k p) (hk : k ≤ 1048576) : Ev (fun n => credencelaw2_same.f n (C p).1 (C p).2.1 (C p).2.2 (C q).1 (C q).2.1 (C q).2.2) true := by
  have := sameG_ev (q := q) h hk
  rw [decide_eq_true e] at this
  exact this
/-- What New makes of numbers. -/
theorem newC {n d : Int} (hd : d ≠ 0) : newO n d = ((C (mk (decide (n < 0) != decide (d < 0)) n.natAbs d.natAbs)).1, (C (mk (decide (n < 0) != decide (d < 0)) n.natAbs d.natAbs)).2.1, (C (mk (decide (n < 0) != decide (d < 0)) n.natAbs d.natAbs)).2.2, 0) := by
  unfold newO
  rw [if_neg hd, Fr_C]
theorem band63 (x : Int) : 0 ≤ Go.bits .and .i64 x 63 ∧ Go.bits .and .i64 x 63 ≤ 63 := by
  unfold Go.bits
  have : (BitVec.ofInt IntKind.i64.bits x &&& BitVec.ofInt IntKind.i64.bits 63).toNat ≤ 63 := by
    rw [BitVec.toNat_and]
    exact Nat.and_le_right
  simp only
  rw [IntKind.wrap_i64]
  omega
theorem band31 (x : Int) : 0 ≤ Go.bits .and .i64 x 31 ∧ Go.bits .and .i64 x 31 ≤ 31 := by
  unfold Go.bits
  have : (BitVec.ofInt IntKind.i64.bits x &&& BitVec.ofInt IntKind.i64.bits 31).toNat ≤ 31 := by
    rw [BitVec.toNat_and]
    exact Nat.and_le_right
  simp only
  rw [IntKind.wrap_i64]
  omega
/-- The fraction that is built from a number. -/
def fq (n : Int) : Rat := mk (decide (Go.bits .and .i64 n 63 - 20 < 0) != decide (Go.bits .and .i64 (n / 64) 31 + 1 < 0)) (Go.bits .and .i64 n 63 - 20).natAbs (Go.bits .and .i64 (n / 64) 31 + 1).natAbs
theorem fq_sz (n : Int) : Sz 1 (fq n) := by
  have h1 := band63 n
  have h2 := band31 (n / 64)
  unfold fq
  refine mk_sz _ (by omega) ⟨by omega, ?_⟩ ⟨by omega, ?_⟩
  · rw [Int.pow_one]; omega
  · rw [Int.pow_one]; omega
theorem fq_ev (n : Int) : Ev (fun k => credencebase_Frac.f k n) (C (fq n)) := by
  have h1 := band63 n
  have h2 := band31 (n / 64)
  simp only [credencebase_Frac.f]
  rw [w64 (n := Go.bits .and .i64 n 63 - 20) (by omega) (by omega), w64 (n := Go.bits .and .i64 (n / 64) 31 + 1) (by omega) (by omega)]
  have := fnew_ev (n := Go.bits .and .i64 n 63 - 20) (d := Go.bits .and .i64 (n / 64) 31 + 1) (by omega) (by omega) (by omega) (by omega)
  rw [newC (by omega)] at this
  exact Ev.bind this (now fun _ => rfl)
end Go.Proofs.YtoeldfopjalpkaaDoor.Spec
set_option linter.unusedSimpArgs false
set_option linter.unusedVariables false
namespace Go.Proofs.YtoeldfopjalpkaaDoor.Spec
open Go.RowKit Go.Proofs.YtoeldfopjalpkaaDoorW.PrintWords Go.Proofs.YtoeldfopjalpkaaDoorW.PrintLast Go.Proofs.YtoeldfopjalpkaaDoorW.PrintMore Go.Proofs.YtoeldfopjalpkaaDoor.Q Go.Proofs.YtoeldfopjalpkaaDoor.Nums

theorem one_sz : Sz 1 1 := ⟨⟨by decide, by decide⟩, ⟨by decide, by decide⟩⟩
theorem zero_sz : Sz 1 0 := ⟨⟨by decide, by decide⟩, ⟨by decide, by decide⟩⟩
end Go.Proofs.YtoeldfopjalpkaaDoor.Spec
set_option linter.unusedSimpArgs false
set_option linter.unusedVariables false
namespace Go.Proofs.YtoeldfopjalpkaaDoor.Spec
open Go.RowKit Go.Proofs.YtoeldfopjalpkaaDoorW.PrintWords Go.Proofs.YtoeldfopjalpkaaDoorW.PrintLast Go.Proofs.YtoeldfopjalpkaaDoorW.PrintMore Go.Proofs.YtoeldfopjalpkaaDoor.Q Go.Proofs.YtoeldfopjalpkaaDoor.Nums

def qsum : List Rat → Rat
  | [] => 0
  | p :: l => p + qsum l
def qprod : List Rat → Rat
  | [] => 1
  | p :: l => p * qprod l
theorem qsum_append (l m : List Rat) : qsum (l ++ m) = qsum l + qsum m := by
  induction l with
  | nil => simp [qsum, Rat.zero_add]
  | cons p l ih => simp only [List.cons_append, qsum, ih, Rat.add_assoc]
theorem qprod_append (l m : List Rat) : qprod (l ++ m) = qprod l * qprod m := by
  induction l with
  | nil => simp [qprod, Rat.one_mul]
  | cons p l ih => simp only [List.cons_append, qprod, ih, Rat.mul_assoc]
theorem qsum_reverse (l : List Rat) : qsum l.reverse = qsum l := by
  induction l with
  | nil => rfl
  | cons p l ih => rw [List.reverse_cons, qsum_append, ih]; simp only [qsum]; grind
theorem qprod_reverse (l : List Rat) : qprod l.reverse = qprod l := by
  induction l with
  | nil => rfl
  | cons p l ih => rw [List.reverse_cons, qprod_append, ih]; simp only [qprod]; grind
theorem qsum_cut (l : List Rat) (n : Nat) : qsum (l.take n) + qsum (l.drop n) = qsum l := by rw [← qsum_append, List.take_append_drop]
theorem qprod_cut (l : List Rat) (n : Nat) : qprod (l.take n) * qprod (l.drop n) = qprod l := by rw [← qprod_append, List.take_append_drop]
/-- A fraction in a list. -/
def T (p : Rat) : S25 := ⟨(C p).1, (C p).2.1, (C p).2.2⟩
theorem rdT {L : List Rat} {i : Nat} (h : i < L.length) : rd_T25 (L.map T) (i : Int) = T (L.getD i 0) := by
  unfold rd_T25
  rw [Int.toNat_natCast, List.getD_eq_getElem?_getD, List.getElem?_map, List.getElem?_eq_getElem h, List.getD_eq_getElem?_getD, List.getElem?_eq_getElem h]
  rfl
theorem dropQ {L : List Rat} {i : Nat} (h : i < L.length) : L.drop i = L.getD i 0 :: L.drop (i + 1) := by
  rw [List.drop_eq_getElem_cons h, List.getD_eq_getElem?_getD, List.getElem?_eq_getElem h]
  rfl
theorem getQ {L : List Rat} {i : Nat} (h : i < L.length) (hS : ∀ p ∈ L, Sz 1 p) : Sz 1 (L.getD i 0) := by
  rw [List.getD_eq_getElem?_getD, List.getElem?_eq_getElem h]
  exact hS _ (List.getElem_mem h)
theorem sum_l {L : List Rat} (hl : L.length ≤ 100) (hS : ∀ p ∈ L, Sz 1 p) : ∀ (n i : Nat) (q : Rat), i + n = L.length → Sz (2 * i + 1) q → Ev (fun k => rational_Sum.l0 k (L.map T) (L.length : Int) (i : Int) (C q).1 (C q).2.1 (C q).2.2) (C (q + qsum (L.drop i))) := by
  intro n
  induction n with
  | zero =>
    intro i q hi hq
    rw [List.drop_eq_nil_of_le (by omega)]
    refine suc ?_
    simp (disch := omega) only [rational_Sum.l0, if_neg]
    rw [show q + qsum [] = q from Rat.add_zero q]
    exact now fun _ => rfl
  | succ n ih =>
    intro i q hi hq
    rw [dropQ (by omega)]
    have s1 := getQ (i := i) (by omega) hS
    have e := addC_ev hq s1 (by omega)
    have := ih (i + 1) (q + L.getD i 0) (by omega) ((hq.add s1).mono (by omega))
    refine suc ?_
    simp (disch := omega) only [rational_Sum.l0, if_pos, List.length_map, w64, rdT (show i < L.length by omega)]
    refine Ev.bind e ?_
    rw [show q + qsum (L.getD i 0 :: L.drop (i + 1)) = q + L.getD i 0 + qsum (L.drop (i + 1)) from (Rat.add_assoc _ _ _).symm]
    exact this
theorem sum_ev {L : List Rat} (hl : L.length ≤ 100) (hS : ∀ p ∈ L, Sz 1 p) : Ev (fun k => rational_Sum.f k (L.map T)) (C (qsum L)) := by
  have := sum_l hl hS L.length 0 0 (by omega) zero_sz
  rw [List.drop_zero, Rat.zero_add, C_zero, D_one] at this
  simp only [rational_Sum.f, rational_one.f, Option.bind_some, List.length_map]
  exact this
theorem sum_sz {L : List Rat} (hS : ∀ p ∈ L, Sz 1 p) : Sz (2 * L.length + 1) (qsum L) := by
  induction L with
  | nil => exact zero_sz
  | cons p L ih => exact ((hS p (by simp)).add (ih (fun q hq => hS q (by simp [hq])))).mono (by simp; omega)
theorem prod_l {L : List Rat} (hl : L.length ≤ 100) (hS : ∀ p ∈ L, Sz 1 p) : ∀ (n i : Nat) (q : Rat), i + n = L.length → Sz (i + 1) q → Ev (fun k => rational_Product.l0 k (L.map T) (L.length : Int) (i : Int) (C q).1 (C q).2.1 (C q).2.2) (C (q * qprod (L.drop i))) := by
  intro n
  induction n with
  | zero =>
    intro i q hi hq
    rw [List.drop_eq_nil_of_le (by omega)]
    refine suc ?_
    simp (disch := omega) only [rational_Product.l0, if_neg]
    rw [show q * qprod [] = q from Rat.mul_one q]
    exact now fun _ => rfl
  | succ n ih =>
    intro i q hi hq
    rw [dropQ (by omega)]
    have s1 := getQ (i := i) (by omega) hS
    have e := mulC_ev hq s1 (by omega)
    have := ih (i + 1) (q * L.getD i 0) (by omega) (hq.mul s1 (by omega))
    refine suc ?_
    simp (disch := omega) only [rational_Product.l0, if_pos, List.length_map, w64, rdT (show i < L.length by omega)]
    refine Ev.bind e ?_
    rw [show q * qprod (L.getD i 0 :: L.drop (i + 1)) = q * L.getD i 0 * qprod (L.drop (i + 1)) from (Rat.mul_assoc _ _ _).symm]
    exact this
theorem C_one : C 1 = (false, [1], [1]) := by
  rw [← D_one]; rfl
theorem prod_ev {L : List Rat} (hl : L.length ≤ 100) (hS : ∀ p ∈ L, Sz 1 p) : Ev (fun k => rational_Product.f k (L.map T)) (C (qprod L)) := by
  have := prod_l hl hS L.length 0 1 (by omega) one_sz
  rw [List.drop_zero, Rat.one_mul, C_one] at this
  simp only [rational_Product.f, rational_one.f, Option.bind_some, List.length_map]
  exact this
theorem prod_sz {L : List Rat} (hS : ∀ p ∈ L, Sz 1 p) : Sz (L.length + 1) (qprod L) := by
  induction L with
  | nil => exact one_sz
  | cons p L ih => exact ((hS p (by simp)).mul (ih (fun q hq => hS q (by simp [hq]))) (by omega)).mono (by simp; omega)
end Go.Proofs.YtoeldfopjalpkaaDoor.Spec
