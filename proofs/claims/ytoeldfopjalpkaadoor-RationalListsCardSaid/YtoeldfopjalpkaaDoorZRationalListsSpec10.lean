/- Lemmas for the proof of one law of this seat (Spec9). -/
import Derived.Test.YtoeldfopjalpkaaDoorZRationalListsSpec8
import Derived.Test.YtoeldfopjalpkaaDoorZRationalListsSpec4
set_option linter.unusedSimpArgs false
set_option linter.unusedVariables false
namespace Go.Proofs.YtoeldfopjalpkaaDoor.Spec
open Go.RowKit Go.Proofs.YtoeldfopjalpkaaDoorW.PrintWords Go.Proofs.YtoeldfopjalpkaaDoorW.PrintLast Go.Proofs.YtoeldfopjalpkaaDoorW.PrintMore Go.Proofs.YtoeldfopjalpkaaDoor.Q Go.Proofs.YtoeldfopjalpkaaDoor.Nums

theorem D_top {y : Int} (h : 0 < y) : 0 < (D y).getD ((D y).length - 1) 0 := by
  have hl := D_length_pos h
  have hc := Cn_el (D_cn y) ((D y).getD ((D y).length - 1) 0) (by rw [List.getLast?_eq_getElem?, List.getD_eq_getElem?_getD, List.getElem?_eq_getElem (by omega)]; rfl)
  have hu := U_getD (D_U y) ((D y).length - 1)
  omega
/-- A number and its top digit. -/
theorem top_bounds {xs : List Int} (hu : U xs) {n : Nat} (hn : xs.length = n + 1) : 4294967296 ^ n * xs.getD n 0 ≤ V xs ∧ V xs < 4294967296 ^ n * (xs.getD n 0 + 1) := by
  have e := V_take_next xs n
  rw [List.take_of_length_le (by omega)] at e
  have h0 := V_nonneg (U_take hu n)
  have h1 := V_lt (U_take hu n)
  rw [List.length_take, Nat.min_eq_left (by omega)] at h1
  rw [Int.mul_add, Int.mul_one]
  omega
theorem divLong_ev {x y : Int} (hy : 2 ≤ (D y).length) (hxy : y ≤ x) (hm : (D x).length ≤ 1048576) : Ev (fun k => bignat_divLong.f k (D x) (D y)) (D (x / y), D (x % y)) := by
  have y0 : 0 < y := by
    by_cases h : 0 < y
    · exact h
    · rw [D_neg h] at hy; simp at hy
  have hmn := D_len_mono (by omega) hxy
  have ua := D_U x
  have ub := D_U y
  have va := V_D x (by omega)
  have vb := V_D y (by omega)
  have htp := D_top y0
  have hly := D_len y0
  generalize hn : (D y).length = n at *
  generalize hmm : (D x).length = m at *
  have ht2 := U_getD ub (n - 1)
  generalize ht : (D y).getD (n - 1) 0 = t at *
  have hb1 := bl_top ht2.2
  have hb0 : 1 ≤ bl t := by rw [bl_pos (by omega)]; omega
  have hs : 32 - bl t ≤ 31 := by omega
  have e1 : ((n : Int) - 1) = ((n - 1 : Nat) : Int) := by omega
  have e2 : ((n : Int) - 2) = ((n - 2 : Nat) : Int) := by omega
  have rt : rd (D y) ((n - 1 : Nat) : Int) = t := ht
  have hp := two_pos (32 - bl t)
  have hpq : (2 : Int) ^ bl t * 2 ^ (32 - bl t) = 4294967296 := by
    rw [← Int.pow_add, show bl t + (32 - bl t) = 32 by omega]
    decide
  have hbt := bl_lt t
  have hbg := bl_ge (n := t) (by omega)
  have hbg2 : (2 : Int) ^ bl t = 2 * 2 ^ (bl t - 1) := by rw [← two_succ]; congr 1; omega
  have h31 : (2 : Int) ^ (32 - bl t) ≤ 2 ^ 31 := pow2_le hs
  have e31 : (2 : Int) ^ 31 = 2147483648 := by decide
  have htb := top_bounds ub (n := n - 1) (by omega)
  rw [ht, vb] at htb
  have hpn := pow_pos (n - 1)
  have hBn : (4294967296 : Int) ^ n = 4294967296 * 4294967296 ^ (n - 1) := by rw [← pow_succ']; congr 1; omega
  generalize hsdef : 32 - bl t = s at *
  -- the divisor fits
  have hfit : y * 2 ^ s < 4294967296 ^ n := by
    have h1 : (t + 1) * 2 ^ s ≤ 4294967296 := by rw [← hpq]; exact mul_mono (by omega) (by omega)
    have h2 : y * 2 ^ s < 4294967296 ^ (n - 1) * (t + 1) * 2 ^ s := Int.mul_lt_mul_of_pos_right htb.2 hp
    have h3 : 4294967296 ^ (n - 1) * ((t + 1) * 2 ^ s) ≤ 4294967296 ^ (n - 1) * 4294967296 := Int.mul_le_mul_of_nonneg_left h1 (by omega)
    rw [Int.mul_assoc] at h2
    rw [hBn, Int.mul_comm 4294967296]
    omega
  have hbig : 4294967296 ^ (n - 1) * 2147483648 ≤ y * 2 ^ s := by
    have h1 : 2147483648 ≤ t * 2 ^ s := by
      have h2 : 2 ^ (bl t - 1) * 2 ^ s ≤ t * 2 ^ s := mul_mono hbg (by omega)
      rw [hbg2, Int.mul_assoc] at hpq
      omega
    have h3 : 4294967296 ^ (n - 1) * 2147483648 ≤ 4294967296 ^ (n - 1) * (t * 2 ^ s) := Int.mul_le_mul_of_nonneg_left h1 (by omega)
    have h4 : 4294967296 ^ (n - 1) * t * 2 ^ s ≤ y * 2 ^ s := mul_mono htb.1 (by omega)
    rw [Int.mul_assoc] at h4
    omega
  obtain ⟨v, hv, lv, uv, vv⟩ := shift_ev (a := D y) ub s hs n (by omega) (by omega) (by rw [vb]; exact hfit)
  rw [vb] at vv
  have hxl : x < 4294967296 ^ m := by rw [← va, ← hmm]; exact V_lt ua
  have hpm := pow_pos m
  have hfita : x * 2 ^ s < 4294967296 ^ (m + 1) := by
    have h1 : x * 2 ^ s ≤ 4294967296 ^ m * 2147483648 := Int.mul_le_mul (by omega) (by omega) (by omega) (by omega)
    rw [pow_succ', Int.mul_comm 4294967296]
    omega
  obtain ⟨u, hu, lu, uu, vu⟩ := shift_ev (a := D x) ua s hs (m + 1) (by omega) (by omega) (by rw [va]; exact hfita)
  rw [va] at vu
  have dtop := U_getD uv (n - 1)
  have dnext := U_getD uv (n - 2)
  have htv := top_bounds uv (n := n - 1) (by omega)
  rw [vv] at htv
  have hdv : Dv n v (v.getD (n - 1) 0) (v.getD (n - 2) 0) (y * 2 ^ s) (V (v.take (n - 2))) := by
    refine ⟨lv, hy, by omega, uv, vv, ?_, V_nonneg (U_take uv _), ?_, ?_, dtop.2, dnext.1, dnext.2⟩
    · rw [← vv, V_split v (n - 2) (by omega), V_drop_step (show n - 2 < v.length by omega), V_drop_step (show n - 2 + 1 < v.length by omega), List.drop_of_length_le (by omega), V_nil, show n - 2 + 1 = n - 1 by omega, Int.mul_comm (4294967296 ^ (n - 2)), Int.mul_zero, Int.add_zero, Int.mul_comm (v.getD (n - 1) 0)]
      rw [Int.add_comm (v.getD (n - 2) 0), Int.add_comm]
    · have := V_lt (U_take uv (n - 2))
      rwa [List.length_take, Nat.min_eq_left (by omega)] at this
    · by_cases hc : 2147483648 ≤ v.getD (n - 1) 0
      · exact hc
      · exfalso
        have : 4294967296 ^ (n - 1) * (v.getD (n - 1) 0 + 1) ≤ 4294967296 ^ (n - 1) * 2147483648 := Int.mul_le_mul_of_nonneg_left (by omega) (by omega)
        omega
  have hyn : 4294967296 ^ (n - 1) ≤ y := by
    have : 4294967296 ^ (n - 1) * 1 ≤ 4294967296 ^ (n - 1) * t := Int.mul_le_mul_of_nonneg_left (by omega) (by omega)
    omega
  have hdrop : V (u.drop (m - n + 1)) < y * 2 ^ s := by
    by_cases hc : V (u.drop (m - n + 1)) < y * 2 ^ s
    · exact hc
    · exfalso
      have h1 := V_split u (m - n + 1) (by omega)
      have h2 := V_nonneg (U_take uu (m - n + 1))
      have hpk := pow_pos (m - n + 1)
      have h3 : 4294967296 ^ (m - n + 1) * (4294967296 ^ (n - 1) * 2 ^ s) ≤ 4294967296 ^ (m - n + 1) * V (u.drop (m - n + 1)) := Int.mul_le_mul_of_nonneg_left (Int.le_trans (mul_mono hyn (by omega)) (by omega)) (by omega)
      have h4 : (4294967296 : Int) ^ (m - n + 1) * 4294967296 ^ (n - 1) = 4294967296 ^ m := by rw [← Int.pow_add]; congr 1; omega
      have h5 : x * 2 ^ s < 4294967296 ^ m * 2 ^ s := Int.mul_lt_mul_of_pos_right hxl hp
      rw [← Int.mul_assoc, h4] at h3
      omega
  have hmain := l0_ev hdv hs hm (by omega) (by rw [Int.mul_emod_left]) (x * 2 ^ s) (by rw [Int.mul_emod_left]) (m - n + 1) u (List.replicate (m - n + 1) 0) (by omega) lu uu (by simp) (U_replicate _) hdrop (by rw [vu, List.drop_of_length_le (by simp), V_nil]; simp)
  have hq := quot_of (x := x * 2 ^ s) (r := x % y * 2 ^ s) (d := y * 2 ^ s) (q := x / y) (by
    have := Int.emod_add_mul_ediv x y
    conv => lhs; rw [← this]
    rw [Int.add_mul, Int.mul_assoc, Int.mul_comm (x / y), ← Int.mul_assoc]) (Int.mul_nonneg (Int.emod_nonneg x (by omega)) (by omega)) (Int.mul_lt_mul_of_pos_right (Int.emod_lt_of_pos x y0) hp)
  rw [hq.1, hq.2, Int.mul_ediv_cancel _ (by omega)] at hmain
  have e3 : ((m : Int) + 1) = ((m + 1 : Nat) : Int) := by omega
  have e4 : ((m : Int) - (n : Int)) = ((m - n : Nat) : Int) := by omega
  have e5 : (((m - n : Nat) : Int) + 1) = ((m - n + 1 : Nat) : Int) := by omega
  have e6 : (((m - n + 1 : Nat) : Int) - 1) = ((m - n : Nat) : Int) := by omega
  have lz := lz_eq (x := t) (by omega) ht2.2
  rw [hsdef] at lz
  rw [e6] at hmain
  have r1 : rd v ((n - 1 : Nat) : Int) = v.getD (n - 1) 0 := rfl
  have r2 : rd v ((n - 2 : Nat) : Int) = v.getD (n - 2) 0 := rfl
  simp only [bignat_divLong.f, hn, hmm]
  simp (disch := omega) only [if_pos, w64, e1, rt, lz, Option.bind_some, u64w, e3]
  refine Ev.bind hu (Ev.bind hv ?_)
  simp (disch := omega) only [if_pos, w64, e1, e2, e4, e5, lv, Int.toNat_natCast, r1, r2, u64w]
  exact hmain

theorem ds_l {a : List Int} (ha : U a) (sa : Big a) (y : Int) (y0 : 0 < y) (y1 : y < 4294967296) : ∀ (i : Nat) (o : List Int) (c : Int), i ≤ a.length → o.length = a.length → U o → 0 ≤ c → c < y → V (a.drop i) = c + y * V (o.drop i) →
    Ev (fun k => bignat_divSmall.l0 k a y o c ((i : Int) - 1)) (D (V a / y), V a % y) := by
  unfold Big at sa
  intro i
  induction i with
  | zero =>
    intro o c hi ho uo c0 c1 h
    rw [List.drop_zero, List.drop_zero] at h
    obtain ⟨h1, h2⟩ := quot_of h c0 c1
    rw [h1, h2]
    refine suc ?_
    have ec : c % 4294967296 = c := by omega
    simp (disch := omega) only [bignat_divSmall.l0, if_neg, ec]
    exact Ev.bind (trim_ev uo (by unfold Big; omega)) (now fun _ => rfl)
  | succ i ih =>
    intro o c hi ho uo c0 c1 h
    have da := U_getD ha i
    have e1 : (((i + 1 : Nat) : Int) - 1) = (i : Int) := by omega
    have eo := or_hi (x := c) (y := a.getD i 0) c0 (by omega) da.1 da.2
    have hX0 : 0 ≤ c * 4294967296 + a.getD i 0 := by omega
    have hX1 : c * 4294967296 + a.getD i 0 < 4294967296 * y := by omega
    have hd : (c * 4294967296 + a.getD i 0) / y < 4294967296 := Int.ediv_lt_of_lt_mul y0 hX1
    have hd0 : 0 ≤ (c * 4294967296 + a.getD i 0) / y := Int.ediv_nonneg hX0 (by omega)
    have hdm := Int.emod_add_mul_ediv (c * 4294967296 + a.getD i 0) y
    have hm0 := Int.emod_nonneg (c * 4294967296 + a.getD i 0) (show y ≠ 0 by omega)
    have hm1 := Int.emod_lt_of_pos (c * 4294967296 + a.getD i 0) y0
    have etd : Int.tdiv (c * 4294967296 + a.getD i 0) y = (c * 4294967296 + a.getD i 0) / y := Int.tdiv_eq_ediv_of_nonneg hX0
    have etm : Int.tmod (c * 4294967296 + a.getD i 0) y = (c * 4294967296 + a.getD i 0) % y := Int.tmod_eq_emod_of_nonneg hX0
    have emm : (c * 4294967296 + a.getD i 0) / y % 4294967296 = (c * 4294967296 + a.getD i 0) / y := by omega
    refine suc ?_
    simp (disch := omega) only [bignat_divSmall.l0, if_neg, if_pos, e1, rd_nat, u64w, eo, etd, etm, Int.toNat_natCast, w64, emm]
    refine ih _ _ (by omega) (by rw [List.length_set]; exact ho) (U_set uo i hd0 hd) hm0 hm1 ?_
    rw [V_drop_step (show i < a.length by omega), V_drop_step (show i < (o.set i _).length by rw [List.length_set]; omega), getD_set_self (by omega), List.drop_set_of_lt (by omega), h,
      show y * ((c * 4294967296 + a.getD i 0) / y + 4294967296 * V (o.drop (i + 1))) = y * ((c * 4294967296 + a.getD i 0) / y) + y * (4294967296 * V (o.drop (i + 1))) from Int.mul_add _ _ _]
    have : y * (4294967296 * V (o.drop (i + 1))) = 4294967296 * (y * V (o.drop (i + 1))) := Int.mul_left_comm _ _ _
    omega
theorem divSmall_ev {a : List Int} (ha : U a) (sa : Big a) {y : Int} (y0 : 0 < y) (y1 : y < 4294967296) : Ev (fun k => bignat_divSmall.f k a y) (D (V a / y), V a % y) := by
  have hs := sa
  unfold Big at hs
  simp only [bignat_divSmall.f]
  simp (disch := omega) only [if_pos, w64, Int.toNat_natCast]
  exact ds_l ha sa y y0 y1 a.length _ 0 (Nat.le_refl _) (by simp) (U_replicate _) (by omega) y0 (by rw [List.drop_of_length_le (Nat.le_refl _), List.drop_of_length_le (by simp), V_nil]; simp)

/-- Quotient and remainder; nothing for a divisor 0. -/
def divO (x y : Int) : List Int × List Int × Bool := if 0 < y then (D (x / y), D (x % y), true) else ([], [], false)
theorem divMod_ev {a b : List Int} (ha : U a) (hb : U b) (sa : a.length ≤ 1048576) (sb : Big b) : Ev (fun k => bignat_DivMod.f k a b) (divO (V a) (V b)) := by
  have sa' : Big a := by unfold Big; omega
  have h1 := V_nonneg ha
  have h2 := V_nonneg hb
  have ba := D_big ha sa'
  have bb := D_big hb sb
  simp only [bignat_DivMod.f]
  refine Ev.bind (trim_ev ha sa') (Ev.bind (trim_ev hb sb) ?_)
  unfold divO
  by_cases hy : 0 < V b
  · rw [if_pos hy]
    have hl := D_length_pos hy
    simp (disch := omega) only [if_neg]
    have hc := cmp_ev (D_U (V a)) (D_U (V b)) ba bb
    rw [V_D _ h1, V_D _ h2] at hc
    refine Ev.bind hc ?_
    by_cases hlt : V a < V b
    · rw [cmpI_lt hlt]
      have hcl := clone_ev (D_U (V a)) ba
      rw [V_D _ h1] at hcl
      simp (disch := omega) only [if_pos]
      refine Ev.bind hcl (now fun _ => ?_)
      rw [Int.ediv_eq_zero_of_lt h1 hlt, Int.emod_eq_of_lt h1 hlt, D_zero]
    · have hcg := cmpI_ge hlt
      simp only [if_neg hcg]
      by_cases h1l : (D (V b)).length = 1
      · have hlt2 := (D_len hy).2
        rw [h1l, Int.pow_one] at hlt2
        have hrd : rd (D (V b)) 0 = V b := by
          show (D (V b)).getD 0 0 = _
          rw [D_pos hy]
          show V b % 4294967296 = V b
          omega
        have hds := divSmall_ev (D_U (V a)) ba hy hlt2
        rw [V_D _ h1] at hds
        simp (disch := omega) only [if_pos, hrd]
        refine Ev.bind hds ?_
        have hm0 := Int.emod_nonneg (V a) (show V b ≠ 0 by omega)
        have hm1 := Int.emod_lt_of_pos (V a) hy
        simp (disch := omega) only [u64w, from_eq, Option.bind_some]
        exact now fun _ => rfl
      · simp (disch := omega) only [if_neg]
        refine Ev.bind (divLong_ev (by omega) (by omega) (Nat.le_trans (D_short ha) sa)) (now fun _ => rfl)
  · have h0 : V b = 0 := by omega
    rw [if_neg hy, h0, D_zero]
    exact now fun _ => rfl

theorem bl_shift {t : Int} (ht : 0 < t) : ∀ {n : Nat} {x : Int}, 4294967296 ^ n * t ≤ x → x < 4294967296 ^ n * (t + 1) → bl x = 32 * n + bl t
  | 0, x, h1, h2 => by
    rw [Int.pow_zero, Int.one_mul] at h1 h2
    rw [show x = t by omega]; omega
  | n + 1, x, h1, h2 => by
    rw [pow_succ', Int.mul_assoc] at h1 h2
    have hp : 1 * 1 ≤ 4294967296 ^ n * t := Int.mul_le_mul (pow_pos n) (by omega) (by omega) (Int.le_of_lt (pow_pos n))
    have := bl_shift ht (n := n) (x := x / 4294967296) (by omega) (by omega)
    rw [bl16 (by omega), bl16 (n := x / 65536) (by omega), show x / 65536 / 65536 = x / 4294967296 by omega, this]
    omega
theorem bl_D {x : Int} (h : 0 < x) : bl x = 32 * ((D x).length - 1) + bl ((D x).getD ((D x).length - 1) 0) := by
  have hl := D_length_pos h
  have ht := top_bounds (D_U x) (n := (D x).length - 1) (by omega)
  rw [V_D x (by omega)] at ht
  exact bl_shift (D_top h) ht.1 ht.2
theorem bitLen_ev {a : List Int} (ha : U a) (sa : Big a) : Ev (fun k => bignat_BitLen.f k a) (bl (V a) : Int) := by
  have h1 := V_nonneg ha
  have ba := D_big ha sa
  unfold Big at ba
  simp only [bignat_BitLen.f]
  refine Ev.bind (trim_ev ha sa) ?_
  by_cases h : 0 < V a
  · have hl := D_length_pos h
    have hd := U_getD (D_U (V a)) ((D (V a)).length - 1)
    have e1 : (((D (V a)).length : Int) - 1) = (((D (V a)).length - 1 : Nat) : Int) := by omega
    have hb := bl_top hd.2
    have hbd := bl_D h
    simp (disch := omega) only [if_neg, if_pos, w64, e1, rd_nat, len32_eq hd.1 hd.2, Option.bind_some]
    exact now fun _ => by rw [hbd]; congr 1
  · have h0 : V a = 0 := by omega
    rw [h0, D_zero, bl_zero (by omega)]
    exact now fun _ => rfl
end Go.Proofs.YtoeldfopjalpkaaDoor.Spec
set_option linter.unusedSimpArgs false
set_option linter.unusedVariables false
namespace Go.Proofs.YtoeldfopjalpkaaDoor.Spec
open Go.RowKit Go.Proofs.YtoeldfopjalpkaaDoorW.PrintWords Go.Proofs.YtoeldfopjalpkaaDoorW.PrintLast Go.Proofs.YtoeldfopjalpkaaDoorW.PrintMore Go.Proofs.YtoeldfopjalpkaaDoor.Q Go.Proofs.YtoeldfopjalpkaaDoor.Nums

theorem pow32 (n : Nat) : (2 : Int) ^ (32 * n) = 4294967296 ^ n := by rw [Int.pow_mul]; rfl

end Go.Proofs.YtoeldfopjalpkaaDoor.Spec
