/- Lemmas for the proof of one law of this seat (Spec9). -/
import Derived.Test.YtoeldfopjalpkaaDoorZRationalTextSpec8
import Derived.Test.YtoeldfopjalpkaaDoorZRationalTextSpec4
import Derived.Laws.Strings
set_option linter.unusedSimpArgs false
set_option linter.unusedVariables false
namespace Go.Proofs.YtoeldfopjalpkaaDoor.Spec
open Go.RowKit Go.Proofs.YtoeldfopjalpkaaDoorW.PrintWords Go.Proofs.YtoeldfopjalpkaaDoorW.PrintLast Go.Proofs.YtoeldfopjalpkaaDoorW.PrintMore Go.Proofs.YtoeldfopjalpkaaDoor.Q Go.Proofs.YtoeldfopjalpkaaDoor.Nums

theorem D_top {y : Int} (h : 0 < y) : 0 < (D y).getD ((D y).length - 1) 0 := by
  have hl := D_length_pos h
  have hc := Cn_el (D_cn y) ((D y).getD ((D y).length - 1) 0) (by rw [List.getLast?_eq_getElem?, List.getD_eq_getElem?_getD, List.getElem?_eq_getElem (by omega)]; rfl)
  have hu := U_getD (D_U y) ((D y).length - 1)
  omega
/-- A number and its top digit. -/
theorem top_bounds {xs : List Int} (hu : U xs) {n : Nat} (hn : xs.length = n + 1) : 4294967296 ^ n * xs.getD n 0 ≤ V xs ∧ V xs < 4294967296 ^ n * (xs.getD n 0 + 1) := by
  have e := V_take_next xs n
  rw [List.take_of_length_le (by omega)] at e
  have h0 := V_nonneg (U_take hu n)
  have h1 := V_lt (U_take hu n)
  rw [List.length_take, Nat.min_eq_left (by omega)] at h1
  rw [Int.mul_add, Int.mul_one]
  omega
theorem divLong_ev {x y : Int} (hy : 2 ≤ (D y).length) (hxy : y ≤ x) (hm : (D x).length ≤ 1048576) : Ev (fun k => bignat_divLong.f k (D x) (D y)) (D (x / y), D (x % y)) := by
  have y0 : 0 < y := by
    by_cases h : 0 < y
    · exact h
    · rw [D_neg h] at hy; simp at hy
  have hmn := D_len_mono (by omega) hxy
  have ua := D_U x
  have ub := D_U y
  have va := V_D x (by omega)
  have vb := V_D y (by omega)
  have htp := D_top y0
  have hly := D_len y0
  generalize hn : (D y).length = n at *
  generalize hmm : (D x).length = m at *
  have ht2 := U_getD ub (n - 1)
  generalize ht : (D y).getD (n - 1) 0 = t at *
  have hb1 := bl_top ht2.2
  have hb0 : 1 ≤ bl t := by rw [bl_pos (by omega)]; omega
  have hs : 32 - bl t ≤ 31 := by omega
  have e1 : ((n : Int) - 1) = ((n - 1 : Nat) : Int) := by omega
  have e2 : ((n : Int) - 2) = ((n - 2 : Nat) : Int) := by omega
  have rt : rd (D y) ((n - 1 : Nat) : Int) = t := ht
  have hp := two_pos (32 - bl t)
  have hpq : (2 : Int) ^ bl t * 2 ^ (32 - bl t) = 4294967296 := by
    rw [← Int.pow_add, show bl t + (32 - bl t) = 32 by omega]
    decide
  have hbt := bl_lt t
  have hbg := bl_ge (n := t) (by omega)
  have hbg2 : (2 : Int) ^ bl t = 2 * 2 ^ (bl t - 1) := by rw [← two_succ]; congr 1; omega
  have h31 : (2 : Int) ^ (32 - bl t) ≤ 2 ^ 31 := pow2_le hs
  have e31 : (2 : Int) ^ 31 = 2147483648 := by decide
  have htb := top_bounds ub (n := n - 1) (by omega)
  rw [ht, vb] at htb
  have hpn := pow_pos (n - 1)
  have hBn : (4294967296 : Int) ^ n = 4294967296 * 4294967296 ^ (n - 1) := by rw [← pow_succ']; congr 1; omega
  generalize hsdef : 32 - bl t = s at *
  -- the divisor fits
  have hfit : y * 2 ^ s < 4294967296 ^ n := by
    have h1 : (t + 1) * 2 ^ s ≤ 4294967296 := by rw [← hpq]; exact mul_mono (by omega) (by omega)
    have h2 : y * 2 ^ s < 4294967296 ^ (n - 1) * (t + 1) * 2 ^ s := Int.mul_lt_mul_of_pos_right htb.2 hp
    have h3 : 4294967296 ^ (n - 1) * ((t + 1) * 2 ^ s) ≤ 4294967296 ^ (n - 1) * 4294967296 := Int.mul_le_mul_of_nonneg_left h1 (by omega)
    rw [Int.mul_assoc] at h2
    rw [hBn, Int.mul_comm 4294967296]
    omega
  have hbig : 4294967296 ^ (n - 1) * 2147483648 ≤ y * 2 ^ s := by
    have h1 : 2147483648 ≤ t * 2 ^ s := by
      have h2 : 2 ^ (bl t - 1) * 2 ^ s ≤ t * 2 ^ s := mul_mono hbg (by omega)
      rw [hbg2, Int.mul_assoc] at hpq
      omega
    have h3 : 4294967296 ^ (n - 1) * 2147483648 ≤ 4294967296 ^ (n - 1) * (t * 2 ^ s) := Int.mul_le_mul_of_nonneg_left h1 (by omega)
    have h4 : 4294967296 ^ (n - 1) * t * 2 ^ s ≤ y * 2 ^ s := mul_mono htb.1 (by omega)
    rw [Int.mul_assoc] at h4
    omega
  obtain ⟨v, hv, lv, uv, vv⟩ := shift_ev (a := D y) ub s hs n (by omega) (by omega) (by rw [vb]; exact hfit)
  rw [vb] at vv
  have hxl : x < 4294967296 ^ m := by rw [← va, ← hmm]; exact V_lt ua
  have hpm := pow_pos m
  have hfita : x * 2 ^ s < 4294967296 ^ (m + 1) := by
    have h1 : x * 2 ^ s ≤ 4294967296 ^ m * 2147483648 := Int.mul_le_mul (by omega) (by omega) (by omega) (by omega)
    rw [pow_succ', Int.mul_comm 4294967296]
    omega
  obtain ⟨u, hu, lu, uu, vu⟩ := shift_ev (a := D x) ua s hs (m + 1) (by omega) (by omega) (by rw [va]; exact hfita)
  rw [va] at vu
  have dtop := U_getD uv (n - 1)
  have dnext := U_getD uv (n - 2)
  have htv := top_bounds uv (n := n - 1) (by omega)
  rw [vv] at htv
  have hdv : Dv n v (v.getD (n - 1) 0) (v.getD (n - 2) 0) (y * 2 ^ s) (V (v.take (n - 2))) := by
    refine ⟨lv, hy, by omega, uv, vv, ?_, V_nonneg (U_take uv _), ?_, ?_, dtop.2, dnext.1, dnext.2⟩
    · rw [← vv, V_split v (n - 2) (by omega), V_drop_step (show n - 2 < v.length by omega), V_drop_step (show n - 2 + 1 < v.length by omega), List.drop_of_length_le (by omega), V_nil, show n - 2 + 1 = n - 1 by omega, Int.mul_comm (4294967296 ^ (n - 2)), Int.mul_zero, Int.add_zero, Int.mul_comm (v.getD (n - 1) 0)]
      rw [Int.add_comm (v.getD (n - 2) 0), Int.add_comm]
    · have := V_lt (U_take uv (n - 2))
      rwa [List.length_take, Nat.min_eq_left (by omega)] at this
    · by_cases hc : 2147483648 ≤ v.getD (n - 1) 0
      · exact hc
      · exfalso
        have : 4294967296 ^ (n - 1) * (v.getD (n - 1) 0 + 1) ≤ 4294967296 ^ (n - 1) * 2147483648 := Int.mul_le_mul_of_nonneg_left (by omega) (by omega)
        omega
  have hyn : 4294967296 ^ (n - 1) ≤ y := by
    have : 4294967296 ^ (n - 1) * 1 ≤ 4294967296 ^ (n - 1) * t := Int.mul_le_mul_of_nonneg_left (by omega) (by omega)
    omega
  have hdrop : V (u.drop (m - n + 1)) < y * 2 ^ s := by
    by_cases hc : V (u.drop (m - n + 1)) < y * 2 ^ s
    · exact hc
    · exfalso
      have h1 := V_split u (m - n + 1) (by omega)
      have h2 := V_nonneg (U_take uu (m - n + 1))
      have hpk := pow_pos (m - n + 1)
      have h3 : 4294967296 ^ (m - n + 1) * (4294967296 ^ (n - 1) * 2 ^ s) ≤ 4294967296 ^ (m - n + 1) * V (u.drop (m - n + 1)) := Int.mul_le_mul_of_nonneg_left (Int.le_trans (mul_mono hyn (by omega)) (by omega)) (by omega)
      have h4 : (4294967296 : Int) ^ (m - n + 1) * 4294967296 ^ (n - 1) = 4294967296 ^ m := by rw [← Int.pow_add]; congr 1; omega
      have h5 : x * 2 ^ s < 4294967296 ^ m * 2 ^ s := Int.mul_lt_mul_of_pos_right hxl hp
      rw [← Int.mul_assoc, h4] at h3
      omega
  have hmain := l0_ev hdv hs hm (by omega) (by rw [Int.mul_emod_left]) (x * 2 ^ s) (by rw [Int.mul_emod_left]) (m - n + 1) u (List.replicate (m - n + 1) 0) (by omega) lu uu (by simp) (U_replicate _) hdrop (by rw [vu, List.drop_of_length_le (by simp), V_nil]; simp)
  have hq := quot_of (x := x * 2 ^ s) (r := x % y * 2 ^ s) (d := y * 2 ^ s) (q := x / y) (by
    have := Int.emod_add_mul_ediv x y
    conv => lhs; rw [← this]
    rw [Int.add_mul, Int.mul_assoc, Int.mul_comm (x / y), ← Int.mul_assoc]) (Int.mul_nonneg (Int.emod_nonneg x (by omega)) (by omega)) (Int.mul_lt_mul_of_pos_right (Int.emod_lt_of_pos x y0) hp)
  rw [hq.1, hq.2, Int.mul_ediv_cancel _ (by omega)] at hmain
  have e3 : ((m : Int) + 1) = ((m + 1 : Nat) : Int) := by omega
  have e4 : ((m : Int) - (n : Int)) = ((m - n : Nat) : Int) := by omega
  have e5 : (((m - n : Nat) : Int) + 1) = ((m - n + 1 : Nat) : Int) := by omega
  have e6 : (((m - n + 1 : Nat) : Int) - 1) = ((m - n : Nat) : Int) := by omega
  have lz := lz_eq (x := t) (by omega) ht2.2
  rw [hsdef] at lz
  rw [e6] at hmain
  have r1 : rd v ((n - 1 : Nat) : Int) = v.getD (n - 1) 0 := rfl
  have r2 : rd v ((n - 2 : Nat) : Int) = v.getD (n - 2) 0 := rfl
  simp only [bignat_divLong.f, hn, hmm]
  simp (disch := omega) only [if_pos, w64, e1, rt, lz, Option.bind_some, u64w, e3]
  refine Ev.bind hu (Ev.bind hv ?_)
  simp (disch := omega) only [if_pos, w64, e1, e2, e4, e5, lv, Int.toNat_natCast, r1, r2, u64w]
  exact hmain

theorem ds_l {a : List Int} (ha : U a) (sa : Big a) (y : Int) (y0 : 0 < y) (y1 : y < 4294967296) : ∀ (i : Nat) (o : List Int) (c : Int), i ≤ a.length → o.length = a.length → U o → 0 ≤ c → c < y → V (a.drop i) = c + y * V (o.drop i) →
    Ev (fun k => bignat_divSmall.l0 k a y o c ((i : Int) - 1)) (D (V a / y), V a % y) := by
  unfold Big at sa
  intro i
  induction i with
  | zero =>
    intro o c hi ho uo c0 c1 h
    rw [List.drop_zero, List.drop_zero] at h
    obtain ⟨h1, h2⟩ := quot_of h c0 c1
    rw [h1, h2]
    refine suc ?_
    have ec : c % 4294967296 = c := by omega
    simp (disch := omega) only [bignat_divSmall.l0, if_neg, ec]
    exact Ev.bind (trim_ev uo (by unfold Big; omega)) (now fun _ => rfl)
  | succ i ih =>
    intro o c hi ho uo c0 c1 h
    have da := U_getD ha i
    have e1 : (((i + 1 : Nat) : Int) - 1) = (i : Int) := by omega
    have eo := or_hi (x := c) (y := a.getD i 0) c0 (by omega) da.1 da.2
    have hX0 : 0 ≤ c * 4294967296 + a.getD i 0 := by omega
    have hX1 : c * 4294967296 + a.getD i 0 < 4294967296 * y := by omega
    have hd : (c * 4294967296 + a.getD i 0) / y < 4294967296 := Int.ediv_lt_of_lt_mul y0 hX1
    have hd0 : 0 ≤ (c * 4294967296 + a.getD i 0) / y := Int.ediv_nonneg hX0 (by omega)
    have hdm := Int.emod_add_mul_ediv (c * 4294967296 + a.getD i 0) y
    have hm0 := Int.emod_nonneg (c * 4294967296 + a.getD i 0) (show y ≠ 0 by omega)
    have hm1 := Int.emod_lt_of_pos (c * 4294967296 + a.getD i 0) y0
    have etd : Int.tdiv (c * 4294967296 + a.getD i 0) y = (c * 4294967296 + a.getD i 0) / y := Int.tdiv_eq_ediv_of_nonneg hX0
    have etm : Int.tmod (c * 4294967296 + a.getD i 0) y = (c * 4294967296 + a.getD i 0) % y := Int.tmod_eq_emod_of_nonneg hX0
    have emm : (c * 4294967296 + a.getD i 0) / y % 4294967296 = (c * 4294967296 + a.getD i 0) / y := by omega
    refine suc ?_
    simp (disch := omega) only [bignat_divSmall.l0, if_neg, if_pos, e1, rd_nat, u64w, eo, etd, etm, Int.toNat_natCast, w64, emm]
    refine ih _ _ (by omega) (by rw [List.length_set]; exact ho) (U_set uo i hd0 hd) hm0 hm1 ?_
    rw [V_drop_step (show i < a.length by omega), V_drop_step (show i < (o.set i _).length by rw [List.length_set]; omega), getD_set_self (by omega), List.drop_set_of_lt (by omega), h,
      show y * ((c * 4294967296 + a.getD i 0) / y + 4294967296 * V (o.drop (i + 1))) = y * ((c * 4294967296 + a.getD i 0) / y) + y * (4294967296 * V (o.drop (i + 1))) from Int.mul_add _ _ _]
    have : y * (4294967296 * V (o.drop (i + 1))) = 4294967296 * (y * V (o.drop (i + 1))) := Int.mul_left_comm _ _ _
    omega
theorem divSmall_ev {a : List Int} (ha : U a) (sa : Big a) {y : Int} (y0 : 0 < y) (y1 : y < 4294967296) : Ev (fun k => bignat_divSmall.f k a y) (D (V a / y), V a % y) := by
  have hs := sa
  unfold Big at hs
  simp only [bignat_divSmall.f]
  simp (disch := omega) only [if_pos, w64, Int.toNat_natCast]
  exact ds_l ha sa y y0 y1 a.length _ 0 (Nat.le_refl _) (by simp) (U_replicate _) (by omega) y0 (by rw [List.drop_of_length_le (Nat.le_refl _), List.drop_of_length_le (by simp), V_nil]; simp)

/-- Quotient and remainder; nothing for a divisor 0. -/
def divO (x y : Int) : List Int × List Int × Bool := if 0 < y then (D (x / y), D (x % y), true) else ([], [], false)
theorem divMod_ev {a b : List Int} (ha : U a) (hb : U b) (sa : a.length ≤ 1048576) (sb : Big b) : Ev (fun k => bignat_DivMod.f k a b) (divO (V a) (V b)) := by
  have sa' : Big a := by unfold Big; omega
  have h1 := V_nonneg ha
  have h2 := V_nonneg hb
  have ba := D_big ha sa'
  have bb := D_big hb sb
  simp only [bignat_DivMod.f]
  refine Ev.bind (trim_ev ha sa') (Ev.bind (trim_ev hb sb) ?_)
  unfold divO
  by_cases hy : 0 < V b
  · rw [if_pos hy]
    have hl := D_length_pos hy
    simp (disch := omega) only [if_neg]
    have hc := cmp_ev (D_U (V a)) (D_U (V b)) ba bb
    rw [V_D _ h1, V_D _ h2] at hc
    refine Ev.bind hc ?_
    by_cases hlt : V a < V b
    · rw [cmpI_lt hlt]
      have hcl := clone_ev (D_U (V a)) ba
      rw [V_D _ h1] at hcl
      simp (disch := omega) only [if_pos]
      refine Ev.bind hcl (now fun _ => ?_)
      rw [Int.ediv_eq_zero_of_lt h1 hlt, Int.emod_eq_of_lt h1 hlt, D_zero]
    · have hcg := cmpI_ge hlt
      simp only [if_neg hcg]
      by_cases h1l : (D (V b)).length = 1
      · have hlt2 := (D_len hy).2
        rw [h1l, Int.pow_one] at hlt2
        have hrd : rd (D (V b)) 0 = V b := by
          show (D (V b)).getD 0 0 = _
          rw [D_pos hy]
          show V b % 4294967296 = V b
          omega
        have hds := divSmall_ev (D_U (V a)) ba hy hlt2
        rw [V_D _ h1] at hds
        simp (disch := omega) only [if_pos, hrd]
        refine Ev.bind hds ?_
        have hm0 := Int.emod_nonneg (V a) (show V b ≠ 0 by omega)
        have hm1 := Int.emod_lt_of_pos (V a) hy
        simp (disch := omega) only [u64w, from_eq, Option.bind_some]
        exact now fun _ => rfl
      · simp (disch := omega) only [if_neg]
        refine Ev.bind (divLong_ev (by omega) (by omega) (Nat.le_trans (D_short ha) sa)) (now fun _ => rfl)
  · have h0 : V b = 0 := by omega
    rw [if_neg hy, h0, D_zero]
    exact now fun _ => rfl

theorem bl_shift {t : Int} (ht : 0 < t) : ∀ {n : Nat} {x : Int}, 4294967296 ^ n * t ≤ x → x < 4294967296 ^ n * (t + 1) → bl x = 32 * n + bl t
  | 0, x, h1, h2 => by
    rw [Int.pow_zero, Int.one_mul] at h1 h2
    rw [show x = t by omega]; omega
  | n + 1, x, h1, h2 => by
    rw [pow_succ', Int.mul_assoc] at h1 h2
    have hp : 1 * 1 ≤ 4294967296 ^ n * t := Int.mul_le_mul (pow_pos n) (by omega) (by omega) (Int.le_of_lt (pow_pos n))
    have := bl_shift ht (n := n) (x := x / 4294967296) (by omega) (by omega)
    rw [bl16 (by omega), bl16 (n := x / 65536) (by omega), show x / 65536 / 65536 = x / 4294967296 by omega, this]
    omega
theorem bl_D {x : Int} (h : 0 < x) : bl x = 32 * ((D x).length - 1) + bl ((D x).getD ((D x).length - 1) 0) := by
  have hl := D_length_pos h
  have ht := top_bounds (D_U x) (n := (D x).length - 1) (by omega)
  rw [V_D x (by omega)] at ht
  exact bl_shift (D_top h) ht.1 ht.2
theorem bitLen_ev {a : List Int} (ha : U a) (sa : Big a) : Ev (fun k => bignat_BitLen.f k a) (bl (V a) : Int) := by
  have h1 := V_nonneg ha
  have ba := D_big ha sa
  unfold Big at ba
  simp only [bignat_BitLen.f]
  refine Ev.bind (trim_ev ha sa) ?_
  by_cases h : 0 < V a
  · have hl := D_length_pos h
    have hd := U_getD (D_U (V a)) ((D (V a)).length - 1)
    have e1 : (((D (V a)).length : Int) - 1) = (((D (V a)).length - 1 : Nat) : Int) := by omega
    have hb := bl_top hd.2
    have hbd := bl_D h
    simp (disch := omega) only [if_neg, if_pos, w64, e1, rd_nat, len32_eq hd.1 hd.2, Option.bind_some]
    exact now fun _ => by rw [hbd]; congr 1
  · have h0 : V a = 0 := by omega
    rw [h0, D_zero, bl_zero (by omega)]
    exact now fun _ => rfl
theorem bl_small {a : List Int} (ha : U a) (sa : Big a) : bl (V a) ≤ 562949953421312 := by
  unfold Big at sa
  have : bl (V a) ≤ 32 * a.length := by
    refine bl_le ?_
    have h := V_lt ha
    have e : (2 : Int) ^ (32 * a.length) = 4294967296 ^ a.length := by rw [Int.pow_mul]; rfl
    rw [e]; exact h
  omega
end Go.Proofs.YtoeldfopjalpkaaDoor.Spec
set_option linter.unusedSimpArgs false
set_option linter.unusedVariables false
namespace Go.Proofs.YtoeldfopjalpkaaDoor.Spec
open Go.RowKit Go.Proofs.YtoeldfopjalpkaaDoorW.PrintWords Go.Proofs.YtoeldfopjalpkaaDoorW.PrintLast Go.Proofs.YtoeldfopjalpkaaDoorW.PrintMore Go.Proofs.YtoeldfopjalpkaaDoor.Q Go.Proofs.YtoeldfopjalpkaaDoor.Nums

theorem len64j {x c : Int} (h0 : 0 ≤ x) (h1 : x < 4294967296) (c0 : 0 ≤ c) (c1 : c ≤ 32) : Ev (fun k => bits_Len64.j0 k x c) (c + (bl x : Int)) := by
  have hb : ∀ y : Int, 0 ≤ y → y < 256 → bl y ≤ 8 := fun y a b => bl_le (by omega)
  refine suc (now fun k => ?_)
  show (if x ≥ 65536 then (if (x / 65536) ≥ 256 then (if 0 ≤ (((x / 65536) / 256) % 256) then (if (((x / 65536) / 256) % 256) < 256 then (some (wrap64 ((wrap64 ((wrap64 (c + 16)) + 8)) + (wrap64 (bt lenTab (((x / 65536) / 256) % 256)))))) else (none)) else (none)) else (if 0 ≤ ((x / 65536) % 256) then (if ((x / 65536) % 256) < 256 then (some (wrap64 ((wrap64 (c + 16)) + (wrap64 (bt lenTab ((x / 65536) % 256)))))) else (none)) else (none))) else (if x ≥ 256 then (if 0 ≤ ((x / 256) % 256) then (if ((x / 256) % 256) < 256 then (some (wrap64 ((wrap64 (c + 8)) + (wrap64 (bt lenTab ((x / 256) % 256)))))) else (none)) else (none)) else (if 0 ≤ ((x) % 256) then (if ((x) % 256) < 256 then (some (wrap64 (c + (wrap64 (bt lenTab ((x) % 256)))))) else (none)) else (none)))) = _
  by_cases c1 : x ≥ 65536
  · rw [if_pos c1, bl16 c1]
    by_cases c2 : x / 65536 ≥ 256
    · have e : x / 65536 / 256 % 256 = x / 65536 / 256 := by omega
      have := hb (x / 65536 / 256) (by omega) (by omega)
      rw [if_pos c2, e, if_pos (by omega), if_pos (by omega), tab_at (by omega) (by omega), bl8 c2, w64 (n := (bl (x / 65536 / 256) : Int)) (by omega) (by omega), w64 (n := c + 16) (by omega) (by omega), w64 (n := c + 16 + 8) (by omega) (by omega), w64 (by omega) (by omega)]
      congr 1; omega
    · have e : x / 65536 % 256 = x / 65536 := by omega
      have := hb (x / 65536) (by omega) (by omega)
      rw [if_neg c2, e, if_pos (by omega), if_pos (by omega), tab_at (by omega) (by omega), w64 (n := (bl (x / 65536) : Int)) (by omega) (by omega), w64 (n := c + 16) (by omega) (by omega), w64 (by omega) (by omega)]
      congr 1; omega
  · rw [if_neg c1]
    by_cases c2 : x ≥ 256
    · have e : x / 256 % 256 = x / 256 := by omega
      have := hb (x / 256) (by omega) (by omega)
      rw [if_pos c2, e, if_pos (by omega), if_pos (by omega), tab_at (by omega) (by omega), bl8 c2, w64 (n := (bl (x / 256) : Int)) (by omega) (by omega), w64 (n := c + 8) (by omega) (by omega), w64 (by omega) (by omega)]
      congr 1; omega
    · have e : x % 256 = x := by omega
      have := hb x (by omega) (by omega)
      rw [if_neg c2, e, if_pos (by omega), if_pos (by omega), tab_at (by omega) (by omega), w64 (n := (bl x : Int)) (by omega) (by omega), w64 (by omega) (by omega)]
theorem len_ev {x : Int} (h0 : 0 ≤ x) (h1 : x < 18446744073709551616) : Ev (fun k => bits_Len.f k x) (bl x : Int) := by
  have h64 : Ev (fun k => bits_Len64.f k x) (bl x : Int) := by
    simp only [bits_Len64.f]
    by_cases h : x ≥ 4294967296
    · simp only [if_pos h]
      have := len64j (x := x / 4294967296) (c := 32) (by omega) (by omega) (by omega) (by omega)
      rw [bl16 (by omega), bl16 (n := x / 65536) (by omega), show x / 65536 / 65536 = x / 4294967296 by omega, show (((bl (x / 4294967296) + 16 + 16 : Nat)) : Int) = 32 + (bl (x / 4294967296) : Int) by omega]
      exact this
    · simp only [if_neg h]
      have := len64j (x := x) (c := 0) (by omega) (by omega) (by omega) (by omega)
      rw [Int.zero_add] at this
      exact this
  simp only [bits_Len.f]
  exact Ev.bind h64 (now fun _ => rfl)

theorem wraps_i64 (n : Int) (h0 : 0 ≤ n) (h1 : n < 2 ^ 63) : IntKind.i64.wrap n = n := by rw [IntKind.wrap_i64]; omega
theorem and1 {x : Int} (h0 : 0 ≤ x) (h1 : x < 9223372036854775808) : Go.bits .and .i64 x 1 = x % 2 := by
  have := bits_mask .i64 63 (by decide) wraps_i64 1 (by decide) x h0 (by omega)
  simpa using this
theorem shr_nat {e j : Nat} (hj : j ≤ 63) : shr .i64 (e : Int) (j : Int) = ((e / 2 ^ j : Nat) : Int) := by
  unfold shr
  rw [show min (j : Int).toNat IntKind.i64.bits = j by simp [IntKind.bits]; omega]
  simp
theorem ipow_pos {X : Int} (h : 0 < X) (n : Nat) : 0 < X ^ n := Int.pow_pos h
theorem ipow_nn {X : Int} (h : 0 ≤ X) (n : Nat) : 0 ≤ X ^ n := Int.pow_nonneg h
theorem ipow_succ (X : Int) (n : Nat) : X ^ (n + 1) = X ^ n * X := Int.pow_succ _ _
theorem ipow_le {X : Int} (h : 0 < X) {i j : Nat} (hij : i ≤ j) : X ^ i ≤ X ^ j := by
  obtain ⟨m, rfl⟩ := Nat.exists_eq_add_of_le hij
  rw [Int.pow_add]
  have := Int.mul_le_mul_of_nonneg_left (show (1 : Int) ≤ X ^ m from ipow_pos h m) (ipow_nn (Int.le_of_lt h) i)
  omega
theorem ipow_base {X Y : Int} (h0 : 0 ≤ X) (h : X ≤ Y) : ∀ n : Nat, X ^ n ≤ Y ^ n
  | 0 => by simp
  | n + 1 => by
    rw [ipow_succ, ipow_succ]
    exact Int.mul_le_mul (ipow_base h0 h n) h h0 (ipow_nn (by omega) n)
theorem bl_two (n : Nat) : bl (2 ^ n) = n + 1 := by
  have h1 : (2 : Int) ^ n < 2 ^ bl (2 ^ n) := bl_lt _
  have h2 := bl_le (n := 2 ^ n) (k := n + 1) (by rw [two_succ]; have := two_pos n; omega)
  rcases Nat.lt_or_ge n (bl (2 ^ n)) with h | h
  · omega
  · have := pow2_le h; omega
theorem bl_big {x : Int} {n : Nat} (h : 2 ^ n ≤ x) : n < bl x := by
  have := bl_mono h
  rw [bl_two] at this
  omega
def powO (X : Int) (e : Nat) : List Int × Int := if bl (X ^ e) > 65536 then ([], 4) else (D (X ^ e), 0)
theorem powO_big {X : Int} {e : Nat} (h : 65536 < bl (X ^ e)) : powO X e = ([], 4) := if_pos h
theorem powO_small {X : Int} {e : Nat} (h : bl (X ^ e) ≤ 65536) : powO X e = (D (X ^ e), 0) := if_neg (by omega)
theorem pow32 (n : Nat) : (2 : Int) ^ (32 * n) = 4294967296 ^ n := by rw [Int.pow_mul]; rfl
theorem powl {X : Int} (hX : 0 < X) {e m : Nat} (he : e < 9223372036854775808) (hl : X ^ e < 4294967296 ^ m) (hx : X < 4294967296 ^ m) (hm : m ≤ 34359738368) : ∀ j : Nat, j ≤ 62 → Ev (fun k => bignat_Pow.l0 k (D X) (e : Int) (D (X ^ (e / 2 ^ j))) ((j : Int) - 1)) (powO X e)
  | 0, _ => by
    have hL : Lim m (X ^ e) := ⟨ipow_nn (by omega) e, hl⟩
    refine suc ?_
    simp (disch := omega) only [bignat_Pow.l0, if_neg, Nat.pow_zero, Nat.div_one]
    have hb := bitLen_ev hL.U (hL.small (by omega)).big
    rw [hL.V] at hb
    refine Ev.bind hb ?_
    by_cases h : bl (X ^ e) > 65536
    · rw [powO_big h]
      simp (disch := omega) only [if_pos]
      exact now fun _ => rfl
    · rw [powO_small (by omega)]
      simp (disch := omega) only [if_neg]
      exact now fun _ => rfl
  | j + 1, hj => by
    have hq : e / 2 ^ j = 2 * (e / 2 ^ (j + 1)) + (e / 2 ^ j) % 2 := by
      rw [Nat.pow_succ, ← Nat.div_div_eq_div_mul]; omega
    have hqe : e / 2 ^ j ≤ e := Nat.div_le_self _ _
    have hqe1 : e / 2 ^ (j + 1) ≤ e := Nat.div_le_self _ _
    have hL : ∀ i : Nat, i ≤ e → Lim m (X ^ i) := fun i hi => ⟨ipow_nn (by omega) i, Int.lt_of_le_of_lt (ipow_le hX hi) hl⟩
    have hLx : Lim m X := ⟨by omega, hx⟩
    have ih := powl hX he hl hx hm j (by omega)
    have hs := shr_nat (e := e) (j := j) (by omega)
    have ha := and1 (x := ((e / 2 ^ j : Nat) : Int)) (by omega) (by omega)
    have e1 : (((j + 1 : Nat) : Int) - 1) = (j : Int) := by omega
    refine suc ?_
    simp (disch := omega) only [bignat_Pow.l0, if_pos, e1, hs, ha, w64]
    have hm2 := mul_D (hL _ hqe1) (hL _ hqe1) (by omega) (by omega)
    refine Ev.bind hm2 ?_
    rw [← Int.pow_add]
    rcases Nat.mod_two_eq_zero_or_one (e / 2 ^ j) with h | h
    · have c : ¬ ((e / 2 ^ j : Nat) : Int) % 2 = 1 := by omega
      simp only [if_neg c]
      rw [show e / 2 ^ (j + 1) + e / 2 ^ (j + 1) = e / 2 ^ j by omega]
      exact ih
    · have c : ((e / 2 ^ j : Nat) : Int) % 2 = 1 := by omega
      simp only [if_pos c]
      have hm3 := mul_D (hL (e / 2 ^ (j + 1) + e / 2 ^ (j + 1)) (by omega)) hLx (by omega) (by omega)
      refine Ev.bind hm3 ?_
      rw [← ipow_succ, show e / 2 ^ (j + 1) + e / 2 ^ (j + 1) + 1 = e / 2 ^ j by omega]
      exact ih
theorem blf_top {e : Nat} : e / 2 ^ bl (e : Int) = 0 := by
  have := bl_lt (e : Int)
  refine Nat.div_eq_of_lt ?_
  exact_mod_cast this
theorem pow_ev {a : List Int} (ha : U a) (sa : Small a) {e : Nat} (he : e < 9223372036854775808) : Ev (fun k => bignat_Pow.f k a (e : Int)) (powO (V a) e) := by
  have h1 := V_nonneg ha
  have hs := bl_small ha sa.big
  have hb := bitLen_ev (D_U (V a)) (D_big ha sa.big)
  rw [V_D _ h1] at hb
  simp only [bignat_Pow.f]
  refine Ev.bind (trim_ev ha sa.big) (Ev.bind hb ?_)
  by_cases e0 : e = 0
  · subst e0
    rw [powO_small (by rw [Int.pow_zero]; exact Nat.le_trans (bl_le (n := 1) (k := 1) (by decide)) (by decide)), Int.pow_zero]
    simp (disch := omega) only [if_pos, if_neg, from_eq, Option.bind_some]
    exact now fun _ => rfl
  by_cases b1 : bl (V a) ≤ 1
  · have hv : V a = 0 ∨ V a = 1 := by
      have := bl_lt (V a)
      have h2 := pow2_le b1
      omega
    have hp : V a ^ e = V a := by
      rcases hv with h | h
      · rw [h, Int.zero_pow e0]
      · rw [h, Int.one_pow]
    have hc := clone_ev (D_U (V a)) (D_big ha sa.big)
    rw [V_D _ h1] at hc
    rw [powO_small (by rw [hp]; omega), hp]
    simp (disch := omega) only [if_pos, if_neg]
    exact Ev.bind hc (now fun _ => rfl)
  have hv : 2 ≤ V a := by
    rcases Int.lt_or_le (V a) 2 with h | h
    · exact absurd (bl_le (n := V a) (k := 1) h) b1
    · exact h
  have hge : 2 ^ ((bl (V a) - 1) * e) ≤ V a ^ e := by
    rw [Int.pow_mul]
    exact ipow_base (ipow_nn (by omega) _) (bl_ge (by omega)) e
  have hbig := bl_big hge
  by_cases e1 : e > 65536
  · have : 1 * e ≤ (bl (V a) - 1) * e := Nat.mul_le_mul_right _ (by omega)
    rw [powO_big (by omega)]
    simp (disch := omega) only [if_pos, if_neg]
    exact now fun _ => rfl
  by_cases b2 : bl (V a) > 65536
  · have : (bl (V a) - 1) * 1 ≤ (bl (V a) - 1) * e := Nat.mul_le_mul_left _ (by omega)
    rw [powO_big (by omega)]
    simp (disch := omega) only [if_pos, if_neg]
    exact now fun _ => rfl
  have hpb : (bl (V a) - 1) * e ≤ 65535 * 65536 := Nat.mul_le_mul (by omega) (by omega)
  have ew : wrap64 ((wrap64 ((bl (V a) : Int) - 1)) * (e : Int)) = (((bl (V a) - 1) * e : Nat) : Int) := by
    rw [w64 (n := (bl (V a) : Int) - 1) (by omega) (by omega), show (bl (V a) : Int) - 1 = ((bl (V a) - 1 : Nat) : Int) by omega, ← Int.natCast_mul, w64 (by omega) (by omega)]
  by_cases c : (bl (V a) - 1) * e ≥ 65536
  · rw [powO_big (by omega)]
    have c' : (((bl (V a) - 1) * e : Nat) : Int) ≥ 65536 := by omega
    simp (disch := omega) only [ew, if_pos, if_neg]
    exact now fun _ => rfl
  have c' : ¬ (((bl (V a) - 1) * e : Nat) : Int) ≥ 65536 := by omega
  simp (disch := omega) only [ew, if_neg, from_eq, Option.bind_some, u64w]
  refine Ev.bind (len_ev (x := (e : Int)) (by omega) (by omega)) ?_
  have hbe : bl (e : Int) ≤ 17 := bl_le (by omega)
  have hle : V a ^ e < 4294967296 ^ 4097 := by
    have l1 : V a ^ e ≤ (2 ^ bl (V a)) ^ e := ipow_base h1 (Int.le_of_lt (bl_lt _)) e
    rw [← Int.pow_mul] at l1
    have l2 : bl (V a) * e ≤ 32 * 4096 := by
      have : bl (V a) * e = (bl (V a) - 1) * e + e := by
        rw [← Nat.succ_mul]; congr 1; omega
      have : 1 * e ≤ (bl (V a) - 1) * e := Nat.mul_le_mul_right _ (by omega)
      omega
    have l3 := pow2_le l2
    rw [pow32] at l3
    have l4 := pow_succ' 4096
    have l5 := pow_pos 4096
    generalize V a ^ e = A at *
    generalize (2 : Int) ^ (bl (V a) * e) = B at *
    rw [show 4097 = 4096 + 1 from rfl, l4]
    generalize (4294967296 : Int) ^ 4096 = C at *
    omega
  have hlx : V a < 4294967296 ^ 4097 := Int.lt_of_le_of_lt (by have := ipow_le (X := V a) (by omega) (show 1 ≤ e by omega); rw [Int.pow_one] at this; exact this) hle
  have := powl (X := V a) (by omega) he hle hlx (by decide) (bl (e : Int)) (by omega)
  rw [blf_top, Int.pow_zero] at this
  simp (disch := omega) only [w64]
  exact this

end Go.Proofs.YtoeldfopjalpkaaDoor.Spec
set_option linter.unusedSimpArgs false
set_option linter.unusedVariables false
namespace Go.Proofs.YtoeldfopjalpkaaDoor.Spec
open Go.RowKit Go.Proofs.YtoeldfopjalpkaaDoorW.PrintWords Go.Proofs.YtoeldfopjalpkaaDoorW.PrintLast Go.Proofs.YtoeldfopjalpkaaDoorW.PrintMore Go.Proofs.YtoeldfopjalpkaaDoor.Q Go.Proofs.YtoeldfopjalpkaaDoor.Nums

/-- Ten times the digits and a carry. -/
def mc : List Int → Int → List Int
  | [], c => if c > 0 then [c] else []
  | x :: xs, c => ((c + 10 * x) % 4294967296) :: mc xs ((c + 10 * x) / 4294967296)
theorem mc_U : ∀ (xs : List Int) (c : Int), U xs → 0 ≤ c → c < 4294967296 → U (mc xs c)
  | [], c, _, c0, c1 => by
    unfold mc
    split
    · exact U_cons.2 ⟨⟨by omega, c1⟩, U_nil⟩
    · exact U_nil
  | x :: xs, c, h, c0, c1 => by
    obtain ⟨hx, hxs⟩ := U_cons.1 h
    unfold mc
    exact U_cons.2 ⟨by omega, mc_U xs _ hxs (by omega) (by omega)⟩
theorem mc_V : ∀ (xs : List Int) (c : Int), U xs → 0 ≤ c → V (mc xs c) = 10 * V xs + c
  | [], c, _, c0 => by
    unfold mc
    split <;> simp only [V_cons, V_nil] <;> omega
  | x :: xs, c, h, c0 => by
    obtain ⟨hx, hxs⟩ := U_cons.1 h
    unfold mc
    rw [V_cons, V_cons, mc_V xs _ hxs (by omega)]
    omega
theorem mc_cn : ∀ (xs : List Int) (c : Int), U xs → 0 ≤ c → Cn xs → Cn (mc xs c)
  | [], c, _, c0, _ => by
    unfold mc
    split
    · intro h
      simp at h
      omega
    · intro h
      simp at h
  | [x], c, h, c0, hc => by
    obtain ⟨hx, _⟩ := U_cons.1 h
    have hx0 : x ≠ 0 := fun e => hc (by rw [e]; rfl)
    unfold mc
    unfold mc
    by_cases g : (c + 10 * x) / 4294967296 > 0
    · rw [if_pos g]
      intro h
      simp at h
      omega
    · rw [if_neg g]
      intro h
      simp at h
      omega
  | x :: y :: ys, c, h, c0, hc => by
    obtain ⟨hx, hxs⟩ := U_cons.1 h
    have ih := mc_cn (y :: ys) ((c + 10 * x) / 4294967296) hxs (by omega) (cn_tail hc)
    unfold mc
    unfold mc
    unfold mc at ih
    intro h2
    exact ih (by rw [List.getLast?_cons_cons] at h2; exact h2)
theorem mc_D {v d : Int} (hv : 0 ≤ v) (d0 : 0 ≤ d) (d1 : d < 4294967296) : mc (D v) d = D (10 * v + d) := by
  have h := D_V (mc_U (D v) d (D_U v) d0 d1) (mc_cn (D v) d (D_U v) d0 (D_cn v))
  rw [mc_V _ _ (D_U v) d0, V_D v hv] at h
  exact h.symm

/-- The number that digits spell; nothing where a byte is no digit. -/
def scan (s : ByteArray) : Nat → Nat → Int → Option Int
  | 0, _, v => some v
  | n + 1, i, v => if bt s (i : Int) < 48 ∨ 57 < bt s (i : Int) then none else scan s n (i + 1) (10 * v + (bt s (i : Int) - 48))
def ans : Option Int → List Int × Int
  | none => ([], 2)
  | some v => (D v, 0)
theorem pl1 {s : ByteArray} {x5 : Int} {r : List Int × Int} (len : Nat) (hlen : len ≤ 1099511627776) : ∀ (rest pre : List Int) (c : Int), U rest → 0 ≤ c → c < 4294967296 → pre.length + rest.length = len → Ev (fun k => bignat_Parse.l0 k s (pre ++ mc rest c) (wrap64 (x5 + 1))) r → Ev (fun k => bignat_Parse.l1 k s (pre ++ rest) x5 c (len : Int) (pre.length : Int)) r
  | [], pre, c, _, c0, c1, hl, h => by
    rw [List.length_nil] at hl
    unfold mc at h
    rw [List.append_nil]
    refine suc ?_
    by_cases g : c > 0
    · rw [if_pos g] at h
      have ec : c % 4294967296 = c := by omega
      simp (disch := omega) only [bignat_Parse.l1, if_neg, if_pos, ec]
      exact h
    · rw [if_neg g, List.append_nil] at h
      simp (disch := omega) only [bignat_Parse.l1, if_neg, if_pos]
      exact h
  | x :: rest, pre, c, hu, c0, c1, hl, h => by
    obtain ⟨hx, hxs⟩ := U_cons.1 hu
    rw [List.length_cons] at hl
    unfold mc at h
    have hL : (pre ++ x :: rest).length = pre.length + rest.length + 1 := by simp; omega
    have hg : (pre ++ x :: rest).getD pre.length 0 = x := by simp
    have hset : ∀ y : Int, (pre ++ x :: rest).set pre.length y = (pre ++ [y]) ++ rest := fun y => by simp
    have ih := pl1 (x5 := x5) (r := r) (s := s) len hlen rest (pre ++ [(c + 10 * x) % 4294967296]) ((c + 10 * x) / 4294967296) hxs (by omega) (by omega) (by simp; omega) (by rw [List.append_assoc]; exact h)
    have e1 : (((pre ++ [(c + 10 * x) % 4294967296]).length : Nat) : Int) = (pre.length : Int) + 1 := by simp
    rw [e1] at ih
    refine suc ?_
    simp (disch := omega) only [bignat_Parse.l1, if_pos, rd_nat, hg, u64w, Int.toNat_natCast, hset, w64]
    exact ih
theorem pl0 {s : ByteArray} (hs : s.size ≤ 4000) : ∀ (n i : Nat) (v : Int), i + n = s.size → Lim i v → Ev (fun k => bignat_Parse.l0 k s (D v) (i : Int)) (ans (scan s n i v))
  | 0, i, v, hi, hv => by
    refine suc ?_
    simp (disch := omega) only [bignat_Parse.l0, if_neg]
    exact now fun _ => rfl
  | n + 1, i, v, hi, hv => by
    have hb := bt_range s (i : Int)
    unfold scan
    refine suc ?_
    simp (disch := omega) only [bignat_Parse.l0, if_pos]
    by_cases h1 : bt s (i : Int) < 48
    · rw [if_pos (.inl h1)]
      simp only [if_pos h1]
      refine suc (now fun _ => ?_)
      simp only [bignat_Parse.j2, if_true]
      rfl
    · simp only [if_neg h1]
      by_cases h2 : 57 < bt s (i : Int)
      · rw [if_pos (.inr h2)]
        refine suc (now fun _ => ?_)
        have e : decide (bt s (i : Int) > 57) = true := decide_eq_true h2
        simp only [bignat_Parse.j2, e, if_true]
        rfl
      · rw [if_neg (by omega)]
        have hv' : Lim (i + 1) (10 * v + (bt s (i : Int) - 48)) := by
          unfold Lim at hv ⊢
          rw [pow_succ']
          obtain ⟨a, b⟩ := hv
          generalize (4294967296 : Int) ^ i = P at *
          omega
        have ih := pl0 hs n (i + 1) _ (by omega) hv'
        have e : decide (bt s (i : Int) > 57) = false := decide_eq_false (by omega)
        have hd : (bt s (i : Int) - 48) % 256 = bt s (i : Int) - 48 := by omega
        have hlen : (D v).length ≤ i := D_len_le hv.2
        refine suc ?_
        simp (disch := omega) only [bignat_Parse.j2, e, if_pos, Bool.false_eq_true, if_false, hd]
        have := pl1 (s := s) (x5 := (i : Int)) (r := ans (scan s n (i + 1) (10 * v + (bt s (i : Int) - 48)))) (D v).length (by omega) (D v) [] (bt s (i : Int) - 48) (D_U v) (by omega) (by omega) (by simp) ?_
        · exact this
        · rw [List.nil_append, mc_D hv.1 (by omega) (by omega), w64 (by omega) (by omega)]
          exact ih
/-- What both readers answer. -/
def parO (s : ByteArray) : List Int × Int := if s.size = 0 then ([], 2) else if bt s 0 = 48 ∧ 1 < s.size then ([], 2) else ans (scan s s.size 0 0)
theorem empty_iff (s : ByteArray) : s.toList = ([] : List UInt8) ↔ s.size = 0 := by
  rw [ByteArray.toList_eq]
  have e : s.size = s.data.toList.length := rfl
  rw [e]
  exact List.length_eq_zero_iff.symm
theorem lim0 : Lim 0 0 := by unfold Lim; decide
theorem parse_ev {s : ByteArray} (hs : s.size ≤ 4000) : Ev (fun k => bignat_Parse.f k s) (parO s) := by
  have h0 := pl0 hs s.size 0 0 (by omega) lim0
  rw [D_zero] at h0
  have hj : Ev (fun k => bignat_Parse.j0 k s false) (ans (scan s s.size 0 0)) := by
    refine suc ?_
    simp only [bignat_Parse.j0, Bool.false_eq_true, if_false]
    exact h0
  have hj1 : Ev (fun k => bignat_Parse.j0 k s true) (([] : List Int), 2) := by
    refine suc ?_
    simp only [bignat_Parse.j0, if_true]
    exact now fun _ => rfl
  unfold parO
  by_cases h : s.size = 0
  · simp (disch := omega) only [bignat_Parse.f, if_neg, empty_iff, if_pos, h]
    exact hj1
  · simp (disch := omega) only [bignat_Parse.f, if_neg, empty_iff, if_pos, h]
    by_cases hz : bt s 0 = 48
    · by_cases h1 : 1 < s.size
      · have e : decide ((s.size : Int) > 1) = true := decide_eq_true (by omega)
        simp (disch := omega) only [hz, h1, e, if_true, and_self, if_pos]
        exact hj1
      · have e : decide ((s.size : Int) > 1) = false := decide_eq_false (by omega)
        simp (disch := omega) only [hz, h1, e, if_true, and_false, if_false, if_pos]
        exact hj
    · simp (disch := omega) only [hz, false_and, if_false, if_neg]
      exact hj

theorem dg {s : ByteArray} (hs : s.size ≤ 4000) (h0 : 0 < s.size) : ∀ (n i : Nat) (v : Int), i + n = s.size → Ev (fun k => credenceref1_Digits.l0 k s (i : Int)) (scan s n i v).isSome
  | 0, i, v, hi => by
    refine suc ?_
    simp (disch := omega) only [credenceref1_Digits.l0, if_neg]
    exact now fun _ => by rw [decide_eq_true (by omega)]; rfl
  | n + 1, i, v, hi => by
    have ih := dg hs h0 n (i + 1) (10 * v + (bt s (i : Int) - 48)) (by omega)
    unfold scan
    refine suc ?_
    by_cases h1 : bt s (i : Int) < 48
    · rw [if_pos (.inl h1)]
      simp (disch := omega) only [credenceref1_Digits.l0, if_pos]
      exact now fun _ => rfl
    · by_cases h2 : 57 < bt s (i : Int)
      · rw [if_pos (.inr h2)]
        simp (disch := omega) only [credenceref1_Digits.l0, if_pos, if_neg]
        exact now fun _ => rfl
      · rw [if_neg (by omega)]
        simp (disch := omega) only [credenceref1_Digits.l0, if_pos, if_neg, w64]
        exact ih
theorem nd {s : ByteArray} (hs : s.size ≤ 4000) : ∀ (n i : Nat) (v w : Int), i + n = s.size → Lim i v → scan s n i v = some w → Ev (fun k => credenceref1_NatDigits.l0 k s (D v) (i : Int)) (D w)
  | 0, i, v, w, hi, hv, h => by
    obtain rfl : v = w := Option.some.inj h
    refine suc ?_
    simp (disch := omega) only [credenceref1_NatDigits.l0, if_neg]
    exact now fun _ => rfl
  | n + 1, i, v, w, hi, hv, h => by
    unfold scan at h
    by_cases g : bt s (i : Int) < 48 ∨ 57 < bt s (i : Int)
    · rw [if_pos g] at h; exact absurd h (by simp)
    · rw [if_neg g] at h
      have hv' : Lim (i + 1) (10 * v + (bt s (i : Int) - 48)) := by
        unfold Lim at hv ⊢
        rw [pow_succ']
        obtain ⟨a, b⟩ := hv
        generalize (4294967296 : Int) ^ i = P at *
        omega
      have ih := nd hs n (i + 1) _ w (by omega) hv' h
      have hd : (bt s (i : Int) - 48) % 256 = bt s (i : Int) - 48 := by omega
      have ten : Lim 1 10 := by unfold Lim; decide
      have vt := hv.mul ten
      have dl : Lim 1 (bt s (i : Int) - 48) := by unfold Lim; simp only [Int.pow_one]; omega
      have hm := nmul_ev hv.U ten.U (hv.small (by omega)) (ten.small (by decide))
      rw [hv.V, ten.V] at hm
      have ha := nadd_ev vt.U dl.U (vt.small (by omega)) (dl.small (by decide))
      rw [vt.V, dl.V] at ha
      refine suc ?_
      simp (disch := omega) only [credenceref1_NatDigits.l0, if_pos, hd, w64]
      refine Ev.bind (natOf_ev (by omega) (by omega)) (Ev.bind hm (Ev.bind (natOf_ev (by omega) (by omega)) (Ev.bind ha ?_)))
      rw [Int.mul_comm v 10]
      exact ih
end Go.Proofs.YtoeldfopjalpkaaDoor.Spec
set_option linter.unusedSimpArgs false
set_option linter.unusedVariables false
namespace Go.Proofs.YtoeldfopjalpkaaDoor.Spec
open Go.RowKit Go.Proofs.YtoeldfopjalpkaaDoorW.PrintWords Go.Proofs.YtoeldfopjalpkaaDoorW.PrintLast Go.Proofs.YtoeldfopjalpkaaDoorW.PrintMore Go.Proofs.YtoeldfopjalpkaaDoor.Q Go.Proofs.YtoeldfopjalpkaaDoor.Nums

theorem sm_l {a : List Int} (ha : U a) (sa : Big a) (y : Int) (y0 : 0 < y) (y1 : y < 4294967296) : ∀ (i : Nat) (o : List Int) (c : Int), i ≤ a.length → o.length = a.length → U o → 0 ≤ c → c < y → V (a.drop i) = c + y * V (o.drop i) →
    Ev (fun k => credenceref1_small.l0 k a y o c ((i : Int) - 1)) (D (V a / y), V a % y) := by
  unfold Big at sa
  intro i
  induction i with
  | zero =>
    intro o c hi ho uo c0 c1 h
    rw [List.drop_zero, List.drop_zero] at h
    obtain ⟨h1, h2⟩ := quot_of h c0 c1
    rw [h1, h2]
    refine suc ?_
    simp (disch := omega) only [credenceref1_small.l0, if_neg]
    exact Ev.bind (norm_ev uo (by unfold Big; omega)) (now fun _ => rfl)
  | succ i ih =>
    intro o c hi ho uo c0 c1 h
    have da := U_getD ha i
    have e1 : (((i + 1 : Nat) : Int) - 1) = (i : Int) := by omega
    have hX0 : 0 ≤ c * 4294967296 + a.getD i 0 := by omega
    have hX1 : c * 4294967296 + a.getD i 0 < 4294967296 * y := by omega
    have hd : (c * 4294967296 + a.getD i 0) / y < 4294967296 := Int.ediv_lt_of_lt_mul y0 hX1
    have hd0 : 0 ≤ (c * 4294967296 + a.getD i 0) / y := Int.ediv_nonneg hX0 (by omega)
    have hdm := Int.emod_add_mul_ediv (c * 4294967296 + a.getD i 0) y
    have hm0 := Int.emod_nonneg (c * 4294967296 + a.getD i 0) (show y ≠ 0 by omega)
    have hm1 := Int.emod_lt_of_pos (c * 4294967296 + a.getD i 0) y0
    have etd : Int.tdiv (c * 4294967296 + a.getD i 0) y = (c * 4294967296 + a.getD i 0) / y := Int.tdiv_eq_ediv_of_nonneg hX0
    have etm : Int.tmod (c * 4294967296 + a.getD i 0) y = (c * 4294967296 + a.getD i 0) % y := Int.tmod_eq_emod_of_nonneg hX0
    have emm : (c * 4294967296 + a.getD i 0) / y % 4294967296 = (c * 4294967296 + a.getD i 0) / y := by omega
    refine suc ?_
    simp (disch := omega) only [credenceref1_small.l0, if_neg, if_pos, e1, rd_nat, u64w, etd, etm, Int.toNat_natCast, w64, emm]
    refine ih _ _ (by omega) (by rw [List.length_set]; exact ho) (U_set uo i hd0 hd) hm0 hm1 ?_
    rw [V_drop_step (show i < a.length by omega), V_drop_step (show i < (o.set i _).length by rw [List.length_set]; omega), getD_set_self (by omega), List.drop_set_of_lt (by omega), h,
      show y * ((c * 4294967296 + a.getD i 0) / y + 4294967296 * V (o.drop (i + 1))) = y * ((c * 4294967296 + a.getD i 0) / y) + y * (4294967296 * V (o.drop (i + 1))) from Int.mul_add _ _ _]
    have : y * (4294967296 * V (o.drop (i + 1))) = 4294967296 * (y * V (o.drop (i + 1))) := Int.mul_left_comm _ _ _
    omega
theorem small_ev {a : List Int} (ha : U a) (sa : Big a) {y : Int} (y0 : 0 < y) (y1 : y < 4294967296) : Ev (fun k => credenceref1_small.f k a y) (D (V a / y), V a % y) := by
  have hs := sa
  unfold Big at hs
  simp only [credenceref1_small.f]
  simp (disch := omega) only [if_pos, w64, Int.toNat_natCast]
  exact sm_l ha sa y y0 y1 a.length _ 0 (Nat.le_refl _) (by simp) (U_replicate _) (by omega) y0 (by rw [List.drop_of_length_le (Nat.le_refl _), List.drop_of_length_le (by simp), V_nil]; simp)

/-- The decimal digits as bytes, the last one first. -/
def rd10 (v : Int) : List Int := if h : 0 < v then (48 + v % 10) :: rd10 (v / 10) else []
termination_by v.toNat
decreasing_by omega
theorem rd10_pos {v : Int} (h : 0 < v) : rd10 v = (48 + v % 10) :: rd10 (v / 10) := by rw [rd10]; simp [h]
theorem rd10_zero {v : Int} (h : ¬ 0 < v) : rd10 v = [] := by rw [rd10]; simp [h]
theorem rd10_len {v : Int} {k : Nat} (h : v < 10 ^ k) : (rd10 v).length ≤ k := by
  induction k generalizing v with
  | zero => rw [rd10_zero (by simp at h; omega)]; simp
  | succ k ih =>
    by_cases h0 : 0 < v
    · rw [rd10_pos h0, List.length_cons]
      have := ih (v := v / 10) (by rw [Int.pow_succ] at h; omega)
      omega
    · rw [rd10_zero h0]; simp
/-- The text of a number. -/
def txt (v : Int) : ByteArray := if 0 < v then strOfNums (rd10 v).reverse else ⟨#[48]⟩
theorem son_append (xs ys : List Int) : strOfNums (xs ++ ys) = strOfNums xs ++ strOfNums ys := by
  apply ByteArray.ext
  apply Array.toList_inj.1
  simp [strOfNums, ByteArray.data_append]
theorem son_nil : strOfNums [] = ⟨#[]⟩ := rfl

theorem nfl : ∀ (v : Int) (xs : List Int), 0 ≤ v → Small (D v) → xs.length + (rd10 v).length ≤ 1000000000000 → Ev (fun k => credenceref1_NatFormat.l0 k (D v) (strOfNums xs)) (strOfNums ((rd10 v).reverse ++ xs)) := by
  intro v xs v0 hs hl
  by_cases h : 0 < v
  · have hdl := D_length_pos h
    rw [rd10_pos h, List.length_cons] at hl
    have hsm := small_ev (D_U v) hs.big (y := 10) (by omega) (by omega)
    rw [V_D v v0] at hsm
    have ed : (48 + v % 10) % 256 = 48 + v % 10 := by omega
    have ih := nfl (v / 10) ((48 + v % 10) :: xs) (by omega) (by
      have := D_len_le (n := v / 10) (k := (D v).length) (Int.lt_of_le_of_lt (by omega) (D_len h).2)
      exact Nat.le_trans this hs) (by rw [List.length_cons]; omega)
    refine suc ?_
    simp (disch := omega) only [credenceref1_NatFormat.l0, if_pos]
    refine Ev.bind hsm ?_
    simp (disch := omega) only [u64w, ed, Option.bind_some, if_pos, strOfNums_size, List.length_cons, List.length_nil]
    rw [rd10_pos h, List.reverse_cons, List.append_assoc, ← son_append]
    exact ih
  · rw [D_neg h, rd10_zero h]
    refine suc ?_
    simp (disch := omega) only [credenceref1_NatFormat.l0, if_neg, List.length_nil]
    exact now fun _ => by simp
termination_by v => v.toNat
decreasing_by omega
theorem nformat_ev {a : List Int} (ha : U a) (sa : Small a) (hl : (rd10 (V a)).length ≤ 1000000000) : Ev (fun k => credenceref1_NatFormat.f k a) (txt (V a)) := by
  have h1 := V_nonneg ha
  simp only [credenceref1_NatFormat.f]
  refine Ev.bind (norm_ev ha sa.big) ?_
  unfold txt
  by_cases h : 0 < V a
  · have hdl := D_length_pos h
    rw [if_pos h]
    simp (disch := omega) only [if_neg]
    have := nfl (V a) [] h1 (D_small ha sa) (by simp; omega)
    rw [List.append_nil, son_nil] at this
    exact this
  · rw [if_neg h, D_neg h]
    exact now fun _ => rfl

theorem ends {m : List Int} (h : 2 ≤ m.length) : ∃ x t y, m = x :: (t ++ [y]) := by
  cases m with
  | nil => simp at h
  | cons x t =>
    have ht : t ≠ [] := by rintro rfl; simp at h
    exact ⟨x, t.dropLast, t.getLast ht, by rw [List.dropLast_concat_getLast]⟩
theorem fl2 (len : Nat) (hlen : len ≤ 1000000000000) : ∀ (n : Nat) (m p s : List Int), m.length = n → p.length = s.length → p.length + m.length + s.length = len → Ev (fun k => bignat_Format.l2 k (p ++ (m ++ s)) (p.length : Int) ((len : Int) - 1 - (p.length : Int))) (strOfNums (p ++ (m.reverse ++ s))) := by
  intro n
  induction n using Nat.strongRecOn with
  | ind n ih =>
    intro m p s hm hps hl
    by_cases h : 2 ≤ m.length
    · obtain ⟨x, t, y, rfl⟩ := ends h
      have hmt : (x :: (t ++ [y])).length = t.length + 2 := by simp
      rw [hmt] at hm hl
      have hL : (p ++ (x :: (t ++ [y]) ++ s)).length = len := by simp; omega
      have ej : ((len : Int) - 1 - (p.length : Int)) = ((p.length + 1 + t.length : Nat) : Int) := by omega
      have g1 : (p ++ (x :: (t ++ [y]) ++ s)).getD p.length 0 = x := by simp
      have q2 : ∀ z : Int, p ++ (z :: (t ++ [y]) ++ s) = (p ++ z :: t) ++ y :: s := fun z => by simp
      have ql : ∀ z : Int, (p ++ z :: t).length = p.length + 1 + t.length := fun z => by simp; omega
      have g2 : (p ++ (x :: (t ++ [y]) ++ s)).getD (p.length + 1 + t.length) 0 = y := by
        rw [q2, ← ql x]; simp
      have s1 : ∀ z : Int, (p ++ (x :: (t ++ [y]) ++ s)).set p.length z = p ++ (z :: (t ++ [y]) ++ s) := fun z => by simp
      have s2 : ∀ z w : Int, (p ++ (z :: (t ++ [y]) ++ s)).set (p.length + 1 + t.length) w = (p ++ [z]) ++ (t ++ (w :: s)) := fun z w => by
        rw [q2, ← ql z]; simp
      have := ih t.length (by omega) t (p ++ [y]) (x :: s) rfl (by simp; omega) (by simp; omega)
      have e1 : (((p ++ [y]).length : Nat) : Int) = (p.length : Int) + 1 := by simp
      rw [e1, show (len : Int) - 1 - ((p.length : Int) + 1) = (((p.length + 1 + t.length : Nat)) : Int) - 1 by omega] at this
      rw [ej]
      refine suc ?_
      simp (disch := omega) only [bignat_Format.l2, if_pos, rd_nat, Int.toNat_natCast, g1, g2, s1, s2, w64]
      have er : p ++ ((x :: (t ++ [y])).reverse ++ s) = (p ++ [y]) ++ (t.reverse ++ x :: s) := by simp
      rw [er]
      exact this
    · have hr : m.reverse = m := by
        match m, h with
        | [], _ => rfl
        | [x], _ => rfl
        | x :: y :: t, h => simp at h
      refine suc ?_
      simp (disch := omega) only [bignat_Format.l2, if_neg]
      rw [hr]
      exact now fun _ => rfl
theorem fl2' (xs : List Int) (h : xs.length ≤ 1000000000000) : Ev (fun k => bignat_Format.l2 k xs 0 ((xs.length : Int) - 1)) (strOfNums xs.reverse) := by
  have := fl2 xs.length h xs.length xs [] [] rfl rfl (by simp)
  simpa using this
theorem fl1 {q : Int} (q0 : 0 ≤ q) (hs : Big (D q)) (T : Nat) (hT : T ≤ 1000000000) (fin : ∀ xs : List Int, xs.length + (rd10 q).length ≤ T → Ev (fun k => bignat_Format.l0 k (D q) xs) (strOfNums (xs ++ rd10 q).reverse)) :
    ∀ (n : Nat) (r : Int) (xs : List Int), n ≤ 9 → 0 ≤ r → r < 10 ^ n → xs.length + (rd10 (r + 10 ^ n * q)).length ≤ T → Ev (fun k => bignat_Format.l1 k (D q) xs r (9 - (n : Int))) (strOfNums (xs ++ rd10 (r + 10 ^ n * q)).reverse)
  | 0, r, xs, hn, r0, r1, hl => by
    have e : r + 10 ^ 0 * q = q := by rw [Int.pow_zero] at r1 ⊢; omega
    rw [e] at hl ⊢
    refine suc ?_
    simp (disch := omega) only [bignat_Format.l1, if_neg]
    exact fin xs hl
  | n + 1, r, xs, hn, r0, r1, hl => by
    have hp := Int.pow_succ 10 n
    have hp0 : (0 : Int) < 10 ^ n := Int.pow_pos (by omega)
    have hp9 : (10 : Int) ^ (n + 1) ≤ 10 ^ 9 := by
      obtain ⟨m, hm⟩ := Nat.exists_eq_add_of_le hn
      rw [hm, Int.pow_add 10 (n + 1) m]
      have : (1 : Int) ≤ 10 ^ m := Int.pow_pos (by omega)
      have h3 : (0 : Int) < 10 ^ (n + 1) := Int.pow_pos (by omega)
      have := Int.mul_le_mul_of_nonneg_left this (Int.le_of_lt h3)
      omega
    have hp9' : (10 : Int) ^ 9 = 1000000000 := by decide
    by_cases hz : q = 0 ∧ r = 0
    · obtain ⟨rfl, rfl⟩ := hz
      rw [Int.mul_zero, Int.add_zero] at hl ⊢
      have hf := fin xs hl
      rw [D_zero] at hf ⊢
      refine suc ?_
      simp (disch := omega) only [bignat_Format.l1, if_neg, if_pos, List.length_nil]
      exact hf
    · have hqn : 0 ≤ 10 ^ n * q := Int.mul_nonneg (Int.le_of_lt hp0) q0
      have hq1 : 0 < q → q ≤ 10 ^ n * q := fun _ => by
        have := Int.mul_le_mul_of_nonneg_right (show (1 : Int) ≤ 10 ^ n from hp0) q0
        omega
      have ev : r + 10 ^ (n + 1) * q = r + 10 * (10 ^ n * q) := by rw [hp, Int.mul_comm (10 ^ n) 10, Int.mul_assoc]
      rw [ev] at hl ⊢
      have hpos : 0 < r + 10 * (10 ^ n * q) := by
        rcases Int.lt_or_le 0 q with g | g
        · have := hq1 g; omega
        · omega
      rw [rd10_pos hpos] at hl ⊢
      rw [List.length_cons] at hl
      have m1 : (r + 10 * (10 ^ n * q)) % 10 = r % 10 := by omega
      have m2 : (r + 10 * (10 ^ n * q)) / 10 = r / 10 + 10 ^ n * q := by omega
      rw [m1]
      rw [m2] at hl ⊢
      have ih := fl1 q0 hs T hT fin n (r / 10) (xs ++ [48 + r % 10]) (by omega) (by omega) (by rw [hp] at r1; omega) (by simp; omega)
      have e1 : (9 - ((n + 1 : Nat) : Int)) + 1 = 9 - (n : Int) := by omega
      have tm : (48 + Int.tmod r 10) % 256 = 48 + r % 10 := by rw [Int.tmod_eq_emod_of_nonneg r0]; omega
      have td : (Int.tdiv r 10) % 4294967296 = r / 10 := by rw [Int.tdiv_eq_ediv_of_nonneg r0]; omega
      rw [List.append_assoc] at ih
      refine suc ?_
      rcases Int.lt_or_le 0 q with g | g
      · have hdl := D_length_pos g
        simp (disch := omega) only [bignat_Format.l1, if_pos, tm, td, w64, e1]
        exact ih
      · have hdn : (D q).length = 0 := by rw [D_neg (by omega)]; rfl
        simp (disch := omega) only [bignat_Format.l1, if_pos, if_neg, tm, td, w64, e1]
        exact ih
theorem fl0 (T : Nat) (hT : T ≤ 1000000000) : ∀ (v : Int), 0 ≤ v → Big (D v) → ∀ xs : List Int, xs.length + (rd10 v).length ≤ T → Ev (fun k => bignat_Format.l0 k (D v) xs) (strOfNums (xs ++ rd10 v).reverse) := by
  intro v v0 hs xs hl
  by_cases h : 0 < v
  · have hdl := D_length_pos h
    have hq0 : 0 ≤ v / 1000000000 := by omega
    have hqs : Big (D (v / 1000000000)) := by
      have := D_len_le (n := v / 1000000000) (k := (D v).length) (Int.lt_of_le_of_lt (by omega) (D_len h).2)
      exact Nat.le_trans this hs
    have hds := divSmall_ev (D_U v) hs (y := 1000000000) (by omega) (by omega)
    rw [V_D v v0] at hds
    have hv : v % 1000000000 + 10 ^ 9 * (v / 1000000000) = v := by
      rw [show (10 : Int) ^ 9 = 1000000000 by decide]; omega
    have f1 := fl1 hq0 hqs T hT (fun ys hy => fl0 T hT (v / 1000000000) hq0 hqs ys hy) 9 (v % 1000000000) xs (Nat.le_refl _) (by omega) (by rw [show (10 : Int) ^ 9 = 1000000000 by decide]; omega) (by rw [hv]; exact hl)
    rw [hv] at f1
    refine suc ?_
    simp (disch := omega) only [bignat_Format.l0, if_pos]
    exact Ev.bind hds f1
  · rw [rd10_zero h, List.append_nil]
    rw [rd10_zero h, List.length_nil] at hl
    rw [D_neg h]
    refine suc ?_
    simp (disch := omega) only [bignat_Format.l0, if_neg, List.length_nil, w64]
    exact fl2' xs (by omega)
termination_by v => v.toNat
decreasing_by omega
theorem format_ev {a : List Int} (ha : U a) (sa : Big a) (hl : (rd10 (V a)).length ≤ 1000000000) : Ev (fun k => bignat_Format.f k a) (txt (V a)) := by
  have h1 := V_nonneg ha
  simp only [bignat_Format.f]
  refine Ev.bind (clone_ev ha sa) ?_
  unfold txt
  by_cases h : 0 < V a
  · have hdl := D_length_pos h
    rw [if_pos h]
    simp (disch := omega) only [if_neg]
    have := fl0 1000000000 (Nat.le_refl _) (V a) h1 (D_big ha sa) [] (by simpa using hl)
    rw [List.nil_append] at this
    exact this
  · rw [if_neg h, D_neg h]
    exact now fun _ => rfl
end Go.Proofs.YtoeldfopjalpkaaDoor.Spec
