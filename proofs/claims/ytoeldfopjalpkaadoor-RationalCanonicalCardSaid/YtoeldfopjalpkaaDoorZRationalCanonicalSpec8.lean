/- Lemmas for the proof of one law of this seat (Spec8). -/
import Derived.Test.YtoeldfopjalpkaaDoorZRationalCanonicalSpec7
set_option linter.unusedSimpArgs false
set_option linter.unusedVariables false
namespace Go.Proofs.YtoeldfopjalpkaaDoor.Spec
open Go.RowKit Go.Proofs.YtoeldfopjalpkaaDoorW.PrintWords Go.Proofs.YtoeldfopjalpkaaDoorW.PrintLast Go.Proofs.YtoeldfopjalpkaaDoorW.PrintMore Go.Proofs.YtoeldfopjalpkaaDoor.Q Go.Proofs.YtoeldfopjalpkaaDoor.Nums

theorem pq32 {s : Nat} (hs : s ≤ 31) : (2 : Int) ^ s * 2 ^ (32 - s) = 4294967296 := by
  rw [← Int.pow_add, show s + (32 - s) = 32 by omega]
  decide
/-- A digit of a shift to the right, times the power. -/
theorem shr_digit {a b : Int} {s : Nat} (hs : s ≤ 31) (a0 : 0 ≤ a) (b0 : 0 ≤ b) (b1 : b < 4294967296) : (a * 4294967296 + b) / 2 ^ s % 4294967296 * 2 ^ s = b - b % 2 ^ s + 4294967296 * (a % 2 ^ s) := by
  have hpq := pq32 hs
  have hp := two_pos s
  have hq := two_pos (32 - s)
  generalize (2 : Int) ^ s = p at *
  generalize (2 : Int) ^ (32 - s) = q at *
  have e1 : (a * 4294967296 + b) / p = b / p + a * q := by
    rw [← hpq, Int.add_comm, show a * (p * q) = p * (a * q) by rw [Int.mul_left_comm], Int.add_mul_ediv_left _ _ (by omega)]
  have hb : b / p < q := Int.ediv_lt_of_lt_mul hp (by rw [Int.mul_comm, hpq]; exact b1)
  have hb0 : 0 ≤ b / p := Int.ediv_nonneg b0 (by omega)
  have ha := Int.emod_add_mul_ediv a p
  have h0 := Int.emod_nonneg a (show p ≠ 0 by omega)
  have h1 := Int.emod_lt_of_pos a hp
  have e2 : a * q = a % p * q + 4294967296 * (a / p) := by
    conv => lhs; rw [← ha]
    rw [Int.add_mul, Int.mul_comm p, Int.mul_assoc, hpq, Int.mul_comm 4294967296]
  have hle : a % p * q ≤ (p - 1) * q := mul_mono (by omega) (by omega)
  rw [Int.sub_mul, Int.one_mul, hpq] at hle
  have hnn : 0 ≤ a % p * q := Int.mul_nonneg h0 (by omega)
  have e3 : (b / p + a * q) % 4294967296 = b / p + a % p * q := by omega
  have hbm := Int.emod_add_mul_ediv b p
  rw [e1, e3, Int.add_mul, Int.mul_assoc (a % p), Int.mul_comm q p, hpq, Int.mul_comm (b / p)]
  omega
theorem shr_step {u r : List Int} {i s : Nat} {y : Int} (hi : i < r.length) (hy : y * 2 ^ s = u.getD i 0 - u.getD i 0 % 2 ^ s + 4294967296 * (u.getD (i + 1) 0 % 2 ^ s)) (h : V (r.take i) * 2 ^ s + u.getD 0 0 % 2 ^ s = V (u.take i) + 4294967296 ^ i * (u.getD i 0 % 2 ^ s)) :
    V ((r.set i y).take (i + 1)) * 2 ^ s + u.getD 0 0 % 2 ^ s = V (u.take (i + 1)) + 4294967296 ^ (i + 1) * (u.getD (i + 1) 0 % 2 ^ s) := by
  rw [V_take_set hi, V_take_next u, pow_succ', Int.add_mul, Int.mul_assoc (4294967296 ^ i), hy, Int.mul_add, Int.mul_sub, ← Int.mul_assoc, Int.mul_comm (4294967296 ^ i) 4294967296]
  omega
theorem l2_ev {u q : List Int} {s : Nat} (hs : s ≤ 31) (hu : U u) (hq : U q) (sq : Big q) (n : Nat) (hn : n < u.length) (hn2 : n ≤ 1099511627776) (X : Int) (hx : X * 2 ^ s = V u) (hup : V (u.drop n) = 0) :
    ∀ (N i : Nat) (r : List Int), i + N = n → r.length = n → U r → V (r.take i) * 2 ^ s + u.getD 0 0 % 2 ^ s = V (u.take i) + 4294967296 ^ i * (u.getD i 0 % 2 ^ s) →
      Ev (fun k => bignat_divLong.l2 k s u q r n i) (D (V q), D X) := by
  have hp := two_pos s
  intro N
  induction N with
  | zero =>
    intro i r hi hr ur h
    obtain rfl : i = n := by omega
    have du := U_getD hu i
    have hun : u.getD i 0 = 0 := by
      have h1 := V_drop_step hn
      have h2 := V_nonneg (U_drop hu (i + 1))
      omega
    have hvu : V (u.take i) = V u := by
      rw [V_split u i (by omega), hup, Int.mul_zero, Int.add_zero]
    rw [List.take_of_length_le (by omega), hun, hvu, ← hx, Int.zero_emod, Int.mul_zero, Int.add_zero] at h
    have hm0 := Int.emod_nonneg (u.getD 0 0) (show (2 : Int) ^ s ≠ 0 by omega)
    have hm1 := Int.emod_lt_of_pos (u.getD 0 0) hp
    have hvr : V r = X := by
      have := quot_of (x := X * 2 ^ s) (r := u.getD 0 0 % 2 ^ s) (d := 2 ^ s) (q := V r) (by rw [Int.mul_comm (2 ^ s)]; omega) hm0 hm1
      rw [Int.mul_ediv_cancel _ (by omega)] at this
      exact this.1.symm
    refine suc ?_
    simp (disch := omega) only [bignat_divLong.l2, if_neg]
    rw [← hvr]
    exact Ev.bind (trim_ev hq sq) (Ev.bind (trim_ev ur (by unfold Big; omega)) (now fun _ => rfl))
  | succ N ih =>
    intro i r hi hr ur h
    have d0 := U_getD hu i
    have d1 := U_getD hu (i + 1)
    have e1 : ((i : Int) + 1) = ((i + 1 : Nat) : Int) := by omega
    have eo := or_hi (x := u.getD (i + 1) 0) (y := u.getD i 0) d1.1 d1.2 d0.1 d0.2
    have es : shr .u64 (u.getD (i + 1) 0 * 4294967296 + u.getD i 0) (s : Int) = (u.getD (i + 1) 0 * 4294967296 + u.getD i 0) / 2 ^ s := by
      unfold shr
      rw [show min (s : Int).toNat IntKind.u64.bits = s by simp [IntKind.bits]; omega]
    refine suc ?_
    simp (disch := omega) only [bignat_divLong.l2, if_pos, w64, e1, rd_nat, u64w, eo, es, Int.toNat_natCast]
    refine ih (i + 1) _ (by omega) (by rw [List.length_set]; exact hr) (U_set ur i (by omega) (by omega)) ?_
    exact shr_step (by omega) (shr_digit hs d1.1 d0.1 d0.2) h
theorem mod_mod_zero {T d p : Int} (hT : T % p = 0) (hd : d % p = 0) : (T % d) % p = 0 := by
  rw [Int.emod_def T d, Int.sub_emod, hT, Int.mul_emod, hd, Int.zero_mul, Int.zero_emod, Int.sub_zero, Int.zero_emod]
theorem l0_ev {n s m : Nat} {v : List Int} {top next d v' : Int} (hv : Dv n v top next d v') (hs : s ≤ 31) (hm : m ≤ 1048576) (hnm : n ≤ m) (hd2 : d % 2 ^ s = 0) (T : Int) (hT : T % 2 ^ s = 0) :
    ∀ (J : Nat) (u q : List Int), J + n ≤ m + 1 → u.length = m + 1 → U u → q.length = m - n + 1 → U q → V (u.drop J) < d → T = V u + d * (4294967296 ^ J * V (q.drop J)) →
      Ev (fun k => bignat_divLong.l0 k n s u v q top next ((J : Int) - 1)) (D (T / d), D (T % d / 2 ^ s)) := by
  have hd := hv.pos
  have hn1 := hv.small
  have hp := two_pos s
  intro J
  induction J with
  | zero =>
    intro u q hJ hl hu hq uq hlt hTe
    rw [List.drop_zero] at hlt hTe
    rw [Int.pow_zero, Int.one_mul] at hTe
    have h0 := V_nonneg hu
    obtain ⟨hq1, hq2⟩ := quot_of hTe h0 hlt
    have hz := mod_mod_zero hT hd2
    rw [hq2] at hz
    have hx : V u / 2 ^ s * 2 ^ s = V u := Int.ediv_mul_cancel (Int.dvd_of_emod_eq_zero hz)
    have hup : V (u.drop n) = 0 := by
      have e := V_split u n (by omega)
      have h1 := V_nonneg (U_take hu n)
      have h3 := V_nonneg (U_drop hu n)
      have h4 := hv.lt
      have hpn := pow_pos n
      by_cases h0 : V (u.drop n) = 0
      · exact h0
      · have : (4294967296 : Int) ^ n * 1 ≤ 4294967296 ^ n * V (u.drop n) := Int.mul_le_mul_of_nonneg_left (by omega) (by omega)
        omega
    rw [hq1, hq2]
    refine suc ?_
    simp (disch := omega) only [bignat_divLong.l0, if_neg, if_pos, Option.bind_some, Int.toNat_natCast, List.length_replicate]
    exact l2_ev hs hu uq (by unfold Big; omega) n (by omega) (by omega) (V u / 2 ^ s) hx hup n 0 (List.replicate n 0) (by omega) (by simp) (U_replicate _) (by simp [V])
  | succ J ih =>
    intro u q hJ hl hu hq uq hlt hTe
    have ud := Ud.of (u := u) (j := J) hv hl (by omega) hm hu hlt
    generalize hW : V (u.drop J) = W at ud
    generalize ha2 : u.getD (J + n) 0 = a2 at ud
    generalize ha1 : u.getD (J + n - 1) 0 = a1 at ud
    generalize ha0 : u.getD (J + n - 2) 0 = a0 at ud
    generalize V ((u.drop J).take (n - 2)) = w' at ud
    have d2 := U_getD hu (J + n)
    have d1 := U_getD hu (J + n - 1)
    rw [ha2] at d2
    rw [ha1] at d1
    have ht0 := hv.top0
    have ht1 := hv.top1
    have h2n := hv.two
    have hW0 : 0 ≤ W := by rw [← hW]; exact V_nonneg (U_drop hu J)
    have e1 : (((J + 1 : Nat) : Int) - 1) = (J : Int) := by omega
    have es : ((J : Int) + (n : Int)) = ((J + n : Nat) : Int) := by omega
    have es1 : (((J + n : Nat) : Int) - 1) = ((J + n - 1 : Nat) : Int) := by omega
    have r2 : rd u ((J + n : Nat) : Int) = a2 := ha2
    have r1 : rd u ((J + n - 1 : Nat) : Int) = a1 := ha1
    have eo := or_hi d2.1 d2.2 d1.1 d1.2
    have etd : ∀ x : Int, 0 ≤ x → Int.tdiv x top = x / top := fun x hx => Int.tdiv_eq_ediv_of_nonneg hx
    have etm : ∀ x : Int, 0 ≤ x → Int.tmod x top = x % top := fun x hx => Int.tmod_eq_emod_of_nonneg hx
    have hdm := Int.emod_add_mul_ediv (a2 * 4294967296 + a1) top
    have hm0 := Int.emod_nonneg (a2 * 4294967296 + a1) (show top ≠ 0 by omega)
    have hm1 := Int.emod_lt_of_pos (a2 * 4294967296 + a1) (show 0 < top by omega)
    have hg0 : 0 ≤ (a2 * 4294967296 + a1) / top := Int.ediv_nonneg (by omega) (by omega)
    have hPp := pow_pos (n - 2)
    -- the first guess
    have hup : W / d ≤ (a2 * 4294967296 + a1) / top := by
      have : W / d < (a2 * 4294967296 + a1) / top + 1 := by
        refine quot_lt hd ?_
        have h1 : ((a2 * 4294967296 + a1) * 4294967296 + a0 + 1) ≤ ((a2 * 4294967296 + a1) / top + 1) * (top * 4294967296 + next) := by
          have a0d := U_getD hu (J + n - 2)
          rw [ha0] at a0d
          have h3 : 0 ≤ ((a2 * 4294967296 + a1) / top + 1) * next := Int.mul_nonneg (by omega) hv.next0
          have h4 : a2 * 4294967296 + a1 + 1 ≤ ((a2 * 4294967296 + a1) / top + 1) * top := by
            rw [Int.add_mul, Int.one_mul, Int.mul_comm _ top]
            omega
          rw [Int.mul_add, ← Int.mul_assoc]
          omega
        refine guess_lo ud.parts hv.parts hv.v0 ud.w1 hPp (by omega) (by omega)
      omega
    have hgm : (a2 * 4294967296 + a1) / top ≤ 4294967297 := by
      have htwo : a2 * 4294967296 + a1 < (top + 1) * 4294967296 := by
        have h1 := ud.lt
        rw [ud.parts, hv.parts] at h1
        have h3 := ud.w0
        have h4 := hv.v1
        have hn1 := hv.next1
        have a0d := U_getD hu (J + n - 2)
        rw [ha0] at a0d
        generalize (4294967296 : Int) ^ (n - 2) = P at *
        by_cases hc : a2 * 4294967296 + a1 < (top + 1) * 4294967296
        · exact hc
        · exfalso
          have h5 : (top + 1) * 4294967296 * 4294967296 * P ≤ ((a2 * 4294967296 + a1) * 4294967296 + a0) * P := mul_mono (by omega) (by omega)
          have h6 : (top * 4294967296 + next + 1) * P ≤ (top + 1) * 4294967296 * P := mul_mono (by omega) (by omega)
          have h7 : (top + 1) * 4294967296 * 4294967296 * P = 4294967296 * ((top + 1) * 4294967296 * P) := by
            rw [Int.mul_assoc, Int.mul_assoc, Int.mul_assoc, Int.mul_left_comm 4294967296, Int.mul_left_comm 4294967296 (top + 1)]
          rw [Int.add_mul, Int.one_mul] at h6
          omega
      have : (a2 * 4294967296 + a1) / top < 4294967298 := Int.ediv_lt_of_lt_mul (by omega) (by omega)
      omega
    rw [e1]
    refine suc ?_
    simp (disch := omega) only [bignat_divLong.l0, if_neg, if_pos, w64, es, es1, r2, r1, u64w, eo, etd, etm]
    refine l1_ev hv ud (fun G g1 g2 g3 => j3_ev hv ud hq G g1 g2 g3 fun t ht ut hvt => ?_) _ _ _ (Nat.le_refl _) hup hgm hm0 (by omega) (by rw [Int.mul_comm]; omega)
    have hj : (u.take J).length = J := by rw [List.length_take]; omega
    have hu' : U (u.take J ++ t ++ u.drop (J + n + 1)) := U_append.2 ⟨U_append.2 ⟨U_take hu J, ut⟩, U_drop hu _⟩
    have hdr : (u.take J ++ t ++ u.drop (J + n + 1)).drop J = t ++ u.drop (J + n + 1) := by rw [List.append_assoc, List.drop_left' hj]
    have hvd : V (t ++ u.drop (J + n + 1)) = W % d := by rw [V_append, ud.up, Int.mul_zero, Int.add_zero, hvt]
    have hqn : 0 ≤ W / d := Int.ediv_nonneg hW0 (by omega)
    have hqb : W / d < 4294967296 := quot_lt hd ud.lt
    refine ih _ _ (by omega) ?_ hu' (by rw [List.length_set]; exact hq) (U_set uq J hqn hqb) ?_ ?_
    · rw [List.length_append, List.length_append, hj, ht, List.length_drop, hl]; omega
    · rw [hdr, hvd]
      exact Int.emod_lt_of_pos W hd
    · have e2 : V (u.take J ++ t ++ u.drop (J + n + 1)) = V (u.take J) + 4294967296 ^ J * (W % d) := by
        rw [List.append_assoc, V_append, hj, hvd]
      have e3 : V u = V (u.take J) + 4294967296 ^ J * W := by rw [V_split u J (by omega), hW]
      have e4 : V ((q.set J (W / d)).drop J) = W / d + 4294967296 * V (q.drop (J + 1)) := by
        rw [V_drop_step (by rw [List.length_set]; omega), getD_set_self (by omega), List.drop_set_of_lt (by omega)]
      have hWd := Int.emod_add_mul_ediv W d
      rw [hTe, e2, e3, e4, pow_succ']
      generalize (4294967296 : Int) ^ J = P
      generalize V (q.drop (J + 1)) = Z
      have f1 : P * W = P * (W % d) + d * (P * (W / d)) := by
        conv => lhs; rw [← hWd]
        rw [Int.mul_add, Int.mul_left_comm]
      have f2 : d * (P * (W / d + 4294967296 * Z)) = d * (P * (W / d)) + d * (4294967296 * P * Z) := by
        rw [Int.mul_add, Int.mul_add, ← Int.mul_assoc P 4294967296, Int.mul_comm P 4294967296]
      omega
end Go.Proofs.YtoeldfopjalpkaaDoor.Spec

