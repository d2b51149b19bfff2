/- Lemmas for the proof of one law of this seat (PureRationalDecimal). -/
import Derived.Test.YtoeldfopjalpkaaDoorZRationalDecimalFText
import Derived.Test.YtoeldfopjalpkaaDoorZRationalDecimalKnown2
set_option linter.unusedSimpArgs false
set_option linter.unusedVariables false
namespace Go.Proofs.YtoeldfopjalpkaaDoor.Pure
open Go.RowKit Go.Proofs.YtoeldfopjalpkaaDoorW.PrintWords Go.Proofs.YtoeldfopjalpkaaDoorW.PrintLast Go.Proofs.YtoeldfopjalpkaaDoorW.PrintMore Go.Proofs.YtoeldfopjalpkaaDoor.Q Go.Proofs.YtoeldfopjalpkaaDoor.Nums Go.Proofs.YtoeldfopjalpkaaDoor.Spec
theorem band3 (x : Int) : 0 ≤ Go.bits .and .u8 x 3 ∧ Go.bits .and .u8 x 3 ≤ 3 := by
  unfold Go.bits
  have : (BitVec.ofInt IntKind.u8.bits x &&& BitVec.ofInt IntKind.u8.bits 3).toNat ≤ 3 := by
    rw [BitVec.toNat_and]
    exact Nat.and_le_right
  simp only
  rw [IntKind.wrap_u8]
  omega
theorem p46 (l : List UInt8) : B l ++ (⟨#[46]⟩ : ByteArray) = B (l ++ [46]) := B_append l [46]
theorem p48 (l : List UInt8) : (⟨#[48]⟩ : ByteArray) ++ B l = B (48 :: l) := B_append [48] l
/-- What New makes of two numbers that are not negative. -/
theorem newN_ev {n d : Nat} (hn : n < 9223372036854775808) (hd : 0 < d) (hd2 : d < 9223372036854775808) : Ev (fun k => rational_New.f k (n : Int) (d : Int)) (okO (mk false n d)) := by
  have := new_ev (n := (n : Int)) (d := (d : Int)) (by omega) (by omega) (by omega) (by omega)
  rw [newC (by omega), decide_eq_false (show ¬ (n : Int) < 0 by omega), decide_eq_false (show ¬ (d : Int) < 0 by omega)] at this
  exact this
theorem mk_neg (s : Bool) (n d : Nat) : -(mk s n d) = mk (!s) n d := by
  rw [mk_div, mk_div]
  cases s <;> simp <;> grind
theorem sum_eq (w p S : Nat) (hS : 0 < S) : mk false p S + mk false w 1 = mk false (w * S + p) S := by
  have h := cast_ne hS
  rw [mk_div, mk_div, mk_div]
  simp only [Bool.false_eq_true, if_false, Rat.natCast_add, Rat.natCast_mul]
  grind
theorem lim2 {n : Nat} (h : n < 18446744073709551616) : Lim 2 (n : Int) := ⟨by omega, by
  have : (4294967296 : Int) ^ 2 = 18446744073709551616 := by decide
  omega⟩
theorem val_app {u v : List UInt8} (hu : u.all isD = true) (hv : v.all isD = true) : val (u ++ v) = val u * 10 ^ v.length + val v := by
  have ha : (u ++ v).all isD = true := by rw [List.all_append, hu, hv]; rfl
  have h1 := val_eq ha
  rw [lval_append, lval_shift, ← val_eq hu, ← val_eq hv] at h1
  have h2 : ((10 ^ v.length : Nat) : Int) = 10 ^ v.length := Int.natCast_pow 10 _
  rw [← h2, ← Int.natCast_mul, ← Int.natCast_add] at h1
  exact Int.ofNat.inj h1
section
variable {w p : Nat} {a1 a2 : Int} {u : List UInt8}
theorem j3_ev (neg : Bool) (hw : w < 4294967296) (hp : p < 4294967296) {z : List UInt8} (hz : dgs z = true) (hv : val z = p) (hl : z.length ≤ 20) {q : Rat} (sq : Sz 20 q) : Ev (fun k => credencelaw2_RationalDecimal.j3 k neg (w : Int) (p : Int) (B (dgt w)) (B z) (B (sgnT neg)) 0 0 0 (C q).1 (C q).2.1 (C q).2.2 (C q).1 (C q).2.1 (C q).2.2) true := by
  have lw := dgt_len (n := w) (k := 10) (by have : (10 : Int) ^ 10 = 10000000000 := by decide
                                            omega)
  have dw := dgt_dgs w
  have ls : (sgnT neg).length ≤ 1 := by cases neg <;> decide
  have ep := parseB_ev neg (h := dgt w) (t := 47 :: z) (all_ok (dg_all dw)) (by rw [List.length_cons]; omega) (.inr ⟨z, .inl rfl⟩) (fun _ => dgs_min dw)
  rw [resO_cons, if_pos ⟨dw, hz⟩, if_pos rfl, hv, dgt_val] at ep
  have same := sameC_ev (rfl : q = q) sq (by omega)
  have z1 : (B (sgnT neg)).size + (B (dgt w)).size ≤ 9223372036854775807 := by rw [B_size, B_size]; omega
  have z2 : (B (sgnT neg) ++ B (dgt w)).size + 1 ≤ 9223372036854775807 := by rw [B_append, B_size, List.length_append]; omega
  have z3 : ((B (sgnT neg) ++ B (dgt w)) ++ (⟨#[47]⟩ : ByteArray)).size + (B z).size ≤ 9223372036854775807 := by rw [B_append, p47, B_size, B_size]; simp; omega
  have et : ((B (sgnT neg) ++ B (dgt w)) ++ (⟨#[47]⟩ : ByteArray)) ++ B z = B (sgnT neg ++ (dgt w ++ 47 :: z)) := by rw [B_append, p47, B_append]; simp
  refine suc ?_
  simp only [credencelaw2_RationalDecimal.j3, if_pos z1, if_pos z2, if_pos z3, et]
  by_cases hp0 : p = 0
  · rw [if_pos hp0] at ep
    refine Ev.bind ep ?_
    simp only [if_pos (show (p : Int) = 0 by omega), if_true]
    refine Ev.bind same ?_
    simp only [if_true]
    exact Ev.bind known_ev (now fun _ => rfl)
  · rw [if_neg hp0] at ep
    refine Ev.bind ep ?_
    have en := newN_ev (n := w) (d := p) (by omega) (by omega) (by omega)
    have sr : Sz 2 (mk false w p) := mk_sz _ (by omega) (lim2 (by omega)) (lim2 (by omega))
    have st : Sz 2 (mk true w p) := mk_sz _ (by omega) (lim2 (by omega)) (lim2 (by omega))
    have np : ¬ (p : Int) = 0 := by omega
    have hN : wrap64 (w : Int) = (w : Int) := w64 (by omega) (by omega)
    have hP : wrap64 (p : Int) = (p : Int) := by exact w64 (n := (p : Int)) (Int.le_trans (by decide) (Int.natCast_nonneg p)) (Int.le_trans (Int.ofNat_le.2 (Nat.le_of_lt hp)) (by decide))
    simp only [if_neg np, hN, hP]
    clear hN hP
    refine Ev.bind en ?_
    cases neg
    · simp only [Bool.false_eq_true, if_false, if_true]
      refine Ev.bind same ?_
      simp only [if_true, okO]
      refine Ev.bind (sameC_ev (rfl : mk false w p = mk false w p) sr (by omega)) ?_
      simp only [if_true]
      exact Ev.bind known_ev (now fun _ => rfl)
    · simp only [if_true]
      refine Ev.bind (negC_ev sr (by omega)) ?_
      refine Ev.bind same ?_
      simp only [if_true, okO]
      have et2 : mk true w p = -(mk false w p) := (mk_neg false w p).symm
      refine Ev.bind (sameC_ev et2 st (by omega)) ?_
      simp only [if_true]
      exact Ev.bind known_ev (now fun _ => rfl)
theorem j2_ev (neg : Bool) (hw : w < 4294967296) (hp : p < 4294967296) {z : List UInt8} (hz : dgs z = true) (hv : val z = p) (hl : z.length ≤ 14) : Ev (fun k => credencelaw2_RationalDecimal.j2 k neg (w : Int) (p : Int) (B (dgt w)) (B z) ((10 ^ z.length : Nat) : Int) (B (sgnT neg))) true := by
  have lw := dgt_len (n := w) (k := 10) (by have : (10 : Int) ^ 10 = 10000000000 := by decide
                                            omega)
  have dw := dgt_dgs w
  have ls : (sgnT neg).length ≤ 1 := by cases neg <;> decide
  have ep := parseB_ev neg (h := dgt w) (t := 46 :: z) (all_ok (dg_all dw)) (by rw [List.length_cons]; omega) (.inr ⟨z, .inr rfl⟩) (fun _ => dgs_min dw)
  rw [resO_cons, if_pos ⟨dw, hz⟩, if_neg (by decide), val_app (dg_all dw) (dg_all hz), hv, dgt_val] at ep
  have z1 : (B (sgnT neg)).size + (B (dgt w)).size ≤ 9223372036854775807 := by rw [B_size, B_size]; omega
  have z2 : (B (sgnT neg) ++ B (dgt w)).size + 1 ≤ 9223372036854775807 := by rw [B_append, B_size, List.length_append]; omega
  have z3 : ((B (sgnT neg) ++ B (dgt w)) ++ (⟨#[46]⟩ : ByteArray)).size + (B z).size ≤ 9223372036854775807 := by rw [B_append, p46, B_size, B_size]; simp; omega
  have et : ((B (sgnT neg) ++ B (dgt w)) ++ (⟨#[46]⟩ : ByteArray)) ++ B z = B (sgnT neg ++ (dgt w ++ 46 :: z)) := by rw [B_append, p46, B_append]; simp
  have hS : 10 ^ z.length ≤ 100000000000000 := Nat.pow_le_pow_right (n := 10) (by omega) hl
  have hS0 : 0 < 10 ^ z.length := Nat.pow_pos (by omega)
  have e1 := newN_ev (n := p) (d := 10 ^ z.length) (by omega) hS0 (by omega)
  have e2 := newN_ev (n := w) (d := 1) (by omega) (by omega) (by omega)
  have s1 : Sz 2 (mk false p (10 ^ z.length)) := mk_sz _ (by omega) (lim2 (by omega)) (lim2 (by omega))
  have s2 : Sz 2 (mk false w 1) := mk_sz _ (by omega) (lim2 (by omega)) (lim2 (by omega))
  have e3 := addC_ev s1 s2 (by omega)
  have s3 := s1.add s2
  rw [sum_eq _ _ _ hS0] at e3 s3
  have hN : wrap64 (w : Int) = (w : Int) := w64 (by omega) (by omega)
  have hP : wrap64 (p : Int) = (p : Int) := by exact w64 (n := (p : Int)) (Int.le_trans (by decide) (Int.natCast_nonneg p)) (Int.le_trans (Int.ofNat_le.2 (Nat.le_of_lt hp)) (by decide))
  refine suc ?_
  simp only [credencelaw2_RationalDecimal.j2, if_pos z1, if_pos z2, if_pos z3, et, hN, hP]
  clear hN hP
  refine Ev.bind ep (Ev.bind e1 (Ev.bind e2 (Ev.bind e3 ?_)))
  cases neg
  · simp only [Bool.false_eq_true, if_false]
    exact j3_ev false hw hp hz hv (by omega) (s3.mono (by omega))
  · simp only [if_true]
    refine Ev.bind (negC_ev s3 (by omega)) ?_
    rw [mk_neg]
    have := j3_ev true hw hp hz hv (by omega) (q := mk true (w * 10 ^ z.length + p) (10 ^ z.length)) (by
      have := s3.neg
      rw [mk_neg] at this
      exact this.mono (by omega))
    exact this
theorem l1_ev (neg : Bool) (hw : w < 4294967296) (hp : p < 4294967296) {z : List UInt8} (hz : dgs z = true) (hv : val z = p) (hl : z.length ≤ 14) : ∀ n j : Nat, j + n = z.length → Ev (fun k => credencelaw2_RationalDecimal.l1 k neg (w : Int) (p : Int) (B (dgt w)) (B z) ((10 ^ j : Nat) : Int) (j : Int)) true := by
  intro n
  induction n with
  | zero =>
    intro j hj
    obtain rfl : j = z.length := by omega
    have := j2_ev neg hw hp hz hv hl
    refine suc ?_
    simp only [credencelaw2_RationalDecimal.l1, if_neg (show ¬ (z.length : Int) < ((B z).size : Int) by rw [B_size]; omega)]
    cases neg
    · simp only [Bool.false_eq_true, if_false]
      exact this
    · simp only [if_true]
      exact this
  | succ n ih =>
    intro j hj
    have := ih (j + 1) (by omega)
    have hS : 10 ^ j ≤ 100000000000000 := Nat.pow_le_pow_right (n := 10) (by omega) (show j ≤ 14 by omega)
    have hS0 : (0 : Int) ≤ ((10 ^ j : Nat) : Int) := Int.natCast_nonneg _
    have e : wrap64 (((10 ^ j : Nat) : Int) * 10) = ((10 ^ (j + 1) : Nat) : Int) := by
      rw [w64 (by omega) (by omega), Nat.pow_succ, Int.natCast_mul]; rfl
    refine suc ?_
    simp only [credencelaw2_RationalDecimal.l1, if_pos (show (j : Int) < ((B z).size : Int) by rw [B_size]; omega), e]
    rw [w64 (n := (j : Int) + 1) (by omega) (by omega)]
    exact this
theorem l0_ev (neg : Bool) (hw : w < 4294967296) (hp : p < 4294967296) (x3 : Int) : ∀ (n j : Nat) (z : List UInt8), j + n = 3 → (j : Int) ≤ Go.bits .and .u8 x3 3 → dgs z = true → val z = p → z.length ≤ 11 + j → Ev (fun k => credencelaw2_RationalDecimal.l0 k neg (w : Int) (p : Int) x3 (B (dgt w)) (B z) 1 (j : Int)) true := by
  intro n
  induction n with
  | zero =>
    intro j z hj hb hz hv hl
    have h3 := band3 x3
    have := l1_ev neg hw hp hz hv (by omega) z.length 0 (by omega)
    refine suc ?_
    simp (disch := omega) only [credencelaw2_RationalDecimal.l0, if_neg]
    exact this
  | succ n ih =>
    intro j z hj hb hz hv hl
    by_cases h : (j : Int) < Go.bits .and .u8 x3 3
    · have hz' : dgs (48 :: z) = true := by
        unfold dgs
        rw [List.all_cons, dg_all hz]
        rfl
      have := ih (j + 1) (48 :: z) (by omega) (by omega) hz' (by
        rw [← hv]
        have h1 := val_eq (dg_all hz')
        have h2 := val_eq (dg_all hz)
        have h3 : lval 0 (48 :: z) = lval 0 z := rfl
        omega) (by rw [List.length_cons]; omega)
      have e : ((j : Int) + 1) % 256 = ((j + 1 : Nat) : Int) := by omega
      refine suc ?_
      simp only [credencelaw2_RationalDecimal.l0, if_pos h, B_size, if_pos (show 1 + z.length ≤ 9223372036854775807 by omega), p48, e]
      exact this
    · have := l1_ev neg hw hp hz hv (by omega) z.length 0 (by omega)
      refine suc ?_
      simp only [credencelaw2_RationalDecimal.l0, if_neg h]
      exact this
end
theorem RationalDecimal : credencelaw2_RationalDecimal.Pure := by
  intro neg a1 a2 a3 w1 w2 _
  apply Ev.rounds
  simp [Lit.wf, IntKind.min, IntKind.max, IntKind.bits, IntKind.signed] at w1 w2
  obtain ⟨w, rfl⟩ := Int.eq_ofNat_of_zero_le (show 0 ≤ a1 by omega)
  obtain ⟨p, rfl⟩ := Int.eq_ofNat_of_zero_le (show 0 ≤ a2 by omega)
  have hw : w < 4294967296 := by omega
  have hp : p < 4294967296 := by omega
  have f1 := from_eq (n := (w : Int)) (by omega) (by omega)
  have f2 := from_eq (n := (p : Int)) (by omega) (by omega)
  have u1 : IntKind.u64.wrap (w : Int) = (w : Int) := u64w (by omega) (by omega)
  have u2 : IntKind.u64.wrap (p : Int) = (p : Int) := u64w (by omega) (by omega)
  have e1 := formatN_ev ((lim2 (n := w) (by omega)).mono (show 2 ≤ 8 by omega))
  have e2 := formatN_ev ((lim2 (n := p) (by omega)).mono (show 2 ≤ 8 by omega))
  have lp := dgt_len (n := p) (k := 10) (by have : (10 : Int) ^ 10 = 10000000000 := by decide
                                            omega)
  have h3 := band3 a3
  simp only [credencelaw2_RationalDecimal.f, u1, u2, f1, f2, Option.bind_some]
  refine Ev.bind e1 (Ev.bind e2 ?_)
  exact l0_ev neg hw hp a3 3 0 (dgt p) (by omega) (by omega) (dgt_dgs p) (dgt_val p) (by omega)
end Go.Proofs.YtoeldfopjalpkaaDoor.Pure

