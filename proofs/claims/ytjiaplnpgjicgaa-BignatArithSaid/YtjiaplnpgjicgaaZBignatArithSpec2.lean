/- Lemmas for the proof of one law of this seat (Spec2). -/
import Derived.Test.YtjiaplnpgjicgaaZBignatArithSpec1
set_option linter.unusedSimpArgs false
set_option linter.unusedVariables false
namespace Go.Proofs.Ytjiaplnpgjicgaa.Spec
open Go.RowKit Go.Proofs.YtjiaplnpgjicgaaW.PrintWords Go.Proofs.YtjiaplnpgjicgaaW.PrintLast Go.Proofs.YtjiaplnpgjicgaaW.PrintMore Go.Proofs.Ytjiaplnpgjicgaa.Q Go.Proofs.Ytjiaplnpgjicgaa.Nums

theorem V_take_set {xs : List Int} {i : Nat} (h : i < xs.length) (v : Int) : V ((xs.set i v).take (i + 1)) = V (xs.take i) + 4294967296 ^ i * v := by
  rw [V_take_succ (by simpa using h), List.take_set_of_le (Nat.le_refl _)]
  congr 2
  rw [List.getD_eq_getElem?_getD, List.getElem?_set_self h]
  rfl
theorem carry_step (p s : Int) : p * (s % 4294967296) + 4294967296 * p * (s / 4294967296) = p * s := by
  conv => rhs; rw [← Int.emod_add_mul_ediv s 4294967296]
  rw [Int.mul_add, ← Int.mul_assoc, Int.mul_comm p 4294967296]
/-- The digit i of a list, 0 behind its end, and the value of what is in front of it. -/
theorem V_take_next (xs : List Int) (i : Nat) : V (xs.take (i + 1)) = V (xs.take i) + 4294967296 ^ i * xs.getD i 0 := by
  by_cases h : i < xs.length
  · exact V_take_succ h
  · rw [List.take_of_length_le (by omega), List.take_of_length_le (by omega), List.getD_eq_getElem?_getD, List.getElem?_eq_none (by omega)]
    simp
theorem getD_out {xs : List Int} {i : Nat} (h : xs.length ≤ i) : xs.getD i 0 = 0 := by
  rw [List.getD_eq_getElem?_getD, List.getElem?_eq_none h]; rfl
/-- One step of a sum with carry. -/
theorem add_step {a b o : List Int} {i : Nat} {c s : Int} (hi : i < o.length) (hs : s = c + a.getD i 0 + b.getD i 0) (h : V (o.take i) + 4294967296 ^ i * c = V (a.take i) + V (b.take i)) :
    V ((o.set i (s % 4294967296)).take (i + 1)) + 4294967296 ^ (i + 1) * (s / 4294967296) = V (a.take (i + 1)) + V (b.take (i + 1)) := by
  rw [V_take_set hi, V_take_next a, V_take_next b, pow_succ']
  have := carry_step (4294967296 ^ i) s
  rw [hs, Int.mul_add, Int.mul_add] at this
  rw [hs]
  omega
theorem add_l {a b : List Int} (ha : U a) (hb : U b) (sa : Small a) (hl : b.length ≤ a.length) : ∀ (n i : Nat) (o : List Int) (c : Int), i + n = a.length → o.length = a.length + 1 → U o → 0 ≤ c → c ≤ 1 →
    V (o.take i) + 4294967296 ^ i * c = V (a.take i) + V (b.take i) → Ev (fun k => bignat_Add.l0 k a b o c a.length i) (D (V a + V b)) := by
  unfold Small at sa
  intro n
  induction n with
  | zero =>
    intro i o c hi ho uo c0 c1 h
    obtain rfl : i = a.length := by omega
    refine suc ?_
    simp (disch := omega) only [bignat_Add.l0, if_neg, if_pos, Int.toNat_natCast]
    have e : c % 4294967296 = c := by omega
    rw [e]
    have uo' := U_set uo a.length c0 (by omega)
    have so' : Big (o.set a.length c) := by unfold Big; rw [List.length_set]; omega
    have hv : V (o.set a.length c) = V a + V b := by
      have h2 := V_take_set (xs := o) (i := a.length) (by omega) c
      rw [List.take_of_length_le (show (o.set a.length c).length ≤ a.length + 1 by rw [List.length_set]; omega)] at h2
      rw [h2, h, List.take_of_length_le (Nat.le_refl _), List.take_of_length_le hl]
    rw [← hv]
    exact Ev.bind (trim_ev uo' so') (now fun _ => rfl)
  | succ n ih =>
    intro i o c hi ho uo c0 c1 h
    have da := U_getD ha i
    have db := U_getD hb i
    refine suc ?_
    by_cases hb2 : i < b.length
    · simp (disch := omega) only [bignat_Add.l0, if_neg, if_pos, Int.toNat_natCast, rd_nat, u64w, w64]
      refine ih (i + 1) _ _ (by omega) (by rw [List.length_set]; exact ho) (U_set uo i (by omega) (by omega)) (by omega) (by omega) ?_
      exact add_step (by omega) rfl h
    · have hz := getD_out (xs := b) (i := i) (by omega)
      simp (disch := omega) only [bignat_Add.l0, if_neg, if_pos, Int.toNat_natCast, rd_nat, u64w, w64]
      refine ih (i + 1) _ _ (by omega) (by rw [List.length_set]; exact ho) (U_set uo i (by omega) (by omega)) (by omega) (by omega) ?_
      exact add_step (by omega) (by omega) h
theorem add_j {a b : List Int} (ha : U a) (hb : U b) (sa : Small a) (hl : b.length ≤ a.length) : Ev (fun k => bignat_Add.j0 k a b) (D (V a + V b)) := by
  refine suc ?_
  have hs := sa
  unfold Small at hs
  have e : ((a.length : Int) + 1).toNat = a.length + 1 := by omega
  simp (disch := omega) only [bignat_Add.j0, if_pos, w64, e]
  exact add_l ha hb sa hl a.length 0 _ 0 (by omega) (by simp) (U_replicate _) (by omega) (by omega) (by simp [V])
theorem add_ev {a b : List Int} (ha : U a) (hb : U b) (sa : Small a) (sb : Small b) : Ev (fun k => bignat_Add.f k a b) (D (V a + V b)) := by
  simp only [bignat_Add.f]
  refine Ev.bind (trim_ev ha sa.big) (Ev.bind (trim_ev hb sb.big) ?_)
  have h1 := V_nonneg ha
  have h2 := V_nonneg hb
  by_cases h : (D (V a)).length < (D (V b)).length
  · simp (disch := omega) only [if_pos]
    have := add_j (D_U (V b)) (D_U (V a)) (D_small hb sb) (by omega)
    rwa [V_D _ h1, V_D _ h2, Int.add_comm] at this
  · simp (disch := omega) only [if_neg]
    have := add_j (D_U (V a)) (D_U (V b)) (D_small ha sa) (by omega)
    rwa [V_D _ h1, V_D _ h2] at this

theorem add_step' {a b o : List Int} {i : Nat} {c s : Int} (hi : o.length = i) (hs : s = c + a.getD i 0 + b.getD i 0) (h : V o + 4294967296 ^ i * c = V (a.take i) + V (b.take i)) :
    V (o ++ [s % 4294967296]) + 4294967296 ^ (i + 1) * (s / 4294967296) = V (a.take (i + 1)) + V (b.take (i + 1)) := by
  rw [V_append, V_cons, V_nil, V_take_next a, V_take_next b, pow_succ', hi, Int.mul_zero, Int.add_zero]
  have := carry_step (4294967296 ^ i) s
  rw [hs, Int.mul_add, Int.mul_add] at this
  rw [hs]
  omega
theorem U_snoc {o : List Int} {v : Int} (h : U o) (h0 : 0 ≤ v) (h1 : v < 4294967296) : U (o ++ [v]) := U_append.2 ⟨h, U_cons.2 ⟨⟨h0, h1⟩, U_nil⟩⟩
theorem nadd_l {a b : List Int} (ha : U a) (hb : U b) (sa : Small a) (sb : Small b) : ∀ (n i : Nat) (o : List Int) (c : Int), i + n = max a.length b.length → o.length = i → U o → 0 ≤ c → c ≤ 1 →
    V o + 4294967296 ^ i * c = V (a.take i) + V (b.take i) → Ev (fun k => credenceref1_NatAdd.l0 k a b o c i) (D (V a + V b)) := by
  unfold Small at sa sb
  intro n
  induction n with
  | zero =>
    intro i o c hi ho uo c0 c1 h
    refine suc (suc ?_)
    have e : c % 4294967296 = c := by omega
    simp (disch := omega) only [credenceref1_NatAdd.l0, if_neg, decide_eq_false, credenceref1_NatAdd.j1, if_pos, e]
    simp only [Bool.false_eq_true, if_false]
    rw [List.take_of_length_le (by omega), List.take_of_length_le (by omega)] at h
    rw [← h, show V o + 4294967296 ^ i * c = V (o ++ [c]) from by rw [V_append, V_cons, V_nil, ho, Int.mul_zero, Int.add_zero]]
    exact Ev.bind (norm_ev (U_snoc uo c0 (by omega)) (by unfold Big; simp; omega)) (now fun _ => rfl)
  | succ n ih =>
    intro i o c hi ho uo c0 c1 h
    have da := U_getD ha i
    have db := U_getD hb i
    refine suc (suc ?_)
    by_cases ha2 : i < a.length
    · by_cases hb2 : i < b.length
      · simp (disch := omega) only [credenceref1_NatAdd.l0, if_neg, decide_eq_false, credenceref1_NatAdd.j1, if_pos, rd_nat, u64w, w64]
        refine ih (i + 1) _ _ (by omega) (by simp; omega) (U_snoc uo (by omega) (by omega)) (by omega) (by omega) ?_
        exact add_step' ho rfl h
      · have hz := getD_out (xs := b) (i := i) (by omega)
        simp (disch := omega) only [credenceref1_NatAdd.l0, if_neg, decide_eq_false, credenceref1_NatAdd.j1, if_pos, rd_nat, u64w, w64]
        refine ih (i + 1) _ _ (by omega) (by simp; omega) (U_snoc uo (by omega) (by omega)) (by omega) (by omega) ?_
        exact add_step' ho (by omega) h
    · have hz := getD_out (xs := a) (i := i) (by omega)
      have hd : decide ((i : Int) < (b.length : Int)) = true := decide_eq_true (show (i : Int) < (b.length : Int) by omega)
      simp (disch := omega) only [credenceref1_NatAdd.l0, if_neg, hd, credenceref1_NatAdd.j1, if_pos, rd_nat, u64w, w64]
      refine ih (i + 1) _ _ (by omega) (by simp; omega) (U_snoc uo (by omega) (by omega)) (by omega) (by omega) ?_
      exact add_step' ho (by omega) h
theorem nadd_ev {a b : List Int} (ha : U a) (hb : U b) (sa : Small a) (sb : Small b) : Ev (fun k => credenceref1_NatAdd.f k a b) (D (V a + V b)) := by
  simp only [credenceref1_NatAdd.f]
  exact nadd_l ha hb sa sb (max a.length b.length) 0 [] 0 (by omega) rfl U_nil (by omega) (by omega) (by simp [V])
end Go.Proofs.Ytjiaplnpgjicgaa.Spec

