/- Lemmas for the proof of one law of this seat (Spec6). -/
import Derived.Test.YtoeldfopjalpkaaDoorZRationalCanonicalSpec5
set_option linter.unusedSimpArgs false
set_option linter.unusedVariables false
namespace Go.Proofs.YtoeldfopjalpkaaDoor.Spec
open Go.RowKit Go.Proofs.YtoeldfopjalpkaaDoorW.PrintWords Go.Proofs.YtoeldfopjalpkaaDoorW.PrintLast Go.Proofs.YtoeldfopjalpkaaDoorW.PrintMore Go.Proofs.YtoeldfopjalpkaaDoor.Q Go.Proofs.YtoeldfopjalpkaaDoor.Nums

theorem or_sh {c x : Int} {s : Nat} (hs : s ≤ 31) (c0 : 0 ≤ c) (c1 : c < 2 ^ s) (h0 : 0 ≤ x) (h1 : x < 4294967296) : Go.bits .or .u64 c (shl .u64 x (s : Int)) = c + x * 2 ^ s := by
  obtain ⟨e, a, b⟩ := shl_eq hs h0 h1
  have : (2 : Int) ^ s ≤ 2 ^ 31 := pow2_le hs
  have h31 : (2 : Int) ^ 31 = 2147483648 := by decide
  rw [e, or_comm64 c0 (by omega) a (by omega), or64 s a (by rw [Int.mul_emod_left]) (by omega) c0 c1 (by omega)]
  omega
theorem shift_step {a o : List Int} {i : Nat} {c s P : Int} (hi : i < o.length) (hs : s = c + a.getD i 0 * P) (h : V (o.take i) + 4294967296 ^ i * c = V (a.take i) * P) :
    V ((o.set i (s % 4294967296)).take (i + 1)) + 4294967296 ^ (i + 1) * (s / 4294967296) = V (a.take (i + 1)) * P := by
  rw [V_take_set hi, V_take_next a, pow_succ', Int.add_mul, Int.mul_assoc (4294967296 ^ i)]
  have := carry_step (4294967296 ^ i) s
  rw [hs, Int.mul_add] at this
  rw [hs]
  omega
theorem shift_l {a : List Int} (ha : U a) (s : Nat) (hs : s ≤ 31) (size : Nat) (hz : size ≤ 1099511627776) : ∀ (n i : Nat) (o : List Int) (c : Int), i + n = size → o.length = size → U o → 0 ≤ c → c < 2 ^ s → V (o.take i) + 4294967296 ^ i * c = V (a.take i) * 2 ^ s →
    ∃ r c', Ev (fun k => bignat_shiftLeft.l0 k a s o c size i) r ∧ r.length = size ∧ U r ∧ 0 ≤ c' ∧ V r + 4294967296 ^ size * c' = V (a.take size) * 2 ^ s := by
  have hp := two_pos s
  have h31 : (2 : Int) ^ s ≤ 2 ^ 31 := pow2_le hs
  have e31 : (2 : Int) ^ 31 = 2147483648 := by decide
  intro n
  induction n with
  | zero =>
    intro i o c hi ho uo c0 c1 h
    obtain rfl : i = size := by omega
    refine ⟨o, c, suc (now fun k => ?_), ho, uo, c0, ?_⟩
    · simp (disch := omega) only [bignat_shiftLeft.l0, if_neg]
    · rw [List.take_of_length_le (by omega)] at h
      exact h
  | succ n ih =>
    intro i o c hi ho uo c0 c1 h
    have da := U_getD ha i
    by_cases hl : i < a.length
    · have e := or_sh (x := a.getD i 0) hs c0 c1 da.1 da.2
      have hm : 0 ≤ a.getD i 0 * 2 ^ s := Int.mul_nonneg da.1 (by omega)
      have hm2 : a.getD i 0 * 2 ^ s ≤ 4294967295 * 2 ^ s := Int.mul_le_mul_of_nonneg_right (by omega) (by omega)
      obtain ⟨r, c', hr, hx⟩ := ih (i + 1) (o.set i ((c + a.getD i 0 * 2 ^ s) % 4294967296)) ((c + a.getD i 0 * 2 ^ s) / 4294967296) (by omega) (by rw [List.length_set]; exact ho) (U_set uo i (by omega) (by omega)) (by omega) (by omega) (shift_step (by omega) rfl h)
      refine ⟨r, c', suc ?_, hx⟩
      simp (disch := omega) only [bignat_shiftLeft.l0, if_neg, if_pos, Int.toNat_natCast, rd_nat, u64w, w64, e]
      exact hr
    · have hz2 := getD_out (xs := a) (i := i) (by omega)
      obtain ⟨r, c', hr, hx⟩ := ih (i + 1) (o.set i (c % 4294967296)) (c / 4294967296) (by omega) (by rw [List.length_set]; exact ho) (U_set uo i (by omega) (by omega)) (by omega) (by omega) (shift_step (by omega) (by rw [hz2]; omega) h)
      refine ⟨r, c', suc ?_, hx⟩
      simp (disch := omega) only [bignat_shiftLeft.l0, if_neg, if_pos, Int.toNat_natCast, w64]
      exact hr
/-- Shifted in a list that is long enough. -/
theorem shift_ev {a : List Int} (ha : U a) (s : Nat) (hs : s ≤ 31) (size : Nat) (hz : size ≤ 1099511627776) (hl : a.length ≤ size) (hfit : V a * 2 ^ s < 4294967296 ^ size) : ∃ r, Ev (fun k => bignat_shiftLeft.f k a s size) r ∧ r.length = size ∧ U r ∧ V r = V a * 2 ^ s := by
  obtain ⟨r, c', hr, hlr, hu, hc0, hv⟩ := shift_l ha s hs size hz size 0 (List.replicate size 0) 0 (by omega) (by simp) (U_replicate _) (by omega) (two_pos s) (by simp [V])
  rw [List.take_of_length_le hl] at hv
  have h0 := V_nonneg hu
  have hp := pow_pos size
  have hc : c' = 0 := by
    by_cases h : c' = 0
    · exact h
    · have : (4294967296 : Int) ^ size * 1 ≤ 4294967296 ^ size * c' := Int.mul_le_mul_of_nonneg_left (by omega) (by omega)
      omega
  refine ⟨r, ?_, hlr, hu, by rw [hc] at hv; omega⟩
  simp only [bignat_shiftLeft.f]
  rw [show (List.replicate (size : Int).toNat 0 : List Int) = List.replicate size 0 by rw [Int.toNat_natCast]]
  simp (disch := omega) only [if_pos, Int.toNat_natCast, Option.bind_some, List.length_replicate]
  exact hr

theorem ss_step {u v o : List Int} {i : Nat} {k c y w : Int} (hi : i < o.length) (hs : y = u.getD i 0 - k * v.getD i 0 - c + 4294967296 * w) (h : V (o.take i) - 4294967296 ^ i * c = V (u.take i) - k * V (v.take i)) :
    V ((o.set i y).take (i + 1)) - 4294967296 ^ (i + 1) * w = V (u.take (i + 1)) - k * V (v.take (i + 1)) := by
  rw [V_take_set hi, V_take_next u, V_take_next v, pow_succ', hs]
  generalize (4294967296 : Int) ^ i = P at *
  generalize u.getD i 0 = a at *
  generalize v.getD i 0 = b at *
  have key : P * (a - k * b - c + 4294967296 * w) = P * a - P * (k * b) - P * c + P * (4294967296 * w) := by rw [Int.mul_add, Int.mul_sub, Int.mul_sub]
  have e2 : P * (4294967296 * w) = 4294967296 * P * w := by rw [← Int.mul_assoc, Int.mul_comm P]
  have e3 : k * (V (v.take i) + P * b) = k * V (v.take i) + P * (k * b) := by rw [Int.mul_add, ← Int.mul_assoc, Int.mul_comm k P, Int.mul_assoc]
  omega
theorem ss_l {u v : List Int} (hu : U u) (hv : U v) (su : Small u) (hl : u.length = v.length + 1) (g : Int) (g0 : 0 ≤ g) (g1 : g < 4294967296) : ∀ (n i : Nat) (o : List Int) (c : Int), i + n = v.length → o.length = u.length → U o → 0 ≤ c → c < 4294967296 → (∀ j, i ≤ j → o.getD j 0 = u.getD j 0) →
    V (o.take i) - 4294967296 ^ i * c = V (u.take i) - g * V (v.take i) →
    ∃ b r, Ev (fun k => bignat_subtractScaled.l0 k o g c v v.length i) (b, r) ∧ r.length = u.length ∧ U r ∧ V r = V u - g * V v + (if b = true then 4294967296 ^ u.length else 0) := by
  unfold Small at su
  intro n
  induction n with
  | zero =>
    intro i o c hi ho uo c0 c1 hr h
    obtain rfl : i = v.length := by omega
    have eu := hr v.length (Nat.le_refl _)
    have du := U_getD hu v.length
    have e1 : ((o.length : Int) - 1) = (v.length : Int) := by omega
    have ec : c % 4294967296 = c := by omega
    have hp := pow_succ' v.length
    have hvo : ∀ y, V (o.set v.length y) = V (o.take v.length) + 4294967296 ^ v.length * y := fun y => by
      have := V_take_set (xs := o) (i := v.length) (by omega) y
      rwa [List.take_of_length_le (by rw [List.length_set]; omega)] at this
    have hvu : V u = V (u.take v.length) + 4294967296 ^ v.length * u.getD v.length 0 := by
      have := V_take_next u v.length
      rwa [List.take_of_length_le (by omega)] at this
    rw [List.take_of_length_le (Nat.le_refl _)] at h
    refine ⟨decide (u.getD v.length 0 < c), o.set v.length ((u.getD v.length 0 - c) % 4294967296), suc (now fun k => ?_), by rw [List.length_set]; exact ho, U_set uo _ (by omega) (by omega), ?_⟩
    · simp (disch := omega) only [bignat_subtractScaled.l0, if_neg, if_pos, e1, w64, rd_nat, eu, u64w, ec, Int.toNat_natCast]
    · rw [hvo, hl, hp]
      by_cases hlt : u.getD v.length 0 < c
      · rw [if_pos (decide_eq_true hlt), show (u.getD v.length 0 - c) % 4294967296 = u.getD v.length 0 - c + 4294967296 by omega, Int.mul_add, Int.mul_sub, Int.mul_comm _ 4294967296]
        omega
      · rw [if_neg (by simp only [decide_eq_true_eq]; exact hlt), show (u.getD v.length 0 - c) % 4294967296 = u.getD v.length 0 - c by omega, Int.mul_sub]
        omega
  | succ n ih =>
    intro i o c hi ho uo c0 c1 hr h
    have du := U_getD hu i
    have dv := U_getD hv i
    have hm := mul_bound g0 g1 dv.1 dv.2
    have eu := hr i (Nat.le_refl _)
    have hr' : ∀ y j, i + 1 ≤ j → (o.set i y).getD j 0 = u.getD j 0 := fun y j hj => by rw [getD_set (by omega), hr j (by omega)]
    have hmul : g * v.getD i 0 ≤ 4294967295 * 4294967295 := by omega
    by_cases hlt : u.getD i 0 < (g * v.getD i 0 + c) % 4294967296
    · obtain ⟨b, r, he, hx⟩ := ih (i + 1) (o.set i ((u.getD i 0 - (g * v.getD i 0 + c) % 4294967296) % 4294967296)) ((g * v.getD i 0 + c) / 4294967296 + 1) (by omega) (by rw [List.length_set]; exact ho) (U_set uo i (by omega) (by omega)) (by omega) (by omega) (hr' _) (ss_step (by omega) (by omega) h)
      refine ⟨b, r, suc ?_, hx⟩
      simp (disch := omega) only [bignat_subtractScaled.l0, if_neg, if_pos, w64, rd_nat, eu, u64w, Int.toNat_natCast]
      exact he
    · obtain ⟨b, r, he, hx⟩ := ih (i + 1) (o.set i ((u.getD i 0 - (g * v.getD i 0 + c) % 4294967296) % 4294967296)) ((g * v.getD i 0 + c) / 4294967296) (by omega) (by rw [List.length_set]; exact ho) (U_set uo i (by omega) (by omega)) (by omega) (by omega) (hr' _) (ss_step (by omega) (by omega) h)
      refine ⟨b, r, suc ?_, hx⟩
      simp (disch := omega) only [bignat_subtractScaled.l0, if_neg, if_pos, w64, rd_nat, eu, u64w, Int.toNat_natCast]
      exact he
theorem ss_ev {u v : List Int} (hu : U u) (hv : U v) (su : Small u) (hl : u.length = v.length + 1) (g : Int) (g0 : 0 ≤ g) (g1 : g < 4294967296) :
    ∃ b r, Ev (fun k => bignat_subtractScaled.f k u v g) (b, r) ∧ r.length = u.length ∧ U r ∧ V r = V u - g * V v + (if b = true then 4294967296 ^ u.length else 0) := by
  simp only [bignat_subtractScaled.f]
  exact ss_l hu hv su hl g g0 g1 v.length 0 u 0 (by omega) rfl hu (by omega) (by omega) (fun _ _ => rfl) (by simp [V])

theorem ab_l {u v : List Int} (hu : U u) (hv : U v) (su : Small u) (hl : u.length = v.length + 1) : ∀ (n i : Nat) (o : List Int) (c : Int), i + n = v.length → o.length = u.length → U o → 0 ≤ c → c ≤ 1 → (∀ j, i ≤ j → o.getD j 0 = u.getD j 0) →
    V (o.take i) + 4294967296 ^ i * c = V (u.take i) + V (v.take i) →
    ∃ r, Ev (fun k => bignat_addBack.l0 k o c v v.length i) r ∧ r.length = u.length ∧ U r ∧ (V r = V u + V v ∨ V r = V u + V v - 4294967296 ^ u.length) := by
  unfold Small at su
  intro n
  induction n with
  | zero =>
    intro i o c hi ho uo c0 c1 hr h
    obtain rfl : i = v.length := by omega
    have eu := hr v.length (Nat.le_refl _)
    have du := U_getD hu v.length
    have e1 : ((o.length : Int) - 1) = (v.length : Int) := by omega
    have ec : c % 4294967296 = c := by omega
    have hp := pow_succ' v.length
    have hvo : ∀ y, V (o.set v.length y) = V (o.take v.length) + 4294967296 ^ v.length * y := fun y => by
      have := V_take_set (xs := o) (i := v.length) (by omega) y
      rwa [List.take_of_length_le (by rw [List.length_set]; omega)] at this
    have hvu : V u = V (u.take v.length) + 4294967296 ^ v.length * u.getD v.length 0 := by
      have := V_take_next u v.length
      rwa [List.take_of_length_le (by omega)] at this
    rw [List.take_of_length_le (Nat.le_refl _)] at h
    refine ⟨o.set v.length ((u.getD v.length 0 + c) % 4294967296), suc (now fun k => ?_), by rw [List.length_set]; exact ho, U_set uo _ (by omega) (by omega), ?_⟩
    · simp (disch := omega) only [bignat_addBack.l0, if_neg, if_pos, e1, w64, rd_nat, eu, u64w, ec, Int.toNat_natCast]
    · rw [hvo, hl, hp]
      by_cases hlt : u.getD v.length 0 + c < 4294967296
      · left
        rw [show (u.getD v.length 0 + c) % 4294967296 = u.getD v.length 0 + c by omega, Int.mul_add]
        omega
      · right
        rw [show (u.getD v.length 0 + c) % 4294967296 = u.getD v.length 0 + c - 4294967296 by omega, Int.mul_sub, Int.mul_add, Int.mul_comm _ 4294967296]
        omega
  | succ n ih =>
    intro i o c hi ho uo c0 c1 hr h
    have du := U_getD hu i
    have dv := U_getD hv i
    have eu := hr i (Nat.le_refl _)
    have hr' : ∀ y j, i + 1 ≤ j → (o.set i y).getD j 0 = u.getD j 0 := fun y j hj => by rw [getD_set (by omega), hr j (by omega)]
    obtain ⟨r, he, hx⟩ := ih (i + 1) (o.set i ((c + (u.getD i 0 + v.getD i 0)) % 4294967296)) ((c + (u.getD i 0 + v.getD i 0)) / 4294967296) (by omega) (by rw [List.length_set]; exact ho) (U_set uo i (by omega) (by omega)) (by omega) (by omega) (hr' _) (add_step (by omega) (by omega) h)
    refine ⟨r, suc ?_, hx⟩
    simp (disch := omega) only [bignat_addBack.l0, if_neg, if_pos, w64, rd_nat, eu, u64w, Int.toNat_natCast]
    exact he
theorem ab_ev {u v : List Int} (hu : U u) (hv : U v) (su : Small u) (hl : u.length = v.length + 1) :
    ∃ r, Ev (fun k => bignat_addBack.f k u v) r ∧ r.length = u.length ∧ U r ∧ (V r = V u + V v ∨ V r = V u + V v - 4294967296 ^ u.length) := by
  simp only [bignat_addBack.f]
  exact ab_l hu hv su hl v.length 0 u 0 (by omega) rfl hu (by omega) (by omega) (fun _ _ => rfl) (by simp [V])
end Go.Proofs.YtoeldfopjalpkaaDoor.Spec

