/- Lemmas for the proof of one law of this seat (Spec15). -/
import Derived.Test.YtoeldfopjalpkaaDoorZRationalNewSpec14
import Derived.Test.YtoeldfopjalpkaaDoorZRationalNewSpec10
set_option linter.unusedSimpArgs false
set_option linter.unusedVariables false
namespace Go.Proofs.YtoeldfopjalpkaaDoor.Spec
open Go.RowKit Go.Proofs.YtoeldfopjalpkaaDoorW.PrintWords Go.Proofs.YtoeldfopjalpkaaDoorW.PrintLast Go.Proofs.YtoeldfopjalpkaaDoorW.PrintMore Go.Proofs.YtoeldfopjalpkaaDoor.Q Go.Proofs.YtoeldfopjalpkaaDoor.Nums

theorem V_at {xs : List Int} (h : U xs) {j : Nat} (hj : j < xs.length) : xs.getD j 0 = V xs / 4294967296 ^ j % 4294967296 := by
  have h1 := V_split xs j (by omega)
  have h2 := V_drop_step hj
  have h3 := V_nonneg (U_take h j)
  have h4 := V_lt (U_take h j)
  rw [List.length_take, Nat.min_eq_left (by omega)] at h4
  have hd := U_getD h j
  have e : V xs / 4294967296 ^ j = V (xs.drop j) := by
    rw [h1, Int.add_mul_ediv_left _ _ (by have := pow_pos j; omega), Int.ediv_eq_zero_of_lt h3 h4, Int.zero_add]
  rw [e]
  omega
theorem p31 {s : Nat} (hs : s ≤ 31) : (4294967296 : Int) = 2 ^ s * (2 * 2 ^ (31 - s)) := by
  rw [← Int.mul_assoc, Int.mul_comm _ 2, Int.mul_assoc, ← Int.pow_add, show s + (31 - s) = 31 by omega]
  decide
theorem bit_mod {w : Int} {s : Nat} (hs : s ≤ 31) : w % 4294967296 / 2 ^ s % 2 = w / 2 ^ s % 2 := by
  have hp := two_pos s
  have h := Int.emod_add_mul_ediv w 4294967296
  have e : w / 2 ^ s = w % 4294967296 / 2 ^ s + 2 * (2 ^ (31 - s) * (w / 4294967296)) := by
    conv => lhs; rw [← h]
    conv => lhs; rw [show (4294967296 : Int) * (w / 4294967296) = 2 ^ s * (2 * 2 ^ (31 - s)) * (w / 4294967296) by rw [← p31 hs]]
    rw [Int.mul_assoc, Int.add_mul_ediv_left _ _ (by omega), Int.mul_assoc]
  rw [e]
  omega
theorem and1u {x : Int} (h0 : 0 ≤ x) (h1 : x < 4294967296) : Go.bits .and .u32 x 1 = x % 2 := by
  have := bits_mask .u32 32 (by decide) wraps_u32 1 (by decide) x h0 (by omega)
  simpa using this
theorem shr32 {x : Int} {s : Nat} (hs : s ≤ 31) : shr .u32 x (s : Int) = x / 2 ^ s := by
  unfold shr
  rw [show min (s : Int).toNat IntKind.u32.bits = s by simp [IntKind.bits]; omega]
theorem p2_lt {s : Nat} (hs : s ≤ 31) : (2 : Int) ^ s < 4294967296 := by
  have := pow2_le (show s ≤ 31 from hs)
  have : (2 : Int) ^ 31 = 2147483648 := by decide
  omega
theorem shl32 {s : Nat} (hs : s ≤ 31) : shl .u32 1 (s : Int) = 2 ^ s := by
  unfold shl
  rw [show min (s : Int).toNat IntKind.u32.bits = s by simp [IntKind.bits]; omega, Int.one_mul]
  exact wraps_u32 _ (Int.le_of_lt (two_pos s)) (p2_lt hs)
/-- The bit that the loop reads. -/
theorem bit_at {xs : List Int} (h : U xs) {j s : Nat} (hj : j < xs.length) (hs : s ≤ 31) :
    Go.bits .and .u32 (shr .u32 (xs.getD j 0) (s : Int)) 1 = V xs / 2 ^ (32 * j + s) % 2 := by
  have hd := U_getD h j
  have hp := two_pos s
  have hle : xs.getD j 0 / 2 ^ s ≤ xs.getD j 0 := Int.ediv_le_self _ hd.1
  have h0 : 0 ≤ xs.getD j 0 / 2 ^ s := Int.ediv_nonneg hd.1 (by omega)
  rw [shr32 hs, and1u h0 (by omega), V_at h hj, bit_mod hs, Int.pow_add, pow32, Int.ediv_ediv_of_nonneg (Int.le_of_lt (pow_pos j))]
/-- The bit that the loop sets. -/
theorem set_at {q : List Int} (h : U q) {j s : Nat} (hj : j < q.length) (hs : s ≤ 31) {Q : Int} (hq : V q = Q * 2 ^ (32 * j + s + 1)) :
    U (q.set j (Go.bits .or .u32 (q.getD j 0) (shl .u32 1 (s : Int)))) ∧ V (q.set j (Go.bits .or .u32 (q.getD j 0) (shl .u32 1 (s : Int)))) = V q + 2 ^ (32 * j + s) := by
  have hd := U_getD h j
  have hp := two_pos s
  have hp' := two_pos (31 - s)
  have hl := p2_lt hs
  have hB := pow_pos j
  have e : q.getD j 0 = 2 ^ s * (2 * (Q % 2 ^ (31 - s))) := by
    rw [V_at h hj, hq, Nat.add_assoc, Int.pow_add, pow32, Int.mul_left_comm, Int.mul_ediv_cancel_left _ (by omega), p31 hs, two_succ, Int.mul_comm Q, ← Int.mul_assoc (2 ^ s) 2, Int.mul_comm (2 ^ s) 2, Int.mul_emod_mul_of_pos _ _ (by omega)]
    rw [Int.mul_comm 2, Int.mul_assoc]
  have e1 : 2 ^ s * (2 * (Q % 2 ^ (31 - s))) % 2 ^ (s + 1) = 0 := by
    rw [← Int.mul_assoc, Int.mul_comm (2 ^ s) 2, ← two_succ]
    exact Int.mul_emod_right _ _
  have hor := or32 (x := q.getD j 0) (y := 2 ^ s) (s + 1) hd.1 (by rw [e]; exact e1) hd.2 (by omega) (by rw [two_succ]; omega) hl
  have hlt : q.getD j 0 + 2 ^ s < 4294967296 := by
    have hm := Int.emod_lt_of_pos Q hp'
    have h3 : 2 ^ s * (2 * (Q % 2 ^ (31 - s)) + 1) < 2 ^ s * (2 * 2 ^ (31 - s)) := Int.mul_lt_mul_of_pos_left (by omega) hp
    rw [← p31 hs, Int.mul_add, Int.mul_one, ← e] at h3
    exact h3
  rw [shl32 hs, hor]
  refine ⟨U_set h j (by omega) hlt, ?_⟩
  rw [V_set hj, Int.pow_add, pow32]
  congr 2
  omega
theorem dm_l {X Y : Int} (hX : 0 ≤ X) (hY : 0 < Y) (sX : (D X).length ≤ 1048576) (sY : (D Y).length ≤ 1048576) : ∀ (m : Nat) (q : List Int), m ≤ 32 * (D X).length → q.length = (D X).length → U q →
    V q = X / 2 ^ m / Y * 2 ^ m → Ev (fun k => credenceref1_NatDivMod.l0 k (D X) (D Y) q (D (X / 2 ^ m % Y)) ((m : Int) - 1)) (D (X / Y), D (X % Y), true) := by
  intro m
  induction m with
  | zero =>
    intro q hm hq uq h
    have h1 := norm_ev uq (by unfold Big; omega)
    have h2 := norm_ev (D_U (X % Y)) (by
      have := D_len_mono' (n := X % Y) (m := Y) (by omega) (Int.le_of_lt (Int.emod_lt_of_pos X hY))
      unfold Big; omega)
    rw [V_D _ (Int.emod_nonneg _ (by omega))] at h2
    rw [Int.pow_zero, Int.ediv_one, Int.mul_one] at h
    rw [h] at h1
    rw [Int.pow_zero, Int.ediv_one]
    refine suc ?_
    simp (disch := omega) only [credenceref1_NatDivMod.l0, if_neg]
    exact Ev.bind h1 (Ev.bind h2 (now fun _ => rfl))
  | succ m ih =>
    intro q hm hq uq h
    obtain ⟨j, s, hs, hms⟩ : ∃ j s : Nat, s ≤ 31 ∧ m = 32 * j + s := ⟨m / 32, m % 32, by omega, by omega⟩
    have hj : j < (D X).length := by omega
    have hbit := bit_at (D_U X) hj hs
    rw [V_D X hX, ← hms] at hbit
    have h2m := two_pos m
    have hA : X / 2 ^ m / 2 = X / 2 ^ (m + 1) := by
      rw [Int.ediv_ediv_of_nonneg (Int.le_of_lt h2m), two_succ, Int.mul_comm]
    have hA0 : 0 ≤ X / 2 ^ m := Int.ediv_nonneg hX (by omega)
    have hP := Int.emod_add_mul_ediv (X / 2 ^ (m + 1)) Y
    have hR0 := Int.emod_nonneg (X / 2 ^ (m + 1)) (show Y ≠ 0 by omega)
    have hR1 := Int.emod_lt_of_pos (X / 2 ^ (m + 1)) hY
    have hset := set_at uq (j := j) (s := s) (Q := X / 2 ^ (m + 1) / Y) (by omega) hs (by rw [← hms]; exact h)
    rw [← hms] at hset
    have hz : X / 2 ^ (m + 1) / Y * 2 ^ (m + 1) = 2 * (X / 2 ^ (m + 1) / Y) * 2 ^ m := by
      generalize X / 2 ^ (m + 1) / Y = z
      rw [two_succ, ← Int.mul_assoc, Int.mul_comm z 2]
    rw [hz] at h
    have e1 : wrap64 (Int.tdiv (((m + 1 : Nat) : Int) - 1) 32) = (j : Int) := by
      rw [show ((m + 1 : Nat) : Int) - 1 = (m : Int) by omega, Int.tdiv_eq_ediv_of_nonneg (by omega), w64 (by omega) (by omega)]; omega
    have e2 : IntKind.u64.wrap (Int.tmod (((m + 1 : Nat) : Int) - 1) 32) = (s : Int) := by
      rw [show ((m + 1 : Nat) : Int) - 1 = (m : Int) by omega, Int.tmod_eq_emod_of_nonneg (by omega), u64w (by omega) (by omega)]; omega
    have e3 : wrap64 (((m + 1 : Nat) : Int) - 1 - 1) = (m : Int) - 1 := by
      rw [show ((m + 1 : Nat) : Int) - 1 - 1 = (m : Int) - 1 by omega, w64 (by omega) (by omega)]
    generalize X / 2 ^ (m + 1) % Y = R at *
    generalize X / 2 ^ (m + 1) / Y = Qv at *
    have sR : (D R).length ≤ 1048576 := by
      have := D_len_mono' (n := R) (m := Y) (by omega) (by omega); omega
    have hdb := double_ev (x := R) hR0 (by unfold Small; omega) (b := X / 2 ^ m % 2) (by omega) (by omega)
    have hA2 : X / 2 ^ m = 2 * (R + Y * Qv) + X / 2 ^ m % 2 := by omega
    have sr : (D (2 * R + X / 2 ^ m % 2)).length ≤ 1048577 := by
      have h5 := D_len_mono' (n := 2 * R + X / 2 ^ m % 2) (m := 2 * Y) (by omega) (by omega)
      have h6 := (D_len hY).2
      have h7 := D_len_le (n := 2 * Y) (k := (D Y).length + 1) (by rw [pow_succ']; omega)
      omega
    have hb0 : 0 ≤ X / 2 ^ m % 2 := by omega
    generalize hrr : 2 * R + X / 2 ^ m % 2 = r at *
    have hr0 : 0 ≤ r := by omega
    have hc := ncmp_ev (D_U r) (D_U Y) (by unfold Big; omega) (by unfold Big; omega)
    have hsb := nsub_ev (D_U r) (D_U Y) (by unfold Small; omega) (by unfold Small; omega)
    rw [V_D r hr0, V_D Y (by omega)] at hc hsb
    have hA3 : X / 2 ^ m = r + Y * (2 * Qv) := by
      rw [hA2, Int.mul_add, Int.mul_left_comm]; omega
    refine suc ?_
    simp (disch := omega) only [credenceref1_NatDivMod.l0, if_pos, e1, e2, e3, rd_nat, hbit]
    refine Ev.bind hdb (Ev.bind hc ?_)
    by_cases hlt : r < Y
    · have hu := (Int.ediv_emod_unique (a := X / 2 ^ m) (r := r) (q := 2 * Qv) hY).2 ⟨hA3.symm, hr0, hlt⟩
      have hc0 : ¬ cmpI r Y ≥ 0 := by rw [cmpI_lt hlt]; omega
      simp only [if_neg hc0]
      have := ih q (by omega) hq uq (by rw [hu.1]; exact h)
      rw [hu.2] at this
      exact this
    · have hu := (Int.ediv_emod_unique (a := X / 2 ^ m) (r := r - Y) (q := 2 * Qv + 1) hY).2 ⟨by rw [hA3, Int.mul_add]; omega, by omega, by omega⟩
      have hc0 : cmpI r Y ≥ 0 := by have := cmpI_ge hlt; omega
      have hso : subO r Y = (D (r - Y), true) := by unfold subO; rw [if_neg hlt]
      rw [hso] at hsb
      simp only [if_pos hc0]
      refine Ev.bind hsb ?_
      simp (disch := omega) only [if_pos, Int.toNat_natCast]
      have := ih _ (by omega) (by rw [List.length_set]; exact hq) hset.1 (by rw [hset.2, hu.1, h, Int.add_mul, Int.one_mul])
      rw [hu.2] at this
      exact this
theorem natDivMod_ev {a b : List Int} (ha : U a) (hb : U b) (sa : a.length ≤ 1048576) (sb : b.length ≤ 1048576) : Ev (fun k => credenceref1_NatDivMod.f k a b) (divO (V a) (V b)) := by
  have va := V_nonneg ha
  have vb := V_nonneg hb
  have la := D_short ha
  have lb := D_short hb
  simp only [credenceref1_NatDivMod.f]
  refine Ev.bind (norm_ev ha (by unfold Big; omega)) (Ev.bind (norm_ev hb (by unfold Big; omega)) ?_)
  unfold divO
  by_cases h : 0 < V b
  · have := D_length_pos h
    have e : wrap64 (wrap64 (32 * ((D (V a)).length : Int)) - 1) = ((32 * (D (V a)).length : Nat) : Int) - 1 := by
      rw [w64 (n := 32 * ((D (V a)).length : Int)) (by omega) (by omega), w64 (by omega) (by omega)]; omega
    simp (disch := omega) only [if_neg, if_pos h, if_pos, Int.toNat_natCast, e]
    have hlt : V a / 2 ^ (32 * (D (V a)).length) = 0 := Int.ediv_eq_zero_of_lt va (by
      rw [pow32]
      by_cases g : 0 < V a
      · exact (D_len g).2
      · have : V a = 0 := by omega
        rw [this]; exact pow_pos _)
    have hz : D 0 = [] := D_zero
    have := dm_l va h (by omega) (by omega) (32 * (D (V a)).length) (List.replicate (D (V a)).length 0) (Nat.le_refl _) List.length_replicate (U_replicate _) (by rw [V_replicate, hlt, Int.zero_ediv, Int.zero_mul])
    rw [hlt, Int.zero_emod, hz] at this
    exact this
  · have e : D (V b) = [] := D_neg h
    rw [e]
    simp only [List.length_nil, if_neg h]
    exact now fun _ => rfl
end Go.Proofs.YtoeldfopjalpkaaDoor.Spec

