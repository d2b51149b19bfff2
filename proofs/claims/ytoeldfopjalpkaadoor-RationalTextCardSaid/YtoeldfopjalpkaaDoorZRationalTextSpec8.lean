/- Lemmas for the proof of one law of this seat (Spec5). -/
import Derived.Test.YtoeldfopjalpkaaDoorZRationalTextSpec4
set_option linter.unusedSimpArgs false
set_option linter.unusedVariables false
namespace Go.Proofs.YtoeldfopjalpkaaDoor.Spec
open Go.RowKit Go.Proofs.YtoeldfopjalpkaaDoorW.PrintWords Go.Proofs.YtoeldfopjalpkaaDoorW.PrintLast Go.Proofs.YtoeldfopjalpkaaDoorW.PrintMore Go.Proofs.YtoeldfopjalpkaaDoor.Q Go.Proofs.YtoeldfopjalpkaaDoor.Nums

theorem wraps_u64 (n : Int) (h0 : 0 ≤ n) (h1 : n < 2 ^ 64) : IntKind.u64.wrap n = n := by rw [IntKind.wrap_u64]; omega
theorem wraps_u32 (n : Int) (h0 : 0 ≤ n) (h1 : n < 2 ^ 32) : IntKind.u32.wrap n = n := by rw [IntKind.wrap_u32]; omega
theorem or64 {x y : Int} (i : Nat) (hx0 : 0 ≤ x) (hx : x % 2 ^ i = 0) (hx1 : x < 18446744073709551616) (hy0 : 0 ≤ y) (hy : y < 2 ^ i) (hy1 : y < 18446744073709551616) : Go.bits .or .u64 x y = x + y :=
  bits_join .u64 64 (by decide) wraps_u64 i x y hx0 hx (by omega) hy0 hy (by omega)
theorem or32 {x y : Int} (i : Nat) (hx0 : 0 ≤ x) (hx : x % 2 ^ i = 0) (hx1 : x < 4294967296) (hy0 : 0 ≤ y) (hy : y < 2 ^ i) (hy1 : y < 4294967296) : Go.bits .or .u32 x y = x + y :=
  bits_join .u32 32 (by decide) wraps_u32 i x y hx0 hx (by omega) hy0 hy (by omega)
theorem or_comm64 {x y : Int} (hx0 : 0 ≤ x) (hx1 : x < 18446744073709551616) (hy0 : 0 ≤ y) (hy1 : y < 18446744073709551616) : Go.bits .or .u64 x y = Go.bits .or .u64 y x := by
  obtain ⟨a, rfl⟩ := Int.eq_ofNat_of_zero_le hx0
  obtain ⟨b, rfl⟩ := Int.eq_ofNat_of_zero_le hy0
  rw [(bits_nat .u64 64 (by decide) wraps_u64 a b (by omega) (by omega)).2, (bits_nat .u64 64 (by decide) wraps_u64 b a (by omega) (by omega)).2, Nat.or_comm]
theorem or_hi {x y : Int} (hx0 : 0 ≤ x) (hx1 : x < 4294967296) (hy0 : 0 ≤ y) (hy1 : y < 4294967296) : Go.bits .or .u64 (x * 4294967296) y = x * 4294967296 + y :=
  or64 32 (by omega) (by omega) (by omega) hy0 (by omega) (by omega)

/-- The number of binary digits. -/
def bl (n : Int) : Nat := if h : 0 < n then bl (n / 2) + 1 else 0
termination_by n.toNat
decreasing_by omega
theorem bl_pos {n : Int} (h : 0 < n) : bl n = bl (n / 2) + 1 := by rw [bl]; simp [h]
theorem bl_zero {n : Int} (h : ¬ 0 < n) : bl n = 0 := by rw [bl]; simp [h]
theorem two_succ (k : Nat) : (2 : Int) ^ (k + 1) = 2 * 2 ^ k := by rw [Int.pow_succ]; exact Int.mul_comm _ _
theorem two_pos (k : Nat) : (0 : Int) < 2 ^ k := Int.pow_pos (by omega)
theorem bl_lt (n : Int) : n < 2 ^ bl n := by
  by_cases h : 0 < n
  · rw [bl_pos h, two_succ]
    have := bl_lt (n / 2)
    omega
  · have := two_pos (bl n)
    omega
termination_by n.toNat
decreasing_by omega
theorem bl_ge {n : Int} (h : 0 < n) : 2 ^ (bl n - 1) ≤ n := by
  rw [bl_pos h, Nat.add_sub_cancel]
  by_cases h2 : 0 < n / 2
  · have := bl_ge h2
    have e := bl_pos h2
    have : (2 : Int) ^ bl (n / 2) = 2 * 2 ^ (bl (n / 2) - 1) := by rw [← two_succ]; congr 1; omega
    omega
  · rw [bl_zero h2]
    omega
termination_by n.toNat
decreasing_by omega
theorem bl8 {n : Int} (h : 256 ≤ n) : bl n = bl (n / 256) + 8 := by
  rw [bl_pos (by omega), bl_pos (n := n / 2) (by omega), bl_pos (n := n / 2 / 2) (by omega), bl_pos (n := n / 2 / 2 / 2) (by omega), bl_pos (n := n / 2 / 2 / 2 / 2) (by omega), bl_pos (n := n / 2 / 2 / 2 / 2 / 2) (by omega), bl_pos (n := n / 2 / 2 / 2 / 2 / 2 / 2) (by omega), bl_pos (n := n / 2 / 2 / 2 / 2 / 2 / 2 / 2) (by omega)]
  rw [show n / 2 / 2 / 2 / 2 / 2 / 2 / 2 / 2 = n / 256 by omega]
theorem bl16 {n : Int} (h : 65536 ≤ n) : bl n = bl (n / 65536) + 16 := by
  rw [bl8 (by omega), bl8 (n := n / 256) (by omega), show n / 256 / 256 = n / 65536 by omega]
theorem bl_mono {n m : Int} (h : n ≤ m) : bl n ≤ bl m := by
  by_cases h0 : 0 < n
  · rw [bl_pos h0, bl_pos (n := m) (by omega)]
    have := bl_mono (n := n / 2) (m := m / 2) (by omega)
    omega
  · rw [bl_zero h0]
    omega
termination_by n.toNat
decreasing_by omega
theorem bl_le {n : Int} {k : Nat} (h : n < 2 ^ k) : bl n ≤ k := by
  induction k generalizing n with
  | zero => rw [bl_zero (by simp at h; omega)]; omega
  | succ k ih =>
    by_cases h0 : 0 < n
    · rw [bl_pos h0]
      have := ih (n := n / 2) (by rw [two_succ] at h; omega)
      omega
    · rw [bl_zero h0]; omega
/-- The table of lengths of bytes. -/
def lenTab : ByteArray := ⟨#[0, 1, 2, 2, 3, 3, 3, 3, 4, 4, 4, 4, 4, 4, 4, 4, 5, 5, 5, 5, 5, 5, 5, 5, 5, 5, 5, 5, 5, 5, 5, 5, 6, 6, 6, 6, 6, 6, 6, 6, 6, 6, 6, 6, 6, 6, 6, 6, 6, 6, 6, 6, 6, 6, 6, 6, 6, 6, 6, 6, 6, 6, 6, 6, 7, 7, 7, 7, 7, 7, 7, 7, 7, 7, 7, 7, 7, 7, 7, 7, 7, 7, 7, 7, 7, 7, 7, 7, 7, 7, 7, 7, 7, 7, 7, 7, 7, 7, 7, 7, 7, 7, 7, 7, 7, 7, 7, 7, 7, 7, 7, 7, 7, 7, 7, 7, 7, 7, 7, 7, 7, 7, 7, 7, 7, 7, 7, 7, 8, 8, 8, 8, 8, 8, 8, 8, 8, 8, 8, 8, 8, 8, 8, 8, 8, 8, 8, 8, 8, 8, 8, 8, 8, 8, 8, 8, 8, 8, 8, 8, 8, 8, 8, 8, 8, 8, 8, 8, 8, 8, 8, 8, 8, 8, 8, 8, 8, 8, 8, 8, 8, 8, 8, 8, 8, 8, 8, 8, 8, 8, 8, 8, 8, 8, 8, 8, 8, 8, 8, 8, 8, 8, 8, 8, 8, 8, 8, 8, 8, 8, 8, 8, 8, 8, 8, 8, 8, 8, 8, 8, 8, 8, 8, 8, 8, 8, 8, 8, 8, 8, 8, 8, 8, 8, 8, 8, 8, 8, 8, 8, 8, 8, 8, 8, 8, 8, 8, 8, 8, 8, 8, 8, 8, 8, 8, 8]⟩
/-- The length of a byte, counted by halving. -/
def blf : Nat → Nat → Nat
  | 0, _ => 0
  | f + 1, n => if 0 < n then blf f (n / 2) + 1 else 0
theorem blf_eq : ∀ (f n : Nat), n < 2 ^ f → bl (n : Int) = blf f n
  | 0, n, h => by
    rw [bl_zero (by simp at h; omega)]; rfl
  | f + 1, n, h => by
    unfold blf
    by_cases h0 : 0 < n
    · rw [if_pos h0, bl_pos (by omega), show (n : Int) / 2 = ((n / 2 : Nat) : Int) by omega, blf_eq f (n / 2) (by rw [Nat.pow_succ] at h; omega)]
    · rw [if_neg h0, bl_zero (by omega)]
theorem tab_all : ∀ n : Fin 256, bt lenTab ((n.val : Nat) : Int) = ((blf 8 n.val : Nat) : Int) := by decide +kernel
theorem tab_at {x : Int} (h0 : 0 ≤ x) (h1 : x < 256) : bt lenTab x = (bl x : Int) := by
  obtain ⟨n, rfl⟩ := Int.eq_ofNat_of_zero_le h0
  have := tab_all ⟨n, by omega⟩
  rw [blf_eq 8 n (by omega)]
  exact this
theorem len32_eq {x : Int} (h0 : 0 ≤ x) (h1 : x < 4294967296) : bits_Len32.f x = some (bl x : Int) := by
  have hb : ∀ y : Int, 0 ≤ y → y < 256 → bl y ≤ 8 := fun y a b => bl_le (by omega)
  show (if x ≥ 65536 then (if (x / 65536) ≥ 256 then (if 0 ≤ (((x / 65536) / 256) % 256) then (if (((x / 65536) / 256) % 256) < 256 then (some (wrap64 ((16 + 8) + (wrap64 (bt lenTab (((x / 65536) / 256) % 256)))))) else (none)) else (none)) else (if 0 ≤ ((x / 65536) % 256) then (if ((x / 65536) % 256) < 256 then (some (wrap64 (16 + (wrap64 (bt lenTab ((x / 65536) % 256)))))) else (none)) else (none))) else (if x ≥ 256 then (if 0 ≤ ((x / 256) % 256) then (if ((x / 256) % 256) < 256 then (some (wrap64 ((0 + 8) + (wrap64 (bt lenTab ((x / 256) % 256)))))) else (none)) else (none)) else (if 0 ≤ ((x) % 256) then (if ((x) % 256) < 256 then (some (wrap64 (0 + (wrap64 (bt lenTab ((x) % 256)))))) else (none)) else (none)))) = _
  by_cases c1 : x ≥ 65536
  · rw [if_pos c1, bl16 c1]
    by_cases c2 : x / 65536 ≥ 256
    · have e : x / 65536 / 256 % 256 = x / 65536 / 256 := by omega
      have := hb (x / 65536 / 256) (by omega) (by omega)
      rw [if_pos c2, e, if_pos (by omega), if_pos (by omega), tab_at (by omega) (by omega), bl8 c2, w64 (n := (bl (x / 65536 / 256) : Int)) (by omega) (by omega), w64 (by omega) (by omega)]
      congr 1; omega
    · have e : x / 65536 % 256 = x / 65536 := by omega
      have := hb (x / 65536) (by omega) (by omega)
      rw [if_neg c2, e, if_pos (by omega), if_pos (by omega), tab_at (by omega) (by omega), w64 (n := (bl (x / 65536) : Int)) (by omega) (by omega), w64 (by omega) (by omega)]
      congr 1; omega
  · rw [if_neg c1]
    by_cases c2 : x ≥ 256
    · have e : x / 256 % 256 = x / 256 := by omega
      have := hb (x / 256) (by omega) (by omega)
      rw [if_pos c2, e, if_pos (by omega), if_pos (by omega), tab_at (by omega) (by omega), bl8 c2, w64 (n := (bl (x / 256) : Int)) (by omega) (by omega), w64 (by omega) (by omega)]
      congr 1; omega
    · have e : x % 256 = x := by omega
      have := hb x (by omega) (by omega)
      rw [if_neg c2, e, if_pos (by omega), if_pos (by omega), tab_at (by omega) (by omega), w64 (n := (bl x : Int)) (by omega) (by omega), w64 (by omega) (by omega)]
      congr 1; omega
theorem bl_top {x : Int} (h1 : x < 4294967296) : bl x ≤ 32 := bl_le (by omega)
theorem lz_eq {x : Int} (h0 : 0 ≤ x) (h1 : x < 4294967296) : bits_LeadingZeros32.f x = some (((32 - bl x : Nat) : Nat) : Int) := by
  have := bl_top h1
  simp only [bits_LeadingZeros32.f, len32_eq h0 h1, Option.bind_some]
  rw [w64 (by omega) (by omega)]
  congr 1; omega
theorem pow2_le {j k : Nat} (h : j ≤ k) : (2 : Int) ^ j ≤ 2 ^ k := by
  obtain ⟨m, rfl⟩ := Nat.exists_eq_add_of_le h
  rw [Int.pow_add]
  have := Int.mul_le_mul_of_nonneg_left (show (1 : Int) ≤ 2 ^ m from two_pos m) (Int.le_of_lt (two_pos j))
  omega
theorem shl_eq {x : Int} {s : Nat} (hs : s ≤ 31) (h0 : 0 ≤ x) (h1 : x < 4294967296) : shl .u64 x (s : Int) = x * 2 ^ s ∧ 0 ≤ x * 2 ^ s ∧ x * 2 ^ s < 9223372036854775808 := by
  have hp := two_pos s
  have hle : (2 : Int) ^ s ≤ 2147483648 := by
    have : (2 : Int) ^ s ≤ 2 ^ 31 := pow2_le hs
    simpa using this
  have h3 : x * 2 ^ s ≤ 4294967295 * 2147483648 := Int.mul_le_mul (by omega) hle (by omega) (by omega)
  have h4 : 0 ≤ x * 2 ^ s := Int.mul_nonneg h0 (by omega)
  unfold shl
  rw [show min (s : Int).toNat IntKind.u64.bits = s by simp [IntKind.bits]; omega]
  refine ⟨u64w h4 (by omega), h4, by omega⟩
end Go.Proofs.YtoeldfopjalpkaaDoor.Spec
set_option linter.unusedSimpArgs false
set_option linter.unusedVariables false
namespace Go.Proofs.YtoeldfopjalpkaaDoor.Spec
open Go.RowKit Go.Proofs.YtoeldfopjalpkaaDoorW.PrintWords Go.Proofs.YtoeldfopjalpkaaDoorW.PrintLast Go.Proofs.YtoeldfopjalpkaaDoorW.PrintMore Go.Proofs.YtoeldfopjalpkaaDoor.Q Go.Proofs.YtoeldfopjalpkaaDoor.Nums

theorem or_sh {c x : Int} {s : Nat} (hs : s ≤ 31) (c0 : 0 ≤ c) (c1 : c < 2 ^ s) (h0 : 0 ≤ x) (h1 : x < 4294967296) : Go.bits .or .u64 c (shl .u64 x (s : Int)) = c + x * 2 ^ s := by
  obtain ⟨e, a, b⟩ := shl_eq hs h0 h1
  have : (2 : Int) ^ s ≤ 2 ^ 31 := pow2_le hs
  have h31 : (2 : Int) ^ 31 = 2147483648 := by decide
  rw [e, or_comm64 c0 (by omega) a (by omega), or64 s a (by rw [Int.mul_emod_left]) (by omega) c0 c1 (by omega)]
  omega
theorem shift_step {a o : List Int} {i : Nat} {c s P : Int} (hi : i < o.length) (hs : s = c + a.getD i 0 * P) (h : V (o.take i) + 4294967296 ^ i * c = V (a.take i) * P) :
    V ((o.set i (s % 4294967296)).take (i + 1)) + 4294967296 ^ (i + 1) * (s / 4294967296) = V (a.take (i + 1)) * P := by
  rw [V_take_set hi, V_take_next a, pow_succ', Int.add_mul, Int.mul_assoc (4294967296 ^ i)]
  have := carry_step (4294967296 ^ i) s
  rw [hs, Int.mul_add] at this
  rw [hs]
  omega
theorem shift_l {a : List Int} (ha : U a) (s : Nat) (hs : s ≤ 31) (size : Nat) (hz : size ≤ 1099511627776) : ∀ (n i : Nat) (o : List Int) (c : Int), i + n = size → o.length = size → U o → 0 ≤ c → c < 2 ^ s → V (o.take i) + 4294967296 ^ i * c = V (a.take i) * 2 ^ s →
    ∃ r c', Ev (fun k => bignat_shiftLeft.l0 k a s o c size i) r ∧ r.length = size ∧ U r ∧ 0 ≤ c' ∧ V r + 4294967296 ^ size * c' = V (a.take size) * 2 ^ s := by
  have hp := two_pos s
  have h31 : (2 : Int) ^ s ≤ 2 ^ 31 := pow2_le hs
  have e31 : (2 : Int) ^ 31 = 2147483648 := by decide
  intro n
  induction n with
  | zero =>
    intro i o c hi ho uo c0 c1 h
    obtain rfl : i = size := by omega
    refine ⟨o, c, suc (now fun k => ?_), ho, uo, c0, ?_⟩
    · simp (disch := omega) only [bignat_shiftLeft.l0, if_neg]
    · rw [List.take_of_length_le (by omega)] at h
      exact h
  | succ n ih =>
    intro i o c hi ho uo c0 c1 h
    have da := U_getD ha i
    by_cases hl : i < a.length
    · have e := or_sh (x := a.getD i 0) hs c0 c1 da.1 da.2
      have hm : 0 ≤ a.getD i 0 * 2 ^ s := Int.mul_nonneg da.1 (by omega)
      have hm2 : a.getD i 0 * 2 ^ s ≤ 4294967295 * 2 ^ s := Int.mul_le_mul_of_nonneg_right (by omega) (by omega)
      obtain ⟨r, c', hr, hx⟩ := ih (i + 1) (o.set i ((c + a.getD i 0 * 2 ^ s) % 4294967296)) ((c + a.getD i 0 * 2 ^ s) / 4294967296) (by omega) (by rw [List.length_set]; exact ho) (U_set uo i (by omega) (by omega)) (by omega) (by omega) (shift_step (by omega) rfl h)
      refine ⟨r, c', suc ?_, hx⟩
      simp (disch := omega) only [bignat_shiftLeft.l0, if_neg, if_pos, Int.toNat_natCast, rd_nat, u64w, w64, e]
      exact hr
    · have hz2 := getD_out (xs := a) (i := i) (by omega)
      obtain ⟨r, c', hr, hx⟩ := ih (i + 1) (o.set i (c % 4294967296)) (c / 4294967296) (by omega) (by rw [List.length_set]; exact ho) (U_set uo i (by omega) (by omega)) (by omega) (by omega) (shift_step (by omega) (by rw [hz2]; omega) h)
      refine ⟨r, c', suc ?_, hx⟩
      simp (disch := omega) only [bignat_shiftLeft.l0, if_neg, if_pos, Int.toNat_natCast, w64]
      exact hr
/-- Shifted in a list that is long enough. -/
theorem shift_ev {a : List Int} (ha : U a) (s : Nat) (hs : s ≤ 31) (size : Nat) (hz : size ≤ 1099511627776) (hl : a.length ≤ size) (hfit : V a * 2 ^ s < 4294967296 ^ size) : ∃ r, Ev (fun k => bignat_shiftLeft.f k a s size) r ∧ r.length = size ∧ U r ∧ V r = V a * 2 ^ s := by
  obtain ⟨r, c', hr, hlr, hu, hc0, hv⟩ := shift_l ha s hs size hz size 0 (List.replicate size 0) 0 (by omega) (by simp) (U_replicate _) (by omega) (two_pos s) (by simp [V])
  rw [List.take_of_length_le hl] at hv
  have h0 := V_nonneg hu
  have hp := pow_pos size
  have hc : c' = 0 := by
    by_cases h : c' = 0
    · exact h
    · have : (4294967296 : Int) ^ size * 1 ≤ 4294967296 ^ size * c' := Int.mul_le_mul_of_nonneg_left (by omega) (by omega)
      omega
  refine ⟨r, ?_, hlr, hu, by rw [hc] at hv; omega⟩
  simp only [bignat_shiftLeft.f]
  rw [show (List.replicate (size : Int).toNat 0 : List Int) = List.replicate size 0 by rw [Int.toNat_natCast]]
  simp (disch := omega) only [if_pos, Int.toNat_natCast, Option.bind_some, List.length_replicate]
  exact hr

theorem ss_step {u v o : List Int} {i : Nat} {k c y w : Int} (hi : i < o.length) (hs : y = u.getD i 0 - k * v.getD i 0 - c + 4294967296 * w) (h : V (o.take i) - 4294967296 ^ i * c = V (u.take i) - k * V (v.take i)) :
    V ((o.set i y).take (i + 1)) - 4294967296 ^ (i + 1) * w = V (u.take (i + 1)) - k * V (v.take (i + 1)) := by
  rw [V_take_set hi, V_take_next u, V_take_next v, pow_succ', hs]
  generalize (4294967296 : Int) ^ i = P at *
  generalize u.getD i 0 = a at *
  generalize v.getD i 0 = b at *
  have key : P * (a - k * b - c + 4294967296 * w) = P * a - P * (k * b) - P * c + P * (4294967296 * w) := by rw [Int.mul_add, Int.mul_sub, Int.mul_sub]
  have e2 : P * (4294967296 * w) = 4294967296 * P * w := by rw [← Int.mul_assoc, Int.mul_comm P]
  have e3 : k * (V (v.take i) + P * b) = k * V (v.take i) + P * (k * b) := by rw [Int.mul_add, ← Int.mul_assoc, Int.mul_comm k P, Int.mul_assoc]
  omega
theorem ss_l {u v : List Int} (hu : U u) (hv : U v) (su : Small u) (hl : u.length = v.length + 1) (g : Int) (g0 : 0 ≤ g) (g1 : g < 4294967296) : ∀ (n i : Nat) (o : List Int) (c : Int), i + n = v.length → o.length = u.length → U o → 0 ≤ c → c < 4294967296 → (∀ j, i ≤ j → o.getD j 0 = u.getD j 0) →
    V (o.take i) - 4294967296 ^ i * c = V (u.take i) - g * V (v.take i) →
    ∃ b r, Ev (fun k => bignat_subtractScaled.l0 k o g c v v.length i) (b, r) ∧ r.length = u.length ∧ U r ∧ V r = V u - g * V v + (if b = true then 4294967296 ^ u.length else 0) := by
  unfold Small at su
  intro n
  induction n with
  | zero =>
    intro i o c hi ho uo c0 c1 hr h
    obtain rfl : i = v.length := by omega
    have eu := hr v.length (Nat.le_refl _)
    have du := U_getD hu v.length
    have e1 : ((o.length : Int) - 1) = (v.length : Int) := by omega
    have ec : c % 4294967296 = c := by omega
    have hp := pow_succ' v.length
    have hvo : ∀ y, V (o.set v.length y) = V (o.take v.length) + 4294967296 ^ v.length * y := fun y => by
      have := V_take_set (xs := o) (i := v.length) (by omega) y
      rwa [List.take_of_length_le (by rw [List.length_set]; omega)] at this
    have hvu : V u = V (u.take v.length) + 4294967296 ^ v.length * u.getD v.length 0 := by
      have := V_take_next u v.length
      rwa [List.take_of_length_le (by omega)] at this
    rw [List.take_of_length_le (Nat.le_refl _)] at h
    refine ⟨decide (u.getD v.length 0 < c), o.set v.length ((u.getD v.length 0 - c) % 4294967296), suc (now fun k => ?_), by rw [List.length_set]; exact ho, U_set uo _ (by omega) (by omega), ?_⟩
    · simp (disch := omega) only [bignat_subtractScaled.l0, if_neg, if_pos, e1, w64, rd_nat, eu, u64w, ec, Int.toNat_natCast]
    · rw [hvo, hl, hp]
      by_cases hlt : u.getD v.length 0 < c
      · rw [if_pos (decide_eq_true hlt), show (u.getD v.length 0 - c) % 4294967296 = u.getD v.length 0 - c + 4294967296 by omega, Int.mul_add, Int.mul_sub, Int.mul_comm _ 4294967296]
        omega
      · rw [if_neg (by simp only [decide_eq_true_eq]; exact hlt), show (u.getD v.length 0 - c) % 4294967296 = u.getD v.length 0 - c by omega, Int.mul_sub]
        omega
  | succ n ih =>
    intro i o c hi ho uo c0 c1 hr h
    have du := U_getD hu i
    have dv := U_getD hv i
    have hm := mul_bound g0 g1 dv.1 dv.2
    have eu := hr i (Nat.le_refl _)
    have hr' : ∀ y j, i + 1 ≤ j → (o.set i y).getD j 0 = u.getD j 0 := fun y j hj => by rw [getD_set (by omega), hr j (by omega)]
    have hmul : g * v.getD i 0 ≤ 4294967295 * 4294967295 := by omega
    by_cases hlt : u.getD i 0 < (g * v.getD i 0 + c) % 4294967296
    · obtain ⟨b, r, he, hx⟩ := ih (i + 1) (o.set i ((u.getD i 0 - (g * v.getD i 0 + c) % 4294967296) % 4294967296)) ((g * v.getD i 0 + c) / 4294967296 + 1) (by omega) (by rw [List.length_set]; exact ho) (U_set uo i (by omega) (by omega)) (by omega) (by omega) (hr' _) (ss_step (by omega) (by omega) h)
      refine ⟨b, r, suc ?_, hx⟩
      simp (disch := omega) only [bignat_subtractScaled.l0, if_neg, if_pos, w64, rd_nat, eu, u64w, Int.toNat_natCast]
      exact he
    · obtain ⟨b, r, he, hx⟩ := ih (i + 1) (o.set i ((u.getD i 0 - (g * v.getD i 0 + c) % 4294967296) % 4294967296)) ((g * v.getD i 0 + c) / 4294967296) (by omega) (by rw [List.length_set]; exact ho) (U_set uo i (by omega) (by omega)) (by omega) (by omega) (hr' _) (ss_step (by omega) (by omega) h)
      refine ⟨b, r, suc ?_, hx⟩
      simp (disch := omega) only [bignat_subtractScaled.l0, if_neg, if_pos, w64, rd_nat, eu, u64w, Int.toNat_natCast]
      exact he
theorem ss_ev {u v : List Int} (hu : U u) (hv : U v) (su : Small u) (hl : u.length = v.length + 1) (g : Int) (g0 : 0 ≤ g) (g1 : g < 4294967296) :
    ∃ b r, Ev (fun k => bignat_subtractScaled.f k u v g) (b, r) ∧ r.length = u.length ∧ U r ∧ V r = V u - g * V v + (if b = true then 4294967296 ^ u.length else 0) := by
  simp only [bignat_subtractScaled.f]
  exact ss_l hu hv su hl g g0 g1 v.length 0 u 0 (by omega) rfl hu (by omega) (by omega) (fun _ _ => rfl) (by simp [V])

theorem ab_l {u v : List Int} (hu : U u) (hv : U v) (su : Small u) (hl : u.length = v.length + 1) : ∀ (n i : Nat) (o : List Int) (c : Int), i + n = v.length → o.length = u.length → U o → 0 ≤ c → c ≤ 1 → (∀ j, i ≤ j → o.getD j 0 = u.getD j 0) →
    V (o.take i) + 4294967296 ^ i * c = V (u.take i) + V (v.take i) →
    ∃ r, Ev (fun k => bignat_addBack.l0 k o c v v.length i) r ∧ r.length = u.length ∧ U r ∧ (V r = V u + V v ∨ V r = V u + V v - 4294967296 ^ u.length) := by
  unfold Small at su
  intro n
  induction n with
  | zero =>
    intro i o c hi ho uo c0 c1 hr h
    obtain rfl : i = v.length := by omega
    have eu := hr v.length (Nat.le_refl _)
    have du := U_getD hu v.length
    have e1 : ((o.length : Int) - 1) = (v.length : Int) := by omega
    have ec : c % 4294967296 = c := by omega
    have hp := pow_succ' v.length
    have hvo : ∀ y, V (o.set v.length y) = V (o.take v.length) + 4294967296 ^ v.length * y := fun y => by
      have := V_take_set (xs := o) (i := v.length) (by omega) y
      rwa [List.take_of_length_le (by rw [List.length_set]; omega)] at this
    have hvu : V u = V (u.take v.length) + 4294967296 ^ v.length * u.getD v.length 0 := by
      have := V_take_next u v.length
      rwa [List.take_of_length_le (by omega)] at this
    rw [List.take_of_length_le (Nat.le_refl _)] at h
    refine ⟨o.set v.length ((u.getD v.length 0 + c) % 4294967296), suc (now fun k => ?_), by rw [List.length_set]; exact ho, U_set uo _ (by omega) (by omega), ?_⟩
    · simp (disch := omega) only [bignat_addBack.l0, if_neg, if_pos, e1, w64, rd_nat, eu, u64w, ec, Int.toNat_natCast]
    · rw [hvo, hl, hp]
      by_cases hlt : u.getD v.length 0 + c < 4294967296
      · left
        rw [show (u.getD v.length 0 + c) % 4294967296 = u.getD v.length 0 + c by omega, Int.mul_add]
        omega
      · right
        rw [show (u.getD v.length 0 + c) % 4294967296 = u.getD v.length 0 + c - 4294967296 by omega, Int.mul_sub, Int.mul_add, Int.mul_comm _ 4294967296]
        omega
  | succ n ih =>
    intro i o c hi ho uo c0 c1 hr h
    have du := U_getD hu i
    have dv := U_getD hv i
    have eu := hr i (Nat.le_refl _)
    have hr' : ∀ y j, i + 1 ≤ j → (o.set i y).getD j 0 = u.getD j 0 := fun y j hj => by rw [getD_set (by omega), hr j (by omega)]
    obtain ⟨r, he, hx⟩ := ih (i + 1) (o.set i ((c + (u.getD i 0 + v.getD i 0)) % 4294967296)) ((c + (u.getD i 0 + v.getD i 0)) / 4294967296) (by omega) (by rw [List.length_set]; exact ho) (U_set uo i (by omega) (by omega)) (by omega) (by omega) (hr' _) (add_step (by omega) (by omega) h)
    refine ⟨r, suc ?_, hx⟩
    simp (disch := omega) only [bignat_addBack.l0, if_neg, if_pos, w64, rd_nat, eu, u64w, Int.toNat_natCast]
    exact he
theorem ab_ev {u v : List Int} (hu : U u) (hv : U v) (su : Small u) (hl : u.length = v.length + 1) :
    ∃ r, Ev (fun k => bignat_addBack.f k u v) r ∧ r.length = u.length ∧ U r ∧ (V r = V u + V v ∨ V r = V u + V v - 4294967296 ^ u.length) := by
  simp only [bignat_addBack.f]
  exact ab_l hu hv su hl v.length 0 u 0 (by omega) rfl hu (by omega) (by omega) (fun _ _ => rfl) (by simp [V])
end Go.Proofs.YtoeldfopjalpkaaDoor.Spec
set_option linter.unusedSimpArgs false
set_option linter.unusedVariables false
namespace Go.Proofs.YtoeldfopjalpkaaDoor.Spec
open Go.RowKit Go.Proofs.YtoeldfopjalpkaaDoorW.PrintWords Go.Proofs.YtoeldfopjalpkaaDoorW.PrintLast Go.Proofs.YtoeldfopjalpkaaDoorW.PrintMore Go.Proofs.YtoeldfopjalpkaaDoor.Q Go.Proofs.YtoeldfopjalpkaaDoor.Nums

theorem Ev.map' {α β : Type} {g : Nat → Option α} {a : α} (h : Ev g a) (f : α → β) : Ev (fun k => (g k).map f) (f a) := by
  obtain ⟨K, h⟩ := h
  exact ⟨K, fun k hk => by simp only [h k hk, Option.map_some]⟩
theorem V_drop_step {u : List Int} {i : Nat} (h : i < u.length) : V (u.drop i) = u.getD i 0 + 4294967296 * V (u.drop (i + 1)) := by
  rw [List.drop_eq_getElem_cons h, V_cons, List.getD_eq_getElem?_getD, List.getElem?_eq_getElem h]; rfl
theorem ediv_of {r d q : Int} (h0 : 0 ≤ r) (h1 : r < d) : (r + d * q) / d = q ∧ (r + d * q) % d = r := by
  constructor
  · rw [Int.add_mul_ediv_left _ _ (by omega), Int.ediv_eq_zero_of_lt h0 h1, Int.zero_add]
  · rw [Int.add_mul_emod_self_left, Int.emod_eq_of_lt h0 h1]
theorem quot_of {r d q x : Int} (e : x = r + d * q) (h0 : 0 ≤ r) (h1 : r < d) : x / d = q ∧ x % d = r := by rw [e]; exact ediv_of h0 h1
theorem mul_mono {a b c : Int} (h : a ≤ b) (hc : 0 ≤ c) : a * c ≤ b * c := Int.mul_le_mul_of_nonneg_right h hc

theorem guess_lo {W d T3 U3 P v' w' G : Int} (hW : W = U3 * P + w') (hd : d = T3 * P + v') (hv : 0 ≤ v') (hw : w' < P) (hP : 0 < P) (hG : 0 ≤ G) (h : U3 < G * T3) : W < G * d := by
  have h1 : (U3 + 1) * P ≤ G * T3 * P := mul_mono (by omega) (by omega)
  have h2 : 0 ≤ G * v' := Int.mul_nonneg hG hv
  rw [hd, Int.mul_add, ← Int.mul_assoc, hW]
  rw [Int.add_mul, Int.one_mul] at h1
  omega
theorem guess_hi {W d T3 U3 P v' w' G : Int} (hW : W = U3 * P + w') (hd : d = T3 * P + v') (hv0 : 0 ≤ v') (hv : v' < P) (hw : 0 ≤ w') (hP : 0 < P) (hT : 4294967296 ≤ T3) (hG : 0 ≤ G) (hG1 : G ≤ 4294967295) (h : G * T3 ≤ U3) : (G - 1) * d ≤ W := by
  have h1 : G * T3 * P ≤ U3 * P := mul_mono h (by omega)
  have h2 : G * v' ≤ 4294967295 * P := Int.mul_le_mul hG1 (by omega) hv0 (by omega)
  have h3 : 4294967296 * P ≤ T3 * P := mul_mono hT (by omega)
  rw [Int.sub_mul, Int.one_mul, hd, Int.mul_add, ← Int.mul_assoc, hW]
  omega
theorem quot_le {W d q : Int} (hd : 0 < d) (h : q * d ≤ W) : q ≤ W / d := Int.le_ediv_of_mul_le hd h
theorem quot_lt {W d q : Int} (hd : 0 < d) (h : W < q * d) : W / d < q := Int.ediv_lt_of_lt_mul hd h

section
variable {n s : Nat} {v : List Int} {top next d : Int}
/-- What the divisor is, and what the loops know of it. -/
structure Dv (n : Nat) (v : List Int) (top next d : Int) (v' : Int) : Prop where
  len : v.length = n
  two : 2 ≤ n
  small : n ≤ 1048576
  dig : U v
  val : V v = d
  parts : d = (top * 4294967296 + next) * 4294967296 ^ (n - 2) + v'
  v0 : 0 ≤ v'
  v1 : v' < 4294967296 ^ (n - 2)
  top0 : 2147483648 ≤ top
  top1 : top < 4294967296
  next0 : 0 ≤ next
  next1 : next < 4294967296
theorem Dv.pos {v' : Int} (h : Dv n v top next d v') : 0 < d := by
  have h1 := pow_pos (n - 2)
  have h2 : 1 * 4294967296 ^ (n - 2) ≤ (top * 4294967296 + next) * 4294967296 ^ (n - 2) := mul_mono (by have := h.top0; have := h.next0; omega) (by omega)
  have := h.v0
  have := h.parts
  omega
theorem Dv.lt {v' : Int} (h : Dv n v top next d v') : d < 4294967296 ^ n := by
  have := V_lt h.dig
  rwa [h.val, h.len] at this
/-- The part of the dividend that a round looks at. -/
structure Ud (n m j : Nat) (u : List Int) (d W a2 a1 a0 w' : Int) : Prop where
  len : u.length = m + 1
  le : j + n ≤ m
  small : m ≤ 1048576
  dig : U u
  val : V (u.drop j) = W
  up : V (u.drop (j + n + 1)) = 0
  lt : W < 4294967296 * d
  e2 : u.getD (j + n) 0 = a2
  e1 : u.getD (j + n - 1) 0 = a1
  e0 : u.getD (j + n - 2) 0 = a0
  parts : W = ((a2 * 4294967296 + a1) * 4294967296 + a0) * 4294967296 ^ (n - 2) + w'
  w0 : 0 ≤ w'
  w1 : w' < 4294967296 ^ (n - 2)
theorem Ud.of {m j : Nat} {u : List Int} {v' : Int} (hd : Dv n v top next d v') (hl : u.length = m + 1) (hj : j + n ≤ m) (hm : m ≤ 1048576) (hu : U u) (h : V (u.drop (j + 1)) < d) :
    Ud n m j u d (V (u.drop j)) (u.getD (j + n) 0) (u.getD (j + n - 1) 0) (u.getD (j + n - 2) 0) (V ((u.drop j).take (n - 2))) := by
  have h2 := hd.two
  have hup : V (u.drop (j + n + 1)) = 0 := by
    have e := V_split (u.drop (j + 1)) n (by rw [List.length_drop]; omega)
    rw [List.drop_drop] at e
    have h1 := V_nonneg (U_take (U_drop hu (j + 1)) n)
    have h3 := V_nonneg (U_drop hu (j + 1 + n))
    have h4 := hd.lt
    have hp := pow_pos n
    rw [show j + n + 1 = j + 1 + n by omega]
    by_cases h0 : V (u.drop (j + 1 + n)) = 0
    · exact h0
    · have : (4294967296 : Int) ^ n * 1 ≤ 4294967296 ^ n * V (u.drop (j + 1 + n)) := Int.mul_le_mul_of_nonneg_left (by omega) (by omega)
      omega
  have dj := U_getD hu j
  refine ⟨hl, hj, hm, hu, rfl, hup, ?_, rfl, rfl, rfl, ?_, V_nonneg (U_take (U_drop hu j) _), ?_⟩
  · rw [V_drop_step (by omega)]
    omega
  · rw [V_split (u.drop j) (n - 2) (by rw [List.length_drop]; omega), List.drop_drop, V_drop_step (show j + (n - 2) < u.length by omega), V_drop_step (show j + (n - 2) + 1 < u.length by omega), V_drop_step (show j + (n - 2) + 1 + 1 < u.length by omega)]
    rw [show j + (n - 2) + 1 + 1 + 1 = j + n + 1 by omega, hup, show j + (n - 2) + 1 + 1 = j + n by omega, show j + (n - 2) + 1 = j + n - 1 by omega, show j + (n - 2) = j + n - 2 by omega]
    rw [Int.mul_comm (4294967296 ^ (n - 2))]
    generalize (4294967296 : Int) ^ (n - 2) = P
    rw [show u.getD (j + n - 2) 0 + 4294967296 * (u.getD (j + n - 1) 0 + 4294967296 * (u.getD (j + n) 0 + 4294967296 * 0)) = (u.getD (j + n) 0 * 4294967296 + u.getD (j + n - 1) 0) * 4294967296 + u.getD (j + n - 2) 0 by omega]
    omega
  · have := V_lt (U_take (U_drop hu j) (n - 2))
    rwa [List.length_take, List.length_drop, Nat.min_eq_left (by omega)] at this

theorem fp_ev {u : List Int} {m j : Nat} {W a2 a1 a0 w' v' : Int} (hv : Dv n v top next d v') (hu : Ud n m j u d W a2 a1 a0 w') (g : Int) (g0 : 0 ≤ g) (g1 : g < 4294967296) :
    ∃ b r, Ev (fun k => bignat_subtractScaled.fp k u j ((j + n + 1 : Nat) : Int) v g) (b, u.take j ++ r ++ u.drop (j + n + 1)) ∧ r.length = n + 1 ∧ U r ∧ V r = W - g * d + (if b = true then 4294967296 ^ (n + 1) else 0) := by
  have hl : ((u.take (j + n + 1)).drop j).length = n + 1 := by rw [List.length_drop, List.length_take, hu.len]; have := hu.le; omega
  have hw : V ((u.take (j + n + 1)).drop j) = W := by
    rw [← hu.val, List.drop_take, show j + n + 1 - j = n + 1 by omega, V_split (u.drop j) (n + 1) (by rw [List.length_drop, hu.len]; have := hu.le; omega), List.drop_drop, ← Nat.add_assoc, hu.up, Int.mul_zero, Int.add_zero]
  obtain ⟨b, r, he, hr, ur, hv2⟩ := ss_ev (U_drop (U_take hu.dig (j + n + 1)) j) hv.dig (by unfold Small; rw [hl]; have := hv.small; omega) (by rw [hl, hv.len]) g g0 g1
  rw [hl, hw, hv.val] at hv2
  refine ⟨b, r, ?_, by rw [hr, hl], ur, hv2⟩
  unfold bignat_subtractScaled.fp
  simp only [Int.toNat_natCast]
  exact Ev.map' he _
theorem fb_ev {u r : List Int} {m j : Nat} {W a2 a1 a0 w' v' : Int} (hv : Dv n v top next d v') (hu : Ud n m j u d W a2 a1 a0 w') (hr : r.length = n + 1) (ur : U r) :
    ∃ t, Ev (fun k => bignat_addBack.fp k (u.take j ++ r ++ u.drop (j + n + 1)) j ((j + n + 1 : Nat) : Int) v) (u.take j ++ t ++ u.drop (j + n + 1)) ∧ t.length = n + 1 ∧ U t ∧ (V t = V r + d ∨ V t = V r + d - 4294967296 ^ (n + 1)) := by
  have hj : (u.take j).length = j := by rw [List.length_take, hu.len]; have := hu.le; omega
  have e1 : ((u.take j ++ r ++ u.drop (j + n + 1)).take (j + n + 1)).drop j = r := by
    rw [List.append_assoc, List.drop_take, List.drop_left' hj, show j + n + 1 - j = n + 1 by omega, List.take_left' hr]
  have e2 : (u.take j ++ r ++ u.drop (j + n + 1)).take j = u.take j := by rw [List.append_assoc, List.take_left' hj]
  have e3 : (u.take j ++ r ++ u.drop (j + n + 1)).drop (j + n + 1) = u.drop (j + n + 1) := List.drop_left' (by rw [List.length_append, hj, hr]; omega)
  obtain ⟨t, he, ht, ut, hv2⟩ := ab_ev ur hv.dig (by unfold Small; rw [hr]; have := hv.small; omega) (by rw [hr, hv.len])
  rw [hr, hv.val] at hv2
  refine ⟨t, ?_, by rw [ht, hr], ut, hv2⟩
  unfold bignat_addBack.fp
  simp only [Int.toNat_natCast, e1, e2, e3]
  exact Ev.map' he _

/-- A guess that is right or one too large: the round puts the digit and goes on with the rest. -/
theorem j3_ev {u q : List Int} {m j : Nat} {W a2 a1 a0 w' v' : Int} {R : List Int × List Int} (hv : Dv n v top next d v') (hu : Ud n m j u d W a2 a1 a0 w') (hq : q.length = m - n + 1) (G : Int) (hG0 : W / d ≤ G) (hG1 : G ≤ W / d + 1) (hG2 : G ≤ 4294967295)
    (go : ∀ t : List Int, t.length = n + 1 → U t → V t = W % d → Ev (fun k => bignat_divLong.l0 k n s (u.take j ++ t ++ u.drop (j + n + 1)) v (q.set j (W / d)) top next ((j : Int) - 1)) R) :
    Ev (fun k => bignat_divLong.j3 k n s u v q top next j G) R := by
  have hd := hv.pos
  have hW0 : 0 ≤ W := by rw [← hu.val]; exact V_nonneg (U_drop hu.dig j)
  have hq0 : 0 ≤ W / d := Int.ediv_nonneg hW0 (by omega)
  have hle := hu.le
  have hsm := hu.small
  have hl := hu.len
  have hdm := Int.emod_add_mul_ediv W d
  have hm0 := Int.emod_nonneg W (show d ≠ 0 by omega)
  have hm1 := Int.emod_lt_of_pos W hd
  have hlt := hv.lt
  have hpn := pow_succ' n
  have hpp := pow_pos n
  obtain ⟨b, r, he, hr, ur, hvr⟩ := fp_ev hv hu G (by omega) (by omega)
  have hrn := V_lt ur
  have hr0 := V_nonneg ur
  rw [hr] at hrn
  have es : ((j : Int) + (n : Int)) = ((j + n : Nat) : Int) := by omega
  have es2 : (((j + n : Nat) : Int) + 1) = ((j + n + 1 : Nat) : Int) := by omega
  refine suc ?_
  simp (disch := omega) only [bignat_divLong.j3, if_pos, w64, es, es2]
  refine Ev.bind he ?_
  by_cases hc : G = W / d
  · have hGd : G * d = d * (W / d) := by rw [hc, Int.mul_comm]
    have hb : b = false := by
      cases b with
      | false => rfl
      | true =>
        rw [if_pos rfl] at hvr
        omega
    subst hb
    rw [if_neg (by decide)] at hvr
    have hg := go r hr ur (by omega)
    rw [← hc] at hg
    have eG : G % 4294967296 = G := by omega
    simp (disch := omega) only [Bool.false_eq_true, if_false, if_pos, Int.toNat_natCast, w64, eG]
    exact hg
  · have hc' : G = W / d + 1 := by omega
    have hGd : G * d = d * (W / d) + d := by rw [hc', Int.add_mul, Int.one_mul, Int.mul_comm]
    have hb : b = true := by
      cases b with
      | true => rfl
      | false =>
        rw [if_neg (by decide)] at hvr
        omega
    subst hb
    rw [if_pos rfl] at hvr
    obtain ⟨t, hf, ht, ut, hvt⟩ := fb_ev hv hu hr ur
    have ht0 := V_nonneg ut
    have ht1 := V_lt ut
    rw [ht] at ht1
    have hg := go t ht ut (by omega)
    have eG : IntKind.u64.wrap (G - 1) % 4294967296 = W / d := by rw [IntKind.wrap_u64]; omega
    simp only [if_true]
    refine Ev.bind hf ?_
    simp (disch := omega) only [if_pos, Int.toNat_natCast, w64, eG]
    exact hg
/-- The guess is lowered until it is right or one too large. -/
theorem l1_ev {u q : List Int} {m j : Nat} {W a2 a1 a0 w' v' : Int} {R : List Int × List Int} (hv : Dv n v top next d v') (hu : Ud n m j u d W a2 a1 a0 w')
    (go : ∀ G : Int, W / d ≤ G → G ≤ W / d + 1 → G ≤ 4294967295 → Ev (fun k => bignat_divLong.j3 k n s u v q top next j G) R) :
    ∀ (N : Nat) (G rest : Int), G.toNat ≤ N → W / d ≤ G → G ≤ 4294967297 → 0 ≤ rest → rest < 4294967296 → G * top + rest = a2 * 4294967296 + a1 → Ev (fun k => bignat_divLong.l1 k n s u v q top next j G rest) R := by
  have hd := hv.pos
  have hW0 : 0 ≤ W := by rw [← hu.val]; exact V_nonneg (U_drop hu.dig j)
  have hq0 : 0 ≤ W / d := Int.ediv_nonneg hW0 (by omega)
  have hle := hu.le
  have hsm := hu.small
  have hl := hu.len
  have h2n := hv.two
  have hPp := pow_pos (n - 2)
  have htop0 := hv.top0
  have htop1 := hv.top1
  have hn0 := hv.next0
  have hn1 := hv.next1
  have da := U_getD hu.dig (j + n - 2)
  rw [hu.e0] at da
  have hT : 4294967296 ≤ top * 4294967296 + next := by omega
  -- the first digits of the dividend are at most those of the divisor
  have htwo : a2 * 4294967296 + a1 ≤ top * 4294967296 + 4294967295 := by
    have h1 := hu.lt
    rw [hu.parts, hv.parts] at h1
    have h3 := hu.w0
    have h4 := hv.v1
    have hP : 0 < (4294967296 : Int) ^ (n - 2) := hPp
    generalize (4294967296 : Int) ^ (n - 2) = P at *
    by_cases hc : a2 * 4294967296 + a1 ≤ top * 4294967296 + 4294967295
    · exact hc
    · exfalso
      have h5 : (top + 1) * 4294967296 * 4294967296 * P ≤ ((a2 * 4294967296 + a1) * 4294967296 + a0) * P := mul_mono (by omega) (by omega)
      have h6 : (top * 4294967296 + next + 1) * P ≤ (top + 1) * 4294967296 * P := mul_mono (by omega) (by omega)
      have h7 : (top + 1) * 4294967296 * 4294967296 * P = 4294967296 * ((top + 1) * 4294967296 * P) := by
        rw [Int.mul_assoc, Int.mul_assoc, Int.mul_assoc, Int.mul_left_comm 4294967296, Int.mul_left_comm 4294967296 (top + 1)]
      rw [Int.add_mul, Int.one_mul] at h6
      omega
  have hq1 : W / d < 4294967296 := quot_lt hd hu.lt
  -- a guess that is refused is too large
  have down : ∀ G rest : Int, 0 ≤ G → 0 ≤ rest → G * top + rest = a2 * 4294967296 + a1 → (4294967296 ≤ G ∨ rest * 4294967296 + a0 < G * next) → W / d < G := by
    intro G rest g0 r0 e h
    rcases h with h | h
    · omega
    · refine quot_lt hd (guess_lo hu.parts hv.parts hv.v0 hu.w1 hPp g0 ?_)
      rw [Int.mul_add, ← Int.mul_assoc, ← e, Int.add_mul]
      omega
  have fine : ∀ G rest : Int, 0 ≤ G → G ≤ 4294967295 → 0 ≤ rest → G * top + rest = a2 * 4294967296 + a1 → G * next ≤ rest * 4294967296 + a0 → G ≤ W / d + 1 := by
    intro G rest g0 g1 r0 e h
    have := quot_le hd (guess_hi hu.parts hv.parts hv.v0 hv.v1 hu.w0 hPp hT g0 g1 (by
      rw [Int.mul_add, ← Int.mul_assoc, ← e, Int.add_mul]
      omega))
    omega
  have es : ((j : Int) + (n : Int)) = ((j + n : Nat) : Int) := by omega
  have es2 : (((j + n : Nat) : Int) - 2) = ((j + n - 2 : Nat) : Int) := by omega
  have rn : rd u ((j + n - 2 : Nat) : Int) = a0 := hu.e0
  intro N
  induction N with
  | zero =>
    intro G rest hN hG0 hG1 r0 r1 e
    obtain rfl : G = 0 := by omega
    refine suc (suc ?_)
    have h0 : ¬ (IntKind.u64.wrap (0 * next) > Go.bits .or .u64 (IntKind.u64.wrap (rest * 4294967296)) (IntKind.u64.wrap a0)) := by
      rw [u64w (n := rest * 4294967296) (by omega) (by omega), u64w (n := a0) (by omega) (by omega), or_hi r0 r1 da.1 da.2, Int.zero_mul, u64w (n := 0) (by omega) (by omega)]
      omega
    simp (disch := omega) only [bignat_divLong.l1, if_pos, w64, es, es2, rn, decide_eq_false h0, bignat_divLong.j2]
    simp only [Bool.false_eq_true, if_false]
    exact go 0 hG0 (by omega) (by omega)
  | succ N ih =>
    intro G rest hN hG0 hG1 r0 r1 e
    have stop : ∀ b : Bool, b = true → (4294967296 ≤ G ∨ rest * 4294967296 + a0 < G * next) → Ev (fun k => bignat_divLong.j2 k n s u v q top next j G rest b) R := by
      intro b hb hbig
      subst hb
      have hlt := down G rest (by omega) r0 e hbig
      have e1 : (G - 1) * top + (rest + top) = a2 * 4294967296 + a1 := by rw [Int.sub_mul, Int.one_mul]; omega
      refine suc ?_
      simp (disch := omega) only [bignat_divLong.j2, u64w]
      simp only [if_true]
      by_cases hr : rest + top < 4294967296
      · rw [show (fun k => if (rest + top) / 4294967296 = 0 then bignat_divLong.l1 k n s u v q top next j (G - 1) (rest + top) else bignat_divLong.j3 k n s u v q top next j (G - 1)) = fun k => bignat_divLong.l1 k n s u v q top next j (G - 1) (rest + top) from by funext k; rw [if_pos (by omega)]]
        exact ih (G - 1) (rest + top) (by omega) (by omega) (by omega) (by omega) (by omega) e1
      · rw [show (fun k => if (rest + top) / 4294967296 = 0 then bignat_divLong.l1 k n s u v q top next j (G - 1) (rest + top) else bignat_divLong.j3 k n s u v q top next j (G - 1)) = fun k => bignat_divLong.j3 k n s u v q top next j (G - 1) from by funext k; rw [if_neg (by omega)]]
        have hGs : G - 1 ≤ 4294967295 := by
          by_cases hc : G - 1 ≤ 4294967295
          · exact hc
          · exfalso
            have : 4294967296 * top ≤ (G - 1) * top := mul_mono (by omega) (by omega)
            omega
        have hmn : (G - 1) * next ≤ 4294967295 * 4294967295 := Int.mul_le_mul hGs (by omega) hn0 (by omega)
        exact go (G - 1) (by omega) (fine (G - 1) (rest + top) (by omega) hGs (by omega) e1 (by omega)) hGs
    refine suc ?_
    by_cases hb : 4294967296 ≤ G
    · simp (disch := omega) only [bignat_divLong.l1, if_neg]
      exact stop true rfl (.inl hb)
    · have hmn : 0 ≤ G * next ∧ G * next ≤ 18446744065119617025 := mul_bound (by omega) (by omega) hn0 hn1
      have ev : (IntKind.u64.wrap (G * next) > Go.bits .or .u64 (IntKind.u64.wrap (rest * 4294967296)) (IntKind.u64.wrap a0)) = (rest * 4294967296 + a0 < G * next) := by
        rw [u64w (n := rest * 4294967296) (by omega) (by omega), u64w (n := a0) (by omega) (by omega), or_hi r0 r1 da.1 da.2, u64w hmn.1 (by omega)]
      simp (disch := omega) only [bignat_divLong.l1, if_pos, w64, es, es2, rn, ev]
      by_cases ht : rest * 4294967296 + a0 < G * next
      · exact stop _ (decide_eq_true ht) (.inr ht)
      · refine suc ?_
        simp only [bignat_divLong.j2, decide_eq_false ht, Bool.false_eq_true, if_false]
        exact go G hG0 (fine G rest (by omega) (by omega) r0 e (by omega)) (by omega)
end
end Go.Proofs.YtoeldfopjalpkaaDoor.Spec
set_option linter.unusedSimpArgs false
set_option linter.unusedVariables false
namespace Go.Proofs.YtoeldfopjalpkaaDoor.Spec
open Go.RowKit Go.Proofs.YtoeldfopjalpkaaDoorW.PrintWords Go.Proofs.YtoeldfopjalpkaaDoorW.PrintLast Go.Proofs.YtoeldfopjalpkaaDoorW.PrintMore Go.Proofs.YtoeldfopjalpkaaDoor.Q Go.Proofs.YtoeldfopjalpkaaDoor.Nums

theorem pq32 {s : Nat} (hs : s ≤ 31) : (2 : Int) ^ s * 2 ^ (32 - s) = 4294967296 := by
  rw [← Int.pow_add, show s + (32 - s) = 32 by omega]
  decide
/-- A digit of a shift to the right, times the power. -/
theorem shr_digit {a b : Int} {s : Nat} (hs : s ≤ 31) (a0 : 0 ≤ a) (b0 : 0 ≤ b) (b1 : b < 4294967296) : (a * 4294967296 + b) / 2 ^ s % 4294967296 * 2 ^ s = b - b % 2 ^ s + 4294967296 * (a % 2 ^ s) := by
  have hpq := pq32 hs
  have hp := two_pos s
  have hq := two_pos (32 - s)
  generalize (2 : Int) ^ s = p at *
  generalize (2 : Int) ^ (32 - s) = q at *
  have e1 : (a * 4294967296 + b) / p = b / p + a * q := by
    rw [← hpq, Int.add_comm, show a * (p * q) = p * (a * q) by rw [Int.mul_left_comm], Int.add_mul_ediv_left _ _ (by omega)]
  have hb : b / p < q := Int.ediv_lt_of_lt_mul hp (by rw [Int.mul_comm, hpq]; exact b1)
  have hb0 : 0 ≤ b / p := Int.ediv_nonneg b0 (by omega)
  have ha := Int.emod_add_mul_ediv a p
  have h0 := Int.emod_nonneg a (show p ≠ 0 by omega)
  have h1 := Int.emod_lt_of_pos a hp
  have e2 : a * q = a % p * q + 4294967296 * (a / p) := by
    conv => lhs; rw [← ha]
    rw [Int.add_mul, Int.mul_comm p, Int.mul_assoc, hpq, Int.mul_comm 4294967296]
  have hle : a % p * q ≤ (p - 1) * q := mul_mono (by omega) (by omega)
  rw [Int.sub_mul, Int.one_mul, hpq] at hle
  have hnn : 0 ≤ a % p * q := Int.mul_nonneg h0 (by omega)
  have e3 : (b / p + a * q) % 4294967296 = b / p + a % p * q := by omega
  have hbm := Int.emod_add_mul_ediv b p
  rw [e1, e3, Int.add_mul, Int.mul_assoc (a % p), Int.mul_comm q p, hpq, Int.mul_comm (b / p)]
  omega
theorem shr_step {u r : List Int} {i s : Nat} {y : Int} (hi : i < r.length) (hy : y * 2 ^ s = u.getD i 0 - u.getD i 0 % 2 ^ s + 4294967296 * (u.getD (i + 1) 0 % 2 ^ s)) (h : V (r.take i) * 2 ^ s + u.getD 0 0 % 2 ^ s = V (u.take i) + 4294967296 ^ i * (u.getD i 0 % 2 ^ s)) :
    V ((r.set i y).take (i + 1)) * 2 ^ s + u.getD 0 0 % 2 ^ s = V (u.take (i + 1)) + 4294967296 ^ (i + 1) * (u.getD (i + 1) 0 % 2 ^ s) := by
  rw [V_take_set hi, V_take_next u, pow_succ', Int.add_mul, Int.mul_assoc (4294967296 ^ i), hy, Int.mul_add, Int.mul_sub, ← Int.mul_assoc, Int.mul_comm (4294967296 ^ i) 4294967296]
  omega
theorem l2_ev {u q : List Int} {s : Nat} (hs : s ≤ 31) (hu : U u) (hq : U q) (sq : Big q) (n : Nat) (hn : n < u.length) (hn2 : n ≤ 1099511627776) (X : Int) (hx : X * 2 ^ s = V u) (hup : V (u.drop n) = 0) :
    ∀ (N i : Nat) (r : List Int), i + N = n → r.length = n → U r → V (r.take i) * 2 ^ s + u.getD 0 0 % 2 ^ s = V (u.take i) + 4294967296 ^ i * (u.getD i 0 % 2 ^ s) →
      Ev (fun k => bignat_divLong.l2 k s u q r n i) (D (V q), D X) := by
  have hp := two_pos s
  intro N
  induction N with
  | zero =>
    intro i r hi hr ur h
    obtain rfl : i = n := by omega
    have du := U_getD hu i
    have hun : u.getD i 0 = 0 := by
      have h1 := V_drop_step hn
      have h2 := V_nonneg (U_drop hu (i + 1))
      omega
    have hvu : V (u.take i) = V u := by
      rw [V_split u i (by omega), hup, Int.mul_zero, Int.add_zero]
    rw [List.take_of_length_le (by omega), hun, hvu, ← hx, Int.zero_emod, Int.mul_zero, Int.add_zero] at h
    have hm0 := Int.emod_nonneg (u.getD 0 0) (show (2 : Int) ^ s ≠ 0 by omega)
    have hm1 := Int.emod_lt_of_pos (u.getD 0 0) hp
    have hvr : V r = X := by
      have := quot_of (x := X * 2 ^ s) (r := u.getD 0 0 % 2 ^ s) (d := 2 ^ s) (q := V r) (by rw [Int.mul_comm (2 ^ s)]; omega) hm0 hm1
      rw [Int.mul_ediv_cancel _ (by omega)] at this
      exact this.1.symm
    refine suc ?_
    simp (disch := omega) only [bignat_divLong.l2, if_neg]
    rw [← hvr]
    exact Ev.bind (trim_ev hq sq) (Ev.bind (trim_ev ur (by unfold Big; omega)) (now fun _ => rfl))
  | succ N ih =>
    intro i r hi hr ur h
    have d0 := U_getD hu i
    have d1 := U_getD hu (i + 1)
    have e1 : ((i : Int) + 1) = ((i + 1 : Nat) : Int) := by omega
    have eo := or_hi (x := u.getD (i + 1) 0) (y := u.getD i 0) d1.1 d1.2 d0.1 d0.2
    have es : shr .u64 (u.getD (i + 1) 0 * 4294967296 + u.getD i 0) (s : Int) = (u.getD (i + 1) 0 * 4294967296 + u.getD i 0) / 2 ^ s := by
      unfold shr
      rw [show min (s : Int).toNat IntKind.u64.bits = s by simp [IntKind.bits]; omega]
    refine suc ?_
    simp (disch := omega) only [bignat_divLong.l2, if_pos, w64, e1, rd_nat, u64w, eo, es, Int.toNat_natCast]
    refine ih (i + 1) _ (by omega) (by rw [List.length_set]; exact hr) (U_set ur i (by omega) (by omega)) ?_
    exact shr_step (by omega) (shr_digit hs d1.1 d0.1 d0.2) h
theorem mod_mod_zero {T d p : Int} (hT : T % p = 0) (hd : d % p = 0) : (T % d) % p = 0 := by
  rw [Int.emod_def T d, Int.sub_emod, hT, Int.mul_emod, hd, Int.zero_mul, Int.zero_emod, Int.sub_zero, Int.zero_emod]
theorem l0_ev {n s m : Nat} {v : List Int} {top next d v' : Int} (hv : Dv n v top next d v') (hs : s ≤ 31) (hm : m ≤ 1048576) (hnm : n ≤ m) (hd2 : d % 2 ^ s = 0) (T : Int) (hT : T % 2 ^ s = 0) :
    ∀ (J : Nat) (u q : List Int), J + n ≤ m + 1 → u.length = m + 1 → U u → q.length = m - n + 1 → U q → V (u.drop J) < d → T = V u + d * (4294967296 ^ J * V (q.drop J)) →
      Ev (fun k => bignat_divLong.l0 k n s u v q top next ((J : Int) - 1)) (D (T / d), D (T % d / 2 ^ s)) := by
  have hd := hv.pos
  have hn1 := hv.small
  have hp := two_pos s
  intro J
  induction J with
  | zero =>
    intro u q hJ hl hu hq uq hlt hTe
    rw [List.drop_zero] at hlt hTe
    rw [Int.pow_zero, Int.one_mul] at hTe
    have h0 := V_nonneg hu
    obtain ⟨hq1, hq2⟩ := quot_of hTe h0 hlt
    have hz := mod_mod_zero hT hd2
    rw [hq2] at hz
    have hx : V u / 2 ^ s * 2 ^ s = V u := Int.ediv_mul_cancel (Int.dvd_of_emod_eq_zero hz)
    have hup : V (u.drop n) = 0 := by
      have e := V_split u n (by omega)
      have h1 := V_nonneg (U_take hu n)
      have h3 := V_nonneg (U_drop hu n)
      have h4 := hv.lt
      have hpn := pow_pos n
      by_cases h0 : V (u.drop n) = 0
      · exact h0
      · have : (4294967296 : Int) ^ n * 1 ≤ 4294967296 ^ n * V (u.drop n) := Int.mul_le_mul_of_nonneg_left (by omega) (by omega)
        omega
    rw [hq1, hq2]
    refine suc ?_
    simp (disch := omega) only [bignat_divLong.l0, if_neg, if_pos, Option.bind_some, Int.toNat_natCast, List.length_replicate]
    exact l2_ev hs hu uq (by unfold Big; omega) n (by omega) (by omega) (V u / 2 ^ s) hx hup n 0 (List.replicate n 0) (by omega) (by simp) (U_replicate _) (by simp [V])
  | succ J ih =>
    intro u q hJ hl hu hq uq hlt hTe
    have ud := Ud.of (u := u) (j := J) hv hl (by omega) hm hu hlt
    generalize hW : V (u.drop J) = W at ud
    generalize ha2 : u.getD (J + n) 0 = a2 at ud
    generalize ha1 : u.getD (J + n - 1) 0 = a1 at ud
    generalize ha0 : u.getD (J + n - 2) 0 = a0 at ud
    generalize V ((u.drop J).take (n - 2)) = w' at ud
    have d2 := U_getD hu (J + n)
    have d1 := U_getD hu (J + n - 1)
    rw [ha2] at d2
    rw [ha1] at d1
    have ht0 := hv.top0
    have ht1 := hv.top1
    have h2n := hv.two
    have hW0 : 0 ≤ W := by rw [← hW]; exact V_nonneg (U_drop hu J)
    have e1 : (((J + 1 : Nat) : Int) - 1) = (J : Int) := by omega
    have es : ((J : Int) + (n : Int)) = ((J + n : Nat) : Int) := by omega
    have es1 : (((J + n : Nat) : Int) - 1) = ((J + n - 1 : Nat) : Int) := by omega
    have r2 : rd u ((J + n : Nat) : Int) = a2 := ha2
    have r1 : rd u ((J + n - 1 : Nat) : Int) = a1 := ha1
    have eo := or_hi d2.1 d2.2 d1.1 d1.2
    have etd : ∀ x : Int, 0 ≤ x → Int.tdiv x top = x / top := fun x hx => Int.tdiv_eq_ediv_of_nonneg hx
    have etm : ∀ x : Int, 0 ≤ x → Int.tmod x top = x % top := fun x hx => Int.tmod_eq_emod_of_nonneg hx
    have hdm := Int.emod_add_mul_ediv (a2 * 4294967296 + a1) top
    have hm0 := Int.emod_nonneg (a2 * 4294967296 + a1) (show top ≠ 0 by omega)
    have hm1 := Int.emod_lt_of_pos (a2 * 4294967296 + a1) (show 0 < top by omega)
    have hg0 : 0 ≤ (a2 * 4294967296 + a1) / top := Int.ediv_nonneg (by omega) (by omega)
    have hPp := pow_pos (n - 2)
    -- the first guess
    have hup : W / d ≤ (a2 * 4294967296 + a1) / top := by
      have : W / d < (a2 * 4294967296 + a1) / top + 1 := by
        refine quot_lt hd ?_
        have h1 : ((a2 * 4294967296 + a1) * 4294967296 + a0 + 1) ≤ ((a2 * 4294967296 + a1) / top + 1) * (top * 4294967296 + next) := by
          have a0d := U_getD hu (J + n - 2)
          rw [ha0] at a0d
          have h3 : 0 ≤ ((a2 * 4294967296 + a1) / top + 1) * next := Int.mul_nonneg (by omega) hv.next0
          have h4 : a2 * 4294967296 + a1 + 1 ≤ ((a2 * 4294967296 + a1) / top + 1) * top := by
            rw [Int.add_mul, Int.one_mul, Int.mul_comm _ top]
            omega
          rw [Int.mul_add, ← Int.mul_assoc]
          omega
        refine guess_lo ud.parts hv.parts hv.v0 ud.w1 hPp (by omega) (by omega)
      omega
    have hgm : (a2 * 4294967296 + a1) / top ≤ 4294967297 := by
      have htwo : a2 * 4294967296 + a1 < (top + 1) * 4294967296 := by
        have h1 := ud.lt
        rw [ud.parts, hv.parts] at h1
        have h3 := ud.w0
        have h4 := hv.v1
        have hn1 := hv.next1
        have a0d := U_getD hu (J + n - 2)
        rw [ha0] at a0d
        generalize (4294967296 : Int) ^ (n - 2) = P at *
        by_cases hc : a2 * 4294967296 + a1 < (top + 1) * 4294967296
        · exact hc
        · exfalso
          have h5 : (top + 1) * 4294967296 * 4294967296 * P ≤ ((a2 * 4294967296 + a1) * 4294967296 + a0) * P := mul_mono (by omega) (by omega)
          have h6 : (top * 4294967296 + next + 1) * P ≤ (top + 1) * 4294967296 * P := mul_mono (by omega) (by omega)
          have h7 : (top + 1) * 4294967296 * 4294967296 * P = 4294967296 * ((top + 1) * 4294967296 * P) := by
            rw [Int.mul_assoc, Int.mul_assoc, Int.mul_assoc, Int.mul_left_comm 4294967296, Int.mul_left_comm 4294967296 (top + 1)]
          rw [Int.add_mul, Int.one_mul] at h6
          omega
      have : (a2 * 4294967296 + a1) / top < 4294967298 := Int.ediv_lt_of_lt_mul (by omega) (by omega)
      omega
    rw [e1]
    refine suc ?_
    simp (disch := omega) only [bignat_divLong.l0, if_neg, if_pos, w64, es, es1, r2, r1, u64w, eo, etd, etm]
    refine l1_ev hv ud (fun G g1 g2 g3 => j3_ev hv ud hq G g1 g2 g3 fun t ht ut hvt => ?_) _ _ _ (Nat.le_refl _) hup hgm hm0 (by omega) (by rw [Int.mul_comm]; omega)
    have hj : (u.take J).length = J := by rw [List.length_take]; omega
    have hu' : U (u.take J ++ t ++ u.drop (J + n + 1)) := U_append.2 ⟨U_append.2 ⟨U_take hu J, ut⟩, U_drop hu _⟩
    have hdr : (u.take J ++ t ++ u.drop (J + n + 1)).drop J = t ++ u.drop (J + n + 1) := by rw [List.append_assoc, List.drop_left' hj]
    have hvd : V (t ++ u.drop (J + n + 1)) = W % d := by rw [V_append, ud.up, Int.mul_zero, Int.add_zero, hvt]
    have hqn : 0 ≤ W / d := Int.ediv_nonneg hW0 (by omega)
    have hqb : W / d < 4294967296 := quot_lt hd ud.lt
    refine ih _ _ (by omega) ?_ hu' (by rw [List.length_set]; exact hq) (U_set uq J hqn hqb) ?_ ?_
    · rw [List.length_append, List.length_append, hj, ht, List.length_drop, hl]; omega
    · rw [hdr, hvd]
      exact Int.emod_lt_of_pos W hd
    · have e2 : V (u.take J ++ t ++ u.drop (J + n + 1)) = V (u.take J) + 4294967296 ^ J * (W % d) := by
        rw [List.append_assoc, V_append, hj, hvd]
      have e3 : V u = V (u.take J) + 4294967296 ^ J * W := by rw [V_split u J (by omega), hW]
      have e4 : V ((q.set J (W / d)).drop J) = W / d + 4294967296 * V (q.drop (J + 1)) := by
        rw [V_drop_step (by rw [List.length_set]; omega), getD_set_self (by omega), List.drop_set_of_lt (by omega)]
      have hWd := Int.emod_add_mul_ediv W d
      rw [hTe, e2, e3, e4, pow_succ']
      generalize (4294967296 : Int) ^ J = P
      generalize V (q.drop (J + 1)) = Z
      have f1 : P * W = P * (W % d) + d * (P * (W / d)) := by
        conv => lhs; rw [← hWd]
        rw [Int.mul_add, Int.mul_left_comm]
      have f2 : d * (P * (W / d + 4294967296 * Z)) = d * (P * (W / d)) + d * (4294967296 * P * Z) := by
        rw [Int.mul_add, Int.mul_add, ← Int.mul_assoc P 4294967296, Int.mul_comm P 4294967296]
      omega
end Go.Proofs.YtoeldfopjalpkaaDoor.Spec
