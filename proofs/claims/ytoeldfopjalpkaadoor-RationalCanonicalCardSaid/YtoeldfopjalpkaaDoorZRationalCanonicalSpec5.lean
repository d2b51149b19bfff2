/- Lemmas for the proof of one law of this seat (Spec5). -/
import Derived.Test.YtoeldfopjalpkaaDoorZRationalCanonicalSpec3
set_option linter.unusedSimpArgs false
set_option linter.unusedVariables false
namespace Go.Proofs.YtoeldfopjalpkaaDoor.Spec
open Go.RowKit Go.Proofs.YtoeldfopjalpkaaDoorW.PrintWords Go.Proofs.YtoeldfopjalpkaaDoorW.PrintLast Go.Proofs.YtoeldfopjalpkaaDoorW.PrintMore Go.Proofs.YtoeldfopjalpkaaDoor.Q Go.Proofs.YtoeldfopjalpkaaDoor.Nums

theorem wraps_u64 (n : Int) (h0 : 0 ≤ n) (h1 : n < 2 ^ 64) : IntKind.u64.wrap n = n := by rw [IntKind.wrap_u64]; omega
theorem wraps_u32 (n : Int) (h0 : 0 ≤ n) (h1 : n < 2 ^ 32) : IntKind.u32.wrap n = n := by rw [IntKind.wrap_u32]; omega
theorem or64 {x y : Int} (i : Nat) (hx0 : 0 ≤ x) (hx : x % 2 ^ i = 0) (hx1 : x < 18446744073709551616) (hy0 : 0 ≤ y) (hy : y < 2 ^ i) (hy1 : y < 18446744073709551616) : Go.bits .or .u64 x y = x + y :=
  bits_join .u64 64 (by decide) wraps_u64 i x y hx0 hx (by omega) hy0 hy (by omega)
theorem or_comm64 {x y : Int} (hx0 : 0 ≤ x) (hx1 : x < 18446744073709551616) (hy0 : 0 ≤ y) (hy1 : y < 18446744073709551616) : Go.bits .or .u64 x y = Go.bits .or .u64 y x := by
  obtain ⟨a, rfl⟩ := Int.eq_ofNat_of_zero_le hx0
  obtain ⟨b, rfl⟩ := Int.eq_ofNat_of_zero_le hy0
  rw [(bits_nat .u64 64 (by decide) wraps_u64 a b (by omega) (by omega)).2, (bits_nat .u64 64 (by decide) wraps_u64 b a (by omega) (by omega)).2, Nat.or_comm]
theorem or_hi {x y : Int} (hx0 : 0 ≤ x) (hx1 : x < 4294967296) (hy0 : 0 ≤ y) (hy1 : y < 4294967296) : Go.bits .or .u64 (x * 4294967296) y = x * 4294967296 + y :=
  or64 32 (by omega) (by omega) (by omega) hy0 (by omega) (by omega)

/-- The number of binary digits. -/
def bl (n : Int) : Nat := if h : 0 < n then bl (n / 2) + 1 else 0
termination_by n.toNat
decreasing_by omega
theorem bl_pos {n : Int} (h : 0 < n) : bl n = bl (n / 2) + 1 := by rw [bl]; simp [h]
theorem bl_zero {n : Int} (h : ¬ 0 < n) : bl n = 0 := by rw [bl]; simp [h]
theorem two_succ (k : Nat) : (2 : Int) ^ (k + 1) = 2 * 2 ^ k := by rw [Int.pow_succ]; exact Int.mul_comm _ _
theorem two_pos (k : Nat) : (0 : Int) < 2 ^ k := Int.pow_pos (by omega)
theorem bl_lt (n : Int) : n < 2 ^ bl n := by
  by_cases h : 0 < n
  · rw [bl_pos h, two_succ]
    have := bl_lt (n / 2)
    omega
  · have := two_pos (bl n)
    omega
termination_by n.toNat
decreasing_by omega
theorem bl_ge {n : Int} (h : 0 < n) : 2 ^ (bl n - 1) ≤ n := by
  rw [bl_pos h, Nat.add_sub_cancel]
  by_cases h2 : 0 < n / 2
  · have := bl_ge h2
    have e := bl_pos h2
    have : (2 : Int) ^ bl (n / 2) = 2 * 2 ^ (bl (n / 2) - 1) := by rw [← two_succ]; congr 1; omega
    omega
  · rw [bl_zero h2]
    omega
termination_by n.toNat
decreasing_by omega
theorem bl8 {n : Int} (h : 256 ≤ n) : bl n = bl (n / 256) + 8 := by
  rw [bl_pos (by omega), bl_pos (n := n / 2) (by omega), bl_pos (n := n / 2 / 2) (by omega), bl_pos (n := n / 2 / 2 / 2) (by omega), bl_pos (n := n / 2 / 2 / 2 / 2) (by omega), bl_pos (n := n / 2 / 2 / 2 / 2 / 2) (by omega), bl_pos (n := n / 2 / 2 / 2 / 2 / 2 / 2) (by omega), bl_pos (n := n / 2 / 2 / 2 / 2 / 2 / 2 / 2) (by omega)]
  rw [show n / 2 / 2 / 2 / 2 / 2 / 2 / 2 / 2 = n / 256 by omega]
theorem bl16 {n : Int} (h : 65536 ≤ n) : bl n = bl (n / 65536) + 16 := by
  rw [bl8 (by omega), bl8 (n := n / 256) (by omega), show n / 256 / 256 = n / 65536 by omega]
theorem bl_le {n : Int} {k : Nat} (h : n < 2 ^ k) : bl n ≤ k := by
  induction k generalizing n with
  | zero => rw [bl_zero (by simp at h; omega)]; omega
  | succ k ih =>
    by_cases h0 : 0 < n
    · rw [bl_pos h0]
      have := ih (n := n / 2) (by rw [two_succ] at h; omega)
      omega
    · rw [bl_zero h0]; omega
/-- The table of lengths of bytes. -/
def lenTab : ByteArray := ⟨#[0, 1, 2, 2, 3, 3, 3, 3, 4, 4, 4, 4, 4, 4, 4, 4, 5, 5, 5, 5, 5, 5, 5, 5, 5, 5, 5, 5, 5, 5, 5, 5, 6, 6, 6, 6, 6, 6, 6, 6, 6, 6, 6, 6, 6, 6, 6, 6, 6, 6, 6, 6, 6, 6, 6, 6, 6, 6, 6, 6, 6, 6, 6, 6, 7, 7, 7, 7, 7, 7, 7, 7, 7, 7, 7, 7, 7, 7, 7, 7, 7, 7, 7, 7, 7, 7, 7, 7, 7, 7, 7, 7, 7, 7, 7, 7, 7, 7, 7, 7, 7, 7, 7, 7, 7, 7, 7, 7, 7, 7, 7, 7, 7, 7, 7, 7, 7, 7, 7, 7, 7, 7, 7, 7, 7, 7, 7, 7, 8, 8, 8, 8, 8, 8, 8, 8, 8, 8, 8, 8, 8, 8, 8, 8, 8, 8, 8, 8, 8, 8, 8, 8, 8, 8, 8, 8, 8, 8, 8, 8, 8, 8, 8, 8, 8, 8, 8, 8, 8, 8, 8, 8, 8, 8, 8, 8, 8, 8, 8, 8, 8, 8, 8, 8, 8, 8, 8, 8, 8, 8, 8, 8, 8, 8, 8, 8, 8, 8, 8, 8, 8, 8, 8, 8, 8, 8, 8, 8, 8, 8, 8, 8, 8, 8, 8, 8, 8, 8, 8, 8, 8, 8, 8, 8, 8, 8, 8, 8, 8, 8, 8, 8, 8, 8, 8, 8, 8, 8, 8, 8, 8, 8, 8, 8, 8, 8, 8, 8, 8, 8, 8, 8, 8, 8, 8, 8]⟩
/-- The length of a byte, counted by halving. -/
def blf : Nat → Nat → Nat
  | 0, _ => 0
  | f + 1, n => if 0 < n then blf f (n / 2) + 1 else 0
theorem blf_eq : ∀ (f n : Nat), n < 2 ^ f → bl (n : Int) = blf f n
  | 0, n, h => by
    rw [bl_zero (by simp at h; omega)]; rfl
  | f + 1, n, h => by
    unfold blf
    by_cases h0 : 0 < n
    · rw [if_pos h0, bl_pos (by omega), show (n : Int) / 2 = ((n / 2 : Nat) : Int) by omega, blf_eq f (n / 2) (by rw [Nat.pow_succ] at h; omega)]
    · rw [if_neg h0, bl_zero (by omega)]
theorem tab_all : ∀ n : Fin 256, bt lenTab ((n.val : Nat) : Int) = ((blf 8 n.val : Nat) : Int) := by decide +kernel
theorem tab_at {x : Int} (h0 : 0 ≤ x) (h1 : x < 256) : bt lenTab x = (bl x : Int) := by
  obtain ⟨n, rfl⟩ := Int.eq_ofNat_of_zero_le h0
  have := tab_all ⟨n, by omega⟩
  rw [blf_eq 8 n (by omega)]
  exact this
theorem len32_eq {x : Int} (h0 : 0 ≤ x) (h1 : x < 4294967296) : bits_Len32.f x = some (bl x : Int) := by
  have hb : ∀ y : Int, 0 ≤ y → y < 256 → bl y ≤ 8 := fun y a b => bl_le (by omega)
  show (if x ≥ 65536 then (if (x / 65536) ≥ 256 then (if 0 ≤ (((x / 65536) / 256) % 256) then (if (((x / 65536) / 256) % 256) < 256 then (some (wrap64 ((16 + 8) + (wrap64 (bt lenTab (((x / 65536) / 256) % 256)))))) else (none)) else (none)) else (if 0 ≤ ((x / 65536) % 256) then (if ((x / 65536) % 256) < 256 then (some (wrap64 (16 + (wrap64 (bt lenTab ((x / 65536) % 256)))))) else (none)) else (none))) else (if x ≥ 256 then (if 0 ≤ ((x / 256) % 256) then (if ((x / 256) % 256) < 256 then (some (wrap64 ((0 + 8) + (wrap64 (bt lenTab ((x / 256) % 256)))))) else (none)) else (none)) else (if 0 ≤ ((x) % 256) then (if ((x) % 256) < 256 then (some (wrap64 (0 + (wrap64 (bt lenTab ((x) % 256)))))) else (none)) else (none)))) = _
  by_cases c1 : x ≥ 65536
  · rw [if_pos c1, bl16 c1]
    by_cases c2 : x / 65536 ≥ 256
    · have e : x / 65536 / 256 % 256 = x / 65536 / 256 := by omega
      have := hb (x / 65536 / 256) (by omega) (by omega)
      rw [if_pos c2, e, if_pos (by omega), if_pos (by omega), tab_at (by omega) (by omega), bl8 c2, w64 (n := (bl (x / 65536 / 256) : Int)) (by omega) (by omega), w64 (by omega) (by omega)]
      congr 1; omega
    · have e : x / 65536 % 256 = x / 65536 := by omega
      have := hb (x / 65536) (by omega) (by omega)
      rw [if_neg c2, e, if_pos (by omega), if_pos (by omega), tab_at (by omega) (by omega), w64 (n := (bl (x / 65536) : Int)) (by omega) (by omega), w64 (by omega) (by omega)]
      congr 1; omega
  · rw [if_neg c1]
    by_cases c2 : x ≥ 256
    · have e : x / 256 % 256 = x / 256 := by omega
      have := hb (x / 256) (by omega) (by omega)
      rw [if_pos c2, e, if_pos (by omega), if_pos (by omega), tab_at (by omega) (by omega), bl8 c2, w64 (n := (bl (x / 256) : Int)) (by omega) (by omega), w64 (by omega) (by omega)]
      congr 1; omega
    · have e : x % 256 = x := by omega
      have := hb x (by omega) (by omega)
      rw [if_neg c2, e, if_pos (by omega), if_pos (by omega), tab_at (by omega) (by omega), w64 (n := (bl x : Int)) (by omega) (by omega), w64 (by omega) (by omega)]
      congr 1; omega
theorem bl_top {x : Int} (h1 : x < 4294967296) : bl x ≤ 32 := bl_le (by omega)
theorem lz_eq {x : Int} (h0 : 0 ≤ x) (h1 : x < 4294967296) : bits_LeadingZeros32.f x = some (((32 - bl x : Nat) : Nat) : Int) := by
  have := bl_top h1
  simp only [bits_LeadingZeros32.f, len32_eq h0 h1, Option.bind_some]
  rw [w64 (by omega) (by omega)]
  congr 1; omega
theorem pow2_le {j k : Nat} (h : j ≤ k) : (2 : Int) ^ j ≤ 2 ^ k := by
  obtain ⟨m, rfl⟩ := Nat.exists_eq_add_of_le h
  rw [Int.pow_add]
  have := Int.mul_le_mul_of_nonneg_left (show (1 : Int) ≤ 2 ^ m from two_pos m) (Int.le_of_lt (two_pos j))
  omega
theorem shl_eq {x : Int} {s : Nat} (hs : s ≤ 31) (h0 : 0 ≤ x) (h1 : x < 4294967296) : shl .u64 x (s : Int) = x * 2 ^ s ∧ 0 ≤ x * 2 ^ s ∧ x * 2 ^ s < 9223372036854775808 := by
  have hp := two_pos s
  have hle : (2 : Int) ^ s ≤ 2147483648 := by
    have : (2 : Int) ^ s ≤ 2 ^ 31 := pow2_le hs
    simpa using this
  have h3 : x * 2 ^ s ≤ 4294967295 * 2147483648 := Int.mul_le_mul (by omega) hle (by omega) (by omega)
  have h4 : 0 ≤ x * 2 ^ s := Int.mul_nonneg h0 (by omega)
  unfold shl
  rw [show min (s : Int).toNat IntKind.u64.bits = s by simp [IntKind.bits]; omega]
  refine ⟨u64w h4 (by omega), h4, by omega⟩
end Go.Proofs.YtoeldfopjalpkaaDoor.Spec

