/- Lemmas for the proof of one law of this seat (Spec10). -/
import Derived.Test.YtjiaplnpgjicgaaZBignatOrderSpec9
set_option linter.unusedSimpArgs false
set_option linter.unusedVariables false
namespace Go.Proofs.Ytjiaplnpgjicgaa.Spec
open Go.RowKit Go.Proofs.YtjiaplnpgjicgaaW.PrintWords Go.Proofs.YtjiaplnpgjicgaaW.PrintLast Go.Proofs.YtjiaplnpgjicgaaW.PrintMore Go.Proofs.Ytjiaplnpgjicgaa.Q Go.Proofs.Ytjiaplnpgjicgaa.Nums

theorem len64j {x c : Int} (h0 : 0 ≤ x) (h1 : x < 4294967296) (c0 : 0 ≤ c) (c1 : c ≤ 32) : Ev (fun k => bits_Len64.j0 k x c) (c + (bl x : Int)) := by
  have hb : ∀ y : Int, 0 ≤ y → y < 256 → bl y ≤ 8 := fun y a b => bl_le (by omega)
  refine suc (now fun k => ?_)
  show (if x ≥ 65536 then (if (x / 65536) ≥ 256 then (if 0 ≤ (((x / 65536) / 256) % 256) then (if (((x / 65536) / 256) % 256) < 256 then (some (wrap64 ((wrap64 ((wrap64 (c + 16)) + 8)) + (wrap64 (bt lenTab (((x / 65536) / 256) % 256)))))) else (none)) else (none)) else (if 0 ≤ ((x / 65536) % 256) then (if ((x / 65536) % 256) < 256 then (some (wrap64 ((wrap64 (c + 16)) + (wrap64 (bt lenTab ((x / 65536) % 256)))))) else (none)) else (none))) else (if x ≥ 256 then (if 0 ≤ ((x / 256) % 256) then (if ((x / 256) % 256) < 256 then (some (wrap64 ((wrap64 (c + 8)) + (wrap64 (bt lenTab ((x / 256) % 256)))))) else (none)) else (none)) else (if 0 ≤ ((x) % 256) then (if ((x) % 256) < 256 then (some (wrap64 (c + (wrap64 (bt lenTab ((x) % 256)))))) else (none)) else (none)))) = _
  by_cases c1 : x ≥ 65536
  · rw [if_pos c1, bl16 c1]
    by_cases c2 : x / 65536 ≥ 256
    · have e : x / 65536 / 256 % 256 = x / 65536 / 256 := by omega
      have := hb (x / 65536 / 256) (by omega) (by omega)
      rw [if_pos c2, e, if_pos (by omega), if_pos (by omega), tab_at (by omega) (by omega), bl8 c2, w64 (n := (bl (x / 65536 / 256) : Int)) (by omega) (by omega), w64 (n := c + 16) (by omega) (by omega), w64 (n := c + 16 + 8) (by omega) (by omega), w64 (by omega) (by omega)]
      congr 1; omega
    · have e : x / 65536 % 256 = x / 65536 := by omega
      have := hb (x / 65536) (by omega) (by omega)
      rw [if_neg c2, e, if_pos (by omega), if_pos (by omega), tab_at (by omega) (by omega), w64 (n := (bl (x / 65536) : Int)) (by omega) (by omega), w64 (n := c + 16) (by omega) (by omega), w64 (by omega) (by omega)]
      congr 1; omega
  · rw [if_neg c1]
    by_cases c2 : x ≥ 256
    · have e : x / 256 % 256 = x / 256 := by omega
      have := hb (x / 256) (by omega) (by omega)
      rw [if_pos c2, e, if_pos (by omega), if_pos (by omega), tab_at (by omega) (by omega), bl8 c2, w64 (n := (bl (x / 256) : Int)) (by omega) (by omega), w64 (n := c + 8) (by omega) (by omega), w64 (by omega) (by omega)]
      congr 1; omega
    · have e : x % 256 = x := by omega
      have := hb x (by omega) (by omega)
      rw [if_neg c2, e, if_pos (by omega), if_pos (by omega), tab_at (by omega) (by omega), w64 (n := (bl x : Int)) (by omega) (by omega), w64 (by omega) (by omega)]
theorem len_ev {x : Int} (h0 : 0 ≤ x) (h1 : x < 18446744073709551616) : Ev (fun k => bits_Len.f k x) (bl x : Int) := by
  have h64 : Ev (fun k => bits_Len64.f k x) (bl x : Int) := by
    simp only [bits_Len64.f]
    by_cases h : x ≥ 4294967296
    · simp only [if_pos h]
      have := len64j (x := x / 4294967296) (c := 32) (by omega) (by omega) (by omega) (by omega)
      rw [bl16 (by omega), bl16 (n := x / 65536) (by omega), show x / 65536 / 65536 = x / 4294967296 by omega, show (((bl (x / 4294967296) + 16 + 16 : Nat)) : Int) = 32 + (bl (x / 4294967296) : Int) by omega]
      exact this
    · simp only [if_neg h]
      have := len64j (x := x) (c := 0) (by omega) (by omega) (by omega) (by omega)
      rw [Int.zero_add] at this
      exact this
  simp only [bits_Len.f]
  exact Ev.bind h64 (now fun _ => rfl)

theorem wraps_i64 (n : Int) (h0 : 0 ≤ n) (h1 : n < 2 ^ 63) : IntKind.i64.wrap n = n := by rw [IntKind.wrap_i64]; omega
theorem and1 {x : Int} (h0 : 0 ≤ x) (h1 : x < 9223372036854775808) : Go.bits .and .i64 x 1 = x % 2 := by
  have := bits_mask .i64 63 (by decide) wraps_i64 1 (by decide) x h0 (by omega)
  simpa using this
theorem shr_nat {e j : Nat} (hj : j ≤ 63) : shr .i64 (e : Int) (j : Int) = ((e / 2 ^ j : Nat) : Int) := by
  unfold shr
  rw [show min (j : Int).toNat IntKind.i64.bits = j by simp [IntKind.bits]; omega]
  simp
theorem ipow_pos {X : Int} (h : 0 < X) (n : Nat) : 0 < X ^ n := Int.pow_pos h
theorem ipow_nn {X : Int} (h : 0 ≤ X) (n : Nat) : 0 ≤ X ^ n := Int.pow_nonneg h
theorem ipow_succ (X : Int) (n : Nat) : X ^ (n + 1) = X ^ n * X := Int.pow_succ _ _
theorem ipow_le {X : Int} (h : 0 < X) {i j : Nat} (hij : i ≤ j) : X ^ i ≤ X ^ j := by
  obtain ⟨m, rfl⟩ := Nat.exists_eq_add_of_le hij
  rw [Int.pow_add]
  have := Int.mul_le_mul_of_nonneg_left (show (1 : Int) ≤ X ^ m from ipow_pos h m) (ipow_nn (Int.le_of_lt h) i)
  omega
theorem ipow_base {X Y : Int} (h0 : 0 ≤ X) (h : X ≤ Y) : ∀ n : Nat, X ^ n ≤ Y ^ n
  | 0 => by simp
  | n + 1 => by
    rw [ipow_succ, ipow_succ]
    exact Int.mul_le_mul (ipow_base h0 h n) h h0 (ipow_nn (by omega) n)
theorem bl_two (n : Nat) : bl (2 ^ n) = n + 1 := by
  have h1 : (2 : Int) ^ n < 2 ^ bl (2 ^ n) := bl_lt _
  have h2 := bl_le (n := 2 ^ n) (k := n + 1) (by rw [two_succ]; have := two_pos n; omega)
  rcases Nat.lt_or_ge n (bl (2 ^ n)) with h | h
  · omega
  · have := pow2_le h; omega
theorem bl_big {x : Int} {n : Nat} (h : 2 ^ n ≤ x) : n < bl x := by
  have := bl_mono h
  rw [bl_two] at this
  omega
def powO (X : Int) (e : Nat) : List Int × Int := if bl (X ^ e) > 65536 then ([], 4) else (D (X ^ e), 0)
theorem powO_big {X : Int} {e : Nat} (h : 65536 < bl (X ^ e)) : powO X e = ([], 4) := if_pos h
theorem powO_small {X : Int} {e : Nat} (h : bl (X ^ e) ≤ 65536) : powO X e = (D (X ^ e), 0) := if_neg (by omega)
theorem pow32 (n : Nat) : (2 : Int) ^ (32 * n) = 4294967296 ^ n := by rw [Int.pow_mul]; rfl
theorem powl {X : Int} (hX : 0 < X) {e m : Nat} (he : e < 9223372036854775808) (hl : X ^ e < 4294967296 ^ m) (hx : X < 4294967296 ^ m) (hm : m ≤ 34359738368) : ∀ j : Nat, j ≤ 62 → Ev (fun k => bignat_Pow.l0 k (D X) (e : Int) (D (X ^ (e / 2 ^ j))) ((j : Int) - 1)) (powO X e)
  | 0, _ => by
    have hL : Lim m (X ^ e) := ⟨ipow_nn (by omega) e, hl⟩
    refine suc ?_
    simp (disch := omega) only [bignat_Pow.l0, if_neg, Nat.pow_zero, Nat.div_one]
    have hb := bitLen_ev hL.U (hL.small (by omega)).big
    rw [hL.V] at hb
    refine Ev.bind hb ?_
    by_cases h : bl (X ^ e) > 65536
    · rw [powO_big h]
      simp (disch := omega) only [if_pos]
      exact now fun _ => rfl
    · rw [powO_small (by omega)]
      simp (disch := omega) only [if_neg]
      exact now fun _ => rfl
  | j + 1, hj => by
    have hq : e / 2 ^ j = 2 * (e / 2 ^ (j + 1)) + (e / 2 ^ j) % 2 := by
      rw [Nat.pow_succ, ← Nat.div_div_eq_div_mul]; omega
    have hqe : e / 2 ^ j ≤ e := Nat.div_le_self _ _
    have hqe1 : e / 2 ^ (j + 1) ≤ e := Nat.div_le_self _ _
    have hL : ∀ i : Nat, i ≤ e → Lim m (X ^ i) := fun i hi => ⟨ipow_nn (by omega) i, Int.lt_of_le_of_lt (ipow_le hX hi) hl⟩
    have hLx : Lim m X := ⟨by omega, hx⟩
    have ih := powl hX he hl hx hm j (by omega)
    have hs := shr_nat (e := e) (j := j) (by omega)
    have ha := and1 (x := ((e / 2 ^ j : Nat) : Int)) (by omega) (by omega)
    have e1 : (((j + 1 : Nat) : Int) - 1) = (j : Int) := by omega
    refine suc ?_
    simp (disch := omega) only [bignat_Pow.l0, if_pos, e1, hs, ha, w64]
    have hm2 := mul_D (hL _ hqe1) (hL _ hqe1) (by omega) (by omega)
    refine Ev.bind hm2 ?_
    rw [← Int.pow_add]
    rcases Nat.mod_two_eq_zero_or_one (e / 2 ^ j) with h | h
    · have c : ¬ ((e / 2 ^ j : Nat) : Int) % 2 = 1 := by omega
      simp only [if_neg c]
      rw [show e / 2 ^ (j + 1) + e / 2 ^ (j + 1) = e / 2 ^ j by omega]
      exact ih
    · have c : ((e / 2 ^ j : Nat) : Int) % 2 = 1 := by omega
      simp only [if_pos c]
      have hm3 := mul_D (hL (e / 2 ^ (j + 1) + e / 2 ^ (j + 1)) (by omega)) hLx (by omega) (by omega)
      refine Ev.bind hm3 ?_
      rw [← ipow_succ, show e / 2 ^ (j + 1) + e / 2 ^ (j + 1) + 1 = e / 2 ^ j by omega]
      exact ih
theorem blf_top {e : Nat} : e / 2 ^ bl (e : Int) = 0 := by
  have := bl_lt (e : Int)
  refine Nat.div_eq_of_lt ?_
  exact_mod_cast this
theorem pow_ev {a : List Int} (ha : U a) (sa : Small a) {e : Nat} (he : e < 9223372036854775808) : Ev (fun k => bignat_Pow.f k a (e : Int)) (powO (V a) e) := by
  have h1 := V_nonneg ha
  have hs := bl_small ha sa.big
  have hb := bitLen_ev (D_U (V a)) (D_big ha sa.big)
  rw [V_D _ h1] at hb
  simp only [bignat_Pow.f]
  refine Ev.bind (trim_ev ha sa.big) (Ev.bind hb ?_)
  by_cases e0 : e = 0
  · subst e0
    rw [powO_small (by rw [Int.pow_zero]; exact Nat.le_trans (bl_le (n := 1) (k := 1) (by decide)) (by decide)), Int.pow_zero]
    simp (disch := omega) only [if_pos, if_neg, from_eq, Option.bind_some]
    exact now fun _ => rfl
  by_cases b1 : bl (V a) ≤ 1
  · have hv : V a = 0 ∨ V a = 1 := by
      have := bl_lt (V a)
      have h2 := pow2_le b1
      omega
    have hp : V a ^ e = V a := by
      rcases hv with h | h
      · rw [h, Int.zero_pow e0]
      · rw [h, Int.one_pow]
    have hc := clone_ev (D_U (V a)) (D_big ha sa.big)
    rw [V_D _ h1] at hc
    rw [powO_small (by rw [hp]; omega), hp]
    simp (disch := omega) only [if_pos, if_neg]
    exact Ev.bind hc (now fun _ => rfl)
  have hv : 2 ≤ V a := by
    rcases Int.lt_or_le (V a) 2 with h | h
    · exact absurd (bl_le (n := V a) (k := 1) h) b1
    · exact h
  have hge : 2 ^ ((bl (V a) - 1) * e) ≤ V a ^ e := by
    rw [Int.pow_mul]
    exact ipow_base (ipow_nn (by omega) _) (bl_ge (by omega)) e
  have hbig := bl_big hge
  by_cases e1 : e > 65536
  · have : 1 * e ≤ (bl (V a) - 1) * e := Nat.mul_le_mul_right _ (by omega)
    rw [powO_big (by omega)]
    simp (disch := omega) only [if_pos, if_neg]
    exact now fun _ => rfl
  by_cases b2 : bl (V a) > 65536
  · have : (bl (V a) - 1) * 1 ≤ (bl (V a) - 1) * e := Nat.mul_le_mul_left _ (by omega)
    rw [powO_big (by omega)]
    simp (disch := omega) only [if_pos, if_neg]
    exact now fun _ => rfl
  have hpb : (bl (V a) - 1) * e ≤ 65535 * 65536 := Nat.mul_le_mul (by omega) (by omega)
  have ew : wrap64 ((wrap64 ((bl (V a) : Int) - 1)) * (e : Int)) = (((bl (V a) - 1) * e : Nat) : Int) := by
    rw [w64 (n := (bl (V a) : Int) - 1) (by omega) (by omega), show (bl (V a) : Int) - 1 = ((bl (V a) - 1 : Nat) : Int) by omega, ← Int.natCast_mul, w64 (by omega) (by omega)]
  by_cases c : (bl (V a) - 1) * e ≥ 65536
  · rw [powO_big (by omega)]
    have c' : (((bl (V a) - 1) * e : Nat) : Int) ≥ 65536 := by omega
    simp (disch := omega) only [ew, if_pos, if_neg]
    exact now fun _ => rfl
  have c' : ¬ (((bl (V a) - 1) * e : Nat) : Int) ≥ 65536 := by omega
  simp (disch := omega) only [ew, if_neg, from_eq, Option.bind_some, u64w]
  refine Ev.bind (len_ev (x := (e : Int)) (by omega) (by omega)) ?_
  have hbe : bl (e : Int) ≤ 17 := bl_le (by omega)
  have hle : V a ^ e < 4294967296 ^ 4097 := by
    have l1 : V a ^ e ≤ (2 ^ bl (V a)) ^ e := ipow_base h1 (Int.le_of_lt (bl_lt _)) e
    rw [← Int.pow_mul] at l1
    have l2 : bl (V a) * e ≤ 32 * 4096 := by
      have : bl (V a) * e = (bl (V a) - 1) * e + e := by
        rw [← Nat.succ_mul]; congr 1; omega
      have : 1 * e ≤ (bl (V a) - 1) * e := Nat.mul_le_mul_right _ (by omega)
      omega
    have l3 := pow2_le l2
    rw [pow32] at l3
    have l4 := pow_succ' 4096
    have l5 := pow_pos 4096
    generalize V a ^ e = A at *
    generalize (2 : Int) ^ (bl (V a) * e) = B at *
    rw [show 4097 = 4096 + 1 from rfl, l4]
    generalize (4294967296 : Int) ^ 4096 = C at *
    omega
  have hlx : V a < 4294967296 ^ 4097 := Int.lt_of_le_of_lt (by have := ipow_le (X := V a) (by omega) (show 1 ≤ e by omega); rw [Int.pow_one] at this; exact this) hle
  have := powl (X := V a) (by omega) he hle hlx (by decide) (bl (e : Int)) (by omega)
  rw [blf_top, Int.pow_zero] at this
  simp (disch := omega) only [w64]
  exact this

end Go.Proofs.Ytjiaplnpgjicgaa.Spec

