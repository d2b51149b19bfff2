/- Lemmas for the proof of one law of this seat (Spec3). -/
import Derived.Test.YtjiaplnpgjicgaaZBignatTextSpec2
set_option linter.unusedSimpArgs false
set_option linter.unusedVariables false
namespace Go.Proofs.Ytjiaplnpgjicgaa.Spec
open Go.RowKit Go.Proofs.YtjiaplnpgjicgaaW.PrintWords Go.Proofs.YtjiaplnpgjicgaaW.PrintLast Go.Proofs.YtjiaplnpgjicgaaW.PrintMore Go.Proofs.Ytjiaplnpgjicgaa.Q Go.Proofs.Ytjiaplnpgjicgaa.Nums

theorem getD_set {xs : List Int} {i j : Nat} (h : i ≠ j) (v : Int) : (xs.set i v).getD j 0 = xs.getD j 0 := by
  rw [List.getD_eq_getElem?_getD, List.getElem?_set_ne h, ← List.getD_eq_getElem?_getD]

theorem mul_bound {x y : Int} (hx0 : 0 ≤ x) (hx : x < 4294967296) (hy0 : 0 ≤ y) (hy : y < 4294967296) : 0 ≤ x * y ∧ x * y ≤ 18446744065119617025 := by
  constructor
  · exact Int.mul_nonneg hx0 hy0
  · have : x * y ≤ 4294967295 * 4294967295 := Int.mul_le_mul (by omega) (by omega) hy0 (by omega)
    omega
theorem mul_step {o b : List Int} {i k : Nat} {c s x T : Int} (hi : i + k < o.length) (hs : s = c + o.getD (i + k) 0 + x * b.getD k 0) (h : V o + 4294967296 ^ (i + k) * c = T + 4294967296 ^ i * (x * V (b.take k))) :
    V (o.set (i + k) (s % 4294967296)) + 4294967296 ^ (i + (k + 1)) * (s / 4294967296) = T + 4294967296 ^ i * (x * V (b.take (k + 1))) := by
  rw [V_set hi, V_take_next b, ← Nat.add_assoc, pow_succ', Int.mul_sub]
  have := carry_step (4294967296 ^ (i + k)) s
  rw [hs, Int.mul_add, Int.mul_add] at this
  rw [hs]
  have e : (4294967296 : Int) ^ i * (x * (V (b.take k) + 4294967296 ^ k * b.getD k 0)) = 4294967296 ^ i * (x * V (b.take k)) + 4294967296 ^ (i + k) * (x * b.getD k 0) := by
    rw [Int.mul_add, Int.mul_add, Int.pow_add, Int.mul_assoc, ← Int.mul_assoc x, Int.mul_comm x (4294967296 ^ k), Int.mul_assoc]
  rw [e]
  omega
theorem mul_last {o b : List Int} {i : Nat} {c x T : Int} (hi : i + b.length < o.length) (hz : o.getD (i + b.length) 0 = 0) (h : V o + 4294967296 ^ (i + b.length) * c = T + 4294967296 ^ i * (x * V (b.take b.length))) : V (o.set (i + b.length) c) = T + 4294967296 ^ i * (x * V b) := by
  rw [List.take_of_length_le (Nat.le_refl _)] at h
  rw [V_set hi, hz, ← h, Int.sub_zero]
theorem getD_set_self {xs : List Int} {i : Nat} (h : i < xs.length) (v : Int) : (xs.set i v).getD i 0 = v := by
  rw [List.getD_eq_getElem?_getD, List.getElem?_set_self h]; rfl
theorem nmul_l1 {a b : List Int} (ha : U a) (hb : U b) (sa : Small a) (sb : Small b) (i : Nat) (hia : i < a.length) (T : Int) (R : List Int)
    (next : ∀ o : List Int, o.length = a.length + b.length → U o → (∀ j, i + 1 + b.length ≤ j → o.getD j 0 = 0) → V o = T + 4294967296 ^ i * (a.getD i 0 * V b) → Ev (fun k => credenceref1_NatMul.l0 k a b o ((i + 1 : Nat) : Int)) R) :
    ∀ (n k : Nat) (o : List Int) (c : Int), k + n = b.length → o.length = a.length + b.length → U o → (∀ j, i + b.length ≤ j → o.getD j 0 = 0) → 0 ≤ c → c < 4294967296 → V o + 4294967296 ^ (i + k) * c = T + 4294967296 ^ i * (a.getD i 0 * V (b.take k)) →
    Ev (fun q => credenceref1_NatMul.l1 q a b o i c k) R := by
  unfold Small at sa sb
  intro n
  induction n with
  | zero =>
    intro k o c hk ho uo hz c0 c1 h
    obtain rfl : k = b.length := by omega
    refine suc ?_
    have e : ((i : Int) + (b.length : Int)) = ((i + b.length : Nat) : Int) := by omega
    have ec : c % 4294967296 = c := by omega
    simp (disch := omega) only [credenceref1_NatMul.l1, if_neg, if_pos, w64, e, Int.toNat_natCast, ec]
    refine next _ (by rw [List.length_set]; exact ho) (U_set uo _ c0 c1) (fun j hj => ?_) (mul_last (by omega) (hz _ (Nat.le_refl _)) h)
    rw [getD_set (by omega)]
    exact hz j (by omega)
  | succ n ih =>
    intro k o c hk ho uo hz c0 c1 h
    have da := U_getD ha i
    have db := U_getD hb k
    have dO := U_getD uo (i + k)
    have hm := mul_bound da.1 da.2 db.1 db.2
    refine suc ?_
    have e : ((i : Int) + (k : Int)) = ((i + k : Nat) : Int) := by omega
    simp (disch := omega) only [credenceref1_NatMul.l1, if_neg, if_pos, w64, e, Int.toNat_natCast, rd_nat, u64w]
    refine ih (k + 1) _ _ (by omega) (by rw [List.length_set]; exact ho) (U_set uo _ (by omega) (by omega)) (fun j hj => ?_) (by omega) (by omega) ?_
    · rw [getD_set (by omega)]
      exact hz j hj
    · exact mul_step (by omega) rfl h
theorem nmul_l0 {a b : List Int} (ha : U a) (hb : U b) (sa : Small a) (sb : Small b) : ∀ (n i : Nat) (o : List Int), i + n = a.length → o.length = a.length + b.length → U o → (∀ j, i + b.length ≤ j → o.getD j 0 = 0) → V o = V (a.take i) * V b →
    Ev (fun k => credenceref1_NatMul.l0 k a b o i) (D (V a * V b)) := by
  intro n
  induction n with
  | zero =>
    intro i o hi ho uo hz h
    obtain rfl : i = a.length := by omega
    refine suc ?_
    simp (disch := omega) only [credenceref1_NatMul.l0, if_neg]
    rw [List.take_of_length_le (Nat.le_refl _)] at h
    rw [← h]
    exact Ev.bind (norm_ev uo (by unfold Small at sa sb; unfold Big; omega)) (now fun _ => rfl)
  | succ n ih =>
    intro i o hi ho uo hz h
    refine suc ?_
    simp (disch := omega) only [credenceref1_NatMul.l0, if_pos]
    refine nmul_l1 ha hb sa sb i (by omega) (V o) _ (fun o' ho' uo' hz' hv' => ?_) b.length 0 o 0 (by omega) ho uo hz (by omega) (by omega) (by simp [V])
    refine ih (i + 1) o' (by omega) ho' uo' hz' ?_
    rw [hv', h, V_take_next a, Int.add_mul, Int.mul_assoc]
theorem getD_replicate (n j : Nat) : (List.replicate n (0 : Int)).getD j 0 = 0 := by
  rw [List.getD_eq_getElem?_getD, List.getElem?_replicate]
  split <;> rfl
theorem nmul_ev {a b : List Int} (ha : U a) (hb : U b) (sa : Small a) (sb : Small b) : Ev (fun k => credenceref1_NatMul.f k a b) (D (V a * V b)) := by
  simp only [credenceref1_NatMul.f]
  have h1 := sa
  have h2 := sb
  unfold Small at h1 h2
  have e : ((a.length : Int) + (b.length : Int)) = ((a.length + b.length : Nat) : Int) := by omega
  simp (disch := omega) only [if_pos, w64, e, Int.toNat_natCast]
  exact nmul_l0 ha hb sa sb a.length 0 _ (by omega) (by simp) (U_replicate _) (fun j _ => getD_replicate _ j) (by rw [V_replicate]; simp [V])
end Go.Proofs.Ytjiaplnpgjicgaa.Spec

