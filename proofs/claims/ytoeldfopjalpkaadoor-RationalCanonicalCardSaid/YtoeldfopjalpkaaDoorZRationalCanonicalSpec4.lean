/- Lemmas for the proof of one law of this seat (Spec4). -/
import Derived.Test.YtoeldfopjalpkaaDoorZRationalCanonicalSpec3
set_option linter.unusedSimpArgs false
set_option linter.unusedVariables false
namespace Go.Proofs.YtoeldfopjalpkaaDoor.Spec
open Go.RowKit Go.Proofs.YtoeldfopjalpkaaDoorW.PrintWords Go.Proofs.YtoeldfopjalpkaaDoorW.PrintLast Go.Proofs.YtoeldfopjalpkaaDoorW.PrintMore Go.Proofs.YtoeldfopjalpkaaDoor.Q Go.Proofs.YtoeldfopjalpkaaDoor.Nums

theorem mul_l1 {a b : List Int} (ha : U a) (hb : U b) (sa : Small a) (sb : Small b) (i : Nat) (hia : i < a.length) (T : Int) (R : List Int)
    (next : ∀ o : List Int, o.length = a.length + b.length → U o → (∀ j, i + 1 + b.length ≤ j → o.getD j 0 = 0) → V o = T + 4294967296 ^ i * (a.getD i 0 * V b) → Ev (fun k => bignat_Mul.l0 k b o a a.length ((i + 1 : Nat) : Int)) R) :
    ∀ (n k : Nat) (o : List Int) (c : Int), k + n = b.length → o.length = a.length + b.length → U o → (∀ j, i + b.length ≤ j → o.getD j 0 = 0) → 0 ≤ c → c < 4294967296 → V o + 4294967296 ^ (i + k) * c = T + 4294967296 ^ i * (a.getD i 0 * V (b.take k)) →
    Ev (fun q => bignat_Mul.l1 q b o i (a.getD i 0) c a a.length i b b.length k) R := by
  unfold Small at sa sb
  intro n
  induction n with
  | zero =>
    intro k o c hk ho uo hz c0 c1 h
    obtain rfl : k = b.length := by omega
    refine suc ?_
    have e : ((i : Int) + (b.length : Int)) = ((i + b.length : Nat) : Int) := by omega
    have ec : c % 4294967296 = c := by omega
    simp (disch := omega) only [bignat_Mul.l1, if_neg, if_pos, w64, e, Int.toNat_natCast, ec]
    refine next _ (by rw [List.length_set]; exact ho) (U_set uo _ c0 c1) (fun j hj => ?_) (mul_last (by omega) (hz _ (Nat.le_refl _)) h)
    rw [getD_set (by omega)]
    exact hz j (by omega)
  | succ n ih =>
    intro k o c hk ho uo hz c0 c1 h
    have da := U_getD ha i
    have db := U_getD hb k
    have dd := U_getD uo (i + k)
    have hm := mul_bound da.1 da.2 db.1 db.2
    refine suc ?_
    have e : ((i : Int) + (k : Int)) = ((i + k : Nat) : Int) := by omega
    simp (disch := omega) only [bignat_Mul.l1, if_neg, if_pos, w64, e, Int.toNat_natCast, rd_nat, u64w]
    refine ih (k + 1) _ _ (by omega) (by rw [List.length_set]; exact ho) (U_set uo _ (by omega) (by omega)) (fun j hj => ?_) (by omega) (by omega) ?_
    · rw [getD_set (by omega)]
      exact hz j hj
    · exact mul_step (by omega) (by omega) h
theorem mul_l0 {a b : List Int} (ha : U a) (hb : U b) (sa : Small a) (sb : Small b) : ∀ (n i : Nat) (o : List Int), i + n = a.length → o.length = a.length + b.length → U o → (∀ j, i + b.length ≤ j → o.getD j 0 = 0) → V o = V (a.take i) * V b →
    Ev (fun k => bignat_Mul.l0 k b o a a.length i) (D (V a * V b)) := by
  intro n
  induction n with
  | zero =>
    intro i o hi ho uo hz h
    obtain rfl : i = a.length := by omega
    refine suc ?_
    simp (disch := omega) only [bignat_Mul.l0, if_neg]
    rw [List.take_of_length_le (Nat.le_refl _)] at h
    rw [← h]
    exact Ev.bind (trim_ev uo (by unfold Small at sa sb; unfold Big; omega)) (now fun _ => rfl)
  | succ n ih =>
    intro i o hi ho uo hz h
    refine suc ?_
    simp (disch := omega) only [bignat_Mul.l0, if_pos, rd_nat]
    refine mul_l1 ha hb sa sb i (by omega) (V o) _ (fun o' ho' uo' hz' hv' => ?_) b.length 0 o 0 (by omega) ho uo hz (by omega) (by omega) (by simp [V])
    refine ih (i + 1) o' (by omega) ho' uo' hz' ?_
    rw [hv', h, V_take_next a, Int.add_mul, Int.mul_assoc]
theorem mul_ev {a b : List Int} (ha : U a) (hb : U b) (sa : Small a) (sb : Small b) : Ev (fun k => bignat_Mul.f k a b) (D (V a * V b)) := by
  simp only [bignat_Mul.f]
  refine Ev.bind (trim_ev ha sa.big) (Ev.bind (trim_ev hb sb.big) ?_)
  have ua := D_U (V a)
  have ub := D_U (V b)
  have s1 := D_small ha sa
  have s2 := D_small hb sb
  have h1 := V_nonneg ha
  have h2 := V_nonneg hb
  by_cases ea : D (V a) = []
  · have : V a = 0 := (D_nil_iff h1).1 ea
    rw [this, D_zero, Int.zero_mul, D_zero]
    exact suc (now fun _ => rfl)
  · by_cases eb : D (V b) = []
    · have : V b = 0 := (D_nil_iff h2).1 eb
      rw [this, D_zero, Int.mul_zero, D_zero]
      refine suc (now fun k => ?_)
      have : (D (V a)).length ≠ 0 := fun e => ea (List.eq_nil_of_length_eq_zero e)
      rw [if_neg (by omega)]
      rfl
    · have n1 : (D (V a)).length ≠ 0 := fun e => ea (List.eq_nil_of_length_eq_zero e)
      have n2 : (D (V b)).length ≠ 0 := fun e => eb (List.eq_nil_of_length_eq_zero e)
      have e : (((D (V a)).length : Int) + ((D (V b)).length : Int)) = (((D (V a)).length + (D (V b)).length : Nat) : Int) := by omega
      have eq : (((D (V b)).length : Int) == 0) = false := by rw [beq_eq_false_iff_ne]; omega
      have := mul_l0 ua ub s1 s2 (D (V a)).length 0 (List.replicate ((D (V a)).length + (D (V b)).length) 0) (by omega) (by simp) (U_replicate _) (fun j _ => getD_replicate _ j) (by rw [V_replicate]; simp [V])
      rw [V_D _ h1, V_D _ h2] at this
      unfold Small at s1 s2
      refine suc ?_
      simp (disch := omega) only [if_neg, eq, bignat_Mul.j0, Bool.false_eq_true, if_false, if_pos, w64, e, Int.toNat_natCast]
      exact this

theorem wf_U {l : List Int} (h : ∀ x ∈ l, (Lit.int .u32 x).wf = true) : U l := by
  intro x hx
  have := h x hx
  simp [Lit.wf, IntKind.min, IntKind.max, IntKind.bits, IntKind.signed] at this
  omega
theorem nat_l {l : List Int} (hl : U l) : ∀ (n i : Nat) (o : List Int), i + n = 8 → o.length = i → U o → ∃ r, Ev (fun k => credencebase_Nat.l0 k l o i) r ∧ U r ∧ r.length ≤ 8 := by
  intro n
  induction n with
  | zero =>
    intro i o hi ho uo
    refine ⟨o, suc (suc ?_), uo, by omega⟩
    have hd : decide ((i : Int) < 8) = false := decide_eq_false (by omega)
    by_cases h : (i : Int) < l.length
    · simp (disch := omega) only [credencebase_Nat.l0, if_pos, hd, credencebase_Nat.j1]
      exact now fun _ => rfl
    · simp (disch := omega) only [credencebase_Nat.l0, if_neg, credencebase_Nat.j1]
      exact now fun _ => rfl
  | succ n ih =>
    intro i o hi ho uo
    have hd : decide ((i : Int) < 8) = true := decide_eq_true (by omega)
    have dl := U_getD hl i
    by_cases h : (i : Int) < l.length
    · by_cases h7 : Go.bits .and .u32 (l.getD i 0) 7 = 7
      · obtain ⟨r, hr, ur, lr⟩ := ih (i + 1) (o ++ [(4294967295 - (l.getD i 0 / 268435456)) % 4294967296]) (by omega) (by simp; omega) (U_snoc uo (by omega) (by omega))
        refine ⟨r, suc (suc ?_), ur, lr⟩
        simp (disch := omega) only [credencebase_Nat.l0, if_pos, hd, credencebase_Nat.j1, rd_nat, h7, w64]
        exact hr
      · obtain ⟨r, hr, ur, lr⟩ := ih (i + 1) (o ++ [l.getD i 0]) (by omega) (by simp; omega) (U_snoc uo (by omega) (by omega))
        refine ⟨r, suc (suc ?_), ur, lr⟩
        simp (disch := omega) only [credencebase_Nat.l0, if_pos, hd, credencebase_Nat.j1, rd_nat, if_neg h7, w64]
        exact hr
    · refine ⟨o, suc (suc ?_), uo, by omega⟩
      simp (disch := omega) only [credencebase_Nat.l0, if_neg, credencebase_Nat.j1]
      exact now fun _ => rfl
/-- What the laws build of a list: at most eight digits. -/
theorem nat_ev {l : List Int} (h : ∀ x ∈ l, (Lit.int .u32 x).wf = true) : ∃ r, Ev (fun k => credencebase_Nat.f k l) r ∧ U r ∧ r.length ≤ 8 := by
  simp only [credencebase_Nat.f]
  exact nat_l (wf_U h) 8 0 [] (by omega) rfl U_nil
theorem eight {r : List Int} (h : r.length ≤ 8) : Small r := Nat.le_trans h (by decide)

theorem natSame_l (xs : List Int) (hs : Big xs) : ∀ (n i : Nat), i + n = xs.length → Ev (fun k => credenceref1_NatSame.l0 k xs xs i) true := by
  unfold Big at hs
  intro n
  induction n with
  | zero =>
    intro i hi
    refine suc (now fun k => ?_)
    simp (disch := omega) only [credenceref1_NatSame.l0, if_neg]
  | succ n ih =>
    intro i hi
    refine suc ?_
    simp (disch := omega) only [credenceref1_NatSame.l0, if_pos, w64]
    exact ih (i + 1) (by omega)
theorem natSame_ev (xs : List Int) (hs : Big xs) : Ev (fun k => credenceref1_NatSame.f k xs xs) true := by
  simp only [credenceref1_NatSame.f, if_true]
  exact natSame_l xs hs xs.length 0 (by omega)
/-- Numbers of at most k digits. -/
def Lim (k : Nat) (n : Int) : Prop := 0 ≤ n ∧ n < 4294967296 ^ k
theorem pow_le {j k : Nat} (h : j ≤ k) : (4294967296 : Int) ^ j ≤ 4294967296 ^ k := by
  obtain ⟨m, rfl⟩ := Nat.exists_eq_add_of_le h
  rw [Int.pow_add]
  have := Int.mul_le_mul_of_nonneg_left (show (1 : Int) ≤ 4294967296 ^ m from pow_pos m) (Int.le_of_lt (pow_pos j))
  omega
theorem Lim.of_V {r : List Int} (h : U r) : Lim r.length (V r) := ⟨V_nonneg h, V_lt h⟩
theorem Lim.mul {j k : Nat} {x y : Int} (hx : Lim j x) (hy : Lim k y) : Lim (j + k) (x * y) := by
  refine ⟨Int.mul_nonneg hx.1 hy.1, ?_⟩
  rw [Int.pow_add]
  by_cases h0 : y = 0
  · rw [h0, Int.mul_zero]
    exact Int.mul_pos (pow_pos j) (pow_pos k)
  · exact Int.mul_lt_mul hx.2 (Int.le_of_lt hy.2) (by have := hy.1; omega) (Int.le_of_lt (pow_pos j))
end Go.Proofs.YtoeldfopjalpkaaDoor.Spec

