/- Lemmas for the proof of one law of this seat (Spec1). -/
import Derived.Test.YtoeldfopjalpkaaDoorZRationalTextQx22
import Derived.Laws.BitsLemmas
set_option linter.unusedSimpArgs false
set_option linter.unusedVariables false
namespace Go.Proofs.YtoeldfopjalpkaaDoor.Spec
open Go.RowKit Go.Proofs.YtoeldfopjalpkaaDoorW.PrintWords Go.Proofs.YtoeldfopjalpkaaDoorW.PrintLast Go.Proofs.YtoeldfopjalpkaaDoorW.PrintMore Go.Proofs.YtoeldfopjalpkaaDoor.Q Go.Proofs.YtoeldfopjalpkaaDoor.Nums

theorem suc {α : Type} {g : Nat → Option α} {r : α} (h : Ev (fun k => g (k + 1)) r) : Ev g r := Ev.step (fun _ => rfl) h
theorem now {α : Type} {g : Nat → Option α} {r : α} (h : ∀ k, g k = some r) : Ev g r := ⟨0, fun k _ => h k⟩
theorem w64 {n : Int} (h0 : -9223372036854775808 ≤ n) (h1 : n ≤ 9223372036854775807) : wrap64 n = n := by unfold wrap64; omega
theorem u64w {n : Int} (h0 : 0 ≤ n) (h1 : n < 18446744073709551616) : IntKind.u64.wrap n = n := by rw [IntKind.wrap_u64]; omega
theorem rd_nat (xs : List Int) (n : Nat) : rd xs (n : Int) = xs.getD n 0 := rfl

/-- A length that no law here passes; one that is smaller still. -/
def Big (xs : List Int) : Prop := xs.length ≤ 17592186044416
def Small (xs : List Int) : Prop := xs.length ≤ 1099511627776
theorem Small.big {xs : List Int} (h : Small xs) : Big xs := Nat.le_trans h (by decide)

theorem trim_l {xs : List Int} (hu : U xs) (hl : Big xs) : ∀ n : Nat, n ≤ xs.length → (∀ i, n ≤ i → i < xs.length → xs.getD i 0 = 0) → Ev (fun k => bignat_trim.l0 k xs n) (D (V xs)) := by
  unfold Big at hl
  intro n
  induction n with
  | zero =>
    intro hn hz
    refine suc (now fun k => ?_)
    simp (disch := omega) only [bignat_trim.l0, if_pos, if_neg]
    rw [← D_take hu 0 hn hz (.inl rfl)]; rfl
  | succ n ih =>
    intro hn hz
    refine suc ?_
    have e : ((n + 1 : Nat) : Int) - 1 = n := by omega
    by_cases hx : xs.getD n 0 = 0
    · have := ih (by omega) (fun i h1 h2 => by
        by_cases e : i = n
        · rw [e]; exact hx
        · exact hz i (by omega) h2)
      simp (disch := omega) only [bignat_trim.l0, if_pos, if_neg, e, w64, rd_nat, hx, reduceIte]
      exact this
    · refine now fun k => ?_
      simp (disch := omega) only [bignat_trim.l0, if_pos, if_neg, e, w64, rd_nat, hx, reduceIte]
      rw [← D_take hu (n + 1) hn hz (.inr hx)]; rfl
theorem trim_ev {xs : List Int} (hu : U xs) (hl : Big xs) : Ev (fun k => bignat_trim.f k xs) (D (V xs)) := by
  simp only [bignat_trim.f]
  exact trim_l hu hl xs.length (Nat.le_refl _) (fun i h1 h2 => by omega)
theorem D_short {xs : List Int} (hu : U xs) : (D (V xs)).length ≤ xs.length := D_len_le (V_lt hu)
theorem D_big {xs : List Int} (hu : U xs) (hl : Big xs) : Big (D (V xs)) := Nat.le_trans (D_short hu) hl
theorem D_small {xs : List Int} (hu : U xs) (hl : Small xs) : Small (D (V xs)) := Nat.le_trans (D_short hu) hl
theorem clone_ev {xs : List Int} (hu : U xs) (hl : Big xs) : Ev (fun k => bignat_clone.f k xs) (D (V xs)) := by
  simp only [bignat_clone.f]
  refine Ev.bind (trim_ev hu hl) ?_
  have := D_big hu hl
  unfold Big at this
  refine now fun k => ?_
  by_cases h : D (V xs) = []
  · rw [h]; rfl
  · have h0 : (D (V xs)).length ≠ 0 := fun e => h (List.eq_nil_of_length_eq_zero e)
    rw [if_neg (by omega), if_pos (by simp; omega)]; simp
theorem normalize_ev {xs : List Int} (hu : U xs) (hl : Big xs) : Ev (fun k => bignat_Normalize.f k xs) (D (V xs)) := by
  simp only [bignat_Normalize.f]
  exact Ev.bind (clone_ev hu hl) (now fun _ => rfl)
theorem norm_l {xs : List Int} (hu : U xs) (hl : Big xs) : ∀ n : Nat, n ≤ xs.length → (∀ i, n ≤ i → i < xs.length → xs.getD i 0 = 0) → Ev (fun k => credenceref1_NatNorm.l0 k xs n) (D (V xs)) := by
  unfold Big at hl
  intro n
  induction n with
  | zero =>
    intro hn hz
    refine suc (now fun k => ?_)
    simp (disch := omega) only [credenceref1_NatNorm.l0, if_pos, if_neg, Option.bind_some]
    rw [if_pos (by simp)]
    rw [← D_take hu 0 hn hz (.inl rfl)]; simp
  | succ n ih =>
    intro hn hz
    refine suc ?_
    have e : ((n + 1 : Nat) : Int) - 1 = n := by omega
    by_cases hx : xs.getD n 0 = 0
    · have := ih (by omega) (fun i h1 h2 => by
        by_cases e : i = n
        · rw [e]; exact hx
        · exact hz i (by omega) h2)
      simp (disch := omega) only [credenceref1_NatNorm.l0, if_pos, if_neg, e, w64, rd_nat, hx, reduceIte]
      exact this
    · refine now fun k => ?_
      simp (disch := omega) only [credenceref1_NatNorm.l0, if_pos, if_neg, e, w64, rd_nat, hx, Option.bind_some, reduceIte]
      rw [if_pos (by simp; omega)]
      rw [← D_take hu (n + 1) hn hz (.inr hx)]; rfl
theorem norm_ev {xs : List Int} (hu : U xs) (hl : Big xs) : Ev (fun k => credenceref1_NatNorm.f k xs) (D (V xs)) := by
  simp only [credenceref1_NatNorm.f]
  exact norm_l hu hl xs.length (Nat.le_refl _) (fun i h1 h2 => by omega)

theorem U_digits {n : Int} : U [n % 4294967296, n / 4294967296 % 4294967296] := U_cons.2 ⟨by omega, U_cons.2 ⟨by omega, U_nil⟩⟩
theorem D_two {n : Int} (h0 : 0 ≤ n) (h1 : n < 18446744073709551616) : V [n % 4294967296, n / 4294967296 % 4294967296] = n := by
  simp only [V_cons, V_nil]; omega
theorem natOf_ev {n : Int} (h0 : 0 ≤ n) (h1 : n < 18446744073709551616) : Ev (fun k => credenceref1_NatOf.f k n) (D n) := by
  simp only [credenceref1_NatOf.f]
  refine Ev.bind (norm_ev U_digits (by unfold Big; simp)) (now fun _ => ?_)
  rw [D_two h0 h1]
theorem from_eq {n : Int} (h0 : 0 ≤ n) (h1 : n < 18446744073709551616) : bignat_FromUint64.f n = some (D n) := by
  simp only [bignat_FromUint64.f]
  by_cases e : n = 0
  · subst e; rw [if_pos rfl, D_zero]
  · rw [if_neg e, D_pos (by omega)]
    by_cases e2 : n / 4294967296 = 0
    · rw [if_pos e2, e2, D_zero]
    · rw [if_neg e2, D_pos (by omega), D_neg (by omega)]

/-- -1, 0 or 1. -/
def cmpI (x y : Int) : Int := if x < y then -1 else if y < x then 1 else 0
theorem V_top {xs ys : List Int} (hx : U xs) (hy : U ys) (hl : xs.length = ys.length) (i : Nat) (hi : i < xs.length) (hd : xs.drop (i + 1) = ys.drop (i + 1)) (h : xs.getD i 0 < ys.getD i 0) : V xs < V ys := by
  rw [V_split xs (i + 1) (by omega), V_split ys (i + 1) (by omega), V_take_succ hi, V_take_succ (by omega), hd]
  have h1 := V_lt (U_take hx i)
  rw [List.length_take, Nat.min_eq_left (by omega)] at h1
  have h2 := V_nonneg (U_take hy i)
  have hp := pow_pos i
  have : (4294967296 : Int) ^ i * xs.getD i 0 + 4294967296 ^ i * 1 ≤ 4294967296 ^ i * ys.getD i 0 := by
    rw [← Int.mul_add]
    exact Int.mul_le_mul_of_nonneg_left (by omega) (by omega)
  rw [Int.mul_one] at this
  have key : ∀ a b c p q t : Int, a < p → 0 ≤ b → c + p ≤ q → a + c + t < b + q + t := fun _ _ _ _ _ _ _ _ _ => by omega
  exact key _ _ _ _ _ _ h1 h2 this
theorem cmpI_lt {x y : Int} (h : x < y) : cmpI x y = -1 := if_pos h
theorem cmpI_gt {x y : Int} (h : y < x) : cmpI x y = 1 := by unfold cmpI; rw [if_neg (by omega), if_pos h]
theorem cmpI_eq {x y : Int} (h : x = y) : cmpI x y = 0 := by unfold cmpI; rw [if_neg (by omega), if_neg (by omega)]
theorem D_mono {n m : Int} (hm : 0 ≤ m) (h : (D n).length < (D m).length) : n < m := by
  by_cases hle : n < m
  · exact hle
  · exfalso
    by_cases h0 : 0 < n
    · have h1 := (D_len h0).2
      by_cases h2 : 0 < m
      · have h3 := D_len_le (n := m) (k := (D n).length) (by omega)
        omega
      · rw [D_neg h2] at h; simp at h
    · rw [D_neg h0, D_neg (n := m) (by omega)] at h; simp at h
theorem cmp_l {xs ys : List Int} (hx : U xs) (hy : U ys) (hs : Big xs) (hl : xs.length = ys.length) : ∀ n : Nat, n ≤ xs.length → xs.drop n = ys.drop n → Ev (fun k => bignat_Cmp.l0 k xs ys ((n : Int) - 1)) (cmpI (V xs) (V ys)) := by
  unfold Big at hs
  intro n
  induction n with
  | zero =>
    intro hn hd
    rw [List.drop_zero, List.drop_zero] at hd
    subst hd
    refine suc (now fun k => ?_)
    simp (disch := omega) only [bignat_Cmp.l0, if_neg, cmpI_eq]
  | succ n ih =>
    intro hn hd
    refine suc ?_
    have e : ((n + 1 : Nat) : Int) - 1 = n := by omega
    rcases Int.lt_trichotomy (xs.getD n 0) (ys.getD n 0) with h | h | h
    · refine now fun k => ?_
      simp (disch := omega) only [bignat_Cmp.l0, if_pos, if_neg, e, rd_nat]
      rw [cmpI_lt (V_top hx hy hl n (by omega) hd h)]
    · have := ih (by omega) (by
        rw [List.drop_eq_getElem_cons (show n < xs.length by omega), List.drop_eq_getElem_cons (show n < ys.length by omega), hd]
        congr 1
        rw [List.getD_eq_getElem?_getD, List.getD_eq_getElem?_getD, List.getElem?_eq_getElem (show n < xs.length by omega), List.getElem?_eq_getElem (show n < ys.length by omega)] at h
        exact h)
      simp (disch := omega) only [bignat_Cmp.l0, if_pos, if_neg, e, rd_nat, h, w64]
      exact this
    · refine now fun k => ?_
      simp (disch := omega) only [bignat_Cmp.l0, if_pos, if_neg, e, rd_nat]
      rw [cmpI_gt (V_top hy hx hl.symm n (by omega) hd.symm h)]
theorem cmp_ev {xs ys : List Int} (hx : U xs) (hy : U ys) (sx : Big xs) (sy : Big ys) : Ev (fun k => bignat_Cmp.f k xs ys) (cmpI (V xs) (V ys)) := by
  simp only [bignat_Cmp.f]
  refine Ev.bind (trim_ev hx sx) (Ev.bind (trim_ev hy sy) ?_)
  have h1 := V_nonneg hx
  have h2 := V_nonneg hy
  have hs := D_big hx sx
  by_cases ha : (D (V xs)).length < (D (V ys)).length
  · refine now fun k => ?_
    rw [if_pos (by omega), cmpI_lt (D_mono h2 ha)]
  · by_cases hb : (D (V ys)).length < (D (V xs)).length
    · refine now fun k => ?_
      rw [if_neg (by omega), if_pos (by omega), cmpI_gt (D_mono h1 hb)]
    · have := cmp_l (D_U (V xs)) (D_U (V ys)) hs (by omega) (D (V xs)).length (Nat.le_refl _) (by rw [List.drop_length, List.drop_of_length_le (by omega)])
      rw [V_D _ h1, V_D _ h2] at this
      unfold Big at hs
      simp (disch := omega) only [if_neg, w64]
      exact this
theorem ncmp_l {xs ys : List Int} (hx : U xs) (hy : U ys) (hs : Big xs) (hl : xs.length = ys.length) : ∀ n : Nat, n ≤ xs.length → xs.drop n = ys.drop n → Ev (fun k => credenceref1_NatCmp.l0 k xs ys ((n : Int) - 1)) (cmpI (V xs) (V ys)) := by
  unfold Big at hs
  intro n
  induction n with
  | zero =>
    intro hn hd
    rw [List.drop_zero, List.drop_zero] at hd
    subst hd
    refine suc (now fun k => ?_)
    simp (disch := omega) only [credenceref1_NatCmp.l0, if_neg, cmpI_eq]
  | succ n ih =>
    intro hn hd
    refine suc ?_
    have e : ((n + 1 : Nat) : Int) - 1 = n := by omega
    rcases Int.lt_trichotomy (xs.getD n 0) (ys.getD n 0) with h | h | h
    · refine now fun k => ?_
      simp (disch := omega) only [credenceref1_NatCmp.l0, if_pos, if_neg, e, rd_nat]
      rw [cmpI_lt (V_top hx hy hl n (by omega) hd h)]
    · have := ih (by omega) (by
        rw [List.drop_eq_getElem_cons (show n < xs.length by omega), List.drop_eq_getElem_cons (show n < ys.length by omega), hd]
        congr 1
        rw [List.getD_eq_getElem?_getD, List.getD_eq_getElem?_getD, List.getElem?_eq_getElem (show n < xs.length by omega), List.getElem?_eq_getElem (show n < ys.length by omega)] at h
        exact h)
      simp (disch := omega) only [credenceref1_NatCmp.l0, if_pos, if_neg, e, rd_nat, h, w64]
      exact this
    · refine now fun k => ?_
      simp (disch := omega) only [credenceref1_NatCmp.l0, if_pos, if_neg, e, rd_nat]
      rw [cmpI_gt (V_top hy hx hl.symm n (by omega) hd.symm h)]
theorem ncmp_ev {xs ys : List Int} (hx : U xs) (hy : U ys) (sx : Big xs) (sy : Big ys) : Ev (fun k => credenceref1_NatCmp.f k xs ys) (cmpI (V xs) (V ys)) := by
  simp only [credenceref1_NatCmp.f]
  refine Ev.bind (norm_ev hx sx) (Ev.bind (norm_ev hy sy) ?_)
  have h1 := V_nonneg hx
  have h2 := V_nonneg hy
  have hs := D_big hx sx
  by_cases hb : (D (V xs)).length = (D (V ys)).length
  · have := ncmp_l (D_U (V xs)) (D_U (V ys)) hs (by omega) (D (V xs)).length (Nat.le_refl _) (by rw [List.drop_length, List.drop_of_length_le (by omega)])
    rw [V_D _ h1, V_D _ h2] at this
    unfold Big at hs
    simp (disch := omega) only [if_pos, w64]
    exact this
  · by_cases ha : (D (V xs)).length < (D (V ys)).length
    · refine now fun k => ?_
      rw [if_neg (by omega), if_pos (by omega), cmpI_lt (D_mono h2 ha)]
    · refine now fun k => ?_
      rw [if_neg (by omega), if_neg (by omega), cmpI_gt (D_mono h1 (by omega))]
end Go.Proofs.YtoeldfopjalpkaaDoor.Spec
set_option linter.unusedSimpArgs false
set_option linter.unusedVariables false
namespace Go.Proofs.YtoeldfopjalpkaaDoor.Spec
open Go.RowKit Go.Proofs.YtoeldfopjalpkaaDoorW.PrintWords Go.Proofs.YtoeldfopjalpkaaDoorW.PrintLast Go.Proofs.YtoeldfopjalpkaaDoorW.PrintMore Go.Proofs.YtoeldfopjalpkaaDoor.Q Go.Proofs.YtoeldfopjalpkaaDoor.Nums

theorem V_take_set {xs : List Int} {i : Nat} (h : i < xs.length) (v : Int) : V ((xs.set i v).take (i + 1)) = V (xs.take i) + 4294967296 ^ i * v := by
  rw [V_take_succ (by simpa using h), List.take_set_of_le (Nat.le_refl _)]
  congr 2
  rw [List.getD_eq_getElem?_getD, List.getElem?_set_self h]
  rfl
theorem carry_step (p s : Int) : p * (s % 4294967296) + 4294967296 * p * (s / 4294967296) = p * s := by
  conv => rhs; rw [← Int.emod_add_mul_ediv s 4294967296]
  rw [Int.mul_add, ← Int.mul_assoc, Int.mul_comm p 4294967296]
/-- The digit i of a list, 0 behind its end, and the value of what is in front of it. -/
theorem V_take_next (xs : List Int) (i : Nat) : V (xs.take (i + 1)) = V (xs.take i) + 4294967296 ^ i * xs.getD i 0 := by
  by_cases h : i < xs.length
  · exact V_take_succ h
  · rw [List.take_of_length_le (by omega), List.take_of_length_le (by omega), List.getD_eq_getElem?_getD, List.getElem?_eq_none (by omega)]
    simp
theorem getD_out {xs : List Int} {i : Nat} (h : xs.length ≤ i) : xs.getD i 0 = 0 := by
  rw [List.getD_eq_getElem?_getD, List.getElem?_eq_none h]; rfl
/-- One step of a sum with carry. -/
theorem add_step {a b o : List Int} {i : Nat} {c s : Int} (hi : i < o.length) (hs : s = c + a.getD i 0 + b.getD i 0) (h : V (o.take i) + 4294967296 ^ i * c = V (a.take i) + V (b.take i)) :
    V ((o.set i (s % 4294967296)).take (i + 1)) + 4294967296 ^ (i + 1) * (s / 4294967296) = V (a.take (i + 1)) + V (b.take (i + 1)) := by
  rw [V_take_set hi, V_take_next a, V_take_next b, pow_succ']
  have := carry_step (4294967296 ^ i) s
  rw [hs, Int.mul_add, Int.mul_add] at this
  rw [hs]
  omega
theorem add_l {a b : List Int} (ha : U a) (hb : U b) (sa : Small a) (hl : b.length ≤ a.length) : ∀ (n i : Nat) (o : List Int) (c : Int), i + n = a.length → o.length = a.length + 1 → U o → 0 ≤ c → c ≤ 1 →
    V (o.take i) + 4294967296 ^ i * c = V (a.take i) + V (b.take i) → Ev (fun k => bignat_Add.l0 k a b o c a.length i) (D (V a + V b)) := by
  unfold Small at sa
  intro n
  induction n with
  | zero =>
    intro i o c hi ho uo c0 c1 h
    obtain rfl : i = a.length := by omega
    refine suc ?_
    simp (disch := omega) only [bignat_Add.l0, if_neg, if_pos, Int.toNat_natCast]
    have e : c % 4294967296 = c := by omega
    rw [e]
    have uo' := U_set uo a.length c0 (by omega)
    have so' : Big (o.set a.length c) := by unfold Big; rw [List.length_set]; omega
    have hv : V (o.set a.length c) = V a + V b := by
      have h2 := V_take_set (xs := o) (i := a.length) (by omega) c
      rw [List.take_of_length_le (show (o.set a.length c).length ≤ a.length + 1 by rw [List.length_set]; omega)] at h2
      rw [h2, h, List.take_of_length_le (Nat.le_refl _), List.take_of_length_le hl]
    rw [← hv]
    exact Ev.bind (trim_ev uo' so') (now fun _ => rfl)
  | succ n ih =>
    intro i o c hi ho uo c0 c1 h
    have da := U_getD ha i
    have db := U_getD hb i
    refine suc ?_
    by_cases hb2 : i < b.length
    · simp (disch := omega) only [bignat_Add.l0, if_neg, if_pos, Int.toNat_natCast, rd_nat, u64w, w64]
      refine ih (i + 1) _ _ (by omega) (by rw [List.length_set]; exact ho) (U_set uo i (by omega) (by omega)) (by omega) (by omega) ?_
      exact add_step (by omega) rfl h
    · have hz := getD_out (xs := b) (i := i) (by omega)
      simp (disch := omega) only [bignat_Add.l0, if_neg, if_pos, Int.toNat_natCast, rd_nat, u64w, w64]
      refine ih (i + 1) _ _ (by omega) (by rw [List.length_set]; exact ho) (U_set uo i (by omega) (by omega)) (by omega) (by omega) ?_
      exact add_step (by omega) (by omega) h
theorem add_j {a b : List Int} (ha : U a) (hb : U b) (sa : Small a) (hl : b.length ≤ a.length) : Ev (fun k => bignat_Add.j0 k a b) (D (V a + V b)) := by
  refine suc ?_
  have hs := sa
  unfold Small at hs
  have e : ((a.length : Int) + 1).toNat = a.length + 1 := by omega
  simp (disch := omega) only [bignat_Add.j0, if_pos, w64, e]
  exact add_l ha hb sa hl a.length 0 _ 0 (by omega) (by simp) (U_replicate _) (by omega) (by omega) (by simp [V])
theorem add_ev {a b : List Int} (ha : U a) (hb : U b) (sa : Small a) (sb : Small b) : Ev (fun k => bignat_Add.f k a b) (D (V a + V b)) := by
  simp only [bignat_Add.f]
  refine Ev.bind (trim_ev ha sa.big) (Ev.bind (trim_ev hb sb.big) ?_)
  have h1 := V_nonneg ha
  have h2 := V_nonneg hb
  by_cases h : (D (V a)).length < (D (V b)).length
  · simp (disch := omega) only [if_pos]
    have := add_j (D_U (V b)) (D_U (V a)) (D_small hb sb) (by omega)
    rwa [V_D _ h1, V_D _ h2, Int.add_comm] at this
  · simp (disch := omega) only [if_neg]
    have := add_j (D_U (V a)) (D_U (V b)) (D_small ha sa) (by omega)
    rwa [V_D _ h1, V_D _ h2] at this

theorem add_step' {a b o : List Int} {i : Nat} {c s : Int} (hi : o.length = i) (hs : s = c + a.getD i 0 + b.getD i 0) (h : V o + 4294967296 ^ i * c = V (a.take i) + V (b.take i)) :
    V (o ++ [s % 4294967296]) + 4294967296 ^ (i + 1) * (s / 4294967296) = V (a.take (i + 1)) + V (b.take (i + 1)) := by
  rw [V_append, V_cons, V_nil, V_take_next a, V_take_next b, pow_succ', hi, Int.mul_zero, Int.add_zero]
  have := carry_step (4294967296 ^ i) s
  rw [hs, Int.mul_add, Int.mul_add] at this
  rw [hs]
  omega
theorem U_snoc {o : List Int} {v : Int} (h : U o) (h0 : 0 ≤ v) (h1 : v < 4294967296) : U (o ++ [v]) := U_append.2 ⟨h, U_cons.2 ⟨⟨h0, h1⟩, U_nil⟩⟩
theorem nadd_l {a b : List Int} (ha : U a) (hb : U b) (sa : Small a) (sb : Small b) : ∀ (n i : Nat) (o : List Int) (c : Int), i + n = max a.length b.length → o.length = i → U o → 0 ≤ c → c ≤ 1 →
    V o + 4294967296 ^ i * c = V (a.take i) + V (b.take i) → Ev (fun k => credenceref1_NatAdd.l0 k a b o c i) (D (V a + V b)) := by
  unfold Small at sa sb
  intro n
  induction n with
  | zero =>
    intro i o c hi ho uo c0 c1 h
    refine suc (suc ?_)
    have e : c % 4294967296 = c := by omega
    simp (disch := omega) only [credenceref1_NatAdd.l0, if_neg, decide_eq_false, credenceref1_NatAdd.j1, if_pos, e]
    simp only [Bool.false_eq_true, if_false]
    rw [List.take_of_length_le (by omega), List.take_of_length_le (by omega)] at h
    rw [← h, show V o + 4294967296 ^ i * c = V (o ++ [c]) from by rw [V_append, V_cons, V_nil, ho, Int.mul_zero, Int.add_zero]]
    exact Ev.bind (norm_ev (U_snoc uo c0 (by omega)) (by unfold Big; simp; omega)) (now fun _ => rfl)
  | succ n ih =>
    intro i o c hi ho uo c0 c1 h
    have da := U_getD ha i
    have db := U_getD hb i
    refine suc (suc ?_)
    by_cases ha2 : i < a.length
    · by_cases hb2 : i < b.length
      · simp (disch := omega) only [credenceref1_NatAdd.l0, if_neg, decide_eq_false, credenceref1_NatAdd.j1, if_pos, rd_nat, u64w, w64]
        refine ih (i + 1) _ _ (by omega) (by simp; omega) (U_snoc uo (by omega) (by omega)) (by omega) (by omega) ?_
        exact add_step' ho rfl h
      · have hz := getD_out (xs := b) (i := i) (by omega)
        simp (disch := omega) only [credenceref1_NatAdd.l0, if_neg, decide_eq_false, credenceref1_NatAdd.j1, if_pos, rd_nat, u64w, w64]
        refine ih (i + 1) _ _ (by omega) (by simp; omega) (U_snoc uo (by omega) (by omega)) (by omega) (by omega) ?_
        exact add_step' ho (by omega) h
    · have hz := getD_out (xs := a) (i := i) (by omega)
      have hd : decide ((i : Int) < (b.length : Int)) = true := decide_eq_true (show (i : Int) < (b.length : Int) by omega)
      simp (disch := omega) only [credenceref1_NatAdd.l0, if_neg, hd, credenceref1_NatAdd.j1, if_pos, rd_nat, u64w, w64]
      refine ih (i + 1) _ _ (by omega) (by simp; omega) (U_snoc uo (by omega) (by omega)) (by omega) (by omega) ?_
      exact add_step' ho (by omega) h
theorem nadd_ev {a b : List Int} (ha : U a) (hb : U b) (sa : Small a) (sb : Small b) : Ev (fun k => credenceref1_NatAdd.f k a b) (D (V a + V b)) := by
  simp only [credenceref1_NatAdd.f]
  exact nadd_l ha hb sa sb (max a.length b.length) 0 [] 0 (by omega) rfl U_nil (by omega) (by omega) (by simp [V])
end Go.Proofs.YtoeldfopjalpkaaDoor.Spec
set_option linter.unusedSimpArgs false
set_option linter.unusedVariables false
namespace Go.Proofs.YtoeldfopjalpkaaDoor.Spec
open Go.RowKit Go.Proofs.YtoeldfopjalpkaaDoorW.PrintWords Go.Proofs.YtoeldfopjalpkaaDoorW.PrintLast Go.Proofs.YtoeldfopjalpkaaDoorW.PrintMore Go.Proofs.YtoeldfopjalpkaaDoor.Q Go.Proofs.YtoeldfopjalpkaaDoor.Nums

theorem cmpI_ge {x y : Int} (h : ¬ x < y) : ¬ cmpI x y < 0 := by unfold cmpI; rw [if_neg h]; split <;> omega
theorem sub_step {a b o : List Int} {i : Nat} {c v w : Int} (hi : i < o.length) (hs : v = a.getD i 0 - c - b.getD i 0 + 4294967296 * w) (h : V (o.take i) - 4294967296 ^ i * c = V (a.take i) - V (b.take i)) :
    V ((o.set i v).take (i + 1)) - 4294967296 ^ (i + 1) * w = V (a.take (i + 1)) - V (b.take (i + 1)) := by
  rw [V_take_set hi, V_take_next a, V_take_next b, pow_succ', hs, Int.mul_add, Int.mul_sub, Int.mul_sub, ← Int.mul_assoc, Int.mul_comm (4294967296 ^ i) 4294967296]
  omega
/-- At the end no borrow is left. -/
theorem sub_end {a b o : List Int} {c : Int} (hu : U o) (hl : o.length = a.length) (h0 : V b ≤ V a) (c0 : 0 ≤ c) (c1 : c ≤ 1) (h : V o - 4294967296 ^ a.length * c = V a - V b) : V o = V a - V b := by
  have h1 := V_lt hu
  rw [hl] at h1
  by_cases e : c = 0
  · subst e
    rw [Int.mul_zero] at h
    omega
  · have : c = 1 := by omega
    subst this
    rw [Int.mul_one] at h
    omega
theorem sub_l {a b : List Int} (ha : U a) (hb : U b) (sa : Small a) (hl : b.length ≤ a.length) (hle : V b ≤ V a) : ∀ (n i : Nat) (o : List Int) (c : Int), i + n = a.length → o.length = a.length → U o → 0 ≤ c → c ≤ 1 →
    V (o.take i) - 4294967296 ^ i * c = V (a.take i) - V (b.take i) → Ev (fun k => bignat_Sub.l0 k a b o c a.length i) (D (V a - V b), true) := by
  have sb := sa.big
  unfold Small at sa
  intro n
  induction n with
  | zero =>
    intro i o c hi ho uo c0 c1 h
    obtain rfl : i = a.length := by omega
    refine suc ?_
    simp (disch := omega) only [bignat_Sub.l0, if_neg, if_pos]
    rw [List.take_of_length_le (by omega), List.take_of_length_le (Nat.le_refl _), List.take_of_length_le hl] at h
    rw [← sub_end uo ho hle c0 c1 h]
    exact Ev.bind (trim_ev uo (by unfold Big at *; omega)) (now fun _ => rfl)
  | succ n ih =>
    intro i o c hi ho uo c0 c1 h
    have da := U_getD ha i
    have db := U_getD hb i
    refine suc ?_
    by_cases hb2 : i < b.length
    · simp (disch := omega) only [bignat_Sub.l0, if_neg, if_pos, Int.toNat_natCast, rd_nat, w64, IntKind.wrap_u64]
      refine ih (i + 1) _ _ (by omega) (by rw [List.length_set]; exact ho) (U_set uo i (by omega) (by omega)) (by omega) (by omega) ?_
      exact sub_step (by omega) (by omega) h
    · have hz := getD_out (xs := b) (i := i) (by omega)
      simp (disch := omega) only [bignat_Sub.l0, if_neg, if_pos, Int.toNat_natCast, rd_nat, w64, IntKind.wrap_u64]
      refine ih (i + 1) _ _ (by omega) (by rw [List.length_set]; exact ho) (U_set uo i (by omega) (by omega)) (by omega) (by omega) ?_
      exact sub_step (by omega) (by omega) h
theorem D_len_mono {n m : Int} (h0 : 0 ≤ n) (h : n ≤ m) : (D n).length ≤ (D m).length := by
  by_cases hl : (D m).length < (D n).length
  · have := D_mono h0 hl
    omega
  · omega
/-- The difference, or none. -/
def subO (x y : Int) : List Int × Bool := if x < y then ([], false) else (D (x - y), true)
theorem sub_ev {a b : List Int} (ha : U a) (hb : U b) (sa : Small a) (sb : Small b) : Ev (fun k => bignat_Sub.f k a b) (subO (V a) (V b)) := by
  simp only [bignat_Sub.f]
  have ua := D_U (V a)
  have ub := D_U (V b)
  have s1 := D_small ha sa
  have s2 := D_small hb sb
  have h1 := V_nonneg ha
  have h2 := V_nonneg hb
  refine Ev.bind (trim_ev ha sa.big) (Ev.bind (trim_ev hb sb.big) (Ev.bind (cmp_ev ua ub s1.big s2.big) ?_))
  rw [V_D _ h1, V_D _ h2]
  unfold subO
  by_cases h : V a < V b
  · rw [cmpI_lt h, if_pos h]
    exact now fun _ => rfl
  · have hc := cmpI_ge h
    rw [if_neg h]
    have hs := s1
    unfold Small at hs
    simp (disch := omega) only [if_neg hc, if_pos, Int.toNat_natCast]
    have := sub_l ua ub s1 (D_len_mono h2 (by omega)) (by rw [V_D _ h1, V_D _ h2]; omega) (D (V a)).length 0 (List.replicate (D (V a)).length 0) 0 (by omega) (by simp) (U_replicate _) (by omega) (by omega) (by simp [V])
    rwa [V_D _ h1, V_D _ h2] at this

theorem getD_set {xs : List Int} {i j : Nat} (h : i ≠ j) (v : Int) : (xs.set i v).getD j 0 = xs.getD j 0 := by
  rw [List.getD_eq_getElem?_getD, List.getElem?_set_ne h, ← List.getD_eq_getElem?_getD]
theorem nsub_l {a b : List Int} (ha : U a) (hb : U b) (sa : Small a) (hl : b.length ≤ a.length) (hle : V b ≤ V a) : ∀ (n i : Nat) (o : List Int) (c : Int), i + n = a.length → o.length = a.length → U o → 0 ≤ c → c ≤ 1 → (∀ j, i ≤ j → o.getD j 0 = a.getD j 0) →
    V (o.take i) - 4294967296 ^ i * c = V (a.take i) - V (b.take i) → Ev (fun k => credenceref1_NatSub.l0 k o b c i) (D (V a - V b), true) := by
  have sb := sa.big
  unfold Small at sa
  intro n
  induction n with
  | zero =>
    intro i o c hi ho uo c0 c1 hr h
    obtain rfl : i = a.length := by omega
    refine suc ?_
    simp (disch := omega) only [credenceref1_NatSub.l0, if_neg, if_pos]
    rw [List.take_of_length_le (by omega), List.take_of_length_le (Nat.le_refl _), List.take_of_length_le hl] at h
    rw [← sub_end uo ho hle c0 c1 h]
    exact Ev.bind (norm_ev uo (by unfold Big at *; omega)) (now fun _ => rfl)
  | succ n ih =>
    intro i o c hi ho uo c0 c1 hr h
    have da := U_getD ha i
    have db := U_getD hb i
    have e := hr i (Nat.le_refl _)
    have hr' : ∀ v j, i + 1 ≤ j → (o.set i v).getD j 0 = a.getD j 0 := fun v j hj => by rw [getD_set (by omega), hr j (by omega)]
    refine suc ?_
    by_cases hb2 : i < b.length
    · by_cases ht : a.getD i 0 < c + b.getD i 0
      · simp (disch := omega) only [credenceref1_NatSub.l0, if_neg, if_pos, Int.toNat_natCast, rd_nat, w64, e, IntKind.wrap_u64]
        refine ih (i + 1) _ _ (by omega) (by rw [List.length_set]; exact ho) (U_set uo i (by omega) (by omega)) (by omega) (by omega) (hr' _) ?_
        exact sub_step (by omega) (by omega) h
      · simp (disch := omega) only [credenceref1_NatSub.l0, if_neg, if_pos, Int.toNat_natCast, rd_nat, w64, e, IntKind.wrap_u64]
        refine ih (i + 1) _ _ (by omega) (by rw [List.length_set]; exact ho) (U_set uo i (by omega) (by omega)) (by omega) (by omega) (hr' _) ?_
        exact sub_step (by omega) (by omega) h
    · have hz := getD_out (xs := b) (i := i) (by omega)
      by_cases ht : a.getD i 0 < c + b.getD i 0
      · simp (disch := omega) only [credenceref1_NatSub.l0, if_neg, if_pos, Int.toNat_natCast, rd_nat, w64, e, IntKind.wrap_u64]
        refine ih (i + 1) _ _ (by omega) (by rw [List.length_set]; exact ho) (U_set uo i (by omega) (by omega)) (by omega) (by omega) (hr' _) ?_
        exact sub_step (by omega) (by omega) h
      · simp (disch := omega) only [credenceref1_NatSub.l0, if_neg, if_pos, Int.toNat_natCast, rd_nat, w64, e, IntKind.wrap_u64]
        refine ih (i + 1) _ _ (by omega) (by rw [List.length_set]; exact ho) (U_set uo i (by omega) (by omega)) (by omega) (by omega) (hr' _) ?_
        exact sub_step (by omega) (by omega) h
theorem nsub_ev {a b : List Int} (ha : U a) (hb : U b) (sa : Small a) (sb : Small b) : Ev (fun k => credenceref1_NatSub.f k a b) (subO (V a) (V b)) := by
  simp only [credenceref1_NatSub.f]
  have ua := D_U (V a)
  have ub := D_U (V b)
  have s1 := D_small ha sa
  have h1 := V_nonneg ha
  have h2 := V_nonneg hb
  refine Ev.bind (ncmp_ev ha hb sa.big sb.big) ?_
  unfold subO
  by_cases h : V a < V b
  · rw [cmpI_lt h, if_pos h]
    exact now fun _ => rfl
  · have hc := cmpI_ge h
    rw [if_neg h]
    simp only [if_neg hc]
    refine Ev.bind (norm_ev ha sa.big) (Ev.bind (norm_ev hb sb.big) ?_)
    have := nsub_l ua ub s1 (D_len_mono h2 (by omega)) (by rw [V_D _ h1, V_D _ h2]; omega) (D (V a)).length 0 (D (V a)) 0 (by omega) rfl ua (by omega) (by omega) (fun _ _ => rfl) (by simp [V])
    rwa [V_D _ h1, V_D _ h2] at this

theorem mul_bound {x y : Int} (hx0 : 0 ≤ x) (hx : x < 4294967296) (hy0 : 0 ≤ y) (hy : y < 4294967296) : 0 ≤ x * y ∧ x * y ≤ 18446744065119617025 := by
  constructor
  · exact Int.mul_nonneg hx0 hy0
  · have : x * y ≤ 4294967295 * 4294967295 := Int.mul_le_mul (by omega) (by omega) hy0 (by omega)
    omega
theorem mul_step {o b : List Int} {i k : Nat} {c s x T : Int} (hi : i + k < o.length) (hs : s = c + o.getD (i + k) 0 + x * b.getD k 0) (h : V o + 4294967296 ^ (i + k) * c = T + 4294967296 ^ i * (x * V (b.take k))) :
    V (o.set (i + k) (s % 4294967296)) + 4294967296 ^ (i + (k + 1)) * (s / 4294967296) = T + 4294967296 ^ i * (x * V (b.take (k + 1))) := by
  rw [V_set hi, V_take_next b, ← Nat.add_assoc, pow_succ', Int.mul_sub]
  have := carry_step (4294967296 ^ (i + k)) s
  rw [hs, Int.mul_add, Int.mul_add] at this
  rw [hs]
  have e : (4294967296 : Int) ^ i * (x * (V (b.take k) + 4294967296 ^ k * b.getD k 0)) = 4294967296 ^ i * (x * V (b.take k)) + 4294967296 ^ (i + k) * (x * b.getD k 0) := by
    rw [Int.mul_add, Int.mul_add, Int.pow_add, Int.mul_assoc, ← Int.mul_assoc x, Int.mul_comm x (4294967296 ^ k), Int.mul_assoc]
  rw [e]
  omega
theorem mul_last {o b : List Int} {i : Nat} {c x T : Int} (hi : i + b.length < o.length) (hz : o.getD (i + b.length) 0 = 0) (h : V o + 4294967296 ^ (i + b.length) * c = T + 4294967296 ^ i * (x * V (b.take b.length))) : V (o.set (i + b.length) c) = T + 4294967296 ^ i * (x * V b) := by
  rw [List.take_of_length_le (Nat.le_refl _)] at h
  rw [V_set hi, hz, ← h, Int.sub_zero]
theorem getD_set_self {xs : List Int} {i : Nat} (h : i < xs.length) (v : Int) : (xs.set i v).getD i 0 = v := by
  rw [List.getD_eq_getElem?_getD, List.getElem?_set_self h]; rfl
theorem nmul_l1 {a b : List Int} (ha : U a) (hb : U b) (sa : Small a) (sb : Small b) (i : Nat) (hia : i < a.length) (T : Int) (R : List Int)
    (next : ∀ o : List Int, o.length = a.length + b.length → U o → (∀ j, i + 1 + b.length ≤ j → o.getD j 0 = 0) → V o = T + 4294967296 ^ i * (a.getD i 0 * V b) → Ev (fun k => credenceref1_NatMul.l0 k a b o ((i + 1 : Nat) : Int)) R) :
    ∀ (n k : Nat) (o : List Int) (c : Int), k + n = b.length → o.length = a.length + b.length → U o → (∀ j, i + b.length ≤ j → o.getD j 0 = 0) → 0 ≤ c → c < 4294967296 → V o + 4294967296 ^ (i + k) * c = T + 4294967296 ^ i * (a.getD i 0 * V (b.take k)) →
    Ev (fun q => credenceref1_NatMul.l1 q a b o i c k) R := by
  unfold Small at sa sb
  intro n
  induction n with
  | zero =>
    intro k o c hk ho uo hz c0 c1 h
    obtain rfl : k = b.length := by omega
    refine suc ?_
    have e : ((i : Int) + (b.length : Int)) = ((i + b.length : Nat) : Int) := by omega
    have ec : c % 4294967296 = c := by omega
    simp (disch := omega) only [credenceref1_NatMul.l1, if_neg, if_pos, w64, e, Int.toNat_natCast, ec]
    refine next _ (by rw [List.length_set]; exact ho) (U_set uo _ c0 c1) (fun j hj => ?_) (mul_last (by omega) (hz _ (Nat.le_refl _)) h)
    rw [getD_set (by omega)]
    exact hz j (by omega)
  | succ n ih =>
    intro k o c hk ho uo hz c0 c1 h
    have da := U_getD ha i
    have db := U_getD hb k
    have dO := U_getD uo (i + k)
    have hm := mul_bound da.1 da.2 db.1 db.2
    refine suc ?_
    have e : ((i : Int) + (k : Int)) = ((i + k : Nat) : Int) := by omega
    simp (disch := omega) only [credenceref1_NatMul.l1, if_neg, if_pos, w64, e, Int.toNat_natCast, rd_nat, u64w]
    refine ih (k + 1) _ _ (by omega) (by rw [List.length_set]; exact ho) (U_set uo _ (by omega) (by omega)) (fun j hj => ?_) (by omega) (by omega) ?_
    · rw [getD_set (by omega)]
      exact hz j hj
    · exact mul_step (by omega) rfl h
theorem nmul_l0 {a b : List Int} (ha : U a) (hb : U b) (sa : Small a) (sb : Small b) : ∀ (n i : Nat) (o : List Int), i + n = a.length → o.length = a.length + b.length → U o → (∀ j, i + b.length ≤ j → o.getD j 0 = 0) → V o = V (a.take i) * V b →
    Ev (fun k => credenceref1_NatMul.l0 k a b o i) (D (V a * V b)) := by
  intro n
  induction n with
  | zero =>
    intro i o hi ho uo hz h
    obtain rfl : i = a.length := by omega
    refine suc ?_
    simp (disch := omega) only [credenceref1_NatMul.l0, if_neg]
    rw [List.take_of_length_le (Nat.le_refl _)] at h
    rw [← h]
    exact Ev.bind (norm_ev uo (by unfold Small at sa sb; unfold Big; omega)) (now fun _ => rfl)
  | succ n ih =>
    intro i o hi ho uo hz h
    refine suc ?_
    simp (disch := omega) only [credenceref1_NatMul.l0, if_pos]
    refine nmul_l1 ha hb sa sb i (by omega) (V o) _ (fun o' ho' uo' hz' hv' => ?_) b.length 0 o 0 (by omega) ho uo hz (by omega) (by omega) (by simp [V])
    refine ih (i + 1) o' (by omega) ho' uo' hz' ?_
    rw [hv', h, V_take_next a, Int.add_mul, Int.mul_assoc]
theorem getD_replicate (n j : Nat) : (List.replicate n (0 : Int)).getD j 0 = 0 := by
  rw [List.getD_eq_getElem?_getD, List.getElem?_replicate]
  split <;> rfl
theorem nmul_ev {a b : List Int} (ha : U a) (hb : U b) (sa : Small a) (sb : Small b) : Ev (fun k => credenceref1_NatMul.f k a b) (D (V a * V b)) := by
  simp only [credenceref1_NatMul.f]
  have h1 := sa
  have h2 := sb
  unfold Small at h1 h2
  have e : ((a.length : Int) + (b.length : Int)) = ((a.length + b.length : Nat) : Int) := by omega
  simp (disch := omega) only [if_pos, w64, e, Int.toNat_natCast]
  exact nmul_l0 ha hb sa sb a.length 0 _ (by omega) (by simp) (U_replicate _) (fun j _ => getD_replicate _ j) (by rw [V_replicate]; simp [V])
end Go.Proofs.YtoeldfopjalpkaaDoor.Spec
set_option linter.unusedSimpArgs false
set_option linter.unusedVariables false
namespace Go.Proofs.YtoeldfopjalpkaaDoor.Spec
open Go.RowKit Go.Proofs.YtoeldfopjalpkaaDoorW.PrintWords Go.Proofs.YtoeldfopjalpkaaDoorW.PrintLast Go.Proofs.YtoeldfopjalpkaaDoorW.PrintMore Go.Proofs.YtoeldfopjalpkaaDoor.Q Go.Proofs.YtoeldfopjalpkaaDoor.Nums

theorem mul_l1 {a b : List Int} (ha : U a) (hb : U b) (sa : Small a) (sb : Small b) (i : Nat) (hia : i < a.length) (T : Int) (R : List Int)
    (next : ∀ o : List Int, o.length = a.length + b.length → U o → (∀ j, i + 1 + b.length ≤ j → o.getD j 0 = 0) → V o = T + 4294967296 ^ i * (a.getD i 0 * V b) → Ev (fun k => bignat_Mul.l0 k b o a a.length ((i + 1 : Nat) : Int)) R) :
    ∀ (n k : Nat) (o : List Int) (c : Int), k + n = b.length → o.length = a.length + b.length → U o → (∀ j, i + b.length ≤ j → o.getD j 0 = 0) → 0 ≤ c → c < 4294967296 → V o + 4294967296 ^ (i + k) * c = T + 4294967296 ^ i * (a.getD i 0 * V (b.take k)) →
    Ev (fun q => bignat_Mul.l1 q b o i (a.getD i 0) c a a.length i b b.length k) R := by
  unfold Small at sa sb
  intro n
  induction n with
  | zero =>
    intro k o c hk ho uo hz c0 c1 h
    obtain rfl : k = b.length := by omega
    refine suc ?_
    have e : ((i : Int) + (b.length : Int)) = ((i + b.length : Nat) : Int) := by omega
    have ec : c % 4294967296 = c := by omega
    simp (disch := omega) only [bignat_Mul.l1, if_neg, if_pos, w64, e, Int.toNat_natCast, ec]
    refine next _ (by rw [List.length_set]; exact ho) (U_set uo _ c0 c1) (fun j hj => ?_) (mul_last (by omega) (hz _ (Nat.le_refl _)) h)
    rw [getD_set (by omega)]
    exact hz j (by omega)
  | succ n ih =>
    intro k o c hk ho uo hz c0 c1 h
    have da := U_getD ha i
    have db := U_getD hb k
    have dd := U_getD uo (i + k)
    have hm := mul_bound da.1 da.2 db.1 db.2
    refine suc ?_
    have e : ((i : Int) + (k : Int)) = ((i + k : Nat) : Int) := by omega
    simp (disch := omega) only [bignat_Mul.l1, if_neg, if_pos, w64, e, Int.toNat_natCast, rd_nat, u64w]
    refine ih (k + 1) _ _ (by omega) (by rw [List.length_set]; exact ho) (U_set uo _ (by omega) (by omega)) (fun j hj => ?_) (by omega) (by omega) ?_
    · rw [getD_set (by omega)]
      exact hz j hj
    · exact mul_step (by omega) (by omega) h
theorem mul_l0 {a b : List Int} (ha : U a) (hb : U b) (sa : Small a) (sb : Small b) : ∀ (n i : Nat) (o : List Int), i + n = a.length → o.length = a.length + b.length → U o → (∀ j, i + b.length ≤ j → o.getD j 0 = 0) → V o = V (a.take i) * V b →
    Ev (fun k => bignat_Mul.l0 k b o a a.length i) (D (V a * V b)) := by
  intro n
  induction n with
  | zero =>
    intro i o hi ho uo hz h
    obtain rfl : i = a.length := by omega
    refine suc ?_
    simp (disch := omega) only [bignat_Mul.l0, if_neg]
    rw [List.take_of_length_le (Nat.le_refl _)] at h
    rw [← h]
    exact Ev.bind (trim_ev uo (by unfold Small at sa sb; unfold Big; omega)) (now fun _ => rfl)
  | succ n ih =>
    intro i o hi ho uo hz h
    refine suc ?_
    simp (disch := omega) only [bignat_Mul.l0, if_pos, rd_nat]
    refine mul_l1 ha hb sa sb i (by omega) (V o) _ (fun o' ho' uo' hz' hv' => ?_) b.length 0 o 0 (by omega) ho uo hz (by omega) (by omega) (by simp [V])
    refine ih (i + 1) o' (by omega) ho' uo' hz' ?_
    rw [hv', h, V_take_next a, Int.add_mul, Int.mul_assoc]
theorem mul_ev {a b : List Int} (ha : U a) (hb : U b) (sa : Small a) (sb : Small b) : Ev (fun k => bignat_Mul.f k a b) (D (V a * V b)) := by
  simp only [bignat_Mul.f]
  refine Ev.bind (trim_ev ha sa.big) (Ev.bind (trim_ev hb sb.big) ?_)
  have ua := D_U (V a)
  have ub := D_U (V b)
  have s1 := D_small ha sa
  have s2 := D_small hb sb
  have h1 := V_nonneg ha
  have h2 := V_nonneg hb
  by_cases ea : D (V a) = []
  · have : V a = 0 := (D_nil_iff h1).1 ea
    rw [this, D_zero, Int.zero_mul, D_zero]
    exact suc (now fun _ => rfl)
  · by_cases eb : D (V b) = []
    · have : V b = 0 := (D_nil_iff h2).1 eb
      rw [this, D_zero, Int.mul_zero, D_zero]
      refine suc (now fun k => ?_)
      have : (D (V a)).length ≠ 0 := fun e => ea (List.eq_nil_of_length_eq_zero e)
      rw [if_neg (by omega)]
      rfl
    · have n1 : (D (V a)).length ≠ 0 := fun e => ea (List.eq_nil_of_length_eq_zero e)
      have n2 : (D (V b)).length ≠ 0 := fun e => eb (List.eq_nil_of_length_eq_zero e)
      have e : (((D (V a)).length : Int) + ((D (V b)).length : Int)) = (((D (V a)).length + (D (V b)).length : Nat) : Int) := by omega
      have eq : (((D (V b)).length : Int) == 0) = false := by rw [beq_eq_false_iff_ne]; omega
      have := mul_l0 ua ub s1 s2 (D (V a)).length 0 (List.replicate ((D (V a)).length + (D (V b)).length) 0) (by omega) (by simp) (U_replicate _) (fun j _ => getD_replicate _ j) (by rw [V_replicate]; simp [V])
      rw [V_D _ h1, V_D _ h2] at this
      unfold Small at s1 s2
      refine suc ?_
      simp (disch := omega) only [if_neg, eq, bignat_Mul.j0, Bool.false_eq_true, if_false, if_pos, w64, e, Int.toNat_natCast]
      exact this

theorem wf_U {l : List Int} (h : ∀ x ∈ l, (Lit.int .u32 x).wf = true) : U l := by
  intro x hx
  have := h x hx
  simp [Lit.wf, IntKind.min, IntKind.max, IntKind.bits, IntKind.signed] at this
  omega
theorem nat_l {l : List Int} (hl : U l) : ∀ (n i : Nat) (o : List Int), i + n = 8 → o.length = i → U o → ∃ r, Ev (fun k => credencebase_Nat.l0 k l o i) r ∧ U r ∧ r.length ≤ 8 := by
  intro n
  induction n with
  | zero =>
    intro i o hi ho uo
    refine ⟨o, suc (suc ?_), uo, by omega⟩
    have hd : decide ((i : Int) < 8) = false := decide_eq_false (by omega)
    by_cases h : (i : Int) < l.length
    · simp (disch := omega) only [credencebase_Nat.l0, if_pos, hd, credencebase_Nat.j1]
      exact now fun _ => rfl
    · simp (disch := omega) only [credencebase_Nat.l0, if_neg, credencebase_Nat.j1]
      exact now fun _ => rfl
  | succ n ih =>
    intro i o hi ho uo
    have hd : decide ((i : Int) < 8) = true := decide_eq_true (by omega)
    have dl := U_getD hl i
    by_cases h : (i : Int) < l.length
    · by_cases h7 : Go.bits .and .u32 (l.getD i 0) 7 = 7
      · obtain ⟨r, hr, ur, lr⟩ := ih (i + 1) (o ++ [(4294967295 - (l.getD i 0 / 268435456)) % 4294967296]) (by omega) (by simp; omega) (U_snoc uo (by omega) (by omega))
        refine ⟨r, suc (suc ?_), ur, lr⟩
        simp (disch := omega) only [credencebase_Nat.l0, if_pos, hd, credencebase_Nat.j1, rd_nat, h7, w64]
        exact hr
      · obtain ⟨r, hr, ur, lr⟩ := ih (i + 1) (o ++ [l.getD i 0]) (by omega) (by simp; omega) (U_snoc uo (by omega) (by omega))
        refine ⟨r, suc (suc ?_), ur, lr⟩
        simp (disch := omega) only [credencebase_Nat.l0, if_pos, hd, credencebase_Nat.j1, rd_nat, if_neg h7, w64]
        exact hr
    · refine ⟨o, suc (suc ?_), uo, by omega⟩
      simp (disch := omega) only [credencebase_Nat.l0, if_neg, credencebase_Nat.j1]
      exact now fun _ => rfl
/-- What the laws build of a list: at most eight digits. -/
theorem nat_ev {l : List Int} (h : ∀ x ∈ l, (Lit.int .u32 x).wf = true) : ∃ r, Ev (fun k => credencebase_Nat.f k l) r ∧ U r ∧ r.length ≤ 8 := by
  simp only [credencebase_Nat.f]
  exact nat_l (wf_U h) 8 0 [] (by omega) rfl U_nil
theorem eight {r : List Int} (h : r.length ≤ 8) : Small r := Nat.le_trans h (by decide)

theorem natSame_l (xs : List Int) (hs : Big xs) : ∀ (n i : Nat), i + n = xs.length → Ev (fun k => credenceref1_NatSame.l0 k xs xs i) true := by
  unfold Big at hs
  intro n
  induction n with
  | zero =>
    intro i hi
    refine suc (now fun k => ?_)
    simp (disch := omega) only [credenceref1_NatSame.l0, if_neg]
  | succ n ih =>
    intro i hi
    refine suc ?_
    simp (disch := omega) only [credenceref1_NatSame.l0, if_pos, w64]
    exact ih (i + 1) (by omega)
theorem natSame_ev (xs : List Int) (hs : Big xs) : Ev (fun k => credenceref1_NatSame.f k xs xs) true := by
  simp only [credenceref1_NatSame.f, if_true]
  exact natSame_l xs hs xs.length 0 (by omega)
theorem D_len_of {n : Int} {k : Nat} (h : n < 4294967296 ^ k) (hk : k ≤ 1099511627776) : Small (D n) := Nat.le_trans (D_len_le h) hk
/-- Numbers of at most k digits. -/
def Lim (k : Nat) (n : Int) : Prop := 0 ≤ n ∧ n < 4294967296 ^ k
theorem pow_le {j k : Nat} (h : j ≤ k) : (4294967296 : Int) ^ j ≤ 4294967296 ^ k := by
  obtain ⟨m, rfl⟩ := Nat.exists_eq_add_of_le h
  rw [Int.pow_add]
  have := Int.mul_le_mul_of_nonneg_left (show (1 : Int) ≤ 4294967296 ^ m from pow_pos m) (Int.le_of_lt (pow_pos j))
  omega
theorem Lim.mono {j k : Nat} {n : Int} (h : Lim j n) (hk : j ≤ k) : Lim k n := ⟨h.1, Int.lt_of_lt_of_le h.2 (pow_le hk)⟩
theorem Lim.of_V {r : List Int} (h : U r) : Lim r.length (V r) := ⟨V_nonneg h, V_lt h⟩
theorem Lim.mul {j k : Nat} {x y : Int} (hx : Lim j x) (hy : Lim k y) : Lim (j + k) (x * y) := by
  refine ⟨Int.mul_nonneg hx.1 hy.1, ?_⟩
  rw [Int.pow_add]
  by_cases h0 : y = 0
  · rw [h0, Int.mul_zero]
    exact Int.mul_pos (pow_pos j) (pow_pos k)
  · exact Int.mul_lt_mul hx.2 (Int.le_of_lt hy.2) (by have := hy.1; omega) (Int.le_of_lt (pow_pos j))
theorem Lim.small {k : Nat} {n : Int} (h : Lim k n) (hk : k ≤ 1099511627776) : Small (D n) := D_len_of h.2 hk
theorem Lim.U {k : Nat} {n : Int} (_h : Lim k n) : U (D n) := D_U n
theorem Lim.V {k : Nat} {n : Int} (h : Lim k n) : V (D n) = n := V_D n h.1

theorem add_D {j k : Nat} {x y : Int} (hx : Lim j x) (hy : Lim k y) (hj : j ≤ 1099511627776) (hk : k ≤ 1099511627776) : Ev (fun q => bignat_Add.f q (D x) (D y)) (D (x + y)) := by
  have := add_ev hx.U hy.U (hx.small hj) (hy.small hk)
  rwa [hx.V, hy.V] at this
theorem mul_D {j k : Nat} {x y : Int} (hx : Lim j x) (hy : Lim k y) (hj : j ≤ 1099511627776) (hk : k ≤ 1099511627776) : Ev (fun q => bignat_Mul.f q (D x) (D y)) (D (x * y)) := by
  have := mul_ev hx.U hy.U (hx.small hj) (hy.small hk)
  rwa [hx.V, hy.V] at this
end Go.Proofs.YtoeldfopjalpkaaDoor.Spec
