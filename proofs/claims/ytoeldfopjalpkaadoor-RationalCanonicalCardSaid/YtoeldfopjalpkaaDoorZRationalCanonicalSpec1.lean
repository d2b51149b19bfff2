/- Lemmas for the proof of one law of this seat (Spec1). -/
import Derived.Test.YtoeldfopjalpkaaDoorZRationalCanonicalQx0
import Derived.Test.YtoeldfopjalpkaaDoorZRationalCanonicalQx1
import Derived.Test.YtoeldfopjalpkaaDoorZRationalCanonicalQx2
import Derived.Test.YtoeldfopjalpkaaDoorZRationalCanonicalQx3
import Derived.Test.YtoeldfopjalpkaaDoorZRationalCanonicalQx4
import Derived.Test.YtoeldfopjalpkaaDoorZRationalCanonicalQx5
import Derived.Test.YtoeldfopjalpkaaDoorZRationalCanonicalQx6
import Derived.Test.YtoeldfopjalpkaaDoorZRationalCanonicalQx7
import Derived.Test.YtoeldfopjalpkaaDoorZRationalCanonicalQx8
import Derived.Test.YtoeldfopjalpkaaDoorZRationalCanonicalQx9
import Derived.Test.YtoeldfopjalpkaaDoorZRationalCanonicalQx10
import Derived.Test.YtoeldfopjalpkaaDoorZRationalCanonicalQx11
import Derived.Test.YtoeldfopjalpkaaDoorZRationalCanonicalQx12
import Derived.Test.YtoeldfopjalpkaaDoorZRationalCanonicalQx13
import Derived.Test.YtoeldfopjalpkaaDoorZRationalCanonicalQx14
import Derived.Test.YtoeldfopjalpkaaDoorZRationalCanonicalQx15
import Derived.Test.YtoeldfopjalpkaaDoorZRationalCanonicalNums
import Derived.Laws.BitsLemmas
set_option linter.unusedSimpArgs false
set_option linter.unusedVariables false
namespace Go.Proofs.YtoeldfopjalpkaaDoor.Spec
open Go.RowKit Go.Proofs.YtoeldfopjalpkaaDoorW.PrintWords Go.Proofs.YtoeldfopjalpkaaDoorW.PrintLast Go.Proofs.YtoeldfopjalpkaaDoorW.PrintMore Go.Proofs.YtoeldfopjalpkaaDoor.Q Go.Proofs.YtoeldfopjalpkaaDoor.Nums

theorem suc {α : Type} {g : Nat → Option α} {r : α} (h : Ev (fun k => g (k + 1)) r) : Ev g r := Ev.step (fun _ => rfl) h
theorem now {α : Type} {g : Nat → Option α} {r : α} (h : ∀ k, g k = some r) : Ev g r := ⟨0, fun k _ => h k⟩
theorem w64 {n : Int} (h0 : -9223372036854775808 ≤ n) (h1 : n ≤ 9223372036854775807) : wrap64 n = n := by unfold wrap64; omega
theorem u64w {n : Int} (h0 : 0 ≤ n) (h1 : n < 18446744073709551616) : IntKind.u64.wrap n = n := by rw [IntKind.wrap_u64]; omega
theorem rd_nat (xs : List Int) (n : Nat) : rd xs (n : Int) = xs.getD n 0 := rfl

/-- A length that no law here passes; one that is smaller still. -/
def Big (xs : List Int) : Prop := xs.length ≤ 17592186044416
def Small (xs : List Int) : Prop := xs.length ≤ 1099511627776
theorem Small.big {xs : List Int} (h : Small xs) : Big xs := Nat.le_trans h (by decide)

theorem trim_l {xs : List Int} (hu : U xs) (hl : Big xs) : ∀ n : Nat, n ≤ xs.length → (∀ i, n ≤ i → i < xs.length → xs.getD i 0 = 0) → Ev (fun k => bignat_trim.l0 k xs n) (D (V xs)) := by
  unfold Big at hl
  intro n
  induction n with
  | zero =>
    intro hn hz
    refine suc (now fun k => ?_)
    simp (disch := omega) only [bignat_trim.l0, if_pos, if_neg]
    rw [← D_take hu 0 hn hz (.inl rfl)]; rfl
  | succ n ih =>
    intro hn hz
    refine suc ?_
    have e : ((n + 1 : Nat) : Int) - 1 = n := by omega
    by_cases hx : xs.getD n 0 = 0
    · have := ih (by omega) (fun i h1 h2 => by
        by_cases e : i = n
        · rw [e]; exact hx
        · exact hz i (by omega) h2)
      simp (disch := omega) only [bignat_trim.l0, if_pos, if_neg, e, w64, rd_nat, hx, reduceIte]
      exact this
    · refine now fun k => ?_
      simp (disch := omega) only [bignat_trim.l0, if_pos, if_neg, e, w64, rd_nat, hx, reduceIte]
      rw [← D_take hu (n + 1) hn hz (.inr hx)]; rfl
theorem trim_ev {xs : List Int} (hu : U xs) (hl : Big xs) : Ev (fun k => bignat_trim.f k xs) (D (V xs)) := by
  simp only [bignat_trim.f]
  exact trim_l hu hl xs.length (Nat.le_refl _) (fun i h1 h2 => by omega)
theorem D_short {xs : List Int} (hu : U xs) : (D (V xs)).length ≤ xs.length := D_len_le (V_lt hu)
theorem D_big {xs : List Int} (hu : U xs) (hl : Big xs) : Big (D (V xs)) := Nat.le_trans (D_short hu) hl
theorem D_small {xs : List Int} (hu : U xs) (hl : Small xs) : Small (D (V xs)) := Nat.le_trans (D_short hu) hl
theorem clone_ev {xs : List Int} (hu : U xs) (hl : Big xs) : Ev (fun k => bignat_clone.f k xs) (D (V xs)) := by
  simp only [bignat_clone.f]
  refine Ev.bind (trim_ev hu hl) ?_
  have := D_big hu hl
  unfold Big at this
  refine now fun k => ?_
  by_cases h : D (V xs) = []
  · rw [h]; rfl
  · have h0 : (D (V xs)).length ≠ 0 := fun e => h (List.eq_nil_of_length_eq_zero e)
    rw [if_neg (by omega), if_pos (by simp; omega)]; simp
theorem normalize_ev {xs : List Int} (hu : U xs) (hl : Big xs) : Ev (fun k => bignat_Normalize.f k xs) (D (V xs)) := by
  simp only [bignat_Normalize.f]
  exact Ev.bind (clone_ev hu hl) (now fun _ => rfl)
theorem from_eq {n : Int} (h0 : 0 ≤ n) (h1 : n < 18446744073709551616) : bignat_FromUint64.f n = some (D n) := by
  simp only [bignat_FromUint64.f]
  by_cases e : n = 0
  · subst e; rw [if_pos rfl, D_zero]
  · rw [if_neg e, D_pos (by omega)]
    by_cases e2 : n / 4294967296 = 0
    · rw [if_pos e2, e2, D_zero]
    · rw [if_neg e2, D_pos (by omega), D_neg (by omega)]

/-- -1, 0 or 1. -/
def cmpI (x y : Int) : Int := if x < y then -1 else if y < x then 1 else 0
theorem V_top {xs ys : List Int} (hx : U xs) (hy : U ys) (hl : xs.length = ys.length) (i : Nat) (hi : i < xs.length) (hd : xs.drop (i + 1) = ys.drop (i + 1)) (h : xs.getD i 0 < ys.getD i 0) : V xs < V ys := by
  rw [V_split xs (i + 1) (by omega), V_split ys (i + 1) (by omega), V_take_succ hi, V_take_succ (by omega), hd]
  have h1 := V_lt (U_take hx i)
  rw [List.length_take, Nat.min_eq_left (by omega)] at h1
  have h2 := V_nonneg (U_take hy i)
  have hp := pow_pos i
  have : (4294967296 : Int) ^ i * xs.getD i 0 + 4294967296 ^ i * 1 ≤ 4294967296 ^ i * ys.getD i 0 := by
    rw [← Int.mul_add]
    exact Int.mul_le_mul_of_nonneg_left (by omega) (by omega)
  rw [Int.mul_one] at this
  have key : ∀ a b c p q t : Int, a < p → 0 ≤ b → c + p ≤ q → a + c + t < b + q + t := fun _ _ _ _ _ _ _ _ _ => by omega
  exact key _ _ _ _ _ _ h1 h2 this
theorem cmpI_lt {x y : Int} (h : x < y) : cmpI x y = -1 := if_pos h
theorem cmpI_gt {x y : Int} (h : y < x) : cmpI x y = 1 := by unfold cmpI; rw [if_neg (by omega), if_pos h]
theorem cmpI_eq {x y : Int} (h : x = y) : cmpI x y = 0 := by unfold cmpI; rw [if_neg (by omega), if_neg (by omega)]
theorem D_mono {n m : Int} (hm : 0 ≤ m) (h : (D n).length < (D m).length) : n < m := by
  by_cases hle : n < m
  · exact hle
  · exfalso
    by_cases h0 : 0 < n
    · have h1 := (D_len h0).2
      by_cases h2 : 0 < m
      · have h3 := D_len_le (n := m) (k := (D n).length) (by omega)
        omega
      · rw [D_neg h2] at h; simp at h
    · rw [D_neg h0, D_neg (n := m) (by omega)] at h; simp at h
theorem cmp_l {xs ys : List Int} (hx : U xs) (hy : U ys) (hs : Big xs) (hl : xs.length = ys.length) : ∀ n : Nat, n ≤ xs.length → xs.drop n = ys.drop n → Ev (fun k => bignat_Cmp.l0 k xs ys ((n : Int) - 1)) (cmpI (V xs) (V ys)) := by
  unfold Big at hs
  intro n
  induction n with
  | zero =>
    intro hn hd
    rw [List.drop_zero, List.drop_zero] at hd
    subst hd
    refine suc (now fun k => ?_)
    simp (disch := omega) only [bignat_Cmp.l0, if_neg, cmpI_eq]
  | succ n ih =>
    intro hn hd
    refine suc ?_
    have e : ((n + 1 : Nat) : Int) - 1 = n := by omega
    rcases Int.lt_trichotomy (xs.getD n 0) (ys.getD n 0) with h | h | h
    · refine now fun k => ?_
      simp (disch := omega) only [bignat_Cmp.l0, if_pos, if_neg, e, rd_nat]
      rw [cmpI_lt (V_top hx hy hl n (by omega) hd h)]
    · have := ih (by omega) (by
        rw [List.drop_eq_getElem_cons (show n < xs.length by omega), List.drop_eq_getElem_cons (show n < ys.length by omega), hd]
        congr 1
        rw [List.getD_eq_getElem?_getD, List.getD_eq_getElem?_getD, List.getElem?_eq_getElem (show n < xs.length by omega), List.getElem?_eq_getElem (show n < ys.length by omega)] at h
        exact h)
      simp (disch := omega) only [bignat_Cmp.l0, if_pos, if_neg, e, rd_nat, h, w64]
      exact this
    · refine now fun k => ?_
      simp (disch := omega) only [bignat_Cmp.l0, if_pos, if_neg, e, rd_nat]
      rw [cmpI_gt (V_top hy hx hl.symm n (by omega) hd.symm h)]
theorem cmp_ev {xs ys : List Int} (hx : U xs) (hy : U ys) (sx : Big xs) (sy : Big ys) : Ev (fun k => bignat_Cmp.f k xs ys) (cmpI (V xs) (V ys)) := by
  simp only [bignat_Cmp.f]
  refine Ev.bind (trim_ev hx sx) (Ev.bind (trim_ev hy sy) ?_)
  have h1 := V_nonneg hx
  have h2 := V_nonneg hy
  have hs := D_big hx sx
  by_cases ha : (D (V xs)).length < (D (V ys)).length
  · refine now fun k => ?_
    rw [if_pos (by omega), cmpI_lt (D_mono h2 ha)]
  · by_cases hb : (D (V ys)).length < (D (V xs)).length
    · refine now fun k => ?_
      rw [if_neg (by omega), if_pos (by omega), cmpI_gt (D_mono h1 hb)]
    · have := cmp_l (D_U (V xs)) (D_U (V ys)) hs (by omega) (D (V xs)).length (Nat.le_refl _) (by rw [List.drop_length, List.drop_of_length_le (by omega)])
      rw [V_D _ h1, V_D _ h2] at this
      unfold Big at hs
      simp (disch := omega) only [if_neg, w64]
      exact this
end Go.Proofs.YtoeldfopjalpkaaDoor.Spec

