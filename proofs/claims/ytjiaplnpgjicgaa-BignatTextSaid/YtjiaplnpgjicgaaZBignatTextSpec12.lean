/- Lemmas for the proof of one law of this seat (Spec12). -/
import Derived.Test.YtjiaplnpgjicgaaZBignatTextSpec9
import Derived.Test.YtjiaplnpgjicgaaZBignatTextSpec11
set_option linter.unusedSimpArgs false
set_option linter.unusedVariables false
namespace Go.Proofs.Ytjiaplnpgjicgaa.Spec
open Go.RowKit Go.Proofs.YtjiaplnpgjicgaaW.PrintWords Go.Proofs.YtjiaplnpgjicgaaW.PrintLast Go.Proofs.YtjiaplnpgjicgaaW.PrintMore Go.Proofs.Ytjiaplnpgjicgaa.Q Go.Proofs.Ytjiaplnpgjicgaa.Nums

theorem sm_l {a : List Int} (ha : U a) (sa : Big a) (y : Int) (y0 : 0 < y) (y1 : y < 4294967296) : ∀ (i : Nat) (o : List Int) (c : Int), i ≤ a.length → o.length = a.length → U o → 0 ≤ c → c < y → V (a.drop i) = c + y * V (o.drop i) →
    Ev (fun k => credenceref1_small.l0 k a y o c ((i : Int) - 1)) (D (V a / y), V a % y) := by
  unfold Big at sa
  intro i
  induction i with
  | zero =>
    intro o c hi ho uo c0 c1 h
    rw [List.drop_zero, List.drop_zero] at h
    obtain ⟨h1, h2⟩ := quot_of h c0 c1
    rw [h1, h2]
    refine suc ?_
    simp (disch := omega) only [credenceref1_small.l0, if_neg]
    exact Ev.bind (norm_ev uo (by unfold Big; omega)) (now fun _ => rfl)
  | succ i ih =>
    intro o c hi ho uo c0 c1 h
    have da := U_getD ha i
    have e1 : (((i + 1 : Nat) : Int) - 1) = (i : Int) := by omega
    have hX0 : 0 ≤ c * 4294967296 + a.getD i 0 := by omega
    have hX1 : c * 4294967296 + a.getD i 0 < 4294967296 * y := by omega
    have hd : (c * 4294967296 + a.getD i 0) / y < 4294967296 := Int.ediv_lt_of_lt_mul y0 hX1
    have hd0 : 0 ≤ (c * 4294967296 + a.getD i 0) / y := Int.ediv_nonneg hX0 (by omega)
    have hdm := Int.emod_add_mul_ediv (c * 4294967296 + a.getD i 0) y
    have hm0 := Int.emod_nonneg (c * 4294967296 + a.getD i 0) (show y ≠ 0 by omega)
    have hm1 := Int.emod_lt_of_pos (c * 4294967296 + a.getD i 0) y0
    have etd : Int.tdiv (c * 4294967296 + a.getD i 0) y = (c * 4294967296 + a.getD i 0) / y := Int.tdiv_eq_ediv_of_nonneg hX0
    have etm : Int.tmod (c * 4294967296 + a.getD i 0) y = (c * 4294967296 + a.getD i 0) % y := Int.tmod_eq_emod_of_nonneg hX0
    have emm : (c * 4294967296 + a.getD i 0) / y % 4294967296 = (c * 4294967296 + a.getD i 0) / y := by omega
    refine suc ?_
    simp (disch := omega) only [credenceref1_small.l0, if_neg, if_pos, e1, rd_nat, u64w, etd, etm, Int.toNat_natCast, w64, emm]
    refine ih _ _ (by omega) (by rw [List.length_set]; exact ho) (U_set uo i hd0 hd) hm0 hm1 ?_
    rw [V_drop_step (show i < a.length by omega), V_drop_step (show i < (o.set i _).length by rw [List.length_set]; omega), getD_set_self (by omega), List.drop_set_of_lt (by omega), h,
      show y * ((c * 4294967296 + a.getD i 0) / y + 4294967296 * V (o.drop (i + 1))) = y * ((c * 4294967296 + a.getD i 0) / y) + y * (4294967296 * V (o.drop (i + 1))) from Int.mul_add _ _ _]
    have : y * (4294967296 * V (o.drop (i + 1))) = 4294967296 * (y * V (o.drop (i + 1))) := Int.mul_left_comm _ _ _
    omega
theorem small_ev {a : List Int} (ha : U a) (sa : Big a) {y : Int} (y0 : 0 < y) (y1 : y < 4294967296) : Ev (fun k => credenceref1_small.f k a y) (D (V a / y), V a % y) := by
  have hs := sa
  unfold Big at hs
  simp only [credenceref1_small.f]
  simp (disch := omega) only [if_pos, w64, Int.toNat_natCast]
  exact sm_l ha sa y y0 y1 a.length _ 0 (Nat.le_refl _) (by simp) (U_replicate _) (by omega) y0 (by rw [List.drop_of_length_le (Nat.le_refl _), List.drop_of_length_le (by simp), V_nil]; simp)

/-- The decimal digits as bytes, the last one first. -/
def rd10 (v : Int) : List Int := if h : 0 < v then (48 + v % 10) :: rd10 (v / 10) else []
termination_by v.toNat
decreasing_by omega
theorem rd10_pos {v : Int} (h : 0 < v) : rd10 v = (48 + v % 10) :: rd10 (v / 10) := by rw [rd10]; simp [h]
theorem rd10_zero {v : Int} (h : ¬ 0 < v) : rd10 v = [] := by rw [rd10]; simp [h]
theorem rd10_len {v : Int} {k : Nat} (h : v < 10 ^ k) : (rd10 v).length ≤ k := by
  induction k generalizing v with
  | zero => rw [rd10_zero (by simp at h; omega)]; simp
  | succ k ih =>
    by_cases h0 : 0 < v
    · rw [rd10_pos h0, List.length_cons]
      have := ih (v := v / 10) (by rw [Int.pow_succ] at h; omega)
      omega
    · rw [rd10_zero h0]; simp
/-- The text of a number. -/
def txt (v : Int) : ByteArray := if 0 < v then strOfNums (rd10 v).reverse else ⟨#[48]⟩
theorem son_append (xs ys : List Int) : strOfNums (xs ++ ys) = strOfNums xs ++ strOfNums ys := by
  apply ByteArray.ext
  apply Array.toList_inj.1
  simp [strOfNums, ByteArray.data_append]
theorem son_nil : strOfNums [] = ⟨#[]⟩ := rfl

theorem nfl : ∀ (v : Int) (xs : List Int), 0 ≤ v → Small (D v) → xs.length + (rd10 v).length ≤ 1000000000000 → Ev (fun k => credenceref1_NatFormat.l0 k (D v) (strOfNums xs)) (strOfNums ((rd10 v).reverse ++ xs)) := by
  intro v xs v0 hs hl
  by_cases h : 0 < v
  · have hdl := D_length_pos h
    rw [rd10_pos h, List.length_cons] at hl
    have hsm := small_ev (D_U v) hs.big (y := 10) (by omega) (by omega)
    rw [V_D v v0] at hsm
    have ed : (48 + v % 10) % 256 = 48 + v % 10 := by omega
    have ih := nfl (v / 10) ((48 + v % 10) :: xs) (by omega) (by
      have := D_len_le (n := v / 10) (k := (D v).length) (Int.lt_of_le_of_lt (by omega) (D_len h).2)
      exact Nat.le_trans this hs) (by rw [List.length_cons]; omega)
    refine suc ?_
    simp (disch := omega) only [credenceref1_NatFormat.l0, if_pos]
    refine Ev.bind hsm ?_
    simp (disch := omega) only [u64w, ed, Option.bind_some, if_pos, strOfNums_size, List.length_cons, List.length_nil]
    rw [rd10_pos h, List.reverse_cons, List.append_assoc, ← son_append]
    exact ih
  · rw [D_neg h, rd10_zero h]
    refine suc ?_
    simp (disch := omega) only [credenceref1_NatFormat.l0, if_neg, List.length_nil]
    exact now fun _ => by simp
termination_by v => v.toNat
decreasing_by omega
theorem nformat_ev {a : List Int} (ha : U a) (sa : Small a) (hl : (rd10 (V a)).length ≤ 1000000000) : Ev (fun k => credenceref1_NatFormat.f k a) (txt (V a)) := by
  have h1 := V_nonneg ha
  simp only [credenceref1_NatFormat.f]
  refine Ev.bind (norm_ev ha sa.big) ?_
  unfold txt
  by_cases h : 0 < V a
  · have hdl := D_length_pos h
    rw [if_pos h]
    simp (disch := omega) only [if_neg]
    have := nfl (V a) [] h1 (D_small ha sa) (by simp; omega)
    rw [List.append_nil, son_nil] at this
    exact this
  · rw [if_neg h, D_neg h]
    exact now fun _ => rfl

theorem ends {m : List Int} (h : 2 ≤ m.length) : ∃ x t y, m = x :: (t ++ [y]) := by
  cases m with
  | nil => simp at h
  | cons x t =>
    have ht : t ≠ [] := by rintro rfl; simp at h
    exact ⟨x, t.dropLast, t.getLast ht, by rw [List.dropLast_concat_getLast]⟩
theorem fl2 (len : Nat) (hlen : len ≤ 1000000000000) : ∀ (n : Nat) (m p s : List Int), m.length = n → p.length = s.length → p.length + m.length + s.length = len → Ev (fun k => bignat_Format.l2 k (p ++ (m ++ s)) (p.length : Int) ((len : Int) - 1 - (p.length : Int))) (strOfNums (p ++ (m.reverse ++ s))) := by
  intro n
  induction n using Nat.strongRecOn with
  | ind n ih =>
    intro m p s hm hps hl
    by_cases h : 2 ≤ m.length
    · obtain ⟨x, t, y, rfl⟩ := ends h
      have hmt : (x :: (t ++ [y])).length = t.length + 2 := by simp
      rw [hmt] at hm hl
      have hL : (p ++ (x :: (t ++ [y]) ++ s)).length = len := by simp; omega
      have ej : ((len : Int) - 1 - (p.length : Int)) = ((p.length + 1 + t.length : Nat) : Int) := by omega
      have g1 : (p ++ (x :: (t ++ [y]) ++ s)).getD p.length 0 = x := by simp
      have q2 : ∀ z : Int, p ++ (z :: (t ++ [y]) ++ s) = (p ++ z :: t) ++ y :: s := fun z => by simp
      have ql : ∀ z : Int, (p ++ z :: t).length = p.length + 1 + t.length := fun z => by simp; omega
      have g2 : (p ++ (x :: (t ++ [y]) ++ s)).getD (p.length + 1 + t.length) 0 = y := by
        rw [q2, ← ql x]; simp
      have s1 : ∀ z : Int, (p ++ (x :: (t ++ [y]) ++ s)).set p.length z = p ++ (z :: (t ++ [y]) ++ s) := fun z => by simp
      have s2 : ∀ z w : Int, (p ++ (z :: (t ++ [y]) ++ s)).set (p.length + 1 + t.length) w = (p ++ [z]) ++ (t ++ (w :: s)) := fun z w => by
        rw [q2, ← ql z]; simp
      have := ih t.length (by omega) t (p ++ [y]) (x :: s) rfl (by simp; omega) (by simp; omega)
      have e1 : (((p ++ [y]).length : Nat) : Int) = (p.length : Int) + 1 := by simp
      rw [e1, show (len : Int) - 1 - ((p.length : Int) + 1) = (((p.length + 1 + t.length : Nat)) : Int) - 1 by omega] at this
      rw [ej]
      refine suc ?_
      simp (disch := omega) only [bignat_Format.l2, if_pos, rd_nat, Int.toNat_natCast, g1, g2, s1, s2, w64]
      have er : p ++ ((x :: (t ++ [y])).reverse ++ s) = (p ++ [y]) ++ (t.reverse ++ x :: s) := by simp
      rw [er]
      exact this
    · have hr : m.reverse = m := by
        match m, h with
        | [], _ => rfl
        | [x], _ => rfl
        | x :: y :: t, h => simp at h
      refine suc ?_
      simp (disch := omega) only [bignat_Format.l2, if_neg]
      rw [hr]
      exact now fun _ => rfl
theorem fl2' (xs : List Int) (h : xs.length ≤ 1000000000000) : Ev (fun k => bignat_Format.l2 k xs 0 ((xs.length : Int) - 1)) (strOfNums xs.reverse) := by
  have := fl2 xs.length h xs.length xs [] [] rfl rfl (by simp)
  simpa using this
theorem fl1 {q : Int} (q0 : 0 ≤ q) (hs : Big (D q)) (T : Nat) (hT : T ≤ 1000000000) (fin : ∀ xs : List Int, xs.length + (rd10 q).length ≤ T → Ev (fun k => bignat_Format.l0 k (D q) xs) (strOfNums (xs ++ rd10 q).reverse)) :
    ∀ (n : Nat) (r : Int) (xs : List Int), n ≤ 9 → 0 ≤ r → r < 10 ^ n → xs.length + (rd10 (r + 10 ^ n * q)).length ≤ T → Ev (fun k => bignat_Format.l1 k (D q) xs r (9 - (n : Int))) (strOfNums (xs ++ rd10 (r + 10 ^ n * q)).reverse)
  | 0, r, xs, hn, r0, r1, hl => by
    have e : r + 10 ^ 0 * q = q := by rw [Int.pow_zero] at r1 ⊢; omega
    rw [e] at hl ⊢
    refine suc ?_
    simp (disch := omega) only [bignat_Format.l1, if_neg]
    exact fin xs hl
  | n + 1, r, xs, hn, r0, r1, hl => by
    have hp := Int.pow_succ 10 n
    have hp0 : (0 : Int) < 10 ^ n := Int.pow_pos (by omega)
    have hp9 : (10 : Int) ^ (n + 1) ≤ 10 ^ 9 := by
      obtain ⟨m, hm⟩ := Nat.exists_eq_add_of_le hn
      rw [hm, Int.pow_add 10 (n + 1) m]
      have : (1 : Int) ≤ 10 ^ m := Int.pow_pos (by omega)
      have h3 : (0 : Int) < 10 ^ (n + 1) := Int.pow_pos (by omega)
      have := Int.mul_le_mul_of_nonneg_left this (Int.le_of_lt h3)
      omega
    have hp9' : (10 : Int) ^ 9 = 1000000000 := by decide
    by_cases hz : q = 0 ∧ r = 0
    · obtain ⟨rfl, rfl⟩ := hz
      rw [Int.mul_zero, Int.add_zero] at hl ⊢
      have hf := fin xs hl
      rw [D_zero] at hf ⊢
      refine suc ?_
      simp (disch := omega) only [bignat_Format.l1, if_neg, if_pos, List.length_nil]
      exact hf
    · have hqn : 0 ≤ 10 ^ n * q := Int.mul_nonneg (Int.le_of_lt hp0) q0
      have hq1 : 0 < q → q ≤ 10 ^ n * q := fun _ => by
        have := Int.mul_le_mul_of_nonneg_right (show (1 : Int) ≤ 10 ^ n from hp0) q0
        omega
      have ev : r + 10 ^ (n + 1) * q = r + 10 * (10 ^ n * q) := by rw [hp, Int.mul_comm (10 ^ n) 10, Int.mul_assoc]
      rw [ev] at hl ⊢
      have hpos : 0 < r + 10 * (10 ^ n * q) := by
        rcases Int.lt_or_le 0 q with g | g
        · have := hq1 g; omega
        · omega
      rw [rd10_pos hpos] at hl ⊢
      rw [List.length_cons] at hl
      have m1 : (r + 10 * (10 ^ n * q)) % 10 = r % 10 := by omega
      have m2 : (r + 10 * (10 ^ n * q)) / 10 = r / 10 + 10 ^ n * q := by omega
      rw [m1]
      rw [m2] at hl ⊢
      have ih := fl1 q0 hs T hT fin n (r / 10) (xs ++ [48 + r % 10]) (by omega) (by omega) (by rw [hp] at r1; omega) (by simp; omega)
      have e1 : (9 - ((n + 1 : Nat) : Int)) + 1 = 9 - (n : Int) := by omega
      have tm : (48 + Int.tmod r 10) % 256 = 48 + r % 10 := by rw [Int.tmod_eq_emod_of_nonneg r0]; omega
      have td : (Int.tdiv r 10) % 4294967296 = r / 10 := by rw [Int.tdiv_eq_ediv_of_nonneg r0]; omega
      rw [List.append_assoc] at ih
      refine suc ?_
      rcases Int.lt_or_le 0 q with g | g
      · have hdl := D_length_pos g
        simp (disch := omega) only [bignat_Format.l1, if_pos, tm, td, w64, e1]
        exact ih
      · have hdn : (D q).length = 0 := by rw [D_neg (by omega)]; rfl
        simp (disch := omega) only [bignat_Format.l1, if_pos, if_neg, tm, td, w64, e1]
        exact ih
theorem fl0 (T : Nat) (hT : T ≤ 1000000000) : ∀ (v : Int), 0 ≤ v → Big (D v) → ∀ xs : List Int, xs.length + (rd10 v).length ≤ T → Ev (fun k => bignat_Format.l0 k (D v) xs) (strOfNums (xs ++ rd10 v).reverse) := by
  intro v v0 hs xs hl
  by_cases h : 0 < v
  · have hdl := D_length_pos h
    have hq0 : 0 ≤ v / 1000000000 := by omega
    have hqs : Big (D (v / 1000000000)) := by
      have := D_len_le (n := v / 1000000000) (k := (D v).length) (Int.lt_of_le_of_lt (by omega) (D_len h).2)
      exact Nat.le_trans this hs
    have hds := divSmall_ev (D_U v) hs (y := 1000000000) (by omega) (by omega)
    rw [V_D v v0] at hds
    have hv : v % 1000000000 + 10 ^ 9 * (v / 1000000000) = v := by
      rw [show (10 : Int) ^ 9 = 1000000000 by decide]; omega
    have f1 := fl1 hq0 hqs T hT (fun ys hy => fl0 T hT (v / 1000000000) hq0 hqs ys hy) 9 (v % 1000000000) xs (Nat.le_refl _) (by omega) (by rw [show (10 : Int) ^ 9 = 1000000000 by decide]; omega) (by rw [hv]; exact hl)
    rw [hv] at f1
    refine suc ?_
    simp (disch := omega) only [bignat_Format.l0, if_pos]
    exact Ev.bind hds f1
  · rw [rd10_zero h, List.append_nil]
    rw [rd10_zero h, List.length_nil] at hl
    rw [D_neg h]
    refine suc ?_
    simp (disch := omega) only [bignat_Format.l0, if_neg, List.length_nil, w64]
    exact fl2' xs (by omega)
termination_by v => v.toNat
decreasing_by omega
theorem format_ev {a : List Int} (ha : U a) (sa : Big a) (hl : (rd10 (V a)).length ≤ 1000000000) : Ev (fun k => bignat_Format.f k a) (txt (V a)) := by
  have h1 := V_nonneg ha
  simp only [bignat_Format.f]
  refine Ev.bind (clone_ev ha sa) ?_
  unfold txt
  by_cases h : 0 < V a
  · have hdl := D_length_pos h
    rw [if_pos h]
    simp (disch := omega) only [if_neg]
    have := fl0 1000000000 (Nat.le_refl _) (V a) h1 (D_big ha sa) [] (by simpa using hl)
    rw [List.nil_append] at this
    exact this
  · rw [if_neg h, D_neg h]
    exact now fun _ => rfl
end Go.Proofs.Ytjiaplnpgjicgaa.Spec

