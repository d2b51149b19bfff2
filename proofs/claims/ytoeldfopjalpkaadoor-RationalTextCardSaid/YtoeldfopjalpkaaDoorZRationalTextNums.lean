/- Lemmas for the proof of one law of this seat (Nums). -/
import Derived.KernelRfl
namespace Go.Proofs.YtoeldfopjalpkaaDoor.Nums

/-- Every element is a digit. -/
def U (xs : List Int) : Prop := ∀ x ∈ xs, 0 ≤ x ∧ x < 4294967296
/-- The value of a list of digits, least first. -/
def V : List Int → Int
  | [] => 0
  | x :: xs => x + 4294967296 * V xs
/-- The canonical digits of a number (of one below 0: none). -/
def D (n : Int) : List Int := if h : 0 < n then (n % 4294967296) :: D (n / 4294967296) else []
termination_by n.toNat
decreasing_by omega

theorem U_nil : U [] := fun _ h => by simp at h
theorem U_cons {x : Int} {xs : List Int} : U (x :: xs) ↔ (0 ≤ x ∧ x < 4294967296) ∧ U xs := by
  constructor
  · intro h
    exact ⟨h x (by simp), fun y hy => h y (by simp [hy])⟩
  · rintro ⟨h1, h2⟩ y hy
    rcases List.mem_cons.1 hy with rfl | hy
    · exact h1
    · exact h2 y hy
theorem U_append {xs ys : List Int} : U (xs ++ ys) ↔ U xs ∧ U ys := by
  constructor
  · intro h
    exact ⟨fun y hy => h y (by simp [hy]), fun y hy => h y (by simp [hy])⟩
  · rintro ⟨h1, h2⟩ y hy
    rcases List.mem_append.1 hy with hy | hy
    · exact h1 y hy
    · exact h2 y hy
theorem U_take {xs : List Int} (h : U xs) (n : Nat) : U (xs.take n) := fun y hy => h y (List.mem_of_mem_take hy)
theorem U_drop {xs : List Int} (h : U xs) (n : Nat) : U (xs.drop n) := fun y hy => h y (List.mem_of_mem_drop hy)
theorem U_set {xs : List Int} (h : U xs) (i : Nat) {v : Int} (h0 : 0 ≤ v) (h1 : v < 4294967296) : U (xs.set i v) := by
  intro y hy
  rcases List.mem_or_eq_of_mem_set hy with hy | rfl
  · exact h y hy
  · exact ⟨h0, h1⟩
theorem U_replicate (n : Nat) : U (List.replicate n 0) := by
  intro y hy
  rw [List.mem_replicate] at hy
  omega
theorem U_getD {xs : List Int} (h : U xs) (i : Nat) : 0 ≤ xs.getD i 0 ∧ xs.getD i 0 < 4294967296 := by
  rw [List.getD_eq_getElem?_getD]
  cases e : xs[i]? with
  | none => simp
  | some x => exact h x (List.mem_of_getElem? e)

theorem V_nil : V [] = 0 := rfl
theorem V_cons (x : Int) (xs : List Int) : V (x :: xs) = x + 4294967296 * V xs := rfl
theorem V_nonneg {xs : List Int} (h : U xs) : 0 ≤ V xs := by
  induction xs with
  | nil => simp [V]
  | cons x xs ih =>
    obtain ⟨h1, h2⟩ := U_cons.1 h
    have := ih h2
    rw [V_cons]
    omega
theorem pow_pos (n : Nat) : (0 : Int) < 4294967296 ^ n := Int.pow_pos (by omega)
theorem pow_succ' (n : Nat) : (4294967296 : Int) ^ (n + 1) = 4294967296 * 4294967296 ^ n := by rw [Int.pow_succ]; exact Int.mul_comm _ _
theorem V_lt {xs : List Int} (h : U xs) : V xs < 4294967296 ^ xs.length := by
  induction xs with
  | nil => simp [V]
  | cons x xs ih =>
    obtain ⟨h1, h2⟩ := U_cons.1 h
    have := ih h2
    rw [V_cons, List.length_cons, pow_succ']
    omega
theorem V_append (xs ys : List Int) : V (xs ++ ys) = V xs + 4294967296 ^ xs.length * V ys := by
  induction xs with
  | nil => simp [V]
  | cons x xs ih =>
    rw [List.cons_append, V_cons, V_cons, ih, List.length_cons, pow_succ', Int.mul_add, Int.mul_assoc]
    omega
theorem V_replicate (n : Nat) : V (List.replicate n 0) = 0 := by
  induction n with
  | zero => rfl
  | succ n ih => rw [List.replicate_succ, V_cons, ih]; rfl
theorem take_succ' {xs : List Int} {i : Nat} (h : i < xs.length) : xs.take (i + 1) = xs.take i ++ [xs.getD i 0] := by
  rw [List.take_succ_eq_append_getElem h, List.getD_eq_getElem?_getD, List.getElem?_eq_getElem h]; rfl
theorem V_take_succ {xs : List Int} {i : Nat} (h : i < xs.length) : V (xs.take (i + 1)) = V (xs.take i) + 4294967296 ^ i * xs.getD i 0 := by
  rw [take_succ' h, V_append, V_cons, V_nil, List.length_take, Nat.min_eq_left (by omega)]
  simp
theorem V_split (xs : List Int) (n : Nat) (h : n ≤ xs.length) : V xs = V (xs.take n) + 4294967296 ^ n * V (xs.drop n) := by
  conv => lhs; rw [← List.take_append_drop n xs]
  rw [V_append, List.length_take, Nat.min_eq_left h]
theorem V_set {xs : List Int} {i : Nat} (h : i < xs.length) (v : Int) : V (xs.set i v) = V xs + 4294967296 ^ i * (v - xs.getD i 0) := by
  induction xs generalizing i with
  | nil => simp at h
  | cons x xs ih =>
    cases i with
    | zero => simp [V_cons]; omega
    | succ i =>
      rw [List.set_cons_succ, V_cons, V_cons, ih (by simpa using h), List.getD_cons_succ, pow_succ', Int.mul_assoc, Int.mul_add]
      omega

theorem D_pos {n : Int} (h : 0 < n) : D n = (n % 4294967296) :: D (n / 4294967296) := by
  rw [D]; simp [h]
theorem D_zero : D 0 = [] := by rw [D]; simp
theorem D_neg {n : Int} (h : ¬ 0 < n) : D n = [] := by rw [D]; simp [h]
theorem D_U (n : Int) : U (D n) := by
  by_cases h : 0 < n
  · rw [D_pos h]
    exact U_cons.2 ⟨by omega, D_U _⟩
  · rw [D_neg h]
    exact U_nil
termination_by n.toNat
decreasing_by omega
theorem V_D (n : Int) (h0 : 0 ≤ n) : V (D n) = n := by
  by_cases h : 0 < n
  · rw [D_pos h, V_cons, V_D _ (by omega)]
    omega
  · rw [D_neg h]
    simp [V]; omega
termination_by n.toNat
decreasing_by omega
/-- A list without a zero at its end. -/
def Cn (xs : List Int) : Prop := xs.getLast? ≠ some 0
instance (xs : List Int) : Decidable (Cn xs) := inferInstanceAs (Decidable (xs.getLast? ≠ some 0))
instance (xs : List Int) : Decidable (U xs) := inferInstanceAs (Decidable (∀ x ∈ xs, 0 ≤ x ∧ x < 4294967296))
theorem Cn_of {xs : List Int} (h : ∀ x, xs.getLast? = some x → x ≠ 0) : Cn xs := fun e => h 0 e rfl
theorem Cn_el {xs : List Int} (h : Cn xs) (x : Int) (hx : xs.getLast? = some x) : x ≠ 0 := by
  rintro rfl
  exact h hx
theorem D_cn (n : Int) : Cn (D n) := by
  by_cases h : 0 < n
  · rw [D_pos h]
    by_cases h2 : 0 < n / 4294967296
    · have := D_cn (n / 4294967296)
      rw [D_pos h2] at this ⊢
      refine Cn_of fun x hx => ?_
      rw [List.getLast?_cons_cons] at hx
      exact Cn_el this x hx
    · rw [D_neg h2]
      refine Cn_of fun x hx => ?_
      simp at hx
      omega
  · rw [D_neg h]
    exact fun hx => by simp at hx
termination_by n.toNat
decreasing_by omega
theorem cn_tail {x y : Int} {xs : List Int} (h : Cn (x :: y :: xs)) : Cn (y :: xs) := fun hz => h (by rw [List.getLast?_cons_cons]; exact hz)
theorem D_V {xs : List Int} (hu : U xs) (hc : Cn xs) : D (V xs) = xs := by
  induction xs with
  | nil => exact D_zero
  | cons x xs ih =>
    obtain ⟨h1, h2⟩ := U_cons.1 hu
    have hv := V_nonneg h2
    cases xs with
    | nil =>
      have : x ≠ 0 := Cn_el hc x rfl
      rw [V_cons, V_nil, D_pos (by omega), D_neg (by omega)]
      congr 1
      omega
    | cons y ys =>
      have ih' := ih h2 (cn_tail hc)
      have hne : V (y :: ys) ≠ 0 := by
        intro h0
        rw [h0, D_zero] at ih'
        cases ih'
      rw [V_cons, D_pos (by omega)]
      congr 1
      · omega
      · rw [show (x + 4294967296 * V (y :: ys)) / 4294967296 = V (y :: ys) by omega]
        exact ih'
/-- Cutting zeros off the end. -/
theorem D_take {xs : List Int} (hu : U xs) (n : Nat) (hn : n ≤ xs.length) (hz : ∀ i, n ≤ i → i < xs.length → xs.getD i 0 = 0) (hl : n = 0 ∨ xs.getD (n - 1) 0 ≠ 0) : xs.take n = D (V xs) := by
  have hd : V (xs.drop n) = 0 := by
    have : ∀ m (ys : List Int), ys.length = m → (∀ i, i < ys.length → ys.getD i 0 = 0) → V ys = 0 := by
      intro m
      induction m with
      | zero => intro ys h _; rw [List.eq_nil_of_length_eq_zero h]; rfl
      | succ m ih =>
        intro ys h hy
        cases ys with
        | nil => rfl
        | cons y ys =>
          have h0 := hy 0 (by simp)
          have := ih ys (by simpa using h) (fun i hi => by have := hy (i + 1) (by simpa using hi); simpa using this)
          simp at h0
          rw [V_cons, this, h0]; rfl
    refine this _ _ rfl (fun i hi => ?_)
    rw [List.length_drop] at hi
    rw [List.getD_eq_getElem?_getD, List.getElem?_drop, ← List.getD_eq_getElem?_getD]
    exact hz _ (by omega) (by omega)
  rw [V_split xs n hn, hd, Int.mul_zero, Int.add_zero]
  refine (D_V (U_take hu n) (Cn_of ?_)).symm
  intro x hx
  rcases hl with rfl | hl
  · simp at hx
  · by_cases h0 : n = 0
    · subst h0; simp at hx
    · rw [List.getLast?_eq_getElem?, List.length_take, Nat.min_eq_left hn, List.getElem?_take_of_lt (by omega)] at hx
      rw [List.getD_eq_getElem?_getD, hx] at hl
      exact hl
theorem D_inj {n m : Int} (hn : 0 ≤ n) (hm : 0 ≤ m) (h : D n = D m) : n = m := by
  have := congrArg V h
  rwa [V_D n hn, V_D m hm] at this
theorem D_len_le {n : Int} {k : Nat} (h : n < 4294967296 ^ k) : (D n).length ≤ k := by
  induction k generalizing n with
  | zero => rw [D_neg (by simp at h; omega)]; simp
  | succ k ih =>
    by_cases h0 : 0 < n
    · rw [D_pos h0, List.length_cons]
      have := ih (n := n / 4294967296) (by rw [pow_succ'] at h; omega)
      omega
    · rw [D_neg h0]; simp
theorem D_nil_iff {n : Int} (h : 0 ≤ n) : D n = [] ↔ n = 0 := by
  constructor
  · intro e
    have := congrArg V e
    rwa [V_D n h] at this
  · rintro rfl
    exact D_zero
theorem D_length_pos {n : Int} (h : 0 < n) : 0 < (D n).length := by rw [D_pos h]; simp
/-- The top digit: what is below it, and that it is not 0. -/
theorem D_len {n : Int} (h : 0 < n) : 4294967296 ^ ((D n).length - 1) ≤ n ∧ n < 4294967296 ^ (D n).length := by
  constructor
  · have hv := V_D n (by omega)
    have hl := D_length_pos h
    have hs := V_split (D n) ((D n).length - 1) (by omega)
    have h1 : V ((D n).take ((D n).length - 1)) ≥ 0 := V_nonneg (U_take (D_U n) _)
    have h2 : V ((D n).drop ((D n).length - 1)) ≥ 1 := by
      have e : (D n).drop ((D n).length - 1) = [(D n).getD ((D n).length - 1) 0] := by
        rw [List.drop_eq_getElem_cons (by omega), List.getD_eq_getElem?_getD, List.getElem?_eq_getElem (by omega), List.drop_of_length_le (by omega)]
        rfl
      have hc := Cn_el (D_cn n) ((D n).getD ((D n).length - 1) 0) (by rw [List.getLast?_eq_getElem?, List.getD_eq_getElem?_getD, List.getElem?_eq_getElem (by omega)]; rfl)
      have hu := U_getD (D_U n) ((D n).length - 1)
      rw [e, V_cons, V_nil]
      omega
    have hp := pow_pos ((D n).length - 1)
    have hm : (4294967296 : Int) ^ ((D n).length - 1) * 1 ≤ (4294967296 : Int) ^ ((D n).length - 1) * V ((D n).drop ((D n).length - 1)) := Int.mul_le_mul_of_nonneg_left h2 (by omega)
    rw [hv] at hs
    rw [Int.mul_one] at hm
    have key : ∀ p q t : Int, n = t + q → p ≤ q → 0 ≤ t → p ≤ n := fun p q t a b c => by omega
    exact key _ _ _ hs hm h1
  · have := V_lt (D_U n)
    rwa [V_D n (by omega)] at this
end Go.Proofs.YtoeldfopjalpkaaDoor.Nums

