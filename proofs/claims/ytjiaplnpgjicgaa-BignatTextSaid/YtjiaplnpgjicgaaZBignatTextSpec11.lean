/- Lemmas for the proof of one law of this seat (Spec11). -/
import Derived.Test.YtjiaplnpgjicgaaZBignatTextSpec4
import Derived.Laws.Strings
set_option linter.unusedSimpArgs false
set_option linter.unusedVariables false
namespace Go.Proofs.Ytjiaplnpgjicgaa.Spec
open Go.RowKit Go.Proofs.YtjiaplnpgjicgaaW.PrintWords Go.Proofs.YtjiaplnpgjicgaaW.PrintLast Go.Proofs.YtjiaplnpgjicgaaW.PrintMore Go.Proofs.Ytjiaplnpgjicgaa.Q Go.Proofs.Ytjiaplnpgjicgaa.Nums

/-- Ten times the digits and a carry. -/
def mc : List Int → Int → List Int
  | [], c => if c > 0 then [c] else []
  | x :: xs, c => ((c + 10 * x) % 4294967296) :: mc xs ((c + 10 * x) / 4294967296)
theorem mc_U : ∀ (xs : List Int) (c : Int), U xs → 0 ≤ c → c < 4294967296 → U (mc xs c)
  | [], c, _, c0, c1 => by
    unfold mc
    split
    · exact U_cons.2 ⟨⟨by omega, c1⟩, U_nil⟩
    · exact U_nil
  | x :: xs, c, h, c0, c1 => by
    obtain ⟨hx, hxs⟩ := U_cons.1 h
    unfold mc
    exact U_cons.2 ⟨by omega, mc_U xs _ hxs (by omega) (by omega)⟩
theorem mc_V : ∀ (xs : List Int) (c : Int), U xs → 0 ≤ c → V (mc xs c) = 10 * V xs + c
  | [], c, _, c0 => by
    unfold mc
    split <;> simp only [V_cons, V_nil] <;> omega
  | x :: xs, c, h, c0 => by
    obtain ⟨hx, hxs⟩ := U_cons.1 h
    unfold mc
    rw [V_cons, V_cons, mc_V xs _ hxs (by omega)]
    omega
theorem mc_cn : ∀ (xs : List Int) (c : Int), U xs → 0 ≤ c → Cn xs → Cn (mc xs c)
  | [], c, _, c0, _ => by
    unfold mc
    split
    · intro h
      simp at h
      omega
    · intro h
      simp at h
  | [x], c, h, c0, hc => by
    obtain ⟨hx, _⟩ := U_cons.1 h
    have hx0 : x ≠ 0 := fun e => hc (by rw [e]; rfl)
    unfold mc
    unfold mc
    by_cases g : (c + 10 * x) / 4294967296 > 0
    · rw [if_pos g]
      intro h
      simp at h
      omega
    · rw [if_neg g]
      intro h
      simp at h
      omega
  | x :: y :: ys, c, h, c0, hc => by
    obtain ⟨hx, hxs⟩ := U_cons.1 h
    have ih := mc_cn (y :: ys) ((c + 10 * x) / 4294967296) hxs (by omega) (cn_tail hc)
    unfold mc
    unfold mc
    unfold mc at ih
    intro h2
    exact ih (by rw [List.getLast?_cons_cons] at h2; exact h2)
theorem mc_D {v d : Int} (hv : 0 ≤ v) (d0 : 0 ≤ d) (d1 : d < 4294967296) : mc (D v) d = D (10 * v + d) := by
  have h := D_V (mc_U (D v) d (D_U v) d0 d1) (mc_cn (D v) d (D_U v) d0 (D_cn v))
  rw [mc_V _ _ (D_U v) d0, V_D v hv] at h
  exact h.symm

/-- The number that digits spell; nothing where a byte is no digit. -/
def scan (s : ByteArray) : Nat → Nat → Int → Option Int
  | 0, _, v => some v
  | n + 1, i, v => if bt s (i : Int) < 48 ∨ 57 < bt s (i : Int) then none else scan s n (i + 1) (10 * v + (bt s (i : Int) - 48))
def ans : Option Int → List Int × Int
  | none => ([], 2)
  | some v => (D v, 0)
theorem pl1 {s : ByteArray} {x5 : Int} {r : List Int × Int} (len : Nat) (hlen : len ≤ 1099511627776) : ∀ (rest pre : List Int) (c : Int), U rest → 0 ≤ c → c < 4294967296 → pre.length + rest.length = len → Ev (fun k => bignat_Parse.l0 k s (pre ++ mc rest c) (wrap64 (x5 + 1))) r → Ev (fun k => bignat_Parse.l1 k s (pre ++ rest) x5 c (len : Int) (pre.length : Int)) r
  | [], pre, c, _, c0, c1, hl, h => by
    rw [List.length_nil] at hl
    unfold mc at h
    rw [List.append_nil]
    refine suc ?_
    by_cases g : c > 0
    · rw [if_pos g] at h
      have ec : c % 4294967296 = c := by omega
      simp (disch := omega) only [bignat_Parse.l1, if_neg, if_pos, ec]
      exact h
    · rw [if_neg g, List.append_nil] at h
      simp (disch := omega) only [bignat_Parse.l1, if_neg, if_pos]
      exact h
  | x :: rest, pre, c, hu, c0, c1, hl, h => by
    obtain ⟨hx, hxs⟩ := U_cons.1 hu
    rw [List.length_cons] at hl
    unfold mc at h
    have hL : (pre ++ x :: rest).length = pre.length + rest.length + 1 := by simp; omega
    have hg : (pre ++ x :: rest).getD pre.length 0 = x := by simp
    have hset : ∀ y : Int, (pre ++ x :: rest).set pre.length y = (pre ++ [y]) ++ rest := fun y => by simp
    have ih := pl1 (x5 := x5) (r := r) (s := s) len hlen rest (pre ++ [(c + 10 * x) % 4294967296]) ((c + 10 * x) / 4294967296) hxs (by omega) (by omega) (by simp; omega) (by rw [List.append_assoc]; exact h)
    have e1 : (((pre ++ [(c + 10 * x) % 4294967296]).length : Nat) : Int) = (pre.length : Int) + 1 := by simp
    rw [e1] at ih
    refine suc ?_
    simp (disch := omega) only [bignat_Parse.l1, if_pos, rd_nat, hg, u64w, Int.toNat_natCast, hset, w64]
    exact ih
theorem pl0 {s : ByteArray} (hs : s.size ≤ 4000) : ∀ (n i : Nat) (v : Int), i + n = s.size → Lim i v → Ev (fun k => bignat_Parse.l0 k s (D v) (i : Int)) (ans (scan s n i v))
  | 0, i, v, hi, hv => by
    refine suc ?_
    simp (disch := omega) only [bignat_Parse.l0, if_neg]
    exact now fun _ => rfl
  | n + 1, i, v, hi, hv => by
    have hb := bt_range s (i : Int)
    unfold scan
    refine suc ?_
    simp (disch := omega) only [bignat_Parse.l0, if_pos]
    by_cases h1 : bt s (i : Int) < 48
    · rw [if_pos (.inl h1)]
      simp only [if_pos h1]
      refine suc (now fun _ => ?_)
      simp only [bignat_Parse.j2, if_true]
      rfl
    · simp only [if_neg h1]
      by_cases h2 : 57 < bt s (i : Int)
      · rw [if_pos (.inr h2)]
        refine suc (now fun _ => ?_)
        have e : decide (bt s (i : Int) > 57) = true := decide_eq_true h2
        simp only [bignat_Parse.j2, e, if_true]
        rfl
      · rw [if_neg (by omega)]
        have hv' : Lim (i + 1) (10 * v + (bt s (i : Int) - 48)) := by
          unfold Lim at hv ⊢
          rw [pow_succ']
          obtain ⟨a, b⟩ := hv
          generalize (4294967296 : Int) ^ i = P at *
          omega
        have ih := pl0 hs n (i + 1) _ (by omega) hv'
        have e : decide (bt s (i : Int) > 57) = false := decide_eq_false (by omega)
        have hd : (bt s (i : Int) - 48) % 256 = bt s (i : Int) - 48 := by omega
        have hlen : (D v).length ≤ i := D_len_le hv.2
        refine suc ?_
        simp (disch := omega) only [bignat_Parse.j2, e, if_pos, Bool.false_eq_true, if_false, hd]
        have := pl1 (s := s) (x5 := (i : Int)) (r := ans (scan s n (i + 1) (10 * v + (bt s (i : Int) - 48)))) (D v).length (by omega) (D v) [] (bt s (i : Int) - 48) (D_U v) (by omega) (by omega) (by simp) ?_
        · exact this
        · rw [List.nil_append, mc_D hv.1 (by omega) (by omega), w64 (by omega) (by omega)]
          exact ih
/-- What both readers answer. -/
def parO (s : ByteArray) : List Int × Int := if s.size = 0 then ([], 2) else if bt s 0 = 48 ∧ 1 < s.size then ([], 2) else ans (scan s s.size 0 0)
theorem empty_iff (s : ByteArray) : s.toList = ([] : List UInt8) ↔ s.size = 0 := by
  rw [ByteArray.toList_eq]
  have e : s.size = s.data.toList.length := rfl
  rw [e]
  exact List.length_eq_zero_iff.symm
theorem lim0 : Lim 0 0 := by unfold Lim; decide
theorem parse_ev {s : ByteArray} (hs : s.size ≤ 4000) : Ev (fun k => bignat_Parse.f k s) (parO s) := by
  have h0 := pl0 hs s.size 0 0 (by omega) lim0
  rw [D_zero] at h0
  have hj : Ev (fun k => bignat_Parse.j0 k s false) (ans (scan s s.size 0 0)) := by
    refine suc ?_
    simp only [bignat_Parse.j0, Bool.false_eq_true, if_false]
    exact h0
  have hj1 : Ev (fun k => bignat_Parse.j0 k s true) (([] : List Int), 2) := by
    refine suc ?_
    simp only [bignat_Parse.j0, if_true]
    exact now fun _ => rfl
  unfold parO
  by_cases h : s.size = 0
  · simp (disch := omega) only [bignat_Parse.f, if_neg, empty_iff, if_pos, h]
    exact hj1
  · simp (disch := omega) only [bignat_Parse.f, if_neg, empty_iff, if_pos, h]
    by_cases hz : bt s 0 = 48
    · by_cases h1 : 1 < s.size
      · have e : decide ((s.size : Int) > 1) = true := decide_eq_true (by omega)
        simp (disch := omega) only [hz, h1, e, if_true, and_self, if_pos]
        exact hj1
      · have e : decide ((s.size : Int) > 1) = false := decide_eq_false (by omega)
        simp (disch := omega) only [hz, h1, e, if_true, and_false, if_false, if_pos]
        exact hj
    · simp (disch := omega) only [hz, false_and, if_false, if_neg]
      exact hj

theorem dg {s : ByteArray} (hs : s.size ≤ 4000) (h0 : 0 < s.size) : ∀ (n i : Nat) (v : Int), i + n = s.size → Ev (fun k => credenceref1_Digits.l0 k s (i : Int)) (scan s n i v).isSome
  | 0, i, v, hi => by
    refine suc ?_
    simp (disch := omega) only [credenceref1_Digits.l0, if_neg]
    exact now fun _ => by rw [decide_eq_true (by omega)]; rfl
  | n + 1, i, v, hi => by
    have ih := dg hs h0 n (i + 1) (10 * v + (bt s (i : Int) - 48)) (by omega)
    unfold scan
    refine suc ?_
    by_cases h1 : bt s (i : Int) < 48
    · rw [if_pos (.inl h1)]
      simp (disch := omega) only [credenceref1_Digits.l0, if_pos]
      exact now fun _ => rfl
    · by_cases h2 : 57 < bt s (i : Int)
      · rw [if_pos (.inr h2)]
        simp (disch := omega) only [credenceref1_Digits.l0, if_pos, if_neg]
        exact now fun _ => rfl
      · rw [if_neg (by omega)]
        simp (disch := omega) only [credenceref1_Digits.l0, if_pos, if_neg, w64]
        exact ih
theorem nd {s : ByteArray} (hs : s.size ≤ 4000) : ∀ (n i : Nat) (v w : Int), i + n = s.size → Lim i v → scan s n i v = some w → Ev (fun k => credenceref1_NatDigits.l0 k s (D v) (i : Int)) (D w)
  | 0, i, v, w, hi, hv, h => by
    obtain rfl : v = w := Option.some.inj h
    refine suc ?_
    simp (disch := omega) only [credenceref1_NatDigits.l0, if_neg]
    exact now fun _ => rfl
  | n + 1, i, v, w, hi, hv, h => by
    unfold scan at h
    by_cases g : bt s (i : Int) < 48 ∨ 57 < bt s (i : Int)
    · rw [if_pos g] at h; exact absurd h (by simp)
    · rw [if_neg g] at h
      have hv' : Lim (i + 1) (10 * v + (bt s (i : Int) - 48)) := by
        unfold Lim at hv ⊢
        rw [pow_succ']
        obtain ⟨a, b⟩ := hv
        generalize (4294967296 : Int) ^ i = P at *
        omega
      have ih := nd hs n (i + 1) _ w (by omega) hv' h
      have hd : (bt s (i : Int) - 48) % 256 = bt s (i : Int) - 48 := by omega
      have ten : Lim 1 10 := by unfold Lim; decide
      have vt := hv.mul ten
      have dl : Lim 1 (bt s (i : Int) - 48) := by unfold Lim; simp only [Int.pow_one]; omega
      have hm := nmul_ev hv.U ten.U (hv.small (by omega)) (ten.small (by decide))
      rw [hv.V, ten.V] at hm
      have ha := nadd_ev vt.U dl.U (vt.small (by omega)) (dl.small (by decide))
      rw [vt.V, dl.V] at ha
      refine suc ?_
      simp (disch := omega) only [credenceref1_NatDigits.l0, if_pos, hd, w64]
      refine Ev.bind (natOf_ev (by omega) (by omega)) (Ev.bind hm (Ev.bind (natOf_ev (by omega) (by omega)) (Ev.bind ha ?_)))
      rw [Int.mul_comm v 10]
      exact ih
theorem nparse_ev {s : ByteArray} (hs : s.size ≤ 4000) : Ev (fun k => credenceref1_NatParse.f k s) (parO s) := by
  unfold parO
  simp (disch := omega) only [credenceref1_NatParse.f, if_neg]
  by_cases h : s.size = 0
  · have hd : Ev (fun k => credenceref1_Digits.f k s) false := by
      simp only [credenceref1_Digits.f]
      refine suc ?_
      simp (disch := omega) only [credenceref1_Digits.l0, if_neg]
      exact now fun _ => by rw [decide_eq_false (by omega)]
    refine Ev.bind hd ?_
    rw [if_pos h]
    exact now fun _ => rfl
  · rw [if_neg h]
    have hd : Ev (fun k => credenceref1_Digits.f k s) (scan s s.size 0 0).isSome := by
      simp only [credenceref1_Digits.f]
      exact dg hs (by omega) s.size 0 0 (by omega)
    refine Ev.bind hd ?_
    rcases hsc : scan s s.size 0 0 with _ | w
    · show Ev (fun _ => some (([] : List Int), (2 : Int))) _
      unfold ans
      split <;> exact now fun _ => rfl
    · have hn := nd hs s.size 0 0 w (by omega) lim0 hsc
      rw [D_zero] at hn
      have hn' : Ev (fun k => credenceref1_NatDigits.f k s) (D w) := by
        simp only [credenceref1_NatDigits.f]
        exact hn
      simp only [Option.isSome_some, if_true]
      by_cases h1 : 1 < s.size
      · by_cases hz : bt s 0 = 48
        · rw [if_pos ⟨hz, h1⟩]
          simp (disch := omega) only [if_pos]
          exact now fun _ => rfl
        · rw [if_neg (fun g => hz g.1)]
          simp (disch := omega) only [if_pos, if_neg]
          exact Ev.bind hn' (now fun _ => rfl)
      · rw [if_neg (fun g => h1 g.2)]
        simp (disch := omega) only [if_neg]
        exact Ev.bind hn' (now fun _ => rfl)
theorem parO_small {s : ByteArray} (hs : s.size ≤ 4000) : Big (parO s).1 := by
  have hsc : ∀ (n i : Nat) (v w : Int), Lim i v → scan s n i v = some w → Lim (i + n) w := by
    intro n
    induction n with
    | zero =>
      intro i v w hv h
      obtain rfl : v = w := Option.some.inj h
      exact hv
    | succ n ih =>
      intro i v w hv h
      unfold scan at h
      by_cases g : bt s (i : Int) < 48 ∨ 57 < bt s (i : Int)
      · rw [if_pos g] at h; exact absurd h (by simp)
      · rw [if_neg g] at h
        have := ih (i + 1) _ w (by
          unfold Lim at hv ⊢
          rw [pow_succ']
          obtain ⟨a, b⟩ := hv
          generalize (4294967296 : Int) ^ i = P at *
          omega) h
        rw [show i + (n + 1) = i + 1 + n by omega]
        exact this
  have nil : Big ([] : List Int) := by unfold Big; simp
  unfold parO
  split
  · exact nil
  · split
    · exact nil
    · rcases h : scan s s.size 0 0 with _ | w
      · exact nil
      · exact ((hsc s.size 0 0 w lim0 h).small (by omega)).big
end Go.Proofs.Ytjiaplnpgjicgaa.Spec

