/- Lemmas for the proof of one law of this seat (Qx20). -/
import Derived.Test.YtoeldfopjalpkaaDoorZRationalTextQx19
namespace Go.Proofs.YtoeldfopjalpkaaDoor.Q
open Go.RowKit Go.Proofs.YtoeldfopjalpkaaDoorW.PrintWords Go.Proofs.YtoeldfopjalpkaaDoorW.PrintLast Go.Proofs.YtoeldfopjalpkaaDoorW.PrintMore
attribute [local go_sem] max2_int min2_int max_two min_two max_three min_three max_four min_four   -- for this text's walks alone
set_option linter.unusedVariables false
set_option linter.unusedSimpArgs false

mutual
def credenceref1_FracParse.j0 : Nat → ByteArray → Bool → Option (Bool × List Int × List Int × Int)
 | 0, _, _ => none
 | k + 1, x0, x4 => if x4 = true then (if 1 ≤ (x0.size : Int) then (credenceref1_FracParse.j1 k (x0.extract 1 x0.size) x4) else (none)) else (credenceref1_FracParse.j1 k x0 x4)
def credenceref1_FracParse.j1 : Nat → ByteArray → Bool → Option (Bool × List Int × List Int × Int)
 | 0, _, _ => none
 | k + 1, x0, x4 => credenceref1_FracParse.l0 k x0 x4 0
def credenceref1_FracParse.j3 : Nat → ByteArray → Bool → Int → Option (Bool × List Int × List Int × Int)
 | 0, _, _, _ => none
 | k + 1, x0, x4, x5 => if 0 ≤ x5 then (if x5 ≤ (x0.size : Int) then ((credenceref1_Digits.f k (x0.extract 0 (x5 : Int).toNat)).bind fun t895 => (if t895 = true then (if x5 < (x0.size : Int) then (if 0 ≤ (wrap64 (x5 + 1)) then (if (wrap64 (x5 + 1)) ≤ (x0.size : Int) then ((credenceref1_Digits.f k (x0.extract ((wrap64 (x5 + 1)) : Int).toNat x0.size)).bind fun t896 => (credenceref1_FracParse.j4 k x0 x4 x5 (!t896))) else (none)) else (none)) else (credenceref1_FracParse.j4 k x0 x4 x5 false)) else (credenceref1_FracParse.j4 k x0 x4 x5 true))) else (none)) else (none)
def credenceref1_FracParse.j4 : Nat → ByteArray → Bool → Int → Bool → Option (Bool × List Int × List Int × Int)
 | 0, _, _, _, _ => none
 | k + 1, x0, x4, x5, x60 => if x60 = true then (some (false, ([] : List Int), ([] : List Int), 2)) else (if x5 = (x0.size : Int) then ((credenceref1_NatDigits.f k x0).bind fun t897 => ((credenceref1_NatOf.f k 1).bind fun t900 => ((credenceref1_frac.f k x4 t897 t900).bind fun bt903 => (some (bt903.1, bt903.2.1, bt903.2.2, 0))))) else (if 0 ≤ x5 then (if x5 < (x0.size : Int) then (if (bt x0 x5) = 47 then (if 0 ≤ (wrap64 (x5 + 1)) then (if (wrap64 (x5 + 1)) ≤ (x0.size : Int) then ((credenceref1_NatDigits.f k (x0.extract ((wrap64 (x5 + 1)) : Int).toNat x0.size)).bind fun t910 => (if (t910.length : Int) = 0 then (some (false, ([] : List Int), ([] : List Int), 20)) else (if x5 ≤ (x0.size : Int) then ((credenceref1_NatDigits.f k (x0.extract 0 (x5 : Int).toNat)).bind fun t913 => ((credenceref1_frac.f k x4 t913 t910).bind fun bt916 => (some (bt916.1, bt916.2.1, bt916.2.2, 0)))) else (none)))) else (none)) else (none)) else ((credenceref1_NatOf.f k 1).bind fun t923 => (credenceref1_FracParse.l1 k x0 x4 x5 t923 (wrap64 (x5 + 1))))) else (none)) else (none)))
def credenceref1_FracParse.l1 : Nat → ByteArray → Bool → Int → List Int → Int → Option (Bool × List Int × List Int × Int)
 | 0, _, _, _, _, _ => none
 | k + 1, x0, x4, x5, x7, x8 => if x8 < (x0.size : Int) then ((credenceref1_NatOf.f k 10).bind fun t926 => ((credenceref1_NatMul.f k x7 t926).bind fun t929 => (credenceref1_FracParse.l1 k x0 x4 x5 t929 (wrap64 (x8 + 1))))) else (if 0 ≤ x5 then (if x5 ≤ (x0.size : Int) then (if 0 ≤ (wrap64 (x5 + 1)) then (if (wrap64 (x5 + 1)) ≤ (x0.size : Int) then (if (x0.extract 0 (x5 : Int).toNat).size + (x0.extract ((wrap64 (x5 + 1)) : Int).toNat x0.size).size ≤ 9223372036854775807 then ((credenceref1_NatDigits.f k ((x0.extract 0 (x5 : Int).toNat) ++ (x0.extract ((wrap64 (x5 + 1)) : Int).toNat x0.size))).bind fun t932 => ((credenceref1_frac.f k x4 t932 x7).bind fun bt935 => (some (bt935.1, bt935.2.1, bt935.2.2, 0)))) else (none)) else (none)) else (none)) else (none)) else (none))
def credenceref1_FracParse.l0 : Nat → ByteArray → Bool → Int → Option (Bool × List Int × List Int × Int)
 | 0, _, _, _ => none
 | k + 1, x0, x4, x5 => if x5 < (x0.size : Int) then (if 0 ≤ x5 then (if (bt x0 x5) = 47 then (credenceref1_FracParse.j3 k x0 x4 x5) else (if (bt x0 x5) = 46 then (credenceref1_FracParse.j3 k x0 x4 x5) else (credenceref1_FracParse.l0 k x0 x4 (wrap64 (x5 + 1))))) else (none)) else (credenceref1_FracParse.j3 k x0 x4 x5)
end
def credenceref1_FracParse.f (k : Nat) (a0 : ByteArray) : Option (Bool × List Int × List Int × Int) := if (a0.size : Int) > 4000 then (some (false, ([] : List Int), ([] : List Int), 4)) else (if (a0.size : Int) > 0 then (if 0 < (a0.size : Int) then (credenceref1_FracParse.j0 k a0 ((bt a0 0) == 45)) else (none)) else (credenceref1_FracParse.j0 k a0 false))
def credenceref1_FracParse.T23 : Bool × List (List Nat × List Nat) := (true, [([], []), ([], []), ([], []), ([1, 2], [1, 2]), ([], []), ([], []), ([5], [5]), ([4, 6], [4, 6]), ([3, 7], [3, 7]), ([8], [8]), ([], []), ([0, 9, 10, 9], [0, 9, 10]), ([11, 11, 0, 1, 2, 3, 4, 5, 6, 7, 8, 9, 10, 11], [11]), ([12, 0, 1, 2, 3, 4, 5, 6, 7, 8, 9, 10, 11, 12], [])])
def credenceref1_FracParse.B23 : List Nat := [0, 0, 0, 6, 0, 0, 32, 112, 254, 510, 0, 2047, 4095, 8191]
theorem credenceref1_FracParse.tab23 : rtab .any (opsOf Tryd.f17 23) = credenceref1_FracParse.T23 := by kernel_rfl
theorem credenceref1_FracParse.bits23 : waitsOk credenceref1_FracParse.T23.2 credenceref1_FracParse.B23 = true := by kernel_rfl
set_option maxHeartbeats 8000000 in
set_option maxRecDepth 100000 in
theorem credenceref1_FracParse.calls (k : Nat) (a0 : ByteArray) (r1 : Bool) (r2 : List Int) (r3 : List Int) (r4 : Int) (w : World) (h : credenceref1_FracParse.f k a0 = some (r1, r2, r3, r4)) :
 Calls Tryd.prog 17 #[.string a0] w fun e w' => ∃ v1_ v2_ : Value, e = .returned (.tuple #[.agg #[.bool r1, v1_, v2_], .int .i64 r4]) ∧ Kd.R (Kd.int .u32) 37 w' w.heap.size (fun k_ => some k_ ≠ (v2_ : Value).ownBlock) v1_ r2 ∧ Kd.R (Kd.int .u32) 37 w' w.heap.size (fun k_ => some k_ ≠ (v1_ : Value).ownBlock) v2_ r3 ∧ Below w.heap.size w w' := by
 have hu25 := Tryd.underlying25;have HB := zA (Below.refl w.heap.size w);have H : (if (a0.size : Int) > 4000 then (some (false, ([] : List Int), ([] : List Int), 4)) else (if (a0.size : Int) > 0 then (if 0 < (a0.size : Int) then (credenceref1_FracParse.j0 k a0 ((bt a0 0) == 45)) else (none)) else (credenceref1_FracParse.j0 k a0 false))) = some (r1, r2, r3, r4) := h;clear h;by_cases c2 : (a0.size : Int) > 4000
 ·rw [if_pos c2] at H;have c2b0 : decide (4000 < (a0.size : Int)) = true := decide_eq_true c2;have c2b1 : decide (4000 < a0.size) = true := decide_eq_true (by omega);clear c2;simp only [Option.some.injEq, Prod.mk.injEq] at H;obtain ⟨rfl, rfl, rfl, rfl⟩ := H;go_enter Tryd.func17, Tryd.ntmps17
  go_wp2_with (first | ((with_reducible refine gate_dst (N := 2) rfl ?_); (try (refine gate_guard (by rfl) ?_; dsimp only)); refine zbox 2 #[.bool false, .slice none 0 0, .slice none 0 0] 25 ?_; intro gb894 hg w3 hbox hb; have BK894 := zA (hbox); have GW894 := zg HB hg rfl; have GE894 := zg HB hg rfl; replace HB := zbb HB hb rfl; clear hb hbox hg; have hcz4_0 := zc BK894 0 (v := .bool false) rfl; have hcz4_1 := zc BK894 1 (v := .slice none 0 0) rfl; have hcz4_2 := zc BK894 2 (v := .slice none 0 0) rfl; have hfz4_0 := zF BK894 0; have hfz4_1 := zF BK894 1; have hfz4_2 := zF BK894 2))
  refine bodyPost_ret (results_ct rfl _ _ gb894 25 #[.bool false, .slice none 0 0, .slice none 0 0] (0, 0) _ rfl (zQ BK894.out) Tryd.underlying25 rfl zk) rfl ?_;exact ⟨_, _, zE, by first | exact Kd.R_nil _ _ _ _ _ | exact Kd.V_nil _ _ _ _ _, by first | exact Kd.R_nil _ _ _ _ _ | exact Kd.V_nil _ _ _ _ _, zG1 GE894.out⟩
 rw [if_neg c2] at H;have c2b0 : decide (4000 < (a0.size : Int)) = false := decide_eq_false c2;have c2b1 : decide (4000 < a0.size) = false := decide_eq_false (by omega);clear c2;have HC5 := zA H;clear H;go_enter Tryd.func17, Tryd.ntmps17
 go_upto_region 3 with (first | ((with_reducible refine gate_dst (N := 2) rfl ?_); (try (refine gate_guard (by rfl) ?_; dsimp only)); refine zbox 2 #[.bool false, .slice none 0 0, .slice none 0 0] 25 ?_; intro gb894 hg w6 hbox hb; have BK894 := zA (hbox); have GW894 := zg HB hg rfl; have GE894 := zg HB hg rfl; replace HB := zbb HB hb rfl; clear hb hbox hg))
 (try simp only [Act.put, List.setIfInBounds_toArray, List.set_cons_zero, List.set_cons_succ])
 go_cut [4] (fun v4 wc => ∃ (kq : Nat) (x4_4 : Bool), v4 = .bool x4_4 ∧ Aside0 (credenceref1_FracParse.j0 kq a0 x4_4 = some (r1, r2, r3, r4)) ∧ Aside0 (kq ≤ k) ∧ Aside0 (wc.heap[gb894]? = some (.cells #[.bool false, (.slice none 0 0), (.slice none 0 0)] 25 (0, 0))) ∧ Aside0 (Below w.heap.size w wc))
 case first =>
  have H := HC5.out;clear HC5;by_cases c7 : (a0.size : Int) > 0
  ·rw [if_pos c7] at H;have c7b0 : decide (0 < (a0.size : Int)) = true := decide_eq_true c7;have c7b1 : decide (0 < a0.size) = true := decide_eq_true (by omega);clear c7;(first | rw [c7b0] | rw [c7b1] | (simp only [i64_w, i32_w]; rw [c7b0]) | skip);by_cases c8 : 0 < (a0.size : Int)
   ·rw [if_pos c8] at H;have c8b0 := decide_eq_true c8;have c8b1 : decide (0 < a0.size) = true := decide_eq_true (by omega);clear c8;have H' := zA H;clear H;have p9 : 0 ≤ (0 : Int) := (by omega);have q9 : 0 < a0.size := (by have : (0 : Int) < (a0.size : Int) := zD; omega);have hx9 : ∀ h : 0 < a0.size, ((a0[0]'h).toNat : Int) = bt a0 0 := bt_at a0 0;clear p9;have qi9 : (0 < (a0.size : Int)) = True := eq_true zD;replace q9 := eq_true q9
    go_wp2
    go_meet
    case rel => exact ⟨_, (((bt a0 0) == 45)), zS, H', ⟨by first | omega | exact Nat.le_refl _⟩, ⟨zB BK894.out⟩, ⟨zG1 GE894.out⟩⟩
   rw [if_neg c8] at H;cases H
  rw [if_neg c7] at H;have c7b0 : decide (0 < (a0.size : Int)) = false := decide_eq_false c7;have c7b1 : decide (0 < a0.size) = false := decide_eq_false (by omega);clear c7;(first | rw [c7b0] | rw [c7b1] | (simp only [i64_w, i32_w]; rw [c7b0]) | skip);have H' := zA H;clear H
  go_wp2
  go_meet
  case rel => exact ⟨_, (false), zS, H', ⟨by first | omega | exact Nat.le_refl _⟩, ⟨zB BK894.out⟩, ⟨zG1 GE894.out⟩⟩
 case rest =>
  clear HC5
  try clear hx9
  try clear qi9
  try clear hcz4_0
  try clear hcz4_1
  try clear hcz4_2
  try clear hfz4_0
  try clear hfz4_1
  try clear hfz4_2
  obtain ⟨kq, x4_4, rfl, HA, HJ4, BK894, HB⟩ := hcut;cases kq with
  | zero => exact absurd HA.out (by simp [credenceref1_FracParse.j0])
  | succ kj4 =>
   have H := HA.out;clear HA;simp only [credenceref1_FracParse.j0] at H;have HC10 := zA H;clear H
   go_upto_if 21 with (fail)
   go_cut [0] (fun v0 wc => ∃ (kq : Nat) (x0_9 : ByteArray), v0 = .string x0_9 ∧ Aside0 (credenceref1_FracParse.j1 kq x0_9 x4_4 = some (r1, r2, r3, r4)) ∧ Aside0 (kq ≤ kj4) ∧ Aside0 (wc.heap[gb894]? = some (.cells #[.bool false, (.slice none 0 0), (.slice none 0 0)] 25 (0, 0))) ∧ Aside0 (Below w.heap.size w wc))
   case first =>
    have H := HC10.out;clear HC10;by_cases c11 : x4_4 = true
    ·subst c11;have H1 : (if 1 ≤ (a0.size : Int) then (credenceref1_FracParse.j1 kj4 (a0.extract 1 a0.size) true) else (none)) = some (r1, r2, r3, r4) := by rw [if_pos rfl] at H; exact H
     clear H;have H := H1;clear H1;by_cases c12 : 1 ≤ (a0.size : Int)
     ·rw [if_pos c12] at H;have c12b0 := eq_true c12;have c12b1 := decide_eq_true c12;clear c12;have H' := zA H;clear H
      go_wp2
      go_meet
      case rel => exact ⟨_, (a0.extract 1 a0.size), zS, H', ⟨by have := HJ4.out; first | omega | exact Nat.le_refl _⟩, ⟨zB BK894.out⟩, ⟨zG1 GE894.out⟩⟩
     rw [if_neg c12] at H;cases H
    replace c11 := Bool.eq_false_iff.mpr c11;subst c11;have H1 : (credenceref1_FracParse.j1 kj4 a0 false) = some (r1, r2, r3, r4) := by rw [if_neg (show ¬ (false = true) by decide)] at H; exact H
    clear H;have H := H1;clear H1;have H' := zA H;clear H
    go_wp2
    go_meet
    case rel => exact ⟨_, (a0), zS, H', ⟨by have := HJ4.out; first | omega | exact Nat.le_refl _⟩, ⟨zB BK894.out⟩, ⟨zG1 GE894.out⟩⟩
   case rest =>
    clear HC10
    try clear hx9
    try clear qi9
    try clear hcz4_0
    try clear hcz4_1
    try clear hcz4_2
    try clear hfz4_0
    try clear hfz4_1
    try clear hfz4_2
    obtain ⟨kq, x0_9, rfl, HA, HJ9, BK894, HB⟩ := hcut;cases kq with
    | zero => exact absurd HA.out (by simp [credenceref1_FracParse.j1])
    | succ kj9 =>
     have H := HA.out;clear HA;simp only [credenceref1_FracParse.j1] at H;have HC13 := zA H;clear H
     go_upto_block 0 with (fail)
     go_cut [5] (fun v5 wc => ∃ (kq : Nat) (x5_12 : Int), v5 = .int .i64 x5_12 ∧ Aside0 (credenceref1_FracParse.j3 kq x0_9 x4_4 x5_12 = some (r1, r2, r3, r4)) ∧ Aside0 (kq ≤ kj9) ∧ Aside0 (wc.heap[gb894]? = some (.cells #[.bool false, (.slice none 0 0), (.slice none 0 0)] 25 (0, 0))) ∧ Aside0 (Below w.heap.size w wc))
     case first =>
      have H := HC13.out;clear HC13;have H' := zA H;clear H
      go_wp2
      go_loopg [5] kj9 (fun kq v5 w' => ∃ (x5_3 : Int), v5 = .int .i64 x5_3 ∧ Aside0 (credenceref1_FracParse.l0 kq x0_9 x4_4 x5_3 = some (r1, r2, r3, r4)) ∧ Aside0 (kq ≤ kj9) ∧ Aside0 (w'.heap[gb894]? = some (.cells #[.bool false, (.slice none 0 0), (.slice none 0 0)] 25 (0, 0))) ∧ Aside0 (Below w.heap.size w w'))
      case atStart => exact ⟨(0), zS, H', ⟨Nat.le_refl _⟩, ⟨zB BK894.out⟩, ⟨zG1 GE894.out⟩⟩
      case round =>
       clear H'
       try clear hx9
       try clear qi9
       try clear hcz4_0
       try clear hcz4_1
       try clear hcz4_2
       try clear hfz4_0
       try clear hfz4_1
       try clear hfz4_2
       obtain ⟨x5_3, rfl, HA, HK3, BK894, HB⟩ := hrel;cases gk with
       | zero => exact absurd HA.out (by simp [credenceref1_FracParse.l0])
       | succ k3 =>
        have H := HA.out;clear HA;simp only [credenceref1_FracParse.l0] at H;by_cases c14 : x5_3 < (x0_9.size : Int)
        ·rw [if_pos c14] at H;have c14b0 := decide_eq_true c14;clear c14;(first | rw [c14b0] | rw [c14b1] | (simp only [i64_w, i32_w]; rw [c14b0]) | skip);by_cases c15 : 0 ≤ x5_3
         ·rw [if_pos c15] at H;have c15b0 := decide_eq_true c15;clear c15;by_cases c17 : (bt x0_9 x5_3) = 47
          ·rw [if_pos c17] at H;have c17b0 := beq_iff_eq.mpr c17;have c17b1 := bne_eq_false_iff_eq.mpr c17;clear c17;have H' := zA H;clear H;have p16 : 0 ≤ (x5_3 : Int) := zD;have q16 : x5_3 < (x0_9.size : Int) := zD;have hx16 := bt_at x0_9 x5_3;replace p16 := eq_true p16;replace q16 := eq_true q16
           go_wp2
           go_meet
           case rel => exact ⟨_, (x5_3), zS, H', ⟨by have := HJ4.out; have := HJ9.out; have := HK3.out; first | omega | exact Nat.le_refl _⟩, ⟨zB BK894.out⟩, ⟨zG1 GE894.out⟩⟩
          rw [if_neg c17] at H;have c17b0 := beq_eq_false_iff_ne.mpr c17;have c17b1 := bne_iff_ne.mpr c17;by_cases c19 : (bt x0_9 x5_3) = 46
          ·rw [if_pos c19] at H;have c19b0 := beq_iff_eq.mpr c19;have c19b1 := bne_eq_false_iff_eq.mpr c19;clear c19;have H' := zA H;clear H;have p16 : 0 ≤ (x5_3 : Int) := zD;have q16 : x5_3 < (x0_9.size : Int) := zD;have hx16 := bt_at x0_9 x5_3;replace p16 := eq_true p16;replace q16 := eq_true q16;have p18 : 0 ≤ (x5_3 : Int) := zD;have q18 : x5_3 < (x0_9.size : Int) := zD;have hx18 := bt_at x0_9 x5_3;replace p18 := eq_true p18;replace q18 := eq_true q18
           go_wp2
           go_meet
           case rel => exact ⟨_, (x5_3), zS, H', ⟨by have := HJ4.out; have := HJ9.out; have := HK3.out; first | omega | exact Nat.le_refl _⟩, ⟨zB BK894.out⟩, ⟨zG1 GE894.out⟩⟩
          rw [if_neg c19] at H;have c19b0 := beq_eq_false_iff_ne.mpr c19;have c19b1 := bne_iff_ne.mpr c19;have H' := zA H;clear H;have p16 : 0 ≤ (x5_3 : Int) := zD;have q16 : x5_3 < (x0_9.size : Int) := zD;have hx16 := bt_at x0_9 x5_3;replace p16 := eq_true p16;replace q16 := eq_true q16;have p18 : 0 ≤ (x5_3 : Int) := zD;have q18 : x5_3 < (x0_9.size : Int) := zD;have hx18 := bt_at x0_9 x5_3;replace p18 := eq_true p18;replace q18 := eq_true q18
          go_wp2
          go_roundg k3
          case measure => have := HJ4.out; have := HJ9.out; have := HK3.out; omega
          case rel => exact ⟨(wrap64 (x5_3 + 1)), zS, H', ⟨by have := HJ4.out; have := HJ9.out; have := HK3.out; omega⟩, ⟨zB BK894.out⟩, ⟨zG1 GE894.out⟩⟩
         rw [if_neg c15] at H;cases H
        rw [if_neg c14] at H;have c14b0 := decide_eq_false c14;clear c14;(first | rw [c14b0] | rw [c14b1] | (simp only [i64_w, i32_w]; rw [c14b0]) | skip);have H' := zA H;clear H
        go_wp2
        go_meet
        case rel => exact ⟨_, (x5_3), zS, H', ⟨by have := HJ4.out; have := HJ9.out; have := HK3.out; first | omega | exact Nat.le_refl _⟩, ⟨zB BK894.out⟩, ⟨zG1 GE894.out⟩⟩
     case rest =>
      clear HC13
      try clear hx1
      try clear hx9
      try clear qi9
      try clear hx16
      try clear hx18
      try clear hcz4_0
      try clear hcz4_1
      try clear hcz4_2
      try clear hfz4_0
      try clear hfz4_1
      try clear hfz4_2
      obtain ⟨kq, x5_12, rfl, HA, HJ12, BK894, HB⟩ := hcut;cases kq with
      | zero => exact absurd HA.out (by simp [credenceref1_FracParse.j3])
      | succ kj12 =>
       have H := HA.out;clear HA;simp only [credenceref1_FracParse.j3] at H;have HC20 := zA H;clear H
       go_upto_region 9 with (fail)
       go_cut [60] (fun v60 wc => ∃ (kq : Nat) (x60_19 : Bool), v60 = .bool x60_19 ∧ Aside0 (credenceref1_FracParse.j4 kq x0_9 x4_4 x5_12 x60_19 = some (r1, r2, r3, r4)) ∧ Aside0 (kq ≤ kj12) ∧ Aside0 (wc.heap[gb894]? = some (.cells #[.bool false, (.slice none 0 0), (.slice none 0 0)] 25 (0, 0))) ∧ Aside0 (Below w.heap.size w wc))
       case first =>
        have H := HC20.out;clear HC20;by_cases c21 : 0 ≤ x5_12
        ·rw [if_pos c21] at H;have c21b0 := eq_true c21;have c21b1 := decide_eq_true c21;clear c21;by_cases c22 : x5_12 ≤ (x0_9.size : Int)
         ·rw [if_pos c22] at H;have c22b0 := eq_true c22;have c22b1 := decide_eq_true c22;clear c22;obtain ⟨t895, A230, H⟩ := zi H;have A23 := zA A230;clear A230;by_cases c24 : t895 = true
          ·subst c24;have H1 : (if x5_12 < (x0_9.size : Int) then (if 0 ≤ (wrap64 (x5_12 + 1)) then (if (wrap64 (x5_12 + 1)) ≤ (x0_9.size : Int) then ((credenceref1_Digits.f kj12 (x0_9.extract ((wrap64 (x5_12 + 1)) : Int).toNat x0_9.size)).bind fun t896 => (credenceref1_FracParse.j4 kj12 x0_9 x4_4 x5_12 (!t896))) else (none)) else (none)) else (credenceref1_FracParse.j4 kj12 x0_9 x4_4 x5_12 false)) = some (r1, r2, r3, r4) := by rw [if_pos rfl] at H; exact H
           clear H;have H := H1;clear H1;by_cases c25 : x5_12 < (x0_9.size : Int)
           ·rw [if_pos c25] at H;have c25b0 := decide_eq_true c25;clear c25;(first | rw [c25b0] | rw [c25b1] | (simp only [i64_w, i32_w]; rw [c25b0]) | skip);obtain ⟨ji26, hji26⟩ : ∃ j_ : Int, (wrap64 (x5_12 + 1)) = j_ := ⟨_, rfl⟩
            first | rw [hji26] at H | simp only [hji26] at H
            (try rw [hji26] at A23);have hji26w : (IntKind.i64.wrap (x5_12 + 1)) = ji26 := (i64_w _).trans hji26;by_cases c27 : 0 ≤ (ji26)
            ·rw [if_pos c27] at H;have c27b0 := eq_true c27;have c27b1 := decide_eq_true c27;clear c27;by_cases c28 : (ji26) ≤ (x0_9.size : Int)
             ·rw [if_pos c28] at H;have c28b0 := eq_true c28;have c28b1 := decide_eq_true c28;clear c28;obtain ⟨t896, A290, H⟩ := zi H;have A29 := zA A290;clear A290;have H' := zA H;clear H
              go_wp2_with (first | ((with_reducible refine gate_callee (f := 58) rfl ?_); refine goesL_ (some 45) rfl rfl Tryd.func58 zk rfl #[.string (x0_9.extract 0 (x5_12 : Int).toNat)] rfl zX ?_; (with_reducible refine (credenceref1_Digits.calls kj12 (x0_9.extract 0 (x5_12 : Int).toNat) true _ A23.out).mono ?_); rintro e w' ⟨rfl, ⟨nd, rfl⟩⟩; refine ⟨_, rfl, ?_⟩) | (go_at_call 58; (with_reducible refine (credenceref1_Digits.calls kj12 (x0_9.extract ((ji26) : Int).toNat x0_9.size) t896 _ A29.out).mono ?_); rintro e w' ⟨rfl, ⟨nd, rfl⟩⟩))
              go_meet
              case rel => exact ⟨_, (!t896), zS, H', ⟨by have := HJ4.out; have := HJ9.out; have := HJ12.out; first | omega | exact Nat.le_refl _⟩, ⟨zB BK894.out⟩, ⟨zG1 GE894.out⟩⟩
             rw [if_neg c28] at H;cases H
            rw [if_neg c27] at H;cases H
           rw [if_neg c25] at H;have c25b0 := decide_eq_false c25;clear c25;(first | rw [c25b0] | rw [c25b1] | (simp only [i64_w, i32_w]; rw [c25b0]) | skip);have H' := zA H;clear H
           go_wp2_with (first | ((with_reducible refine gate_callee (f := 58) rfl ?_); refine goesL_ (some 45) rfl rfl Tryd.func58 zk rfl #[.string (x0_9.extract 0 (x5_12 : Int).toNat)] rfl zX ?_; (with_reducible refine (credenceref1_Digits.calls kj12 (x0_9.extract 0 (x5_12 : Int).toNat) true _ A23.out).mono ?_); rintro e w' ⟨rfl, ⟨nd, rfl⟩⟩; refine ⟨_, rfl, ?_⟩))
           go_meet
           case rel => exact ⟨_, (false), zS, H', ⟨by have := HJ4.out; have := HJ9.out; have := HJ12.out; first | omega | exact Nat.le_refl _⟩, ⟨zB BK894.out⟩, ⟨zG1 GE894.out⟩⟩
          replace c24 := Bool.eq_false_iff.mpr c24;subst c24;have H1 : (credenceref1_FracParse.j4 kj12 x0_9 x4_4 x5_12 true) = some (r1, r2, r3, r4) := by rw [if_neg (show ¬ (false = true) by decide)] at H; exact H
          clear H;have H := H1;clear H1;have H' := zA H;clear H
          go_wp2_with (first | ((with_reducible refine gate_callee (f := 58) rfl ?_); refine goesL_ (some 45) rfl rfl Tryd.func58 zk rfl #[.string (x0_9.extract 0 (x5_12 : Int).toNat)] rfl zX ?_; (with_reducible refine (credenceref1_Digits.calls kj12 (x0_9.extract 0 (x5_12 : Int).toNat) false _ A23.out).mono ?_); rintro e w' ⟨rfl, ⟨nd, rfl⟩⟩; refine ⟨_, rfl, ?_⟩))
          go_meet
          case rel => exact ⟨_, (true), zS, H', ⟨by have := HJ4.out; have := HJ9.out; have := HJ12.out; first | omega | exact Nat.le_refl _⟩, ⟨zB BK894.out⟩, ⟨zG1 GE894.out⟩⟩
         rw [if_neg c22] at H;cases H
        rw [if_neg c21] at H;cases H
       case rest =>
        clear HC20
        try clear hx1
        try clear hx9
        try clear qi9
        try clear hx16
        try clear hx18
        try clear hcz4_0
        try clear hcz4_1
        try clear hcz4_2
        try clear hfz4_0
        try clear hfz4_1
        try clear hfz4_2
        obtain ⟨kq, x60_19, rfl, HA, HJ19, BK894, HB⟩ := hcut;cases kq with
        | zero => exact absurd HA.out (by simp [credenceref1_FracParse.j4])
        | succ kj19 =>
         have H := HA.out;clear HA;simp only [credenceref1_FracParse.j4] at H;by_cases c30 : x60_19 = true
         ·subst c30;have H1 : (some (false, ([] : List Int), ([] : List Int), 2)) = some (r1, r2, r3, r4) := by rw [if_pos rfl] at H; exact H
          clear H;have H := H1;clear H1;simp only [Option.some.injEq, Prod.mk.injEq] at H;obtain ⟨rfl, rfl, rfl, rfl⟩ := H;have hcz31_0 := zc BK894 0 (v := .bool false) rfl;have hcz31_1 := zc BK894 1 (v := .slice none 0 0) rfl;have hcz31_2 := zc BK894 2 (v := .slice none 0 0) rfl;have hfz31_0 := zF BK894 0;have hfz31_1 := zF BK894 1;have hfz31_2 := zF BK894 2
          go_wp2
          refine bodyPost_ret (results_ct rfl _ _ gb894 25 #[.bool false, .slice none 0 0, .slice none 0 0] (0, 0) _ rfl (zQ BK894.out) Tryd.underlying25 rfl zk) rfl ?_;exact ⟨_, _, zE, by first | exact Kd.R_nil _ _ _ _ _ | exact Kd.V_nil _ _ _ _ _, by first | exact Kd.R_nil _ _ _ _ _ | exact Kd.V_nil _ _ _ _ _, zG1 GE894.out⟩
         replace c30 := Bool.eq_false_iff.mpr c30;subst c30;have H1 : (if x5_12 = (x0_9.size : Int) then ((credenceref1_NatDigits.f kj19 x0_9).bind fun t897 => ((credenceref1_NatOf.f kj19 1).bind fun t900 => ((credenceref1_frac.f kj19 x4_4 t897 t900).bind fun bt903 => (some (bt903.1, bt903.2.1, bt903.2.2, 0))))) else (if 0 ≤ x5_12 then (if x5_12 < (x0_9.size : Int) then (if (bt x0_9 x5_12) = 47 then (if 0 ≤ (wrap64 (x5_12 + 1)) then (if (wrap64 (x5_12 + 1)) ≤ (x0_9.size : Int) then ((credenceref1_NatDigits.f kj19 (x0_9.extract ((wrap64 (x5_12 + 1)) : Int).toNat x0_9.size)).bind fun t910 => (if (t910.length : Int) = 0 then (some (false, ([] : List Int), ([] : List Int), 20)) else (if x5_12 ≤ (x0_9.size : Int) then ((credenceref1_NatDigits.f kj19 (x0_9.extract 0 (x5_12 : Int).toNat)).bind fun t913 => ((credenceref1_frac.f kj19 x4_4 t913 t910).bind fun bt916 => (some (bt916.1, bt916.2.1, bt916.2.2, 0)))) else (none)))) else (none)) else (none)) else ((credenceref1_NatOf.f kj19 1).bind fun t923 => (credenceref1_FracParse.l1 kj19 x0_9 x4_4 x5_12 t923 (wrap64 (x5_12 + 1))))) else (none)) else (none))) = some (r1, r2, r3, r4) := by rw [if_neg (show ¬ (false = true) by decide)] at H; exact H
         clear H;have H := H1;clear H1;by_cases c32 : x5_12 = (x0_9.size : Int)
         ·rw [if_pos c32] at H;have c32b0 := beq_iff_eq.mpr c32;have c32b1 := bne_eq_false_iff_eq.mpr c32;clear c32;obtain ⟨t897, A330, H⟩ := zi H;have A33 := zA A330;clear A330;obtain ⟨t900, A340, H⟩ := zi H;have A34 := zA A340;clear A340;obtain ⟨⟨t903, t904, t907⟩, A350, H⟩ := zi H;dsimp only at H;have A35 := zA A350;clear A350;simp only [Option.some.injEq, Prod.mk.injEq] at H;obtain ⟨rfl, rfl, rfl, rfl⟩ := H
          go_wp2_with (first | ((with_reducible refine gate_callee (f := 59) rfl ?_); refine goesL_ (some 68) rfl rfl Tryd.func59 zk rfl #[.string x0_9] rfl zX ?_; (with_reducible refine (credenceref1_NatDigits.calls kj19 x0_9 t897 _ A33.out).mono ?_); rintro e w36 ⟨v898, rfl, ho0, hb⟩; refine ⟨_, rfl, ?_⟩; have HO899 := zlo ho0 HB rfl; replace BK894 := zkb BK894 hb; replace HB := zbb HB hb rfl) | ((with_reducible refine gate_callee (f := 60) rfl ?_); refine goesL_ (some 69) rfl rfl Tryd.func60 zk rfl #[.int .u64 1] rfl zX ?_; (with_reducible refine (credenceref1_NatOf.calls kj19 1 t900 _ A34.out).mono ?_); rintro e w37 ⟨v901, rfl, ho0, hb⟩; refine ⟨_, rfl, ?_⟩; have HO902 := zA (Kd.R_lower (zN ho0 HO899 rfl) (below_size (zb HB rfl))); replace HO899 := zre HO899 hb ho0 rfl; replace BK894 := zkb BK894 hb; replace HB := zbb HB hb rfl; obtain ⟨Ao38, co38, eo38⟩ := Kd.R_slice HO899.out; subst eo38; obtain ⟨Ao39, co39, eo39⟩ := Kd.R_slice HO902.out; subst eo39) | ((with_reducible refine gate_callee (f := 48) rfl ?_); refine goesL_ (some 70) rfl rfl Tryd.func48 zk rfl #[.bool x4_4, .slice Ao38 t897.length co38, .slice Ao39 t900.length co39] rfl zX ?_; (with_reducible refine (credenceref1_frac.calls kj19 x4_4 _ _ t897 _ _ t900 t903 t904 t907 _ ?side1 ?side2 ?side3 ?side4 A35.out).mono ?_); (case side1 => exact zC (Kd.R_reads' HO899.out).2.2); (case side2 => exact (Kd.R_reads' HO899.out).2.1); (case side3 => exact zC (Kd.R_reads' HO902.out).2.2); (case side4 => exact (Kd.R_reads' HO902.out).2.1); rintro e w40 ⟨v905, v908, rfl, ho0, ho1, hb⟩; refine ⟨_, rfl, ?_⟩; have HO906 := zA (Kd.R_lower (zN (zN ho0 HO899 rfl) HO902 rfl) (below_size (zb HB rfl))); have HO909 := zA (Kd.R_lower (zN (zN ho1 HO899 rfl) HO902 rfl) (below_size (zb HB rfl))); replace HO899 := zt2 HO899 hb ho0 ho1 rfl; replace HO902 := zt2 HO902 hb ho0 ho1 rfl; replace BK894 := zkb BK894 hb; replace HB := zbb HB hb rfl; have hcz41_0 := zc BK894 0 (v := .bool false) rfl; have hcz41_1 := zc BK894 1 (v := .slice none 0 0) rfl; have hcz41_2 := zc BK894 2 (v := .slice none 0 0) rfl; have hfz41_0 := zF BK894 0; have hfz41_1 := zF BK894 1; have hfz41_2 := zF BK894 2; obtain ⟨Ao42, co42, eo42⟩ := Kd.R_slice HO906.out; subst eo42; obtain ⟨Ao43, co43, eo43⟩ := Kd.R_slice HO909.out; subst eo43))
          refine bodyPost_ret (results_ct rfl _ _ gb894 25 #[.bool t903, .slice Ao42 t904.length co42, .slice Ao43 t907.length co43] (0, 0) _ rfl (zQ BK894.out) Tryd.underlying25 rfl zk) rfl ?_;exact ⟨_, _, zE, zRM (Kd.R_far (p := ⟨gb894, 2, none⟩) (Kd.R_far (p := ⟨gb894, 1, none⟩) (Kd.R_far (p := ⟨gb894, 0, none⟩) (Kd.R_types HO906.out BK894.out (by decide)) (fun _ hk => hk.2) (.bool t903)) (fun _ hk => hk.2) (.slice Ao42 t904.length co42)) (fun _ hk => hk.2) (.slice Ao43 t907.length co43)) (fun _ hk => hk.1.1.1), zRM (Kd.R_far (p := ⟨gb894, 2, none⟩) (Kd.R_far (p := ⟨gb894, 1, none⟩) (Kd.R_far (p := ⟨gb894, 0, none⟩) (Kd.R_types HO909.out BK894.out (by decide)) (fun _ hk => hk.2) (.bool t903)) (fun _ hk => hk.2) (.slice Ao42 t904.length co42)) (fun _ hk => hk.2) (.slice Ao43 t907.length co43)) (fun _ hk => hk.1.1.1), zG1 GE894.out⟩
         rw [if_neg c32] at H;have c32b0 := beq_eq_false_iff_ne.mpr c32;have c32b1 := bne_iff_ne.mpr c32;by_cases c44 : 0 ≤ x5_12
         ·rw [if_pos c44] at H;have c44b0 := decide_eq_true c44;clear c44;by_cases c45 : x5_12 < (x0_9.size : Int)
          ·rw [if_pos c45] at H;have c45b0 := decide_eq_true c45;clear c45;by_cases c47 : (bt x0_9 x5_12) = 47
           ·rw [if_pos c47] at H;have c47b0 := beq_iff_eq.mpr c47;have c47b1 := bne_eq_false_iff_eq.mpr c47;clear c47;obtain ⟨ji48, hji48⟩ : ∃ j_ : Int, (wrap64 (x5_12 + 1)) = j_ := ⟨_, rfl⟩
            first | rw [hji48] at H | simp only [hji48] at H
            have hji48w : (IntKind.i64.wrap (x5_12 + 1)) = ji48 := (i64_w _).trans hji48;(try (have hji48r := hji48; simp only [hji26] at hji48r));(try (have hji48wr := hji48w; simp only [hji26] at hji48wr));by_cases c49 : 0 ≤ (ji48)
            ·rw [if_pos c49] at H;have c49b0 := eq_true c49;have c49b1 := decide_eq_true c49;clear c49;by_cases c50 : (ji48) ≤ (x0_9.size : Int)
             ·rw [if_pos c50] at H;have c50b0 := eq_true c50;have c50b1 := decide_eq_true c50;clear c50;obtain ⟨t910, A510, H⟩ := zi H;have A51 := zA A510;clear A510;by_cases c52 : (t910.length : Int) = 0
              ·rw [if_pos c52] at H;have c52b0 := beq_iff_eq.mpr c52;have c52b1 := bne_eq_false_iff_eq.mpr c52;clear c52;simp only [Option.some.injEq, Prod.mk.injEq] at H;obtain ⟨rfl, rfl, rfl, rfl⟩ := H;have p46 : 0 ≤ (x5_12 : Int) := zD;have q46 : x5_12 < (x0_9.size : Int) := zD;have hx46 := bt_at x0_9 x5_12;replace p46 := eq_true p46;replace q46 := eq_true q46
               go_wp2_with (first | ((with_reducible refine gate_callee (f := 59) rfl ?_); refine goesL_ (some 79) rfl rfl Tryd.func59 zk rfl #[.string (x0_9.extract ((ji48) : Int).toNat x0_9.size)] rfl (by (try simp only [List.map_toArray, List.map_cons, List.map_nil]); first | done | (simp only [hji48]; rfl) | rfl | (simp only [List.length_drop, List.length_take]; rfl) | (go_simp; done) | (go_simp; rfl) | (go_simp; (try simp only [IntKind.wrap_u8, IntKind.wrap_u32, IntKind.wrap_u64]); omega)) ?_; (with_reducible refine (credenceref1_NatDigits.calls kj19 (x0_9.extract ((ji48) : Int).toNat x0_9.size) t910 _ A51.out).mono ?_); rintro e w53 ⟨v911, rfl, ho0, hb⟩; refine ⟨_, rfl, ?_⟩; have HO912 := zlo ho0 HB rfl; replace BK894 := zkb BK894 hb; replace HB := zbb HB hb rfl; obtain ⟨Ao54, co54, eo54⟩ := Kd.R_slice HO912.out; subst eo54; have hcz55_0 := zc BK894 0 (v := .bool false) rfl; have hcz55_1 := zc BK894 1 (v := .slice none 0 0) rfl; have hcz55_2 := zc BK894 2 (v := .slice none 0 0) rfl; have hfz55_0 := zF BK894 0; have hfz55_1 := zF BK894 1; have hfz55_2 := zF BK894 2))
               refine bodyPost_ret (results_ct rfl _ _ gb894 25 #[.bool false, .slice none 0 0, .slice none 0 0] (0, 0) _ rfl (zQ BK894.out) Tryd.underlying25 rfl zk) rfl ?_;exact ⟨_, _, by first | rfl | (simp [errW_none, errW_some] <;> rfl) | (simp only [← hji48]; first | rfl | (simp [errW_none, errW_some] <;> rfl)) | (simp [*, errW_none, errW_some] <;> rfl), by first | exact Kd.R_nil _ _ _ _ _ | exact Kd.V_nil _ _ _ _ _, by first | exact Kd.R_nil _ _ _ _ _ | exact Kd.V_nil _ _ _ _ _, zG1 GE894.out⟩
              rw [if_neg c52] at H;have c52b0 := beq_eq_false_iff_ne.mpr c52;have c52b1 := bne_iff_ne.mpr c52;have c52b2 : ¬ (t910 = []) := fun h_ => c52 (by rw [h_]; rfl)
              have c56b0 := eq_true (zD : 0 ≤ x5_12);by_cases c57 : x5_12 ≤ (x0_9.size : Int)
              ·rw [if_pos c57] at H;have c57b0 := eq_true c57;have c57b1 := decide_eq_true c57;clear c57;obtain ⟨t913, A580, H⟩ := zi H;have A58 := zA A580;clear A580;obtain ⟨⟨t916, t917, t920⟩, A590, H⟩ := zi H;dsimp only at H;have A59 := zA A590;clear A590;simp only [Option.some.injEq, Prod.mk.injEq] at H;obtain ⟨rfl, rfl, rfl, rfl⟩ := H;have p46 : 0 ≤ (x5_12 : Int) := zD;have q46 : x5_12 < (x0_9.size : Int) := zD;have hx46 := bt_at x0_9 x5_12;replace p46 := eq_true p46;replace q46 := eq_true q46
               go_wp2_with (first | ((with_reducible refine gate_callee (f := 59) rfl ?_); refine goesL_ (some 79) rfl rfl Tryd.func59 zk rfl #[.string (x0_9.extract ((ji48) : Int).toNat x0_9.size)] rfl (by (try simp only [List.map_toArray, List.map_cons, List.map_nil]); first | done | (simp only [hji48]; rfl) | rfl | (simp only [List.length_drop, List.length_take]; rfl) | (go_simp; done) | (go_simp; rfl) | (go_simp; (try simp only [IntKind.wrap_u8, IntKind.wrap_u32, IntKind.wrap_u64]); omega)) ?_; (with_reducible refine (credenceref1_NatDigits.calls kj19 (x0_9.extract ((ji48) : Int).toNat x0_9.size) t910 _ A51.out).mono ?_); rintro e w60 ⟨v911, rfl, ho0, hb⟩; refine ⟨_, rfl, ?_⟩; have HO912 := zlo ho0 HB rfl; replace BK894 := zkb BK894 hb; replace HB := zbb HB hb rfl; obtain ⟨Ao61, co61, eo61⟩ := Kd.R_slice HO912.out; subst eo61) | ((with_reducible refine gate_callee (f := 59) rfl ?_); refine goesL_ (some 88) rfl rfl Tryd.func59 zk rfl #[.string (x0_9.extract 0 (x5_12 : Int).toNat)] rfl zX ?_; (with_reducible refine (credenceref1_NatDigits.calls kj19 (x0_9.extract 0 (x5_12 : Int).toNat) t913 _ A58.out).mono ?_); rintro e w62 ⟨v914, rfl, ho0, hb⟩; refine ⟨_, rfl, ?_⟩; have HO915 := zA (Kd.R_lower (zN ho0 HO912 rfl) (below_size (zb HB rfl))); replace HO912 := zre HO912 hb ho0 rfl; replace BK894 := zkb BK894 hb; replace HB := zbb HB hb rfl; obtain ⟨Ao63, co63, eo63⟩ := Kd.R_slice HO915.out; subst eo63) | ((with_reducible refine gate_callee (f := 48) rfl ?_); refine goesL_ (some 90) rfl rfl Tryd.func48 zk rfl #[.bool x4_4, .slice Ao63 t913.length co63, .slice Ao61 t910.length co61] rfl zX ?_; (with_reducible refine (credenceref1_frac.calls kj19 x4_4 _ _ t913 _ _ t910 t916 t917 t920 _ ?side1 ?side2 ?side3 ?side4 A59.out).mono ?_); (case side1 => exact zC (Kd.R_reads' HO915.out).2.2); (case side2 => exact (Kd.R_reads' HO915.out).2.1); (case side3 => exact zC (Kd.R_reads' HO912.out).2.2); (case side4 => exact (Kd.R_reads' HO912.out).2.1); rintro e w64 ⟨v918, v921, rfl, ho0, ho1, hb⟩; refine ⟨_, rfl, ?_⟩; have HO919 := zA (Kd.R_lower (zN (zN ho0 HO912 rfl) HO915 rfl) (below_size (zb HB rfl))); have HO922 := zA (Kd.R_lower (zN (zN ho1 HO912 rfl) HO915 rfl) (below_size (zb HB rfl))); replace HO912 := zt2 HO912 hb ho0 ho1 rfl; replace HO915 := zt2 HO915 hb ho0 ho1 rfl; replace BK894 := zkb BK894 hb; replace HB := zbb HB hb rfl; have hcz65_0 := zc BK894 0 (v := .bool false) rfl; have hcz65_1 := zc BK894 1 (v := .slice none 0 0) rfl; have hcz65_2 := zc BK894 2 (v := .slice none 0 0) rfl; have hfz65_0 := zF BK894 0; have hfz65_1 := zF BK894 1; have hfz65_2 := zF BK894 2; obtain ⟨Ao66, co66, eo66⟩ := Kd.R_slice HO919.out; subst eo66; obtain ⟨Ao67, co67, eo67⟩ := Kd.R_slice HO922.out; subst eo67))
               refine bodyPost_ret (results_ct rfl _ _ gb894 25 #[.bool t916, .slice Ao66 t917.length co66, .slice Ao67 t920.length co67] (0, 0) _ rfl (zQ BK894.out) Tryd.underlying25 rfl zk) rfl ?_;exact ⟨_, _, by first | rfl | (simp [errW_none, errW_some] <;> rfl) | (simp only [← hji48]; first | rfl | (simp [errW_none, errW_some] <;> rfl)) | (simp [*, errW_none, errW_some] <;> rfl), zRM (Kd.R_far (p := ⟨gb894, 2, none⟩) (Kd.R_far (p := ⟨gb894, 1, none⟩) (Kd.R_far (p := ⟨gb894, 0, none⟩) (Kd.R_types HO919.out BK894.out (by decide)) (fun _ hk => hk.2) (.bool t916)) (fun _ hk => hk.2) (.slice Ao66 t917.length co66)) (fun _ hk => hk.2) (.slice Ao67 t920.length co67)) (fun _ hk => hk.1.1.1), zRM (Kd.R_far (p := ⟨gb894, 2, none⟩) (Kd.R_far (p := ⟨gb894, 1, none⟩) (Kd.R_far (p := ⟨gb894, 0, none⟩) (Kd.R_types HO922.out BK894.out (by decide)) (fun _ hk => hk.2) (.bool t916)) (fun _ hk => hk.2) (.slice Ao66 t917.length co66)) (fun _ hk => hk.2) (.slice Ao67 t920.length co67)) (fun _ hk => hk.1.1.1), zG1 GE894.out⟩
              rw [if_neg c57] at H;cases H
             rw [if_neg c50] at H;cases H
            rw [if_neg c49] at H;cases H
           rw [if_neg c47] at H;have c47b0 := beq_eq_false_iff_ne.mpr c47;have c47b1 := bne_iff_ne.mpr c47;obtain ⟨t923, A680, H⟩ := zi H;have A68 := zA A680;clear A680;have H' := zA H;clear H;have p46 : 0 ≤ (x5_12 : Int) := zD;have q46 : x5_12 < (x0_9.size : Int) := zD;have hx46 := bt_at x0_9 x5_12;replace p46 := eq_true p46;replace q46 := eq_true q46
           go_wp2_with (first | ((with_reducible refine gate_callee (f := 60) rfl ?_); refine goesL_ (some 91) rfl rfl Tryd.func60 zk rfl #[.int .u64 1] rfl zX ?_; (with_reducible refine (credenceref1_NatOf.calls kj19 1 t923 _ A68.out).mono ?_); rintro e w69 ⟨v924, rfl, ho0, hb⟩; refine ⟨_, rfl, ?_⟩; have HO925 := zlo ho0 HB rfl; replace BK894 := zkb BK894 hb; replace HB := zbb HB hb rfl))
           go_loopg [7, 8] kj19 (fun kq v7 v8 w' => ∃ (x7_5 : List Int) (x8_5 : Int), v8 = .int .i64 x8_5 ∧ Aside0 (credenceref1_FracParse.l1 kq x0_9 x4_4 x5_12 x7_5 x8_5 = some (r1, r2, r3, r4)) ∧ Aside0 (kq ≤ kj19) ∧ Aside0 (Kd.R (Kd.int .u32) 37 w' w.heap.size (fun _ => True) v7 x7_5) ∧ Aside0 (w'.heap[gb894]? = some (.cells #[.bool false, (.slice none 0 0), (.slice none 0 0)] 25 (0, 0))) ∧ Aside0 (Below w.heap.size w w'))
           case atStart => exact ⟨(t923), (wrap64 (x5_12 + 1)), zS, H', ⟨Nat.le_refl _⟩, ⟨zR HO925.out⟩, ⟨zB BK894.out⟩, ⟨zG1 GE894.out⟩⟩
           case round =>
            clear H'
            try clear hx1
            try clear hx4
            try clear hx9
            try clear qi9
            try clear hx16
            try clear hx18
            try clear hx46
            try clear hcz31_0
            try clear hcz31_1
            try clear hcz31_2
            try clear hcz41_0
            try clear hcz41_1
            try clear hcz41_2
            try clear hcz4_0
            try clear hcz4_1
            try clear hcz4_2
            try clear hcz55_0
            try clear hcz55_1
            try clear hcz55_2
            try clear hcz65_0
            try clear hcz65_1
            try clear hcz65_2
            try clear hfz31_0
            try clear hfz31_1
            try clear hfz31_2
            try clear hfz41_0
            try clear hfz41_1
            try clear hfz41_2
            try clear hfz4_0
            try clear hfz4_1
            try clear hfz4_2
            try clear hfz55_0
            try clear hfz55_1
            try clear hfz55_2
            try clear hfz65_0
            try clear hfz65_1
            try clear hfz65_2
            obtain ⟨x7_5, x8_5, rfl, HA, HK5, HO_7, BK894, HB⟩ := hrel;cases gk with
            | zero => exact absurd HA.out (by simp [credenceref1_FracParse.l1])
            | succ k5 =>
             have H := HA.out;clear HA;simp only [credenceref1_FracParse.l1] at H;by_cases c70 : x8_5 < (x0_9.size : Int)
             ·rw [if_pos c70] at H;have c70b0 := decide_eq_true c70;clear c70;obtain ⟨t926, A710, H⟩ := zi H;have A71 := zA A710;clear A710;obtain ⟨t929, A720, H⟩ := zi H;have A72 := zA A720;clear A720;have H' := zA H;clear H
              go_wp2_with (first | ((with_reducible refine gate_callee (f := 60) rfl ?_); refine goesL_ (some 101) rfl rfl Tryd.func60 zk rfl #[.int .u64 10] rfl zX ?_; (with_reducible refine (credenceref1_NatOf.calls k5 10 t926 _ A71.out).mono ?_); rintro e w73 ⟨v927, rfl, ho0, hb⟩; refine ⟨_, rfl, ?_⟩; have HO928 := zA (Kd.R_lower (zN ho0 HO_7 rfl) (below_size (zb HB rfl))); replace HO_7 := zre HO_7 hb ho0 rfl; replace BK894 := zkb BK894 hb; replace HB := zbb HB hb rfl; obtain ⟨Ao74, co74, eo74⟩ := Kd.R_slice HO_7.out; subst eo74; obtain ⟨Ao75, co75, eo75⟩ := Kd.R_slice HO928.out; subst eo75) | ((with_reducible refine gate_callee (f := 61) rfl ?_); refine goesL_ (some 102) rfl rfl Tryd.func61 zk rfl #[.slice Ao74 x7_5.length co74, .slice Ao75 t926.length co75] rfl zX ?_; (with_reducible refine (credenceref1_NatMul.calls k5 _ _ x7_5 _ _ t926 t929 _ ?side1 ?side2 ?side3 ?side4 A72.out).mono ?_); (case side1 => exact zC (Kd.R_reads' HO_7.out).2.2); (case side2 => exact (Kd.R_reads' HO_7.out).2.1); (case side3 => exact zC (Kd.R_reads' HO928.out).2.2); (case side4 => exact (Kd.R_reads' HO928.out).2.1); rintro e w76 ⟨v930, rfl, ho0, hb⟩; refine ⟨_, rfl, ?_⟩; have HO931 := zA (Kd.R_lower (zN (zN ho0 HO_7 rfl) HO928 rfl) (below_size (zb HB rfl))); replace HO_7 := zre HO_7 hb ho0 rfl; replace HO928 := zre HO928 hb ho0 rfl; replace BK894 := zkb BK894 hb; replace HB := zbb HB hb rfl))
              go_roundg k5
              case measure => have := HJ4.out; have := HJ9.out; have := HJ12.out; have := HJ19.out; have := HK5.out; omega
              case rel => exact ⟨(t929), (wrap64 (x8_5 + 1)), zS, H', ⟨by have := HJ4.out; have := HJ9.out; have := HJ12.out; have := HJ19.out; have := HK5.out; omega⟩, ⟨zRM HO931.out (fun _ hk => trivial)⟩, ⟨zB BK894.out⟩, ⟨zG1 GE894.out⟩⟩
             rw [if_neg c70] at H;have c70b0 := decide_eq_false c70;clear c70;by_cases c77 : 0 ≤ x5_12
             ·rw [if_pos c77] at H;have c77b0 := eq_true c77;have c77b1 := decide_eq_true c77;clear c77;by_cases c78 : x5_12 ≤ (x0_9.size : Int)
              ·rw [if_pos c78] at H;have c78b0 := eq_true c78;have c78b1 := decide_eq_true c78;clear c78;obtain ⟨ji79, hji79⟩ : ∃ j_ : Int, (wrap64 (x5_12 + 1)) = j_ := ⟨_, rfl⟩
               first | rw [hji79] at H | simp only [hji79] at H
               have hji79w : (IntKind.i64.wrap (x5_12 + 1)) = ji79 := (i64_w _).trans hji79;(try (have hji79r := hji79; simp only [hji26, hji48] at hji79r));(try (have hji79wr := hji79w; simp only [hji26, hji48] at hji79wr));by_cases c80 : 0 ≤ (ji79)
               ·rw [if_pos c80] at H;have c80b0 := eq_true c80;have c80b1 := decide_eq_true c80;clear c80;by_cases c81 : (ji79) ≤ (x0_9.size : Int)
                ·rw [if_pos c81] at H;have c81b0 := eq_true c81;have c81b1 := decide_eq_true c81;clear c81;by_cases c82 : (x0_9.extract 0 (x5_12 : Int).toNat).size + (x0_9.extract ((ji79) : Int).toNat x0_9.size).size ≤ 9223372036854775807
                 ·rw [if_pos c82] at H;have c82b0 := eq_true c82;have c82b1 := decide_eq_true c82
                  try have c82b2 : (9223372036854775807 < (x0_9.extract 0 (x5_12 : Int).toNat).size + (x0_9.extract ((ji79) : Int).toNat x0_9.size).size) = False := eq_false (Nat.not_lt.2 c82)
                  try have c82b3 : (9223372036854775807 < (x5_12 : Int).toNat + (x0_9.size - ((ji79) : Int).toNat)) = False := eq_false (by have h1_ := c82; simp only [ByteArray.size_append, ByteArray.size_extract] at h1_; have e0_ : x5_12 ≤ (x0_9.size : Int) := of_decide_eq_true (by assumption); omega)
                  obtain ⟨t932, A830, H⟩ := zi H;have A83 := zA A830;clear A830;obtain ⟨⟨t935, t936, t939⟩, A840, H⟩ := zi H;dsimp only at H;have A84 := zA A840;clear A840;simp only [Option.some.injEq, Prod.mk.injEq] at H;obtain ⟨rfl, rfl, rfl, rfl⟩ := H
                  try go_wp2
                  replace HO_7 := zA (Kd.R_drew HO_7.out);replace BK894 := zA (blk_drew BK894.out);replace HB := zA (below_drew1 HB.out);refine start_ (n := 14) (S := fun w' => True) (ds := []) #[false, false, false, false, false, false, false, false, false, false, false, false, false, false] zk rfl rfl trivial (fun hHeld => ?_); refine with_tabW credenceref1_FracParse.tab23 credenceref1_FracParse.bits23 (fun HT_ HW_ => ?_);generalize wr.drew = w85 at HO_7 BK894 HB hHeld ⊢;refine zp 0 103 HT_ ?_;refine zp 1 104 HT_ ?_;refine zp 2 105 HT_ ?_;refine zp 3 106 HT_ ?_;refine zp 4 107 HT_ ?_;refine zp 5 108 HT_ ?_;refine zp 6 109 HT_ ?_;refine zp 7 110 HT_ ?_;refine zp 8 111 HT_ ?_;refine zp 10 113 HT_ ?_;refine zo 9 (some 112) HT_ fun K hK => ?_
                  refine goes_ Tryd.func59 zk rfl #[.string ((x0_9.extract 0 (x5_12 : Int).toNat) ++ (x0_9.extract ((ji79) : Int).toNat x0_9.size))] (by rfl) rfl rfl (by (try simp only [List.map_toArray, List.map_cons, List.map_nil]); first | done | (simp only [hji79]; rfl) | rfl | (simp only [List.length_drop, List.length_take]; rfl) | (go_simp; done) | (go_simp; rfl) | (go_simp; (try simp only [IntKind.wrap_u8, IntKind.wrap_u32, IntKind.wrap_u64]); omega)) ?_;with_reducible refine (credenceref1_NatDigits.calls k5 ((x0_9.extract 0 (x5_12 : Int).toNat) ++ (x0_9.extract ((ji79) : Int).toNat x0_9.size)) t932 _ A83.out).mono ?_
                  rintro e w86 ⟨v933, rfl, ho0, hb⟩;refine ⟨_, rfl, ?_⟩;have HO934 := zA (Kd.R_lower (zN ho0 HO_7 rfl) (below_size (zb HB rfl)));replace HO_7 := zre HO_7 hb ho0 rfl;replace BK894 := zkb BK894 hb;replace HB := zbb HB hb rfl;obtain ⟨Ao87, co87, eo87⟩ := Kd.R_slice HO934.out;(first | subst eo87 | (injection eo87 with f1_ f2_ f3_; have f4_ := f1_.symm; have f5_ := f3_.symm; clear f1_ f2_ f3_; subst f4_; subst f5_));obtain ⟨Ao88, co88, eo88⟩ := Kd.R_slice HO_7.out;(first | subst eo88 | (injection eo88 with f1_ f2_ f3_; have f4_ := f1_.symm; have f5_ := f3_.symm; clear f1_ f2_ f3_; subst f4_; subst f5_));refine hK.out _ _ trivial (fun hHeld => ?_);clear hK K;refine zn 112 ?_;refine zo 11 (some 114) HT_ fun K hK => ?_
                  refine goes_ Tryd.func48 zk rfl #[.bool x4_4, .slice Ao87 t932.length co87, .slice Ao88 x7_5.length co88] (by rfl) rfl rfl zX ?_;with_reducible refine (credenceref1_frac.calls k5 x4_4 _ _ t932 _ _ x7_5 t935 t936 t939 _ ?side1 ?side2 ?side3 ?side4 A84.out).mono ?_
                  (case side1 => exact zC (Kd.R_reads' HO934.out).2.2);(case side2 => exact (Kd.R_reads' HO934.out).2.1);(case side3 => exact zC (Kd.R_reads' HO_7.out).2.2);(case side4 => exact (Kd.R_reads' HO_7.out).2.1);rintro e w89 ⟨v937, v940, rfl, ho0, ho1, hb⟩;refine ⟨_, rfl, ?_⟩;have HO938 := zA (Kd.R_lower (zN (zN ho0 HO_7 rfl) HO934 rfl) (below_size (zb HB rfl)));have HO941 := zA (Kd.R_lower (zN (zN ho1 HO_7 rfl) HO934 rfl) (below_size (zb HB rfl)));replace HO_7 := zt2 HO_7 hb ho0 ho1 rfl;replace HO934 := zt2 HO934 hb ho0 ho1 rfl;replace BK894 := zkb BK894 hb;replace HB := zbb HB hb rfl;obtain ⟨Ao91, co91, eo91⟩ := Kd.R_slice HO938.out;(first | subst eo91 | (injection eo91 with f1_ f2_ f3_; have f4_ := f1_.symm; have f5_ := f3_.symm; clear f1_ f2_ f3_; subst f4_; subst f5_));obtain ⟨Ao93, co93, eo93⟩ := Kd.R_slice HO941.out;(first | subst eo93 | (injection eo93 with f1_ f2_ f3_; have f4_ := f1_.symm; have f5_ := f3_.symm; clear f1_ f2_ f3_; subst f4_; subst f5_));refine hK.out _ _ trivial (fun hHeld => ?_);clear hK K;refine zn 114 ?_;refine zo 12 none HT_ fun K hK => ?_
                  have hs90 : w89.cell? ⟨gb894, 0, none⟩ = some (.bool false) := zc BK894 0 rfl;have hfs90 := zF BK894 0;have hs92 : w89.cell? ⟨gb894, 1, none⟩ = some (.slice none 0 0) := zc BK894 1 rfl;have hfs92 := zF BK894 1;have hs94 : w89.cell? ⟨gb894, 2, none⟩ = some (.slice none 0 0) := zc BK894 2 rfl;have hfs94 := zF BK894 2;refine skip_ (w1 := ?_) (by rfl) rfl ?_ ?_;rotate_left
                  ·go_simp
                   rfl
                  refine hK.out _ _ trivial (fun hHeld => ?_);clear hK K;refine zp 13 3 HT_ ?_;refine done_ (done_of HT_.out zk) ?_
                  try go_wp2
                  refine bodyPost_ret (results_ct rfl _ _ gb894 25 #[.bool t935, .slice Ao91 t936.length co91, .slice Ao93 t939.length co93] (0, 0) _ rfl (zQ BK894.out) Tryd.underlying25 rfl zk) rfl ?_;exact ⟨_, _, by first | rfl | (simp [errW_none, errW_some] <;> rfl) | (simp only [← hji79]; first | rfl | (simp [errW_none, errW_some] <;> rfl)) | (simp [*, errW_none, errW_some] <;> rfl), zRM (Kd.R_far (p := ⟨gb894, 2, none⟩) (Kd.R_far (p := ⟨gb894, 1, none⟩) (Kd.R_far (p := ⟨gb894, 0, none⟩) (Kd.R_types HO938.out BK894.out (by decide)) (fun _ hk => hk.2) (.bool t935)) (fun _ hk => hk.2) (.slice Ao91 t936.length co91)) (fun _ hk => hk.2) (.slice Ao93 t939.length co93)) (fun _ hk => hk.1.1.1), zRM (Kd.R_far (p := ⟨gb894, 2, none⟩) (Kd.R_far (p := ⟨gb894, 1, none⟩) (Kd.R_far (p := ⟨gb894, 0, none⟩) (Kd.R_types HO941.out BK894.out (by decide)) (fun _ hk => hk.2) (.bool t935)) (fun _ hk => hk.2) (.slice Ao91 t936.length co91)) (fun _ hk => hk.2) (.slice Ao93 t939.length co93)) (fun _ hk => hk.1.1.1), zG1 GE894.out⟩
                 rw [if_neg c82] at H;cases H
                rw [if_neg c81] at H;cases H
               rw [if_neg c80] at H;cases H
              rw [if_neg c78] at H;cases H
             rw [if_neg c77] at H;cases H
          rw [if_neg c45] at H;cases H
         rw [if_neg c44] at H;cases H

end Go.Proofs.YtoeldfopjalpkaaDoor.Q

