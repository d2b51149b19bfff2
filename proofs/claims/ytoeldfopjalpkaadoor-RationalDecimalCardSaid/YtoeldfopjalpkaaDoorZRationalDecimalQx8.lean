/- Lemmas for the proof of one law of this seat (Qx8). -/
import Derived.Test.YtoeldfopjalpkaaDoorZRationalDecimalQx5
namespace Go.Proofs.YtoeldfopjalpkaaDoor.Q
open Go.RowKit Go.Proofs.YtoeldfopjalpkaaDoorW.PrintWords Go.Proofs.YtoeldfopjalpkaaDoorW.PrintLast Go.Proofs.YtoeldfopjalpkaaDoorW.PrintMore
attribute [local go_sem] max2_int min2_int max_two min_two max_three min_three max_four min_four   -- for this text's walks alone
set_option linter.unusedVariables false
set_option linter.unusedSimpArgs false

def credenceref1_NatSame.l0 : Nat → List Int → List Int → Int → Option (Bool)
 | 0, _, _, _ => none
 | k + 1, x0, x1, x5 => if x5 < (x0.length : Int) then (if 0 ≤ x5 then (if x5 < (x1.length : Int) then (if (rd x0 x5) = (rd x1 x5) then (credenceref1_NatSame.l0 k x0 x1 (wrap64 (x5 + 1))) else (some false)) else (none)) else (none)) else (some true)
def credenceref1_NatSame.f (k : Nat) (l0 : List Int) (l1 : List Int) : Option (Bool) := if (l0.length : Int) = (l1.length : Int) then (credenceref1_NatSame.l0 k l0 l1 0) else (some false)
set_option maxHeartbeats 8000000 in
set_option maxRecDepth 100000 in
theorem credenceref1_NatSame.calls (k : Nat) (A0 : Option Addr) (c0 : Nat) (l0 : List Int) (A1 : Option Addr) (c1 : Nat) (l1 : List Int) (r : Bool) (w : World) (hr0 : Kd.C (Kd.int .u32) w A0 l0.length l0) (hc0 : l0.length ≤ c0) (hr1 : Kd.C (Kd.int .u32) w A1 l1.length l1) (hc1 : l1.length ≤ c1) (h : credenceref1_NatSame.f k l0 l1 = some r) :
 Calls Tryd.prog 81 #[.slice A0 l0.length c0, .slice A1 l1.length c1] w fun e w' => e = .returned (.bool r) ∧ Drawn0 w w' := by
 have HR0 := zA hr0;have HC0 := zA hc0;clear hr0 hc0;have HR1 := zA hr1;have HC1 := zA hc1;clear hr1 hc1;have H : (if (l0.length : Int) = (l1.length : Int) then (credenceref1_NatSame.l0 k l0 l1 0) else (some false)) = some r := h;clear h;by_cases c3 : (l0.length : Int) = (l1.length : Int)
 ·rw [if_pos c3] at H;have c3b0 := beq_iff_eq.mpr c3;have c3b1 := bne_eq_false_iff_eq.mpr c3;have c3b2 : (l0.length == l1.length) = true := by first | simpa using c3 | (simp at c3 ⊢; omega)
  clear c3;have H' := zA H;clear H;go_enter Tryd.func81, Tryd.ntmps81
  go_wp2
  repeat (go_quiet (fail); try go_wp2)
  go_loopg [5] k (fun kq v5 w' => ∃ (x5_1 : Int), v5 = .int .i64 x5_1 ∧ Aside0 (credenceref1_NatSame.l0 kq l0 l1 x5_1 = some r) ∧ Aside0 (kq ≤ k) ∧ Drawn0 w w')
  case atStart => exact ⟨(0), zS, H', ⟨Nat.le_refl _⟩, zW⟩
  case round =>
   clear H';obtain ⟨x5_1, rfl, HA, HK1, ⟨m1, rfl⟩⟩ := hrel;cases gk with
   | zero => exact absurd HA.out (by simp [credenceref1_NatSame.l0])
   | succ k1 =>
    have H := HA.out;clear HA;simp only [credenceref1_NatSame.l0] at H;by_cases c4 : x5_1 < (l0.length : Int)
    ·rw [if_pos c4] at H;have c4b0 := decide_eq_true c4;clear c4;by_cases c5 : 0 ≤ x5_1
     ·rw [if_pos c5] at H;have c5b0 := decide_eq_true c5;clear c5;by_cases c6 : x5_1 < (l1.length : Int)
      ·rw [if_pos c6] at H;have c6b0 := decide_eq_true c6;clear c6;by_cases c7 : (rd l0 x5_1) = (rd l1 x5_1)
       ·rw [if_pos c7] at H;have c7b0 := beq_iff_eq.mpr c7;have c7b1 := bne_eq_false_iff_eq.mpr c7;clear c7;have H' := zA H;clear H;have p498 : 0 ≤ (x5_1 : Int) := zD;have q498 : x5_1 < (l0.length : Int) := zD;obtain ⟨ad498, e498, hx498_0⟩ := Kd.at_int HR0.out x5_1 p498 q498;cases e498;replace p498 := eq_true p498;replace q498 := eq_true q498;have p499 : 0 ≤ (x5_1 : Int) := zD;have q499 : x5_1 < (l1.length : Int) := zD;obtain ⟨ad499, e499, hx499_0⟩ := Kd.at_int HR1.out x5_1 p499 q499;cases e499;replace p499 := eq_true p499;replace q499 := eq_true q499
        go_wp2
        repeat (go_quiet (fail); try go_wp2)
        go_roundg k1
        case measure => have := HK1.out; omega
        case rel => exact ⟨(wrap64 (x5_1 + 1)), zS, H', ⟨by have := HK1.out; omega⟩, zW⟩
       rw [if_neg c7] at H;have c7b0 := beq_eq_false_iff_ne.mpr c7;have c7b1 := bne_iff_ne.mpr c7;obtain rfl := Option.some.inj H;have p498 : 0 ≤ (x5_1 : Int) := zD;have q498 : x5_1 < (l0.length : Int) := zD;obtain ⟨ad498, e498, hx498_0⟩ := Kd.at_int HR0.out x5_1 p498 q498;cases e498;replace p498 := eq_true p498;replace q498 := eq_true q498;have p499 : 0 ≤ (x5_1 : Int) := zD;have q499 : x5_1 < (l1.length : Int) := zD;obtain ⟨ad499, e499, hx499_0⟩ := Kd.at_int HR1.out x5_1 p499 q499;cases e499;replace p499 := eq_true p499;replace q499 := eq_true q499
       go_wp2
       repeat (go_quiet (fail); try go_wp2)
       go_ret
       exact ⟨zS, zW⟩
      rw [if_neg c6] at H;cases H
     rw [if_neg c5] at H;cases H
    rw [if_neg c4] at H;have c4b0 := decide_eq_false c4;clear c4;obtain rfl := Option.some.inj H
    go_wp2
    repeat (go_quiet (fail); try go_wp2)
    go_ret
    exact ⟨zS, zW⟩
 rw [if_neg c3] at H;have c3b0 := beq_eq_false_iff_ne.mpr c3;have c3b1 := bne_iff_ne.mpr c3;have c3b2 : (l0.length == l1.length) = false := by first | simpa using c3 | (simp at c3 ⊢; omega)
 obtain rfl := Option.some.inj H;go_enter Tryd.func81, Tryd.ntmps81
 go_wp2
 repeat (go_quiet (fail); try go_wp2)
 go_ret
 exact ⟨zS, zW⟩

def credenceref1_FracSame.f (k : Nat) (a0_0 : Bool) (l0_1 : List Int) (l0_2 : List Int) (a1_0 : Bool) (l1_1 : List Int) (l1_2 : List Int) : Option (Bool) := if (a0_0 == a1_0) = true then ((credenceref1_NatSame.f k l0_1 l1_1).bind fun t502 => (if t502 = true then ((credenceref1_NatSame.f k l0_2 l1_2).bind fun t503 => (some t503)) else (some false))) else (some false)
set_option maxHeartbeats 8000000 in
set_option maxRecDepth 100000 in
theorem credenceref1_FracSame.calls (k : Nat) (a0_0 : Bool) (A0_1 : Option Addr) (c0_1 : Nat) (l0_1 : List Int) (A0_2 : Option Addr) (c0_2 : Nat) (l0_2 : List Int) (a1_0 : Bool) (A1_1 : Option Addr) (c1_1 : Nat) (l1_1 : List Int) (A1_2 : Option Addr) (c1_2 : Nat) (l1_2 : List Int) (r : Bool) (w : World) (hr0_1 : Kd.C (Kd.int .u32) w A0_1 l0_1.length l0_1) (hc0_1 : l0_1.length ≤ c0_1) (hr0_2 : Kd.C (Kd.int .u32) w A0_2 l0_2.length l0_2) (hc0_2 : l0_2.length ≤ c0_2) (hr1_1 : Kd.C (Kd.int .u32) w A1_1 l1_1.length l1_1) (hc1_1 : l1_1.length ≤ c1_1) (hr1_2 : Kd.C (Kd.int .u32) w A1_2 l1_2.length l1_2) (hc1_2 : l1_2.length ≤ c1_2) (h : credenceref1_FracSame.f k a0_0 l0_1 l0_2 a1_0 l1_1 l1_2 = some r) :
 Calls Tryd.prog 50 #[.agg #[.bool a0_0, .slice A0_1 l0_1.length c0_1, .slice A0_2 l0_2.length c0_2], .agg #[.bool a1_0, .slice A1_1 l1_1.length c1_1, .slice A1_2 l1_2.length c1_2]] w fun e w' => e = .returned (.bool r) ∧ Below w.heap.size w w' := by
 have hu25 := Tryd.underlying25;have HR0_1 := zA hr0_1;have HC0_1 := zA hc0_1;clear hr0_1 hc0_1;have HR0_2 := zA hr0_2;have HC0_2 := zA hc0_2;clear hr0_2 hc0_2;have HR1_1 := zA hr1_1;have HC1_1 := zA hc1_1;clear hr1_1 hc1_1;have HR1_2 := zA hr1_2;have HC1_2 := zA hc1_2;clear hr1_2 hc1_2;have HB := zA (Below.refl w.heap.size w);have H : (if (a0_0 == a1_0) = true then ((credenceref1_NatSame.f k l0_1 l1_1).bind fun t502 => (if t502 = true then ((credenceref1_NatSame.f k l0_2 l1_2).bind fun t503 => (some t503)) else (some false))) else (some false)) = some r := h;clear h;by_cases c3 : (a0_0 == a1_0) = true
 ·rw [if_pos c3] at H;have c3b0 : (a0_0 == a1_0) = true := c3;(try (have c3b1 : decide (a0_0 = a1_0) = true := by simpa using c3));(try (have c3b2 : (a0_0 == a1_0) = true := by simpa using c3));clear c3;obtain ⟨t502, A40, H⟩ := zi H;have A4 := zA A40;clear A40;by_cases c5 : t502 = true
  ·subst c5;have H1 : ((credenceref1_NatSame.f k l0_2 l1_2).bind fun t503 => (some t503)) = some r := by rw [if_pos rfl] at H; exact H
   clear H;have H := H1;clear H1;obtain ⟨t503, A60, H⟩ := zi H;have A6 := zA A60;clear A60;obtain rfl := Option.some.inj H;go_enter Tryd.func50, Tryd.ntmps50
   have M712_0 : Aside0 True := ⟨trivial⟩;have M712_1 : Aside0 True := ⟨trivial⟩
   go_wp2_with (first | ((with_reducible refine gate_dst (N := 2) rfl ?_); refine zbox 2 #[.bool a0_0, .slice A0_1 l0_1.length c0_1, .slice A0_2 l0_2.length c0_2] 25 ?_; intro gb500 hg w7 hbox hb; have BK500 := zA (hbox); have GW500 := zg HB hg rfl; have GE500 := zg HB hg rfl; replace HB := zbb HB hb rfl; clear hb hbox hg) | ((with_reducible refine gate_dst (N := 3) rfl ?_); refine zbox 3 #[.bool a1_0, .slice A1_1 l1_1.length c1_1, .slice A1_2 l1_2.length c1_2] 25 ?_; intro gb501 hg w8 hbox hb; have BK501 := zA (hbox); have GW501 := zg HB hg rfl; have GE501 := zg HB hg rfl; replace HB := zbb HB hb rfl; have NB500_501 := zA ((by rw [hg]; exact Nat.ne_of_lt (blk_lt BK500.out) : gb500 ≠ gb501)); have NB501_500 := zA ((by rw [hg]; exact Nat.ne_of_gt (blk_lt BK500.out) : gb501 ≠ gb500)); replace BK500 := zkb BK500 hb; clear hb hbox hg; have hnb9 := NB500_501.out; have hnc9 := NB501_500.out; have hcz10_0 := zc BK500 0 (v := .bool a0_0) rfl; have hcz10_1 := zc BK500 1 (v := .slice A0_1 l0_1.length c0_1) rfl; have hcz10_2 := zc BK500 2 (v := .slice A0_2 l0_2.length c0_2) rfl; have hfz10_0 := zF BK500 0; have hfz10_1 := zF BK500 1; have hfz10_2 := zF BK500 2; have hcz11_0 := zc BK501 0 (v := .bool a1_0) rfl; have hcz11_1 := zc BK501 1 (v := .slice A1_1 l1_1.length c1_1) rfl; have hcz11_2 := zc BK501 2 (v := .slice A1_2 l1_2.length c1_2) rfl; have hfz11_0 := zF BK501 0; have hfz11_1 := zF BK501 1; have hfz11_2 := zF BK501 2) | (go_at_call 81; clear M712_0; (with_reducible refine (credenceref1_NatSame.calls k _ _ l0_1 _ _ l1_1 true _ ?side1 ?side2 ?side3 ?side4 A4.out).mono ?_); (case side1 => exact zC (Kd.C_below HR0_1.out HB.out)); (case side2 => exact HC0_1.out); (case side3 => exact zC (Kd.C_below HR1_1.out HB.out)); (case side4 => exact HC1_1.out); rintro e w' ⟨rfl, ⟨nd, rfl⟩⟩) | (go_at_call 81; clear M712_1; (with_reducible refine (credenceref1_NatSame.calls k _ _ l0_2 _ _ l1_2 t503 _ ?side1 ?side2 ?side3 ?side4 A6.out).mono ?_); (case side1 => exact zC (Kd.C_below HR0_2.out (zb HB rfl))); (case side2 => exact HC0_2.out); (case side3 => exact zC (Kd.C_below HR1_2.out (zb HB rfl))); (case side4 => exact HC1_2.out); rintro e w' ⟨rfl, ⟨nd, rfl⟩⟩))
   go_ret
   exact ⟨zE, zG2 GE500.out GE501.out⟩
  replace c5 := Bool.eq_false_iff.mpr c5;subst c5;have H1 : (some false) = some r := by rw [if_neg (show ¬ (false = true) by decide)] at H; exact H
  clear H;have H := H1;clear H1;obtain rfl := Option.some.inj H;go_enter Tryd.func50, Tryd.ntmps50
  go_wp2_with (first | ((with_reducible refine gate_dst (N := 2) rfl ?_); refine zbox 2 #[.bool a0_0, .slice A0_1 l0_1.length c0_1, .slice A0_2 l0_2.length c0_2] 25 ?_; intro gb500 hg w12 hbox hb; have BK500 := zA (hbox); have GW500 := zg HB hg rfl; have GE500 := zg HB hg rfl; replace HB := zbb HB hb rfl; clear hb hbox hg) | ((with_reducible refine gate_dst (N := 3) rfl ?_); refine zbox 3 #[.bool a1_0, .slice A1_1 l1_1.length c1_1, .slice A1_2 l1_2.length c1_2] 25 ?_; intro gb501 hg w13 hbox hb; have BK501 := zA (hbox); have GW501 := zg HB hg rfl; have GE501 := zg HB hg rfl; replace HB := zbb HB hb rfl; have NB500_501 := zA ((by rw [hg]; exact Nat.ne_of_lt (blk_lt BK500.out) : gb500 ≠ gb501)); have NB501_500 := zA ((by rw [hg]; exact Nat.ne_of_gt (blk_lt BK500.out) : gb501 ≠ gb500)); replace BK500 := zkb BK500 hb; clear hb hbox hg; have hnb14 := NB500_501.out; have hnc14 := NB501_500.out; have hcz15_0 := zc BK500 0 (v := .bool a0_0) rfl; have hcz15_1 := zc BK500 1 (v := .slice A0_1 l0_1.length c0_1) rfl; have hcz15_2 := zc BK500 2 (v := .slice A0_2 l0_2.length c0_2) rfl; have hfz15_0 := zF BK500 0; have hfz15_1 := zF BK500 1; have hfz15_2 := zF BK500 2; have hcz16_0 := zc BK501 0 (v := .bool a1_0) rfl; have hcz16_1 := zc BK501 1 (v := .slice A1_1 l1_1.length c1_1) rfl; have hcz16_2 := zc BK501 2 (v := .slice A1_2 l1_2.length c1_2) rfl; have hfz16_0 := zF BK501 0; have hfz16_1 := zF BK501 1; have hfz16_2 := zF BK501 2) | (go_at_call 81; (with_reducible refine (credenceref1_NatSame.calls k _ _ l0_1 _ _ l1_1 false _ ?side1 ?side2 ?side3 ?side4 A4.out).mono ?_); (case side1 => exact zC (Kd.C_below HR0_1.out HB.out)); (case side2 => exact HC0_1.out); (case side3 => exact zC (Kd.C_below HR1_1.out HB.out)); (case side4 => exact HC1_1.out); rintro e w' ⟨rfl, ⟨nd, rfl⟩⟩))
  go_ret
  exact ⟨zE, zG2 GE500.out GE501.out⟩
 rw [if_neg c3] at H;have c3b0 : (a0_0 == a1_0) = false := by simpa using c3
 (try (have c3b1 : decide (a0_0 = a1_0) = false := by simpa using c3));(try (have c3b2 : (a0_0 == a1_0) = false := by simpa using c3));(try (have c3b3 : ¬ (a0_0 = a1_0) := by simpa using c3));clear c3;obtain rfl := Option.some.inj H;go_enter Tryd.func50, Tryd.ntmps50
 go_wp2_with (first | ((with_reducible refine gate_dst (N := 2) rfl ?_); refine zbox 2 #[.bool a0_0, .slice A0_1 l0_1.length c0_1, .slice A0_2 l0_2.length c0_2] 25 ?_; intro gb500 hg w17 hbox hb; have BK500 := zA (hbox); have GW500 := zg HB hg rfl; have GE500 := zg HB hg rfl; replace HB := zbb HB hb rfl; clear hb hbox hg) | ((with_reducible refine gate_dst (N := 3) rfl ?_); refine zbox 3 #[.bool a1_0, .slice A1_1 l1_1.length c1_1, .slice A1_2 l1_2.length c1_2] 25 ?_; intro gb501 hg w18 hbox hb; have BK501 := zA (hbox); have GW501 := zg HB hg rfl; have GE501 := zg HB hg rfl; replace HB := zbb HB hb rfl; have NB500_501 := zA ((by rw [hg]; exact Nat.ne_of_lt (blk_lt BK500.out) : gb500 ≠ gb501)); have NB501_500 := zA ((by rw [hg]; exact Nat.ne_of_gt (blk_lt BK500.out) : gb501 ≠ gb500)); replace BK500 := zkb BK500 hb; clear hb hbox hg; have hnb19 := NB500_501.out; have hnc19 := NB501_500.out; have hcz20_0 := zc BK500 0 (v := .bool a0_0) rfl; have hcz20_1 := zc BK500 1 (v := .slice A0_1 l0_1.length c0_1) rfl; have hcz20_2 := zc BK500 2 (v := .slice A0_2 l0_2.length c0_2) rfl; have hfz20_0 := zF BK500 0; have hfz20_1 := zF BK500 1; have hfz20_2 := zF BK500 2; have hcz21_0 := zc BK501 0 (v := .bool a1_0) rfl; have hcz21_1 := zc BK501 1 (v := .slice A1_1 l1_1.length c1_1) rfl; have hcz21_2 := zc BK501 2 (v := .slice A1_2 l1_2.length c1_2) rfl; have hfz21_0 := zF BK501 0; have hfz21_1 := zF BK501 1; have hfz21_2 := zF BK501 2))
 go_ret
 exact ⟨zE, zG2 GE500.out GE501.out⟩

def credencelaw2_same.f (k : Nat) (a0_0 : Bool) (l0_1 : List Int) (l0_2 : List Int) (a1_0 : Bool) (l1_1 : List Int) (l1_2 : List Int) : Option (Bool) := (credenceref1_FracSame.f k a0_0 l0_1 l0_2 a1_0 l1_1 l1_2).bind fun t506 => (some t506)
set_option maxHeartbeats 8000000 in
set_option maxRecDepth 100000 in
theorem credencelaw2_same.calls (k : Nat) (a0_0 : Bool) (A0_1 : Option Addr) (c0_1 : Nat) (l0_1 : List Int) (A0_2 : Option Addr) (c0_2 : Nat) (l0_2 : List Int) (a1_0 : Bool) (A1_1 : Option Addr) (c1_1 : Nat) (l1_1 : List Int) (A1_2 : Option Addr) (c1_2 : Nat) (l1_2 : List Int) (r : Bool) (w : World) (hr0_1 : Kd.C (Kd.int .u32) w A0_1 l0_1.length l0_1) (hc0_1 : l0_1.length ≤ c0_1) (hr0_2 : Kd.C (Kd.int .u32) w A0_2 l0_2.length l0_2) (hc0_2 : l0_2.length ≤ c0_2) (hr1_1 : Kd.C (Kd.int .u32) w A1_1 l1_1.length l1_1) (hc1_1 : l1_1.length ≤ c1_1) (hr1_2 : Kd.C (Kd.int .u32) w A1_2 l1_2.length l1_2) (hc1_2 : l1_2.length ≤ c1_2) (h : credencelaw2_same.f k a0_0 l0_1 l0_2 a1_0 l1_1 l1_2 = some r) :
 Calls Tryd.prog 13 #[.agg #[.bool a0_0, .slice A0_1 l0_1.length c0_1, .slice A0_2 l0_2.length c0_2], .agg #[.bool a1_0, .slice A1_1 l1_1.length c1_1, .slice A1_2 l1_2.length c1_2]] w fun e w' => e = .returned (.bool r) ∧ Below w.heap.size w w' := by
 have hu25 := Tryd.underlying25;have HR0_1 := zA hr0_1;have HC0_1 := zA hc0_1;clear hr0_1 hc0_1;have HR0_2 := zA hr0_2;have HC0_2 := zA hc0_2;clear hr0_2 hc0_2;have HR1_1 := zA hr1_1;have HC1_1 := zA hc1_1;clear hr1_1 hc1_1;have HR1_2 := zA hr1_2;have HC1_2 := zA hc1_2;clear hr1_2 hc1_2;have HB := zA (Below.refl w.heap.size w);have H : ((credenceref1_FracSame.f k a0_0 l0_1 l0_2 a1_0 l1_1 l1_2).bind fun t506 => (some t506)) = some r := h;clear h;obtain ⟨t506, A30, H⟩ := zi H;have A3 := zA A30;clear A30;obtain rfl := Option.some.inj H;go_enter Tryd.func13, Tryd.ntmps13
 go_wp2_with (first | ((with_reducible refine gate_dst (N := 2) rfl ?_); refine zbox 2 #[.bool a0_0, .slice A0_1 l0_1.length c0_1, .slice A0_2 l0_2.length c0_2] 25 ?_; intro gb504 hg w4 hbox hb; have BK504 := zA (hbox); have GW504 := zg HB hg rfl; have GE504 := zg HB hg rfl; replace HB := zbb HB hb rfl; clear hb hbox hg) | ((with_reducible refine gate_dst (N := 3) rfl ?_); refine zbox 3 #[.bool a1_0, .slice A1_1 l1_1.length c1_1, .slice A1_2 l1_2.length c1_2] 25 ?_; intro gb505 hg w5 hbox hb; have BK505 := zA (hbox); have GW505 := zg HB hg rfl; have GE505 := zg HB hg rfl; replace HB := zbb HB hb rfl; have NB504_505 := zA ((by rw [hg]; exact Nat.ne_of_lt (blk_lt BK504.out) : gb504 ≠ gb505)); have NB505_504 := zA ((by rw [hg]; exact Nat.ne_of_gt (blk_lt BK504.out) : gb505 ≠ gb504)); replace BK504 := zkb BK504 hb; clear hb hbox hg; have hnb6 := NB504_505.out; have hnc6 := NB505_504.out; have hcz7_0 := zc BK504 0 (v := .bool a0_0) rfl; have hcz7_1 := zc BK504 1 (v := .slice A0_1 l0_1.length c0_1) rfl; have hcz7_2 := zc BK504 2 (v := .slice A0_2 l0_2.length c0_2) rfl; have hfz7_0 := zF BK504 0; have hfz7_1 := zF BK504 1; have hfz7_2 := zF BK504 2; have hcz8_0 := zc BK505 0 (v := .bool a1_0) rfl; have hcz8_1 := zc BK505 1 (v := .slice A1_1 l1_1.length c1_1) rfl; have hcz8_2 := zc BK505 2 (v := .slice A1_2 l1_2.length c1_2) rfl; have hfz8_0 := zF BK505 0; have hfz8_1 := zF BK505 1; have hfz8_2 := zF BK505 2) | ((with_reducible refine gate_callee (f := 50) rfl ?_); refine goesL_ (some 7) rfl rfl Tryd.func50 zk rfl #[.agg #[.bool a0_0, .slice A0_1 l0_1.length c0_1, .slice A0_2 l0_2.length c0_2], .agg #[.bool a1_0, .slice A1_1 l1_1.length c1_1, .slice A1_2 l1_2.length c1_2]] rfl zX ?_; (with_reducible refine (credenceref1_FracSame.calls k a0_0 _ _ l0_1 _ _ l0_2 a1_0 _ _ l1_1 _ _ l1_2 t506 _ ?side1 ?side2 ?side3 ?side4 ?side5 ?side6 ?side7 ?side8 A3.out).mono ?_); (case side1 => exact zC (Kd.C_below HR0_1.out HB.out)); (case side2 => exact HC0_1.out); (case side3 => exact zC (Kd.C_below HR0_2.out HB.out)); (case side4 => exact HC0_2.out); (case side5 => exact zC (Kd.C_below HR1_1.out HB.out)); (case side6 => exact HC1_1.out); (case side7 => exact zC (Kd.C_below HR1_2.out HB.out)); (case side8 => exact HC1_2.out); rintro e w9 ⟨rfl, hb⟩; refine ⟨_, rfl, ?_⟩; replace BK504 := zkb BK504 hb; replace BK505 := zkb BK505 hb; replace HB := zbb HB hb rfl))
 go_ret
 exact ⟨zE, zG2 GE504.out GE505.out⟩

def stringslite_HasPrefix.f (a0 : ByteArray) (a1 : ByteArray) : Option (Bool) := if (a0.size : Int) ≥ (a1.size : Int) then (if 0 ≤ (a1.size : Int) then (if (a1.size : Int) ≤ (a0.size : Int) then (some ((a0.extract 0 ((a1.size : Int) : Int).toNat).toList == a1.toList)) else (none)) else (none)) else (some false)
set_option maxHeartbeats 8000000 in
set_option maxRecDepth 100000 in
theorem stringslite_HasPrefix.calls (a0 : ByteArray) (a1 : ByteArray) (r : Bool) (w : World) (h : stringslite_HasPrefix.f a0 a1 = some r) :
 Calls Tryd.prog 94 #[.string a0, .string a1] w fun e w' => e = .returned (.bool r) ∧ Drawn0 w w' := by
 have H : (if (a0.size : Int) ≥ (a1.size : Int) then (if 0 ≤ (a1.size : Int) then (if (a1.size : Int) ≤ (a0.size : Int) then (some ((a0.extract 0 ((a1.size : Int) : Int).toNat).toList == a1.toList)) else (none)) else (none)) else (some false)) = some r := h;clear h;by_cases c3 : (a0.size : Int) ≥ (a1.size : Int)
 ·rw [if_pos c3] at H;have c3b0 : decide ((a1.size : Int) ≤ (a0.size : Int)) = true := decide_eq_true c3;have c3b1 : decide (a1.size ≤ a0.size) = true := decide_eq_true (Int.ofNat_le.mp c3);clear c3;by_cases c4 : 0 ≤ (a1.size : Int)
  ·rw [if_pos c4] at H;have c4b0 := eq_true c4;have c4b1 := decide_eq_true c4;clear c4;by_cases c5 : (a1.size : Int) ≤ (a0.size : Int)
   ·rw [if_pos c5] at H;have c5b0 := eq_true c5;have c5b1 := decide_eq_true c5;clear c5;obtain rfl := Option.some.inj H;go_enter Tryd.func94, Tryd.ntmps94
    go_wp2
    go_ret
    exact ⟨zS, zW⟩
   rw [if_neg c5] at H;cases H
  rw [if_neg c4] at H;cases H
 rw [if_neg c3] at H;have c3b0 : decide ((a1.size : Int) ≤ (a0.size : Int)) = false := decide_eq_false c3;have c3b1 : decide (a1.size ≤ a0.size) = false := decide_eq_false (fun h => c3 (Int.ofNat_le.mpr h));clear c3;obtain rfl := Option.some.inj H;go_enter Tryd.func94, Tryd.ntmps94
 go_wp2
 go_ret
 exact ⟨zS, zW⟩

def stringslite_CutPrefix.f (a0 : ByteArray) (a1 : ByteArray) : Option (ByteArray × Bool) := (stringslite_HasPrefix.f a0 a1).bind fun t507 => (if t507 = true then (if 0 ≤ (a1.size : Int) then (if (a1.size : Int) ≤ (a0.size : Int) then (some (a0.extract ((a1.size : Int) : Int).toNat a0.size, true)) else (none)) else (none)) else (some (a0, false)))
set_option maxHeartbeats 8000000 in
set_option maxRecDepth 100000 in
theorem stringslite_CutPrefix.calls (a0 : ByteArray) (a1 : ByteArray) (r1 : ByteArray) (r2 : Bool) (w : World) (h : stringslite_CutPrefix.f a0 a1 = some (r1, r2)) :
 Calls Tryd.prog 82 #[.string a0, .string a1] w fun e w' => e = .returned (.tuple #[.string r1, .bool r2]) ∧ Drawn0 w w' := by
 have H : ((stringslite_HasPrefix.f a0 a1).bind fun t507 => (if t507 = true then (if 0 ≤ (a1.size : Int) then (if (a1.size : Int) ≤ (a0.size : Int) then (some (a0.extract ((a1.size : Int) : Int).toNat a0.size, true)) else (none)) else (none)) else (some (a0, false)))) = some (r1, r2) := h;clear h;obtain ⟨t507, A30, H⟩ := zi H;have A3 := zA A30;clear A30;by_cases c4 : t507 = true
 ·subst c4;have H1 : (if 0 ≤ (a1.size : Int) then (if (a1.size : Int) ≤ (a0.size : Int) then (some (a0.extract ((a1.size : Int) : Int).toNat a0.size, true)) else (none)) else (none)) = some (r1, r2) := by rw [if_pos rfl] at H; exact H
  clear H;have H := H1;clear H1;by_cases c5 : 0 ≤ (a1.size : Int)
  ·rw [if_pos c5] at H;have c5b0 := eq_true c5;have c5b1 := decide_eq_true c5;clear c5;by_cases c6 : (a1.size : Int) ≤ (a0.size : Int)
   ·rw [if_pos c6] at H;have c6b0 := eq_true c6;have c6b1 := decide_eq_true c6;clear c6;simp only [Option.some.injEq, Prod.mk.injEq] at H;obtain ⟨rfl, rfl⟩ := H;go_enter Tryd.func82, Tryd.ntmps82
    go_wp2_with (first | ((with_reducible refine gate_callee (f := 94) rfl ?_); refine goesL_ (some 8) rfl rfl Tryd.func94 zk rfl #[.string a0, .string a1] rfl zX ?_; (with_reducible refine (stringslite_HasPrefix.calls a0 a1 true _ A3.out).mono ?_); rintro e w' ⟨rfl, ⟨nd, rfl⟩⟩; refine ⟨_, rfl, ?_⟩))
    go_ret2
    exact ⟨zS, zW⟩
   rw [if_neg c6] at H;cases H
  rw [if_neg c5] at H;cases H
 replace c4 := Bool.eq_false_iff.mpr c4;subst c4;have H1 : (some (a0, false)) = some (r1, r2) := by rw [if_neg (show ¬ (false = true) by decide)] at H; exact H
 clear H;have H := H1;clear H1;simp only [Option.some.injEq, Prod.mk.injEq] at H;obtain ⟨rfl, rfl⟩ := H;go_enter Tryd.func82, Tryd.ntmps82
 go_wp2_with (first | ((with_reducible refine gate_callee (f := 94) rfl ?_); refine goesL_ (some 8) rfl rfl Tryd.func94 zk rfl #[.string a0, .string a1] rfl zX ?_; (with_reducible refine (stringslite_HasPrefix.calls a0 a1 false _ A3.out).mono ?_); rintro e w' ⟨rfl, ⟨nd, rfl⟩⟩; refine ⟨_, rfl, ?_⟩))
 go_ret2
 exact ⟨zS, zW⟩

def strings_CutPrefix.f (a0 : ByteArray) (a1 : ByteArray) : Option (ByteArray × Bool) := (stringslite_CutPrefix.f a0 a1).bind fun bt508 => (some (bt508.1, bt508.2))
set_option maxHeartbeats 8000000 in
set_option maxRecDepth 100000 in
theorem strings_CutPrefix.calls (a0 : ByteArray) (a1 : ByteArray) (r1 : ByteArray) (r2 : Bool) (w : World) (h : strings_CutPrefix.f a0 a1 = some (r1, r2)) :
 Calls Tryd.prog 52 #[.string a0, .string a1] w fun e w' => e = .returned (.tuple #[.string r1, .bool r2]) ∧ Drawn0 w w' := by
 have H : ((stringslite_CutPrefix.f a0 a1).bind fun bt508 => (some (bt508.1, bt508.2))) = some (r1, r2) := h;clear h;obtain ⟨⟨t508, t509⟩, A30, H⟩ := zi H;dsimp only at H;have A3 := zA A30;clear A30;simp only [Option.some.injEq, Prod.mk.injEq] at H;obtain ⟨rfl, rfl⟩ := H;go_enter Tryd.func52, Tryd.ntmps52
 go_wp2_with (first | ((with_reducible refine gate_callee (f := 82) rfl ?_); refine goesL_ (some 8) rfl rfl Tryd.func82 zk rfl #[.string a0, .string a1] rfl zX ?_; (with_reducible refine (stringslite_CutPrefix.calls a0 a1 t508 t509 _ A3.out).mono ?_); rintro e w' ⟨rfl, ⟨nd, rfl⟩⟩; refine ⟨_, rfl, ?_⟩))
 go_ret2
 exact ⟨zS, zW⟩

end Go.Proofs.YtoeldfopjalpkaaDoor.Q

