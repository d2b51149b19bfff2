/- Lemmas for the proof of one law of this seat (Qx6). -/
import Derived.Test.YtoeldfopjalpkaaDoorZRationalNewQx0
import Derived.Test.YtoeldfopjalpkaaDoorZRationalNewQx5
namespace Go.Proofs.YtoeldfopjalpkaaDoor.Q
open Go.RowKit Go.Proofs.YtoeldfopjalpkaaDoorW.PrintWords Go.Proofs.YtoeldfopjalpkaaDoorW.PrintLast Go.Proofs.YtoeldfopjalpkaaDoorW.PrintMore
attribute [local go_sem] max2_int min2_int max_two min_two max_three min_three max_four min_four   -- for this text's walks alone
set_option linter.unusedVariables false
set_option linter.unusedSimpArgs false

def credenceref1_NatCmp.l0 : Nat → List Int → List Int → Int → Option (Int)
 | 0, _, _, _ => none
 | k + 1, x5, x6, x7 => if x7 ≥ 0 then (if 0 ≤ x7 then (if x7 < (x5.length : Int) then (if x7 < (x6.length : Int) then (if (rd x5 x7) < (rd x6 x7) then (some (-1)) else (if (rd x5 x7) > (rd x6 x7) then (some 1) else (credenceref1_NatCmp.l0 k x5 x6 (wrap64 (x7 - 1))))) else (none)) else (none)) else (none)) else (some 0)
def credenceref1_NatCmp.f (k : Nat) (l0 : List Int) (l1 : List Int) : Option (Int) := (credenceref1_NatNorm.f k l0).bind fun t338 => ((credenceref1_NatNorm.f k l1).bind fun t341 => (if (t338.length : Int) = (t341.length : Int) then (credenceref1_NatCmp.l0 k t338 t341 (wrap64 ((t338.length : Int) - 1))) else (if (t338.length : Int) < (t341.length : Int) then (some (-1)) else (some 1))))
set_option maxHeartbeats 8000000 in
set_option maxRecDepth 100000 in
theorem credenceref1_NatCmp.calls (k : Nat) (A0 : Option Addr) (c0 : Nat) (l0 : List Int) (A1 : Option Addr) (c1 : Nat) (l1 : List Int) (r : Int) (w : World) (hr0 : Kd.C (Kd.int .u32) w A0 l0.length l0) (hc0 : l0.length ≤ c0) (hr1 : Kd.C (Kd.int .u32) w A1 l1.length l1) (hc1 : l1.length ≤ c1) (h : credenceref1_NatCmp.f k l0 l1 = some r) :
  Calls Tryd.prog 63 #[.slice A0 l0.length c0, .slice A1 l1.length c1] w fun e w' => e = .returned (.int .i64 r) ∧ Below w.heap.size w w' := by
 have HR0 := Aside0.mk hr0
 have HC0 := Aside0.mk hc0
 clear hr0 hc0
 have HR1 := Aside0.mk hr1
 have HC1 := Aside0.mk hc1
 clear hr1 hc1
 have HB := Aside0.mk (Below.refl w.heap.size w)
 have H : ((credenceref1_NatNorm.f k l0).bind fun t338 => ((credenceref1_NatNorm.f k l1).bind fun t341 => (if (t338.length : Int) = (t341.length : Int) then (credenceref1_NatCmp.l0 k t338 t341 (wrap64 ((t338.length : Int) - 1))) else (if (t338.length : Int) < (t341.length : Int) then (some (-1)) else (some 1))))) = some r := h
 clear h
 replace H := Option.bind_eq_some_iff.mp H
 obtain ⟨t338, A30, H⟩ := H
 replace H : ((credenceref1_NatNorm.f k l1).bind fun t341 => (if (t338.length : Int) = (t341.length : Int) then (credenceref1_NatCmp.l0 k t338 t341 (wrap64 ((t338.length : Int) - 1))) else (if (t338.length : Int) < (t341.length : Int) then (some (-1)) else (some 1)))) = some r := H
 have A3 := Aside0.mk A30
 clear A30
 replace H := Option.bind_eq_some_iff.mp H
 obtain ⟨t341, A40, H⟩ := H
 replace H : (if (t338.length : Int) = (t341.length : Int) then (credenceref1_NatCmp.l0 k t338 t341 (wrap64 ((t338.length : Int) - 1))) else (if (t338.length : Int) < (t341.length : Int) then (some (-1)) else (some 1))) = some r := H
 have A4 := Aside0.mk A40
 clear A40
 by_cases c5 : (t338.length : Int) = (t341.length : Int)
 ·
  rw [if_pos c5] at H
  have c5b0 : ((t338.length : Int) == (t341.length : Int)) = true := beq_iff_eq.mpr c5
  have c5b1 : ((t338.length : Int) != (t341.length : Int)) = false := bne_eq_false_iff_eq.mpr c5
  have c5b2 : (t338.length == t341.length) = true := by first | simpa using c5 | (simp at c5 ⊢; omega)
  clear c5
  have H' := Aside0.mk H
  clear H
  go_enter Tryd.func63, Tryd.ntmps63
  have M80_0 : Aside0 True := ⟨trivial⟩
  have M80_1 : Aside0 True := ⟨trivial⟩
  go_wp2_with (first | (go_at_call 87; clear M80_0; (with_reducible refine (credenceref1_NatNorm.calls k _ _ l0 t338 _ ?side1 ?side2 A3.out).mono ?_); (case side1 => repeat first | exact HR0.out | refine Kd.C_drewN ?_ _ | refine Kd.C_alloc ?_ _ | refine Kd.C_drew ?_); (case side2 => exact HC0.out); rintro e w6 ⟨v339, rfl, ho0, hb⟩; have n0_ := Aside0.mk (Kd.R_lower ho0 (below_size (zb HB rfl))); have n1_ := Aside0.mk (below_step (zb HB rfl) hb); clear HB; have HO340 := n0_; have HB := n1_; clear n0_ n1_) | (go_at_call 87; clear M80_1; (with_reducible refine (credenceref1_NatNorm.calls k _ _ l1 t341 _ ?side1 ?side2 A4.out).mono ?_); (case side1 => repeat first | exact (Kd.C_below HR1.out HB.out) | refine Kd.C_drewN ?_ _ | refine Kd.C_alloc ?_ _ | refine Kd.C_drew ?_); (case side2 => exact HC1.out); rintro e w7 ⟨v342, rfl, ho0, hb⟩; have n0_ := Aside0.mk (Kd.R_elder' (zr HO340 rfl) (Kd.R_base ho0) hb); have n1_ := Aside0.mk (Kd.R_lower (Kd.R_new' ho0 (Kd.R_lt (zr HO340 rfl))) (below_size (zb HB rfl))); have n2_ := Aside0.mk (below_step (zb HB rfl) hb); clear HO340; clear HB; have HO340 := n0_; have HO343 := n1_; have HB := n2_; clear n0_ n1_ n2_; obtain ⟨Ao8, co8, eo8⟩ := Kd.R_slice HO340.out; subst eo8; obtain ⟨Ao9, co9, eo9⟩ := Kd.R_slice HO343.out; subst eo9))
  repeat (go_quiet (first | (go_at_call 87; (with_reducible refine (credenceref1_NatNorm.calls k _ _ l0 t338 _ ?side1 ?side2 A3.out).mono ?_); (case side1 => repeat first | exact HR0.out | refine Kd.C_drewN ?_ _ | refine Kd.C_alloc ?_ _ | refine Kd.C_drew ?_); (case side2 => exact HC0.out); rintro e w6 ⟨v339, rfl, ho0, hb⟩; have n0_ := Aside0.mk (Kd.R_lower ho0 (below_size (zb HB rfl))); have n1_ := Aside0.mk (below_step (zb HB rfl) hb); clear HB; have HO340 := n0_; have HB := n1_; clear n0_ n1_) | (go_at_call 87; (with_reducible refine (credenceref1_NatNorm.calls k _ _ l1 t341 _ ?side1 ?side2 A4.out).mono ?_); (case side1 => repeat first | exact (Kd.C_below HR1.out HB.out) | refine Kd.C_drewN ?_ _ | refine Kd.C_alloc ?_ _ | refine Kd.C_drew ?_); (case side2 => exact HC1.out); rintro e w7 ⟨v342, rfl, ho0, hb⟩; have n0_ := Aside0.mk (Kd.R_elder' (zr HO340 rfl) (Kd.R_base ho0) hb); have n1_ := Aside0.mk (Kd.R_lower (Kd.R_new' ho0 (Kd.R_lt (zr HO340 rfl))) (below_size (zb HB rfl))); have n2_ := Aside0.mk (below_step (zb HB rfl) hb); clear HO340; clear HB; have HO340 := n0_; have HO343 := n1_; have HB := n2_; clear n0_ n1_ n2_; obtain ⟨Ao8, co8, eo8⟩ := Kd.R_slice HO340.out; subst eo8; obtain ⟨Ao9, co9, eo9⟩ := Kd.R_slice HO343.out; subst eo9)); try go_wp2_with (first | (go_at_call 87; (with_reducible refine (credenceref1_NatNorm.calls k _ _ l0 t338 _ ?side1 ?side2 A3.out).mono ?_); (case side1 => repeat first | exact HR0.out | refine Kd.C_drewN ?_ _ | refine Kd.C_alloc ?_ _ | refine Kd.C_drew ?_); (case side2 => exact HC0.out); rintro e w6 ⟨v339, rfl, ho0, hb⟩; have n0_ := Aside0.mk (Kd.R_lower ho0 (below_size (zb HB rfl))); have n1_ := Aside0.mk (below_step (zb HB rfl) hb); clear HB; have HO340 := n0_; have HB := n1_; clear n0_ n1_) | (go_at_call 87; (with_reducible refine (credenceref1_NatNorm.calls k _ _ l1 t341 _ ?side1 ?side2 A4.out).mono ?_); (case side1 => repeat first | exact (Kd.C_below HR1.out HB.out) | refine Kd.C_drewN ?_ _ | refine Kd.C_alloc ?_ _ | refine Kd.C_drew ?_); (case side2 => exact HC1.out); rintro e w7 ⟨v342, rfl, ho0, hb⟩; have n0_ := Aside0.mk (Kd.R_elder' (zr HO340 rfl) (Kd.R_base ho0) hb); have n1_ := Aside0.mk (Kd.R_lower (Kd.R_new' ho0 (Kd.R_lt (zr HO340 rfl))) (below_size (zb HB rfl))); have n2_ := Aside0.mk (below_step (zb HB rfl) hb); clear HO340; clear HB; have HO340 := n0_; have HO343 := n1_; have HB := n2_; clear n0_ n1_ n2_; obtain ⟨Ao8, co8, eo8⟩ := Kd.R_slice HO340.out; subst eo8; obtain ⟨Ao9, co9, eo9⟩ := Kd.R_slice HO343.out; subst eo9)))
  go_loopg [7] k (fun kq v7 w' => ∃ (x7_1 : Int), v7 = .int .i64 x7_1 ∧ Aside0 (credenceref1_NatCmp.l0 kq t338 t341 x7_1 = some r) ∧ Aside0 (kq ≤ k) ∧ Aside0 (Kd.R (Kd.int .u32) 37 w' w.heap.size (fun k_ => some k_ ≠ ((.slice Ao9 t341.length co9) : Value).ownBlock) (.slice Ao8 t338.length co8) t338) ∧ Aside0 (Kd.R (Kd.int .u32) 37 w' w.heap.size (fun k_ => some k_ ≠ ((.slice Ao8 t338.length co8) : Value).ownBlock) (.slice Ao9 t341.length co9) t341) ∧ Aside0 (Below w.heap.size w w'))
  case atStart => exact ⟨(wrap64 ((t338.length : Int) - 1)), (by first | rfl | (simp [*]; done)), H', ⟨Nat.le_refl _⟩, ⟨by (with_reducible repeat (first | apply Kd.R_alloc | apply Kd.R_drewN | apply Kd.R_drew)); exact Kd.R_mono HO340.out (fun _ hk => hk.2)⟩, ⟨by (with_reducible repeat (first | apply Kd.R_alloc | apply Kd.R_drewN | apply Kd.R_drew)); exact Kd.R_mono HO343.out (fun _ hk => hk.2)⟩, ⟨by repeat (first | (with_reducible first | exact HB.out | apply below_alloc | apply pw_below_drewN | apply below_drew1) | exact HB.out)⟩⟩
  case round =>
   clear H'
   try clear c1
   try clear p2
   try clear c5
   try clear c5b0
   try clear c5b1
   try clear c5b2
   try clear c6
   try clear p6
   obtain ⟨x7_1, rfl, HA, HK1, HO_5, HO_6, HB⟩ := hrel
   cases gk with
   | zero => exact absurd HA.out (by simp [credenceref1_NatCmp.l0])
   | succ k1 =>
    have H := HA.out
    clear HA
    simp only [credenceref1_NatCmp.l0] at H
    by_cases c10 : x7_1 ≥ 0
    ·
     rw [if_pos c10] at H
     have c10b0 : decide (0 ≤ x7_1) = true := decide_eq_true c10
     clear c10
     by_cases c11 : 0 ≤ x7_1
     ·
      rw [if_pos c11] at H
      have c11b0 : decide (0 ≤ x7_1) = true := decide_eq_true c11
      clear c11
      by_cases c12 : x7_1 < (t338.length : Int)
      ·
       rw [if_pos c12] at H
       have c12b0 : decide (x7_1 < (t338.length : Int)) = true := decide_eq_true c12
       clear c12
       by_cases c13 : x7_1 < (t341.length : Int)
       ·
        rw [if_pos c13] at H
        have c13b0 : decide (x7_1 < (t341.length : Int)) = true := decide_eq_true c13
        clear c13
        by_cases c14 : (rd t338 x7_1) < (rd t341 x7_1)
        ·
         rw [if_pos c14] at H
         have c14b0 : decide ((rd t338 x7_1) < (rd t341 x7_1)) = true := decide_eq_true c14
         clear c14
         obtain rfl := Option.some.inj H
         have p344 : 0 ≤ (x7_1 : Int) := of_decide_eq_true (by first | (with_reducible assumption) | assumption)
         have q344 : x7_1 < (t338.length : Int) := of_decide_eq_true (by first | (with_reducible assumption) | assumption)
         obtain ⟨ad344, e344, hx344_0⟩ := Kd.at_int (Kd.R_reads' HO_5.out).2.2 x7_1 p344 q344
         cases e344
         replace p344 := eq_true p344
         replace q344 := eq_true q344
         have p345 : 0 ≤ (x7_1 : Int) := of_decide_eq_true (by first | (with_reducible assumption) | assumption)
         have q345 : x7_1 < (t341.length : Int) := of_decide_eq_true (by first | (with_reducible assumption) | assumption)
         obtain ⟨ad345, e345, hx345_0⟩ := Kd.at_int (Kd.R_reads' HO_6.out).2.2 x7_1 p345 q345
         cases e345
         replace p345 := eq_true p345
         replace q345 := eq_true q345
         go_wp2
         repeat (go_quiet (fail); try go_wp2)
         go_ret
         exact ⟨by first | rfl | (simp [*, errW_none, errW_some] <;> rfl), by repeat (first | (with_reducible first | exact HB.out | apply below_alloc | apply pw_below_drewN | apply below_drew1) | exact HB.out)⟩
        ·
         rw [if_neg c14] at H
         have c14b0 : decide ((rd t338 x7_1) < (rd t341 x7_1)) = false := decide_eq_false c14
         clear c14
         by_cases c15 : (rd t338 x7_1) > (rd t341 x7_1)
         ·
          rw [if_pos c15] at H
          have c15b0 : decide ((rd t341 x7_1) < (rd t338 x7_1)) = true := decide_eq_true c15
          clear c15
          obtain rfl := Option.some.inj H
          have p344 : 0 ≤ (x7_1 : Int) := of_decide_eq_true (by first | (with_reducible assumption) | assumption)
          have q344 : x7_1 < (t338.length : Int) := of_decide_eq_true (by first | (with_reducible assumption) | assumption)
          obtain ⟨ad344, e344, hx344_0⟩ := Kd.at_int (Kd.R_reads' HO_5.out).2.2 x7_1 p344 q344
          cases e344
          replace p344 := eq_true p344
          replace q344 := eq_true q344
          have p345 : 0 ≤ (x7_1 : Int) := of_decide_eq_true (by first | (with_reducible assumption) | assumption)
          have q345 : x7_1 < (t341.length : Int) := of_decide_eq_true (by first | (with_reducible assumption) | assumption)
          obtain ⟨ad345, e345, hx345_0⟩ := Kd.at_int (Kd.R_reads' HO_6.out).2.2 x7_1 p345 q345
          cases e345
          replace p345 := eq_true p345
          replace q345 := eq_true q345
          have p346 : 0 ≤ (x7_1 : Int) := of_decide_eq_true (by first | (with_reducible assumption) | assumption)
          have q346 : x7_1 < (t338.length : Int) := of_decide_eq_true (by first | (with_reducible assumption) | assumption)
          obtain ⟨ad346, e346, hx346_0⟩ := Kd.at_int (Kd.R_reads' HO_5.out).2.2 x7_1 p346 q346
          obtain rfl : ad344 = ad346 := (by injection e346)
          replace p346 := eq_true p346
          replace q346 := eq_true q346
          have p347 : 0 ≤ (x7_1 : Int) := of_decide_eq_true (by first | (with_reducible assumption) | assumption)
          have q347 : x7_1 < (t341.length : Int) := of_decide_eq_true (by first | (with_reducible assumption) | assumption)
          obtain ⟨ad347, e347, hx347_0⟩ := Kd.at_int (Kd.R_reads' HO_6.out).2.2 x7_1 p347 q347
          obtain rfl : ad345 = ad347 := (by injection e347)
          replace p347 := eq_true p347
          replace q347 := eq_true q347
          go_wp2
          repeat (go_quiet (fail); try go_wp2)
          go_ret
          exact ⟨by first | rfl | (simp [*, errW_none, errW_some] <;> rfl), by repeat (first | (with_reducible first | exact HB.out | apply below_alloc | apply pw_below_drewN | apply below_drew1) | exact HB.out)⟩
         ·
          rw [if_neg c15] at H
          have c15b0 : decide ((rd t341 x7_1) < (rd t338 x7_1)) = false := decide_eq_false c15
          clear c15
          have H' := Aside0.mk H
          clear H
          have p344 : 0 ≤ (x7_1 : Int) := of_decide_eq_true (by first | (with_reducible assumption) | assumption)
          have q344 : x7_1 < (t338.length : Int) := of_decide_eq_true (by first | (with_reducible assumption) | assumption)
          obtain ⟨ad344, e344, hx344_0⟩ := Kd.at_int (Kd.R_reads' HO_5.out).2.2 x7_1 p344 q344
          cases e344
          replace p344 := eq_true p344
          replace q344 := eq_true q344
          have p345 : 0 ≤ (x7_1 : Int) := of_decide_eq_true (by first | (with_reducible assumption) | assumption)
          have q345 : x7_1 < (t341.length : Int) := of_decide_eq_true (by first | (with_reducible assumption) | assumption)
          obtain ⟨ad345, e345, hx345_0⟩ := Kd.at_int (Kd.R_reads' HO_6.out).2.2 x7_1 p345 q345
          cases e345
          replace p345 := eq_true p345
          replace q345 := eq_true q345
          have p346 : 0 ≤ (x7_1 : Int) := of_decide_eq_true (by first | (with_reducible assumption) | assumption)
          have q346 : x7_1 < (t338.length : Int) := of_decide_eq_true (by first | (with_reducible assumption) | assumption)
          obtain ⟨ad346, e346, hx346_0⟩ := Kd.at_int (Kd.R_reads' HO_5.out).2.2 x7_1 p346 q346
          obtain rfl : ad344 = ad346 := (by injection e346)
          replace p346 := eq_true p346
          replace q346 := eq_true q346
          have p347 : 0 ≤ (x7_1 : Int) := of_decide_eq_true (by first | (with_reducible assumption) | assumption)
          have q347 : x7_1 < (t341.length : Int) := of_decide_eq_true (by first | (with_reducible assumption) | assumption)
          obtain ⟨ad347, e347, hx347_0⟩ := Kd.at_int (Kd.R_reads' HO_6.out).2.2 x7_1 p347 q347
          obtain rfl : ad345 = ad347 := (by injection e347)
          replace p347 := eq_true p347
          replace q347 := eq_true q347
          go_wp2
          repeat (go_quiet (fail); try go_wp2)
          go_roundg k1
          case measure => have := HK1.out; omega
          case rel => exact ⟨(wrap64 (x7_1 - 1)), (by first | rfl | (simp [*]; done)), H', ⟨by have := HK1.out; omega⟩, ⟨by (with_reducible repeat (first | apply Kd.R_alloc | apply Kd.R_drewN | apply Kd.R_drew)); exact HO_5.out⟩, ⟨by (with_reducible repeat (first | apply Kd.R_alloc | apply Kd.R_drewN | apply Kd.R_drew)); exact HO_6.out⟩, ⟨by repeat (first | (with_reducible first | exact HB.out | apply below_alloc | apply pw_below_drewN | apply below_drew1) | exact HB.out)⟩⟩
       ·
        rw [if_neg c13] at H
        exact absurd H (by simp)
      ·
       rw [if_neg c12] at H
       exact absurd H (by simp)
     ·
      rw [if_neg c11] at H
      exact absurd H (by simp)
    ·
     rw [if_neg c10] at H
     have c10b0 : decide (0 ≤ x7_1) = false := decide_eq_false c10
     clear c10
     obtain rfl := Option.some.inj H
     go_wp2
     repeat (go_quiet (fail); try go_wp2)
     go_ret
     exact ⟨by first | rfl | (simp [*, errW_none, errW_some] <;> rfl), by repeat (first | (with_reducible first | exact HB.out | apply below_alloc | apply pw_below_drewN | apply below_drew1) | exact HB.out)⟩
 ·
  rw [if_neg c5] at H
  have c5b0 : ((t338.length : Int) == (t341.length : Int)) = false := beq_eq_false_iff_ne.mpr c5
  have c5b1 : ((t338.length : Int) != (t341.length : Int)) = true := bne_iff_ne.mpr c5
  have c5b2 : (t338.length == t341.length) = false := by first | simpa using c5 | (simp at c5 ⊢; omega)
  by_cases c16 : (t338.length : Int) < (t341.length : Int)
  ·
   rw [if_pos c16] at H
   have c16b0 : decide ((t338.length : Int) < (t341.length : Int)) = true := decide_eq_true c16
   have c16b1 : decide (t338.length < t341.length) = true := decide_eq_true (Int.ofNat_lt.mp c16)
   clear c16
   obtain rfl := Option.some.inj H
   go_enter Tryd.func63, Tryd.ntmps63
   have M233_0 : Aside0 True := ⟨trivial⟩
   have M233_1 : Aside0 True := ⟨trivial⟩
   go_wp2_with (first | (go_at_call 87; clear M233_0; (with_reducible refine (credenceref1_NatNorm.calls k _ _ l0 t338 _ ?side1 ?side2 A3.out).mono ?_); (case side1 => repeat first | exact HR0.out | refine Kd.C_drewN ?_ _ | refine Kd.C_alloc ?_ _ | refine Kd.C_drew ?_); (case side2 => exact HC0.out); rintro e w17 ⟨v339, rfl, ho0, hb⟩; have n0_ := Aside0.mk (Kd.R_lower ho0 (below_size (zb HB rfl))); have n1_ := Aside0.mk (below_step (zb HB rfl) hb); clear HB; have HO340 := n0_; have HB := n1_; clear n0_ n1_) | (go_at_call 87; clear M233_1; (with_reducible refine (credenceref1_NatNorm.calls k _ _ l1 t341 _ ?side1 ?side2 A4.out).mono ?_); (case side1 => repeat first | exact (Kd.C_below HR1.out HB.out) | refine Kd.C_drewN ?_ _ | refine Kd.C_alloc ?_ _ | refine Kd.C_drew ?_); (case side2 => exact HC1.out); rintro e w18 ⟨v342, rfl, ho0, hb⟩; have n0_ := Aside0.mk (Kd.R_elder' (zr HO340 rfl) (Kd.R_base ho0) hb); have n1_ := Aside0.mk (Kd.R_lower (Kd.R_new' ho0 (Kd.R_lt (zr HO340 rfl))) (below_size (zb HB rfl))); have n2_ := Aside0.mk (below_step (zb HB rfl) hb); clear HO340; clear HB; have HO340 := n0_; have HO343 := n1_; have HB := n2_; clear n0_ n1_ n2_; obtain ⟨Ao19, co19, eo19⟩ := Kd.R_slice HO340.out; subst eo19; obtain ⟨Ao20, co20, eo20⟩ := Kd.R_slice HO343.out; subst eo20))
   repeat (go_quiet (first | (go_at_call 87; (with_reducible refine (credenceref1_NatNorm.calls k _ _ l0 t338 _ ?side1 ?side2 A3.out).mono ?_); (case side1 => repeat first | exact HR0.out | refine Kd.C_drewN ?_ _ | refine Kd.C_alloc ?_ _ | refine Kd.C_drew ?_); (case side2 => exact HC0.out); rintro e w17 ⟨v339, rfl, ho0, hb⟩; have n0_ := Aside0.mk (Kd.R_lower ho0 (below_size (zb HB rfl))); have n1_ := Aside0.mk (below_step (zb HB rfl) hb); clear HB; have HO340 := n0_; have HB := n1_; clear n0_ n1_) | (go_at_call 87; (with_reducible refine (credenceref1_NatNorm.calls k _ _ l1 t341 _ ?side1 ?side2 A4.out).mono ?_); (case side1 => repeat first | exact (Kd.C_below HR1.out HB.out) | refine Kd.C_drewN ?_ _ | refine Kd.C_alloc ?_ _ | refine Kd.C_drew ?_); (case side2 => exact HC1.out); rintro e w18 ⟨v342, rfl, ho0, hb⟩; have n0_ := Aside0.mk (Kd.R_elder' (zr HO340 rfl) (Kd.R_base ho0) hb); have n1_ := Aside0.mk (Kd.R_lower (Kd.R_new' ho0 (Kd.R_lt (zr HO340 rfl))) (below_size (zb HB rfl))); have n2_ := Aside0.mk (below_step (zb HB rfl) hb); clear HO340; clear HB; have HO340 := n0_; have HO343 := n1_; have HB := n2_; clear n0_ n1_ n2_; obtain ⟨Ao19, co19, eo19⟩ := Kd.R_slice HO340.out; subst eo19; obtain ⟨Ao20, co20, eo20⟩ := Kd.R_slice HO343.out; subst eo20)); try go_wp2_with (first | (go_at_call 87; (with_reducible refine (credenceref1_NatNorm.calls k _ _ l0 t338 _ ?side1 ?side2 A3.out).mono ?_); (case side1 => repeat first | exact HR0.out | refine Kd.C_drewN ?_ _ | refine Kd.C_alloc ?_ _ | refine Kd.C_drew ?_); (case side2 => exact HC0.out); rintro e w17 ⟨v339, rfl, ho0, hb⟩; have n0_ := Aside0.mk (Kd.R_lower ho0 (below_size (zb HB rfl))); have n1_ := Aside0.mk (below_step (zb HB rfl) hb); clear HB; have HO340 := n0_; have HB := n1_; clear n0_ n1_) | (go_at_call 87; (with_reducible refine (credenceref1_NatNorm.calls k _ _ l1 t341 _ ?side1 ?side2 A4.out).mono ?_); (case side1 => repeat first | exact (Kd.C_below HR1.out HB.out) | refine Kd.C_drewN ?_ _ | refine Kd.C_alloc ?_ _ | refine Kd.C_drew ?_); (case side2 => exact HC1.out); rintro e w18 ⟨v342, rfl, ho0, hb⟩; have n0_ := Aside0.mk (Kd.R_elder' (zr HO340 rfl) (Kd.R_base ho0) hb); have n1_ := Aside0.mk (Kd.R_lower (Kd.R_new' ho0 (Kd.R_lt (zr HO340 rfl))) (below_size (zb HB rfl))); have n2_ := Aside0.mk (below_step (zb HB rfl) hb); clear HO340; clear HB; have HO340 := n0_; have HO343 := n1_; have HB := n2_; clear n0_ n1_ n2_; obtain ⟨Ao19, co19, eo19⟩ := Kd.R_slice HO340.out; subst eo19; obtain ⟨Ao20, co20, eo20⟩ := Kd.R_slice HO343.out; subst eo20)))
   go_ret
   exact ⟨by first | rfl | (simp [*, errW_none, errW_some] <;> rfl), by repeat (first | (with_reducible first | exact HB.out | apply below_alloc | apply pw_below_drewN | apply below_drew1) | exact HB.out)⟩
  ·
   rw [if_neg c16] at H
   have c16b0 : decide ((t338.length : Int) < (t341.length : Int)) = false := decide_eq_false c16
   have c16b1 : decide (t338.length < t341.length) = false := decide_eq_false (fun h => c16 (Int.ofNat_lt.mpr h))
   clear c16
   obtain rfl := Option.some.inj H
   go_enter Tryd.func63, Tryd.ntmps63
   have M243_0 : Aside0 True := ⟨trivial⟩
   have M243_1 : Aside0 True := ⟨trivial⟩
   go_wp2_with (first | (go_at_call 87; clear M243_0; (with_reducible refine (credenceref1_NatNorm.calls k _ _ l0 t338 _ ?side1 ?side2 A3.out).mono ?_); (case side1 => repeat first | exact HR0.out | refine Kd.C_drewN ?_ _ | refine Kd.C_alloc ?_ _ | refine Kd.C_drew ?_); (case side2 => exact HC0.out); rintro e w21 ⟨v339, rfl, ho0, hb⟩; have n0_ := Aside0.mk (Kd.R_lower ho0 (below_size (zb HB rfl))); have n1_ := Aside0.mk (below_step (zb HB rfl) hb); clear HB; have HO340 := n0_; have HB := n1_; clear n0_ n1_) | (go_at_call 87; clear M243_1; (with_reducible refine (credenceref1_NatNorm.calls k _ _ l1 t341 _ ?side1 ?side2 A4.out).mono ?_); (case side1 => repeat first | exact (Kd.C_below HR1.out HB.out) | refine Kd.C_drewN ?_ _ | refine Kd.C_alloc ?_ _ | refine Kd.C_drew ?_); (case side2 => exact HC1.out); rintro e w22 ⟨v342, rfl, ho0, hb⟩; have n0_ := Aside0.mk (Kd.R_elder' (zr HO340 rfl) (Kd.R_base ho0) hb); have n1_ := Aside0.mk (Kd.R_lower (Kd.R_new' ho0 (Kd.R_lt (zr HO340 rfl))) (below_size (zb HB rfl))); have n2_ := Aside0.mk (below_step (zb HB rfl) hb); clear HO340; clear HB; have HO340 := n0_; have HO343 := n1_; have HB := n2_; clear n0_ n1_ n2_; obtain ⟨Ao23, co23, eo23⟩ := Kd.R_slice HO340.out; subst eo23; obtain ⟨Ao24, co24, eo24⟩ := Kd.R_slice HO343.out; subst eo24))
   repeat (go_quiet (first | (go_at_call 87; (with_reducible refine (credenceref1_NatNorm.calls k _ _ l0 t338 _ ?side1 ?side2 A3.out).mono ?_); (case side1 => repeat first | exact HR0.out | refine Kd.C_drewN ?_ _ | refine Kd.C_alloc ?_ _ | refine Kd.C_drew ?_); (case side2 => exact HC0.out); rintro e w21 ⟨v339, rfl, ho0, hb⟩; have n0_ := Aside0.mk (Kd.R_lower ho0 (below_size (zb HB rfl))); have n1_ := Aside0.mk (below_step (zb HB rfl) hb); clear HB; have HO340 := n0_; have HB := n1_; clear n0_ n1_) | (go_at_call 87; (with_reducible refine (credenceref1_NatNorm.calls k _ _ l1 t341 _ ?side1 ?side2 A4.out).mono ?_); (case side1 => repeat first | exact (Kd.C_below HR1.out HB.out) | refine Kd.C_drewN ?_ _ | refine Kd.C_alloc ?_ _ | refine Kd.C_drew ?_); (case side2 => exact HC1.out); rintro e w22 ⟨v342, rfl, ho0, hb⟩; have n0_ := Aside0.mk (Kd.R_elder' (zr HO340 rfl) (Kd.R_base ho0) hb); have n1_ := Aside0.mk (Kd.R_lower (Kd.R_new' ho0 (Kd.R_lt (zr HO340 rfl))) (below_size (zb HB rfl))); have n2_ := Aside0.mk (below_step (zb HB rfl) hb); clear HO340; clear HB; have HO340 := n0_; have HO343 := n1_; have HB := n2_; clear n0_ n1_ n2_; obtain ⟨Ao23, co23, eo23⟩ := Kd.R_slice HO340.out; subst eo23; obtain ⟨Ao24, co24, eo24⟩ := Kd.R_slice HO343.out; subst eo24)); try go_wp2_with (first | (go_at_call 87; (with_reducible refine (credenceref1_NatNorm.calls k _ _ l0 t338 _ ?side1 ?side2 A3.out).mono ?_); (case side1 => repeat first | exact HR0.out | refine Kd.C_drewN ?_ _ | refine Kd.C_alloc ?_ _ | refine Kd.C_drew ?_); (case side2 => exact HC0.out); rintro e w21 ⟨v339, rfl, ho0, hb⟩; have n0_ := Aside0.mk (Kd.R_lower ho0 (below_size (zb HB rfl))); have n1_ := Aside0.mk (below_step (zb HB rfl) hb); clear HB; have HO340 := n0_; have HB := n1_; clear n0_ n1_) | (go_at_call 87; (with_reducible refine (credenceref1_NatNorm.calls k _ _ l1 t341 _ ?side1 ?side2 A4.out).mono ?_); (case side1 => repeat first | exact (Kd.C_below HR1.out HB.out) | refine Kd.C_drewN ?_ _ | refine Kd.C_alloc ?_ _ | refine Kd.C_drew ?_); (case side2 => exact HC1.out); rintro e w22 ⟨v342, rfl, ho0, hb⟩; have n0_ := Aside0.mk (Kd.R_elder' (zr HO340 rfl) (Kd.R_base ho0) hb); have n1_ := Aside0.mk (Kd.R_lower (Kd.R_new' ho0 (Kd.R_lt (zr HO340 rfl))) (below_size (zb HB rfl))); have n2_ := Aside0.mk (below_step (zb HB rfl) hb); clear HO340; clear HB; have HO340 := n0_; have HO343 := n1_; have HB := n2_; clear n0_ n1_ n2_; obtain ⟨Ao23, co23, eo23⟩ := Kd.R_slice HO340.out; subst eo23; obtain ⟨Ao24, co24, eo24⟩ := Kd.R_slice HO343.out; subst eo24)))
   go_ret
   exact ⟨by first | rfl | (simp [*, errW_none, errW_some] <;> rfl), by repeat (first | (with_reducible first | exact HB.out | apply below_alloc | apply pw_below_drewN | apply below_drew1) | exact HB.out)⟩

def credenceref1_NatSub.l0 : Nat → List Int → List Int → Int → Int → Option (List Int × Bool)
 | 0, _, _, _, _ => none
 | k + 1, x6, x7, x8, x9 => if x9 < (x6.length : Int) then (if x9 < (x7.length : Int) then (if 0 ≤ x9 then (if (IntKind.u64.wrap (rd x6 x9)) < (IntKind.u64.wrap (x8 + (IntKind.u64.wrap (rd x7 x9)))) then (credenceref1_NatSub.l0 k (x6.set (x9 : Int).toNat ((IntKind.u64.wrap ((IntKind.u64.wrap ((IntKind.u64.wrap (rd x6 x9)) + (1 * 4294967296))) - (IntKind.u64.wrap (x8 + (IntKind.u64.wrap (rd x7 x9)))))) % 4294967296)) x7 1 (wrap64 (x9 + 1))) else (credenceref1_NatSub.l0 k (x6.set (x9 : Int).toNat ((IntKind.u64.wrap ((IntKind.u64.wrap ((IntKind.u64.wrap (rd x6 x9)) + (0 * 4294967296))) - (IntKind.u64.wrap (x8 + (IntKind.u64.wrap (rd x7 x9)))))) % 4294967296)) x7 0 (wrap64 (x9 + 1)))) else (none)) else (if 0 ≤ x9 then (if (IntKind.u64.wrap (rd x6 x9)) < x8 then (credenceref1_NatSub.l0 k (x6.set (x9 : Int).toNat ((IntKind.u64.wrap ((IntKind.u64.wrap ((IntKind.u64.wrap (rd x6 x9)) + (1 * 4294967296))) - x8)) % 4294967296)) x7 1 (wrap64 (x9 + 1))) else (credenceref1_NatSub.l0 k (x6.set (x9 : Int).toNat ((IntKind.u64.wrap ((IntKind.u64.wrap ((IntKind.u64.wrap (rd x6 x9)) + (0 * 4294967296))) - x8)) % 4294967296)) x7 0 (wrap64 (x9 + 1)))) else (none))) else ((credenceref1_NatNorm.f k x6).bind fun t355 => (some (t355, true)))
def credenceref1_NatSub.f (k : Nat) (l0 : List Int) (l1 : List Int) : Option (List Int × Bool) := (credenceref1_NatCmp.f k l0 l1).bind fun t348 => (if t348 < 0 then (some (([] : List Int), false)) else ((credenceref1_NatNorm.f k l0).bind fun t349 => ((credenceref1_NatNorm.f k l1).bind fun t352 => (credenceref1_NatSub.l0 k t349 t352 0 0))))
set_option maxHeartbeats 8000000 in
set_option maxRecDepth 100000 in
theorem credenceref1_NatSub.calls (k : Nat) (A0 : Option Addr) (c0 : Nat) (l0 : List Int) (A1 : Option Addr) (c1 : Nat) (l1 : List Int) (r1 : List Int) (r2 : Bool) (w : World) (hr0 : Kd.C (Kd.int .u32) w A0 l0.length l0) (hc0 : l0.length ≤ c0) (hr1 : Kd.C (Kd.int .u32) w A1 l1.length l1) (hc1 : l1.length ≤ c1) (h : credenceref1_NatSub.f k l0 l1 = some (r1, r2)) :
  Calls Tryd.prog 74 #[.slice A0 l0.length c0, .slice A1 l1.length c1] w fun e w' => ∃ v0_ : Value, e = .returned (.tuple #[v0_, .bool r2]) ∧ Kd.R (Kd.int .u32) 37 w' w.heap.size (fun _ => True) v0_ r1 ∧ Below w.heap.size w w' := by
 have HR0 := Aside0.mk hr0
 have HC0 := Aside0.mk hc0
 clear hr0 hc0
 have HR1 := Aside0.mk hr1
 have HC1 := Aside0.mk hc1
 clear hr1 hc1
 have HB := Aside0.mk (Below.refl w.heap.size w)
 have H : ((credenceref1_NatCmp.f k l0 l1).bind fun t348 => (if t348 < 0 then (some (([] : List Int), false)) else ((credenceref1_NatNorm.f k l0).bind fun t349 => ((credenceref1_NatNorm.f k l1).bind fun t352 => (credenceref1_NatSub.l0 k t349 t352 0 0))))) = some (r1, r2) := h
 clear h
 replace H := Option.bind_eq_some_iff.mp H
 obtain ⟨t348, A30, H⟩ := H
 replace H : (if t348 < 0 then (some (([] : List Int), false)) else ((credenceref1_NatNorm.f k l0).bind fun t349 => ((credenceref1_NatNorm.f k l1).bind fun t352 => (credenceref1_NatSub.l0 k t349 t352 0 0)))) = some (r1, r2) := H
 have A3 := Aside0.mk A30
 clear A30
 by_cases c4 : t348 < 0
 ·
  rw [if_pos c4] at H
  have c4b0 : decide (t348 < 0) = true := decide_eq_true c4
  clear c4
  simp only [Option.some.injEq, Prod.mk.injEq] at H
  obtain ⟨rfl, rfl⟩ := H
  go_enter Tryd.func74, Tryd.ntmps74
  go_wp2_with (first | ((with_reducible refine gate_callee (f := 63) rfl ?_); refine goesL_ (some 13) rfl rfl Tryd.func63 (by kernel_rfl) rfl #[.slice A0 l0.length c0, .slice A1 l1.length c1] rfl (by first | rfl | (go_simp; first | done | rfl | omega)) ?_; (with_reducible refine (credenceref1_NatCmp.calls k _ _ l0 _ _ l1 t348 _ ?side1 ?side2 ?side3 ?side4 A3.out).mono ?_); (case side1 => repeat first | exact HR0.out | refine Kd.C_drewN ?_ _ | refine Kd.C_alloc ?_ _ | refine Kd.C_drew ?_); (case side2 => exact HC0.out); (case side3 => repeat first | exact HR1.out | refine Kd.C_drewN ?_ _ | refine Kd.C_alloc ?_ _ | refine Kd.C_drew ?_); (case side4 => exact HC1.out); rintro e w5 ⟨rfl, hb⟩; refine ⟨_, rfl, ?_⟩; have n0_ := Aside0.mk (below_step (zb HB rfl) hb); clear HB; have HB := n0_; clear n0_))
  go_ret2
  exact ⟨_, by first | rfl | (simp [*, errW_none, errW_some] <;> rfl), by first | exact Kd.R_nil _ _ _ _ _ | exact Kd.V_nil _ _ _ _ _, by repeat (first | (with_reducible first | exact HB.out | apply below_alloc | apply pw_below_drewN | apply below_drew1) | exact HB.out)⟩
 ·
  rw [if_neg c4] at H
  have c4b0 : decide (t348 < 0) = false := decide_eq_false c4
  clear c4
  replace H := Option.bind_eq_some_iff.mp H
  obtain ⟨t349, A60, H⟩ := H
  replace H : ((credenceref1_NatNorm.f k l1).bind fun t352 => (credenceref1_NatSub.l0 k t349 t352 0 0)) = some (r1, r2) := H
  have A6 := Aside0.mk A60
  clear A60
  replace H := Option.bind_eq_some_iff.mp H
  obtain ⟨t352, A70, H⟩ := H
  replace H : (credenceref1_NatSub.l0 k t349 t352 0 0) = some (r1, r2) := H
  have A7 := Aside0.mk A70
  clear A70
  have H' := Aside0.mk H
  clear H
  go_enter Tryd.func74, Tryd.ntmps74
  go_wp2_with (first | ((with_reducible refine gate_callee (f := 63) rfl ?_); refine goesL_ (some 13) rfl rfl Tryd.func63 (by kernel_rfl) rfl #[.slice A0 l0.length c0, .slice A1 l1.length c1] rfl (by first | rfl | (go_simp; first | done | rfl | omega)) ?_; (with_reducible refine (credenceref1_NatCmp.calls k _ _ l0 _ _ l1 t348 _ ?side1 ?side2 ?side3 ?side4 A3.out).mono ?_); (case side1 => repeat first | exact HR0.out | refine Kd.C_drewN ?_ _ | refine Kd.C_alloc ?_ _ | refine Kd.C_drew ?_); (case side2 => exact HC0.out); (case side3 => repeat first | exact HR1.out | refine Kd.C_drewN ?_ _ | refine Kd.C_alloc ?_ _ | refine Kd.C_drew ?_); (case side4 => exact HC1.out); rintro e w8 ⟨rfl, hb⟩; refine ⟨_, rfl, ?_⟩; have n0_ := Aside0.mk (below_step (zb HB rfl) hb); clear HB; have HB := n0_; clear n0_) | ((with_reducible refine gate_callee (f := 87) rfl ?_); refine goesL_ (some 16) rfl rfl Tryd.func87 (by kernel_rfl) rfl #[.slice A0 l0.length c0] rfl (by first | rfl | (go_simp; first | done | rfl | omega)) ?_; (with_reducible refine (credenceref1_NatNorm.calls k _ _ l0 t349 _ ?side1 ?side2 A6.out).mono ?_); (case side1 => repeat first | exact (Kd.C_below HR0.out HB.out) | refine Kd.C_drewN ?_ _ | refine Kd.C_alloc ?_ _ | refine Kd.C_drew ?_); (case side2 => exact HC0.out); rintro e w9 ⟨v350, rfl, ho0, hb⟩; refine ⟨_, rfl, ?_⟩; have n0_ := Aside0.mk (Kd.R_lower ho0 (below_size (zb HB rfl))); have n1_ := Aside0.mk (below_step (zb HB rfl) hb); clear HB; have HO351 := n0_; have HB := n1_; clear n0_ n1_) | ((with_reducible refine gate_callee (f := 87) rfl ?_); refine goesL_ (some 18) rfl rfl Tryd.func87 (by kernel_rfl) rfl #[.slice A1 l1.length c1] rfl (by first | rfl | (go_simp; first | done | rfl | omega)) ?_; (with_reducible refine (credenceref1_NatNorm.calls k _ _ l1 t352 _ ?side1 ?side2 A7.out).mono ?_); (case side1 => repeat first | exact (Kd.C_below HR1.out HB.out) | refine Kd.C_drewN ?_ _ | refine Kd.C_alloc ?_ _ | refine Kd.C_drew ?_); (case side2 => exact HC1.out); rintro e w10 ⟨v353, rfl, ho0, hb⟩; refine ⟨_, rfl, ?_⟩; have n0_ := Aside0.mk (Kd.R_elder' (zr HO351 rfl) (Kd.R_base ho0) hb); have n1_ := Aside0.mk (Kd.R_lower (Kd.R_new' ho0 (Kd.R_lt (zr HO351 rfl))) (below_size (zb HB rfl))); have n2_ := Aside0.mk (below_step (zb HB rfl) hb); clear HO351; clear HB; have HO351 := n0_; have HO354 := n1_; have HB := n2_; clear n0_ n1_ n2_))
  go_loopg [8, 9] k (fun kq v8 v9 w' => ∃ (x6_1 : List Int) (x8_1 : Int) (x9_1 : Int), v8 = .int .u64 x8_1 ∧ v9 = .int .i64 x9_1 ∧ Aside0 (credenceref1_NatSub.l0 kq x6_1 t352 x8_1 x9_1 = some (r1, r2)) ∧ Aside0 (kq ≤ k) ∧ Aside0 (Kd.R (Kd.int .u32) 37 w' w.heap.size (fun k_ => some k_ ≠ (v353 : Value).ownBlock) v350 x6_1) ∧ Aside0 (Kd.R (Kd.int .u32) 37 w' w.heap.size (fun k_ => some k_ ≠ (v350 : Value).ownBlock) v353 t352) ∧ Aside0 (Below w.heap.size w w'))
  case atStart => exact ⟨(t349), (0), (0), (by first | rfl | (simp [*]; done)), (by first | rfl | (simp [*]; done)), H', ⟨Nat.le_refl _⟩, ⟨by (with_reducible repeat (first | apply Kd.R_alloc | apply Kd.R_drewN | apply Kd.R_drew)); exact Kd.R_mono HO351.out (fun _ hk => hk.2)⟩, ⟨by (with_reducible repeat (first | apply Kd.R_alloc | apply Kd.R_drewN | apply Kd.R_drew)); exact Kd.R_mono HO354.out (fun _ hk => hk.2)⟩, ⟨by repeat (first | (with_reducible first | exact HB.out | apply below_alloc | apply pw_below_drewN | apply below_drew1) | exact HB.out)⟩⟩
  case round =>
   clear H'
   try clear c1
   try clear p2
   try clear c4
   try clear c4b0
   try clear c6
   try clear c7
   try clear c8
   obtain ⟨x6_1, x8_1, x9_1, rfl, rfl, HA, HK1, HO_6, HO_7, HB⟩ := hrel
   cases gk with
   | zero => exact absurd HA.out (by simp [credenceref1_NatSub.l0])
   | succ k1 =>
    have H := HA.out
    clear HA
    simp only [credenceref1_NatSub.l0] at H
    by_cases c11 : x9_1 < (x6_1.length : Int)
    ·
     rw [if_pos c11] at H
     have c11b0 : decide (x9_1 < (x6_1.length : Int)) = true := decide_eq_true c11
     clear c11
     by_cases c12 : x9_1 < (t352.length : Int)
     ·
      rw [if_pos c12] at H
      have c12b0 : decide (x9_1 < (t352.length : Int)) = true := decide_eq_true c12
      clear c12
      by_cases c13 : 0 ≤ x9_1
      ·
       rw [if_pos c13] at H
       have c13b0 : decide (0 ≤ x9_1) = true := decide_eq_true c13
       clear c13
       by_cases c14 : (IntKind.u64.wrap (rd x6_1 x9_1)) < (IntKind.u64.wrap (x8_1 + (IntKind.u64.wrap (rd t352 x9_1))))
       ·
        rw [if_pos c14] at H
        have c14b0 : decide ((IntKind.u64.wrap (rd x6_1 x9_1)) < (IntKind.u64.wrap (x8_1 + (IntKind.u64.wrap (rd t352 x9_1))))) = true := decide_eq_true c14
        clear c14
        obtain ⟨y361, hy361⟩ : ∃ y_ : List Int, y_ = (x6_1.set (x9_1 : Int).toNat ((IntKind.u64.wrap ((IntKind.u64.wrap ((IntKind.u64.wrap (rd x6_1 x9_1)) + (1 * 4294967296))) - (IntKind.u64.wrap (x8_1 + (IntKind.u64.wrap (rd t352 x9_1)))))) % 4294967296)) := ⟨_, rfl⟩
        replace H : (credenceref1_NatSub.l0 k1 y361 t352 1 (wrap64 (x9_1 + 1))) = some (r1, r2) := by first | (rw [hy361]; with_reducible exact H) | (have H2_ := (Option.bind_some _ _).symm.trans H; rw [hy361]; with_reducible exact H2_) | (have H2_ := (Option.bind_some _ _).symm.trans H; with_reducible exact H2_) | with_reducible exact H | (rw [hy361]; exact H) | exact H
        have Ny361 := Aside0.mk hy361
        clear hy361
        have H' := Aside0.mk H
        clear H
        obtain ⟨Ao16, co16, eo16⟩ := Kd.R_slice HO_6.out
        subst eo16
        obtain ⟨Ao17, co17, eo17⟩ := Kd.R_slice HO_7.out
        subst eo17
        have p358 : 0 ≤ (x9_1 : Int) := of_decide_eq_true (by first | (with_reducible assumption) | assumption)
        have q358 : x9_1 < (t352.length : Int) := of_decide_eq_true (by first | (with_reducible assumption) | assumption)
        obtain ⟨ad358, e358, hx358_0⟩ := Kd.at_int (Kd.R_reads' HO_7.out).2.2 x9_1 p358 q358
        cases e358
        replace p358 := eq_true p358
        replace q358 := eq_true q358
        have p359 : 0 ≤ (x9_1 : Int) := of_decide_eq_true (by first | (with_reducible assumption) | assumption)
        have q359 : x9_1 < (x6_1.length : Int) := of_decide_eq_true (by first | (with_reducible assumption) | assumption)
        obtain ⟨ad359, e359, hx359_0⟩ := Kd.at_int (Kd.R_reads' HO_6.out).2.2 x9_1 p359 q359
        cases e359
        replace p359 := eq_true p359
        replace q359 := eq_true q359
        have p360 : 0 ≤ (x9_1 : Int) := of_decide_eq_true (by first | (with_reducible assumption) | assumption)
        have q360 : x9_1 < (x6_1.length : Int) := of_decide_eq_true (by first | (with_reducible assumption) | assumption)
        obtain ⟨ad360, e360, hx360_0⟩ := Kd.at_int (Kd.R_reads' HO_6.out).2.2 x9_1 p360 q360
        obtain rfl : ad359 = ad360 := (by injection e360)
        replace p360 := eq_true p360
        replace q360 := eq_true q360
        have p15 : 0 ≤ (x9_1 : Int) := of_decide_eq_true (by first | (with_reducible assumption) | assumption)
        have q15 : (x9_1 : Int) < ((x6_1.length : Int) : Int) := of_decide_eq_true (by first | (with_reducible assumption) | assumption)
        obtain ⟨go15, co15, eo15, gb15, gl15, cl15, HG15⟩ := Kd.R_form HO_6.out (by omega)
        (first | cases eo15 | (injection eo15 with ea_ en_ ec_; (first | subst ea_ | (injection ea_ with ea_; subst ea_)); subst ec_; clear en_))
        have GB15 := Aside0.mk gb15
        have GG15 := Aside0.mk HG15
        clear gb15 gl15 HG15
        (first | simp only [add_plain] at hx359_0 | skip)
        (first | simp only [add_plain] at hx360_0 | skip)
        obtain ⟨hx15_0, hf15_0⟩ := Kd.R_celln 0 HO_6.out (x9_1 : Int) p15 q15
        replace p15 := eq_true p15
        replace q15 := eq_true q15
        obtain ⟨hy18_, hz18_⟩ := Kd.R_celln 0 HO_6.out (x9_1 : Int) (of_decide_eq_true (by first | (with_reducible assumption) | assumption)) (of_decide_eq_true (by first | (with_reducible assumption) | assumption))
        have HP18 := Kd.R_putg HO_6.out (x9_1 : Int) ((IntKind.u64.wrap ((IntKind.u64.wrap ((IntKind.u64.wrap (rd x6_1 x9_1)) + (1 * 4294967296))) - (IntKind.u64.wrap (x8_1 + (IntKind.u64.wrap (rd t352 x9_1)))))) % 4294967296)
        go_wp2_with (first | ((with_reducible refine gate_store (t := 37) (p := 57) rfl ?_); refine store_event (t := 37) (p := 57) (v := ?vo_w19) (w1 := (wr.setCell ⟨go15, (x9_1 : Int).toNat, none⟩ (.int .u32 ((IntKind.u64.wrap ((IntKind.u64.wrap ((IntKind.u64.wrap (rd x6_1 x9_1)) + (1 * 4294967296))) - (IntKind.u64.wrap (x8_1 + (IntKind.u64.wrap (rd t352 x9_1)))))) % 4294967296)))) ?hg ?ho ?hn ?hr ?_; (case ho => rfl); (case hg => rfl); (case hn => rfl); (case hr => first | (go_simp; done) | (go_simp; rfl)); intro w19 hw; have hg : wr.grownBy w19 (some go15) := (by rw [hw]; exact HP18.2); have hp_ : Kd.R (Kd.int .u32) 37 w19 w.heap.size (fun k_ => some k_ ≠ (.slice (some ad358) t352.length co17 : Value).ownBlock) (.slice (some ⟨go15, 0, none⟩) x6_1.length co16) y361 := (by rw [hw, Ny361.out]; exact HP18.1); clear HP18; have n0_ := Aside0.mk (hp_); have n1_ := Aside0.mk (Kd.R_after (v := (.slice (some ⟨go15, 0, none⟩) x6_1.length co16)) (v1 := (.slice (some ⟨go15, 0, none⟩) x6_1.length co16)) (ok := (fun _ => True)) (by (with_reducible repeat (first | apply Kd.R_alloc | apply Kd.R_drewN | apply Kd.R_drew)); exact Kd.R_mono HO_7.out (fun _ hk => ⟨trivial, hk⟩)) hg (.inl rfl)); have n2_ := Aside0.mk ((by rw [hw]; exact below_set (HB.out) GB15.out : Below w.heap.size w w19)); clear HO_6; clear HO_7; clear HB; have HO_6 := n0_; have HO_7 := n1_; have HB := n2_; clear n0_ n1_ n2_; clear hg hw hp_))
        go_roundg k1
        case measure => have := HK1.out; omega
        case rel => exact ⟨(y361), (1), (wrap64 (x9_1 + 1)), (by first | rfl | (simp [*]; done)), (by first | rfl | (simp [*]; done)), H', ⟨by have := HK1.out; omega⟩, ⟨by (with_reducible repeat (first | apply Kd.R_alloc | apply Kd.R_drewN | apply Kd.R_drew)); exact HO_6.out⟩, ⟨by (with_reducible repeat (first | apply Kd.R_alloc | apply Kd.R_drewN | apply Kd.R_drew)); exact Kd.R_mono HO_7.out (fun _ hk => hk.2)⟩, ⟨by repeat (first | (with_reducible first | exact HB.out | apply below_alloc | apply pw_below_drewN | apply below_drew1) | exact HB.out)⟩⟩
       ·
        rw [if_neg c14] at H
        have c14b0 : decide ((IntKind.u64.wrap (rd x6_1 x9_1)) < (IntKind.u64.wrap (x8_1 + (IntKind.u64.wrap (rd t352 x9_1))))) = false := decide_eq_false c14
        clear c14
        obtain ⟨y363, hy363⟩ : ∃ y_ : List Int, y_ = (x6_1.set (x9_1 : Int).toNat ((IntKind.u64.wrap ((IntKind.u64.wrap ((IntKind.u64.wrap (rd x6_1 x9_1)) + (0 * 4294967296))) - (IntKind.u64.wrap (x8_1 + (IntKind.u64.wrap (rd t352 x9_1)))))) % 4294967296)) := ⟨_, rfl⟩
        replace H : (credenceref1_NatSub.l0 k1 y363 t352 0 (wrap64 (x9_1 + 1))) = some (r1, r2) := by first | (rw [hy363]; with_reducible exact H) | (have H2_ := (Option.bind_some _ _).symm.trans H; rw [hy363]; with_reducible exact H2_) | (have H2_ := (Option.bind_some _ _).symm.trans H; with_reducible exact H2_) | with_reducible exact H | (rw [hy363]; exact H) | exact H
        have Ny363 := Aside0.mk hy363
        clear hy363
        have H' := Aside0.mk H
        clear H
        obtain ⟨Ao21, co21, eo21⟩ := Kd.R_slice HO_6.out
        subst eo21
        obtain ⟨Ao22, co22, eo22⟩ := Kd.R_slice HO_7.out
        subst eo22
        have p358 : 0 ≤ (x9_1 : Int) := of_decide_eq_true (by first | (with_reducible assumption) | assumption)
        have q358 : x9_1 < (t352.length : Int) := of_decide_eq_true (by first | (with_reducible assumption) | assumption)
        obtain ⟨ad358, e358, hx358_0⟩ := Kd.at_int (Kd.R_reads' HO_7.out).2.2 x9_1 p358 q358
        cases e358
        replace p358 := eq_true p358
        replace q358 := eq_true q358
        have p359 : 0 ≤ (x9_1 : Int) := of_decide_eq_true (by first | (with_reducible assumption) | assumption)
        have q359 : x9_1 < (x6_1.length : Int) := of_decide_eq_true (by first | (with_reducible assumption) | assumption)
        obtain ⟨ad359, e359, hx359_0⟩ := Kd.at_int (Kd.R_reads' HO_6.out).2.2 x9_1 p359 q359
        cases e359
        replace p359 := eq_true p359
        replace q359 := eq_true q359
        have p362 : 0 ≤ (x9_1 : Int) := of_decide_eq_true (by first | (with_reducible assumption) | assumption)
        have q362 : x9_1 < (x6_1.length : Int) := of_decide_eq_true (by first | (with_reducible assumption) | assumption)
        obtain ⟨ad362, e362, hx362_0⟩ := Kd.at_int (Kd.R_reads' HO_6.out).2.2 x9_1 p362 q362
        obtain rfl : ad359 = ad362 := (by injection e362)
        replace p362 := eq_true p362
        replace q362 := eq_true q362
        have p20 : 0 ≤ (x9_1 : Int) := of_decide_eq_true (by first | (with_reducible assumption) | assumption)
        have q20 : (x9_1 : Int) < ((x6_1.length : Int) : Int) := of_decide_eq_true (by first | (with_reducible assumption) | assumption)
        obtain ⟨go20, co20, eo20, gb20, gl20, cl20, HG20⟩ := Kd.R_form HO_6.out (by omega)
        (first | cases eo20 | (injection eo20 with ea_ en_ ec_; (first | subst ea_ | (injection ea_ with ea_; subst ea_)); subst ec_; clear en_))
        have GB20 := Aside0.mk gb20
        have GG20 := Aside0.mk HG20
        clear gb20 gl20 HG20
        (first | simp only [add_plain] at hx359_0 | skip)
        (first | simp only [add_plain] at hx362_0 | skip)
        obtain ⟨hx20_0, hf20_0⟩ := Kd.R_celln 0 HO_6.out (x9_1 : Int) p20 q20
        replace p20 := eq_true p20
        replace q20 := eq_true q20
        obtain ⟨hy23_, hz23_⟩ := Kd.R_celln 0 HO_6.out (x9_1 : Int) (of_decide_eq_true (by first | (with_reducible assumption) | assumption)) (of_decide_eq_true (by first | (with_reducible assumption) | assumption))
        have HP23 := Kd.R_putg HO_6.out (x9_1 : Int) ((IntKind.u64.wrap ((IntKind.u64.wrap ((IntKind.u64.wrap (rd x6_1 x9_1)) + (0 * 4294967296))) - (IntKind.u64.wrap (x8_1 + (IntKind.u64.wrap (rd t352 x9_1)))))) % 4294967296)
        go_wp2_with (first | ((with_reducible refine gate_store (t := 37) (p := 57) rfl ?_); refine store_event (t := 37) (p := 57) (v := ?vo_w24) (w1 := (wr.setCell ⟨go20, (x9_1 : Int).toNat, none⟩ (.int .u32 ((IntKind.u64.wrap ((IntKind.u64.wrap ((IntKind.u64.wrap (rd x6_1 x9_1)) + (0 * 4294967296))) - (IntKind.u64.wrap (x8_1 + (IntKind.u64.wrap (rd t352 x9_1)))))) % 4294967296)))) ?hg ?ho ?hn ?hr ?_; (case ho => rfl); (case hg => rfl); (case hn => rfl); (case hr => first | (go_simp; done) | (go_simp; rfl)); intro w24 hw; have hg : wr.grownBy w24 (some go20) := (by rw [hw]; exact HP23.2); have hp_ : Kd.R (Kd.int .u32) 37 w24 w.heap.size (fun k_ => some k_ ≠ (.slice (some ad358) t352.length co22 : Value).ownBlock) (.slice (some ⟨go20, 0, none⟩) x6_1.length co21) y363 := (by rw [hw, Ny363.out]; exact HP23.1); clear HP23; have n0_ := Aside0.mk (hp_); have n1_ := Aside0.mk (Kd.R_after (v := (.slice (some ⟨go20, 0, none⟩) x6_1.length co21)) (v1 := (.slice (some ⟨go20, 0, none⟩) x6_1.length co21)) (ok := (fun _ => True)) (by (with_reducible repeat (first | apply Kd.R_alloc | apply Kd.R_drewN | apply Kd.R_drew)); exact Kd.R_mono HO_7.out (fun _ hk => ⟨trivial, hk⟩)) hg (.inl rfl)); have n2_ := Aside0.mk ((by rw [hw]; exact below_set (HB.out) GB20.out : Below w.heap.size w w24)); clear HO_6; clear HO_7; clear HB; have HO_6 := n0_; have HO_7 := n1_; have HB := n2_; clear n0_ n1_ n2_; clear hg hw hp_))
        go_roundg k1
        case measure => have := HK1.out; omega
        case rel => exact ⟨(y363), (0), (wrap64 (x9_1 + 1)), (by first | rfl | (simp [*]; done)), (by first | rfl | (simp [*]; done)), H', ⟨by have := HK1.out; omega⟩, ⟨by (with_reducible repeat (first | apply Kd.R_alloc | apply Kd.R_drewN | apply Kd.R_drew)); exact HO_6.out⟩, ⟨by (with_reducible repeat (first | apply Kd.R_alloc | apply Kd.R_drewN | apply Kd.R_drew)); exact Kd.R_mono HO_7.out (fun _ hk => hk.2)⟩, ⟨by repeat (first | (with_reducible first | exact HB.out | apply below_alloc | apply pw_below_drewN | apply below_drew1) | exact HB.out)⟩⟩
      ·
       rw [if_neg c13] at H
       exact absurd H (by simp)
     ·
      rw [if_neg c12] at H
      have c12b0 : decide (x9_1 < (t352.length : Int)) = false := decide_eq_false c12
      clear c12
      by_cases c25 : 0 ≤ x9_1
      ·
       rw [if_pos c25] at H
       have c25b0 : decide (0 ≤ x9_1) = true := decide_eq_true c25
       clear c25
       by_cases c26 : (IntKind.u64.wrap (rd x6_1 x9_1)) < x8_1
       ·
        rw [if_pos c26] at H
        have c26b0 : decide ((IntKind.u64.wrap (rd x6_1 x9_1)) < x8_1) = true := decide_eq_true c26
        clear c26
        obtain ⟨y366, hy366⟩ : ∃ y_ : List Int, y_ = (x6_1.set (x9_1 : Int).toNat ((IntKind.u64.wrap ((IntKind.u64.wrap ((IntKind.u64.wrap (rd x6_1 x9_1)) + (1 * 4294967296))) - x8_1)) % 4294967296)) := ⟨_, rfl⟩
        replace H : (credenceref1_NatSub.l0 k1 y366 t352 1 (wrap64 (x9_1 + 1))) = some (r1, r2) := by first | (rw [hy366]; with_reducible exact H) | (have H2_ := (Option.bind_some _ _).symm.trans H; rw [hy366]; with_reducible exact H2_) | (have H2_ := (Option.bind_some _ _).symm.trans H; with_reducible exact H2_) | with_reducible exact H | (rw [hy366]; exact H) | exact H
        have Ny366 := Aside0.mk hy366
        clear hy366
        have H' := Aside0.mk H
        clear H
        obtain ⟨Ao28, co28, eo28⟩ := Kd.R_slice HO_6.out
        subst eo28
        obtain ⟨Ao29, co29, eo29⟩ := Kd.R_slice HO_7.out
        subst eo29
        have p364 : 0 ≤ (x9_1 : Int) := of_decide_eq_true (by first | (with_reducible assumption) | assumption)
        have q364 : x9_1 < (x6_1.length : Int) := of_decide_eq_true (by first | (with_reducible assumption) | assumption)
        obtain ⟨ad364, e364, hx364_0⟩ := Kd.at_int (Kd.R_reads' HO_6.out).2.2 x9_1 p364 q364
        cases e364
        replace p364 := eq_true p364
        replace q364 := eq_true q364
        have p365 : 0 ≤ (x9_1 : Int) := of_decide_eq_true (by first | (with_reducible assumption) | assumption)
        have q365 : x9_1 < (x6_1.length : Int) := of_decide_eq_true (by first | (with_reducible assumption) | assumption)
        obtain ⟨ad365, e365, hx365_0⟩ := Kd.at_int (Kd.R_reads' HO_6.out).2.2 x9_1 p365 q365
        obtain rfl : ad364 = ad365 := (by injection e365)
        replace p365 := eq_true p365
        replace q365 := eq_true q365
        have p27 : 0 ≤ (x9_1 : Int) := of_decide_eq_true (by first | (with_reducible assumption) | assumption)
        have q27 : (x9_1 : Int) < ((x6_1.length : Int) : Int) := of_decide_eq_true (by first | (with_reducible assumption) | assumption)
        obtain ⟨go27, co27, eo27, gb27, gl27, cl27, HG27⟩ := Kd.R_form HO_6.out (by omega)
        (first | cases eo27 | (injection eo27 with ea_ en_ ec_; (first | subst ea_ | (injection ea_ with ea_; subst ea_)); subst ec_; clear en_))
        have GB27 := Aside0.mk gb27
        have GG27 := Aside0.mk HG27
        clear gb27 gl27 HG27
        (first | simp only [add_plain] at hx364_0 | skip)
        (first | simp only [add_plain] at hx365_0 | skip)
        obtain ⟨hx27_0, hf27_0⟩ := Kd.R_celln 0 HO_6.out (x9_1 : Int) p27 q27
        replace p27 := eq_true p27
        replace q27 := eq_true q27
        obtain ⟨hy30_, hz30_⟩ := Kd.R_celln 0 HO_6.out (x9_1 : Int) (of_decide_eq_true (by first | (with_reducible assumption) | assumption)) (of_decide_eq_true (by first | (with_reducible assumption) | assumption))
        have HP30 := Kd.R_putg HO_6.out (x9_1 : Int) ((IntKind.u64.wrap ((IntKind.u64.wrap ((IntKind.u64.wrap (rd x6_1 x9_1)) + (1 * 4294967296))) - x8_1)) % 4294967296)
        go_wp2_with (first | ((with_reducible refine gate_store (t := 37) (p := 57) rfl ?_); refine store_event (t := 37) (p := 57) (v := ?vo_w31) (w1 := (wr.setCell ⟨go27, (x9_1 : Int).toNat, none⟩ (.int .u32 ((IntKind.u64.wrap ((IntKind.u64.wrap ((IntKind.u64.wrap (rd x6_1 x9_1)) + (1 * 4294967296))) - x8_1)) % 4294967296)))) ?hg ?ho ?hn ?hr ?_; (case ho => rfl); (case hg => rfl); (case hn => rfl); (case hr => first | (go_simp; done) | (go_simp; rfl)); intro w31 hw; have hg : wr.grownBy w31 (some go27) := (by rw [hw]; exact HP30.2); have hp_ : Kd.R (Kd.int .u32) 37 w31 w.heap.size (fun k_ => some k_ ≠ (.slice Ao29 t352.length co29 : Value).ownBlock) (.slice (some ⟨go27, 0, none⟩) x6_1.length co28) y366 := (by rw [hw, Ny366.out]; exact HP30.1); clear HP30; have n0_ := Aside0.mk (hp_); have n1_ := Aside0.mk (Kd.R_after (v := (.slice (some ⟨go27, 0, none⟩) x6_1.length co28)) (v1 := (.slice (some ⟨go27, 0, none⟩) x6_1.length co28)) (ok := (fun _ => True)) (by (with_reducible repeat (first | apply Kd.R_alloc | apply Kd.R_drewN | apply Kd.R_drew)); exact Kd.R_mono HO_7.out (fun _ hk => ⟨trivial, hk⟩)) hg (.inl rfl)); have n2_ := Aside0.mk ((by rw [hw]; exact below_set (HB.out) GB27.out : Below w.heap.size w w31)); clear HO_6; clear HO_7; clear HB; have HO_6 := n0_; have HO_7 := n1_; have HB := n2_; clear n0_ n1_ n2_; clear hg hw hp_))
        go_roundg k1
        case measure => have := HK1.out; omega
        case rel => exact ⟨(y366), (1), (wrap64 (x9_1 + 1)), (by first | rfl | (simp [*]; done)), (by first | rfl | (simp [*]; done)), H', ⟨by have := HK1.out; omega⟩, ⟨by (with_reducible repeat (first | apply Kd.R_alloc | apply Kd.R_drewN | apply Kd.R_drew)); exact HO_6.out⟩, ⟨by (with_reducible repeat (first | apply Kd.R_alloc | apply Kd.R_drewN | apply Kd.R_drew)); exact Kd.R_mono HO_7.out (fun _ hk => hk.2)⟩, ⟨by repeat (first | (with_reducible first | exact HB.out | apply below_alloc | apply pw_below_drewN | apply below_drew1) | exact HB.out)⟩⟩
       ·
        rw [if_neg c26] at H
        have c26b0 : decide ((IntKind.u64.wrap (rd x6_1 x9_1)) < x8_1) = false := decide_eq_false c26
        clear c26
        obtain ⟨y368, hy368⟩ : ∃ y_ : List Int, y_ = (x6_1.set (x9_1 : Int).toNat ((IntKind.u64.wrap ((IntKind.u64.wrap ((IntKind.u64.wrap (rd x6_1 x9_1)) + (0 * 4294967296))) - x8_1)) % 4294967296)) := ⟨_, rfl⟩
        replace H : (credenceref1_NatSub.l0 k1 y368 t352 0 (wrap64 (x9_1 + 1))) = some (r1, r2) := by first | (rw [hy368]; with_reducible exact H) | (have H2_ := (Option.bind_some _ _).symm.trans H; rw [hy368]; with_reducible exact H2_) | (have H2_ := (Option.bind_some _ _).symm.trans H; with_reducible exact H2_) | with_reducible exact H | (rw [hy368]; exact H) | exact H
        have Ny368 := Aside0.mk hy368
        clear hy368
        have H' := Aside0.mk H
        clear H
        obtain ⟨Ao33, co33, eo33⟩ := Kd.R_slice HO_6.out
        subst eo33
        obtain ⟨Ao34, co34, eo34⟩ := Kd.R_slice HO_7.out
        subst eo34
        have p364 : 0 ≤ (x9_1 : Int) := of_decide_eq_true (by first | (with_reducible assumption) | assumption)
        have q364 : x9_1 < (x6_1.length : Int) := of_decide_eq_true (by first | (with_reducible assumption) | assumption)
        obtain ⟨ad364, e364, hx364_0⟩ := Kd.at_int (Kd.R_reads' HO_6.out).2.2 x9_1 p364 q364
        cases e364
        replace p364 := eq_true p364
        replace q364 := eq_true q364
        have p367 : 0 ≤ (x9_1 : Int) := of_decide_eq_true (by first | (with_reducible assumption) | assumption)
        have q367 : x9_1 < (x6_1.length : Int) := of_decide_eq_true (by first | (with_reducible assumption) | assumption)
        obtain ⟨ad367, e367, hx367_0⟩ := Kd.at_int (Kd.R_reads' HO_6.out).2.2 x9_1 p367 q367
        obtain rfl : ad364 = ad367 := (by injection e367)
        replace p367 := eq_true p367
        replace q367 := eq_true q367
        have p32 : 0 ≤ (x9_1 : Int) := of_decide_eq_true (by first | (with_reducible assumption) | assumption)
        have q32 : (x9_1 : Int) < ((x6_1.length : Int) : Int) := of_decide_eq_true (by first | (with_reducible assumption) | assumption)
        obtain ⟨go32, co32, eo32, gb32, gl32, cl32, HG32⟩ := Kd.R_form HO_6.out (by omega)
        (first | cases eo32 | (injection eo32 with ea_ en_ ec_; (first | subst ea_ | (injection ea_ with ea_; subst ea_)); subst ec_; clear en_))
        have GB32 := Aside0.mk gb32
        have GG32 := Aside0.mk HG32
        clear gb32 gl32 HG32
        (first | simp only [add_plain] at hx364_0 | skip)
        (first | simp only [add_plain] at hx367_0 | skip)
        obtain ⟨hx32_0, hf32_0⟩ := Kd.R_celln 0 HO_6.out (x9_1 : Int) p32 q32
        replace p32 := eq_true p32
        replace q32 := eq_true q32
        obtain ⟨hy35_, hz35_⟩ := Kd.R_celln 0 HO_6.out (x9_1 : Int) (of_decide_eq_true (by first | (with_reducible assumption) | assumption)) (of_decide_eq_true (by first | (with_reducible assumption) | assumption))
        have HP35 := Kd.R_putg HO_6.out (x9_1 : Int) ((IntKind.u64.wrap ((IntKind.u64.wrap ((IntKind.u64.wrap (rd x6_1 x9_1)) + (0 * 4294967296))) - x8_1)) % 4294967296)
        go_wp2_with (first | ((with_reducible refine gate_store (t := 37) (p := 57) rfl ?_); refine store_event (t := 37) (p := 57) (v := ?vo_w36) (w1 := (wr.setCell ⟨go32, (x9_1 : Int).toNat, none⟩ (.int .u32 ((IntKind.u64.wrap ((IntKind.u64.wrap ((IntKind.u64.wrap (rd x6_1 x9_1)) + (0 * 4294967296))) - x8_1)) % 4294967296)))) ?hg ?ho ?hn ?hr ?_; (case ho => rfl); (case hg => rfl); (case hn => rfl); (case hr => first | (go_simp; done) | (go_simp; rfl)); intro w36 hw; have hg : wr.grownBy w36 (some go32) := (by rw [hw]; exact HP35.2); have hp_ : Kd.R (Kd.int .u32) 37 w36 w.heap.size (fun k_ => some k_ ≠ (.slice Ao34 t352.length co34 : Value).ownBlock) (.slice (some ⟨go32, 0, none⟩) x6_1.length co33) y368 := (by rw [hw, Ny368.out]; exact HP35.1); clear HP35; have n0_ := Aside0.mk (hp_); have n1_ := Aside0.mk (Kd.R_after (v := (.slice (some ⟨go32, 0, none⟩) x6_1.length co33)) (v1 := (.slice (some ⟨go32, 0, none⟩) x6_1.length co33)) (ok := (fun _ => True)) (by (with_reducible repeat (first | apply Kd.R_alloc | apply Kd.R_drewN | apply Kd.R_drew)); exact Kd.R_mono HO_7.out (fun _ hk => ⟨trivial, hk⟩)) hg (.inl rfl)); have n2_ := Aside0.mk ((by rw [hw]; exact below_set (HB.out) GB32.out : Below w.heap.size w w36)); clear HO_6; clear HO_7; clear HB; have HO_6 := n0_; have HO_7 := n1_; have HB := n2_; clear n0_ n1_ n2_; clear hg hw hp_))
        go_roundg k1
        case measure => have := HK1.out; omega
        case rel => exact ⟨(y368), (0), (wrap64 (x9_1 + 1)), (by first | rfl | (simp [*]; done)), (by first | rfl | (simp [*]; done)), H', ⟨by have := HK1.out; omega⟩, ⟨by (with_reducible repeat (first | apply Kd.R_alloc | apply Kd.R_drewN | apply Kd.R_drew)); exact HO_6.out⟩, ⟨by (with_reducible repeat (first | apply Kd.R_alloc | apply Kd.R_drewN | apply Kd.R_drew)); exact Kd.R_mono HO_7.out (fun _ hk => hk.2)⟩, ⟨by repeat (first | (with_reducible first | exact HB.out | apply below_alloc | apply pw_below_drewN | apply below_drew1) | exact HB.out)⟩⟩
      ·
       rw [if_neg c25] at H
       exact absurd H (by simp)
    ·
     rw [if_neg c11] at H
     have c11b0 : decide (x9_1 < (x6_1.length : Int)) = false := decide_eq_false c11
     clear c11
     replace H := Option.bind_eq_some_iff.mp H
     obtain ⟨t355, A370, H⟩ := H
     replace H : (some (t355, true)) = some (r1, r2) := H
     have A37 := Aside0.mk A370
     clear A370
     simp only [Option.some.injEq, Prod.mk.injEq] at H
     obtain ⟨rfl, rfl⟩ := H
     obtain ⟨Ao38, co38, eo38⟩ := Kd.R_slice HO_6.out
     subst eo38
     go_wp2_with (first | ((with_reducible refine gate_callee (f := 87) rfl ?_); refine goesL_ (some 59) rfl rfl Tryd.func87 (by kernel_rfl) rfl #[.slice Ao38 x6_1.length co38] rfl (by first | rfl | (go_simp; first | done | rfl | omega)) ?_; (with_reducible refine (credenceref1_NatNorm.calls k1 _ _ x6_1 t355 _ ?side1 ?side2 A37.out).mono ?_); (case side1 => repeat first | exact (Kd.R_reads' HO_6.out).2.2 | refine Kd.C_drewN ?_ _ | refine Kd.C_alloc ?_ _ | refine Kd.C_drew ?_); (case side2 => exact (Kd.R_reads' HO_6.out).2.1); rintro e w39 ⟨v356, rfl, ho0, hb⟩; refine ⟨_, rfl, ?_⟩; have n0_ := Aside0.mk (Kd.R_elder' (zr HO_6 rfl) (Kd.R_base ho0) hb); have n1_ := Aside0.mk (Kd.R_elder' (zr HO_7 rfl) (Kd.R_base ho0) hb); have n2_ := Aside0.mk (Kd.R_lower (Kd.R_new' (Kd.R_new' ho0 (Kd.R_lt (zr HO_6 rfl))) (Kd.R_lt (zr HO_7 rfl))) (below_size (zb HB rfl))); have n3_ := Aside0.mk (below_step (zb HB rfl) hb); clear HO_6; clear HO_7; clear HB; have HO_6 := n0_; have HO_7 := n1_; have HO357 := n2_; have HB := n3_; clear n0_ n1_ n2_ n3_))
     go_ret2
     exact ⟨_, by first | rfl | (simp [*, errW_none, errW_some] <;> rfl), by (with_reducible repeat (first | apply Kd.R_alloc | apply Kd.R_drewN | apply Kd.R_drew)); exact Kd.R_mono HO357.out (fun _ hk => trivial), by repeat (first | (with_reducible first | exact HB.out | apply below_alloc | apply pw_below_drewN | apply below_drew1) | exact HB.out)⟩

def credenceref1_half.l0 : Nat → List Int → List Int → Int → Option (List Int)
 | 0, _, _, _ => none
 | k + 1, x0, x3, x4 => if x4 < (x0.length : Int) then (if 0 ≤ x4 then (if (wrap64 (x4 + 1)) < (x0.length : Int) then (if 0 ≤ (wrap64 (x4 + 1)) then (if x3.length < 35184372088832 then (credenceref1_half.l0 k x0 (x3 ++ [Go.bits .or .u32 ((rd x0 x4) / 2) (((rd x0 (wrap64 (x4 + 1))) * 2147483648) % 4294967296)]) (wrap64 (x4 + 1))) else (none)) else (none)) else (if x3.length < 35184372088832 then (credenceref1_half.l0 k x0 (x3 ++ [(rd x0 x4) / 2]) (wrap64 (x4 + 1))) else (none))) else (none)) else ((credenceref1_NatNorm.f k x3).bind fun t377 => (some t377))
def credenceref1_half.f (k : Nat) (l0 : List Int) : Option (List Int) := credenceref1_half.l0 k l0 ([] : List Int) 0
set_option maxHeartbeats 8000000 in
set_option maxRecDepth 100000 in
theorem credenceref1_half.calls (k : Nat) (A0 : Option Addr) (c0 : Nat) (l0 : List Int) (r : List Int) (w : World) (hr0 : Kd.C (Kd.int .u32) w A0 l0.length l0) (hc0 : l0.length ≤ c0) (h : credenceref1_half.f k l0 = some r) :
  Calls Tryd.prog 92 #[.slice A0 l0.length c0] w fun e w' => ∃ v0_ : Value, e = .returned (v0_) ∧ Kd.R (Kd.int .u32) 37 w' w.heap.size (fun _ => True) v0_ r ∧ Below w.heap.size w w' := by
 have HR0 := Aside0.mk hr0
 have HC0 := Aside0.mk hc0
 clear hr0 hc0
 have HB := Aside0.mk (Below.refl w.heap.size w)
 have H : (credenceref1_half.l0 k l0 ([] : List Int) 0) = some r := h
 clear h
 have H' := Aside0.mk H
 clear H
 go_enter Tryd.func92, Tryd.ntmps92
 go_wp2
 go_loopg [3, 4] k (fun kq v3 v4 w' => ∃ (x3_1 : List Int) (x4_1 : Int), v4 = .int .i64 x4_1 ∧ Aside0 (credenceref1_half.l0 kq l0 x3_1 x4_1 = some r) ∧ Aside0 (kq ≤ k) ∧ Aside0 (Kd.R (Kd.int .u32) 37 w' w.heap.size (fun _ => True) v3 x3_1) ∧ Aside0 (Below w.heap.size w w'))
 case atStart => exact ⟨(([] : List Int)), (0), (by first | rfl | (simp [*]; done)), H', ⟨Nat.le_refl _⟩, ⟨by first | exact Kd.R_nil _ _ _ _ _ | exact Kd.V_nil _ _ _ _ _⟩, ⟨by repeat (first | (with_reducible first | exact HB.out | apply below_alloc | apply pw_below_drewN | apply below_drew1) | exact HB.out)⟩⟩
 case round =>
  clear H'
  obtain ⟨x3_1, x4_1, rfl, HA, HK1, HO_3, HB⟩ := hrel
  cases gk with
  | zero => exact absurd HA.out (by simp [credenceref1_half.l0])
  | succ k1 =>
   have H := HA.out
   clear HA
   simp only [credenceref1_half.l0] at H
   by_cases c2 : x4_1 < (l0.length : Int)
   ·
    rw [if_pos c2] at H
    have c2b0 : decide (x4_1 < (l0.length : Int)) = true := decide_eq_true c2
    clear c2
    by_cases c3 : 0 ≤ x4_1
    ·
     rw [if_pos c3] at H
     have c3b0 : decide (0 ≤ x4_1) = true := decide_eq_true c3
     clear c3
     by_cases c4 : (wrap64 (x4_1 + 1)) < (l0.length : Int)
     ·
      rw [if_pos c4] at H
      have c4b0 : decide ((wrap64 (x4_1 + 1)) < (l0.length : Int)) = true := decide_eq_true c4
      clear c4
      obtain ⟨ji5, hji5⟩ : ∃ j_ : Int, (wrap64 (x4_1 + 1)) = j_ := ⟨_, rfl⟩
      replace H : (if 0 ≤ (ji5) then (if x3_1.length < 35184372088832 then (credenceref1_half.l0 k1 l0 (x3_1 ++ [Go.bits .or .u32 ((rd l0 x4_1) / 2) (((rd l0 (ji5)) * 2147483648) % 4294967296)]) ji5) else (none)) else (none)) = some r := by first | (rw [hji5] at H; exact H) | (simp only [hji5] at H ⊢; exact H)
      (try rw [hji5] at c4b0)
      have hji5w : (IntKind.i64.wrap (x4_1 + 1)) = ji5 := (i64_w _).trans hji5
      by_cases c6 : 0 ≤ (ji5)
      ·
       rw [if_pos c6] at H
       have c6b0 : decide (0 ≤ (ji5)) = true := decide_eq_true c6
       clear c6
       by_cases c7 : x3_1.length < 35184372088832
       ·
        rw [if_pos c7] at H
        have LMc7 := Aside0.mk c7
        clear c7
        obtain ⟨y371, hy371⟩ : ∃ y_ : List Int, y_ = (x3_1 ++ [Go.bits .or .u32 ((rd l0 x4_1) / 2) (((rd l0 (ji5)) * 2147483648) % 4294967296)]) := ⟨_, rfl⟩
        replace H : (credenceref1_half.l0 k1 l0 y371 ji5) = some r := by first | (rw [hy371]; with_reducible exact H) | (have H2_ := (Option.bind_some _ _).symm.trans H; rw [hy371]; with_reducible exact H2_) | (have H2_ := (Option.bind_some _ _).symm.trans H; with_reducible exact H2_) | with_reducible exact H | (rw [hy371]; exact H) | exact H
        have Ny371 := Aside0.mk hy371
        clear hy371
        have H' := Aside0.mk H
        clear H
        have p369 : 0 ≤ (x4_1 : Int) := of_decide_eq_true (by first | (with_reducible assumption) | assumption)
        have q369 : x4_1 < (l0.length : Int) := of_decide_eq_true (by first | (with_reducible assumption) | assumption)
        obtain ⟨ad369, e369, hx369_0⟩ := Kd.at_int HR0.out x4_1 p369 q369
        cases e369
        replace hx369_0 := (HB.out.cell (World.block_lt_of_cell? w _ hx369_0)).trans hx369_0
        replace p369 := eq_true p369
        replace q369 := eq_true q369
        have p370 : 0 ≤ ((ji5) : Int) := of_decide_eq_true (by first | (with_reducible assumption) | assumption)
        have q370 : (ji5) < (l0.length : Int) := of_decide_eq_true (by first | (with_reducible assumption) | assumption)
        obtain ⟨ad370, e370, hx370_0⟩ := Kd.at_int HR0.out (ji5) p370 q370
        obtain rfl : ad369 = ad370 := (by injection e370)
        replace hx370_0 := (HB.out.cell (World.block_lt_of_cell? w _ hx370_0)).trans hx370_0
        replace p370 := eq_true p370
        replace q370 := eq_true q370
        go_wp2_with (first | ((with_reducible refine gate_builtin (b := .append) (xs := #[.tmp 30, .tmp 32]) rfl ?_); at_builtin; refine Kd.R_append (Kd.int .u32) (w0 := w) w.heap.size rfl (.tmp 30) (.tmp 32) 23 37 (.int .u32 0) 4 rfl Tryd.underlying23 info37 rfl (by decide) (by omega) u3 x3_1 (Go.bits .or .u32 ((rd l0 x4_1) / 2) (((rd l0 (ji5)) * 2147483648) % 4294967296)) [.int .u32 (Go.bits .or .u32 ((rd l0 x4_1) / 2) (((rd l0 (ji5)) * 2147483648) % 4294967296))] (fun _ => True) (fun _ => False) rfl rfl ?aP (fun _ hk => hk.elim) ?aF ?aO ?aB ?aS ?aL ?_; (case aP => exact rfl); (case aB => exact (by repeat (first | (with_reducible first | exact HB.out | apply below_alloc | apply pw_below_drewN | apply below_drew1) | exact HB.out))); (case aF => exact (fun _ _ => trivial)); (case aO => exact (by (with_reducible repeat (first | apply Kd.R_alloc | apply Kd.R_drewN | apply Kd.R_drew)); exact HO_3.out)); (case aS => exact (below_size (by repeat (first | (with_reducible first | exact HB.out | apply below_alloc | apply pw_below_drewN | apply below_drew1) | exact HB.out)))); (case aL => have := LMc7.out; omega); intro v372 w8 ho hb hg hat; rw [← Ny371.out] at ho; have n0_ := Aside0.mk (hb); have n1_ := Aside0.mk (ho); clear HB; clear HO_3; have HB := n0_; have HO373 := n1_; clear n0_ n1_; clear ho hb hg hat))
        go_roundg k1
        case measure => have := HK1.out; omega
        case rel => exact ⟨(y371), (ji5), (by first | rfl | (simp; done) | (simp only [← hji5] <;> (first | rfl | simp)) | (simp [*]; done)), H', ⟨by have := HK1.out; omega⟩, ⟨by (with_reducible repeat (first | apply Kd.R_alloc | apply Kd.R_drewN | apply Kd.R_drew)); exact HO373.out⟩, ⟨by repeat (first | (with_reducible first | exact HB.out | apply below_alloc | apply pw_below_drewN | apply below_drew1) | exact HB.out)⟩⟩
       ·
        rw [if_neg c7] at H
        exact absurd H (by simp)
      ·
       rw [if_neg c6] at H
       exact absurd H (by simp)
     ·
      rw [if_neg c4] at H
      have c4b0 : decide ((wrap64 (x4_1 + 1)) < (l0.length : Int)) = false := decide_eq_false c4
      clear c4
      by_cases c9 : x3_1.length < 35184372088832
      ·
       rw [if_pos c9] at H
       have LMc9 := Aside0.mk c9
       clear c9
       obtain ⟨y374, hy374⟩ : ∃ y_ : List Int, y_ = (x3_1 ++ [(rd l0 x4_1) / 2]) := ⟨_, rfl⟩
       replace H : (credenceref1_half.l0 k1 l0 y374 (wrap64 (x4_1 + 1))) = some r := by first | (rw [hy374]; with_reducible exact H) | (have H2_ := (Option.bind_some _ _).symm.trans H; rw [hy374]; with_reducible exact H2_) | (have H2_ := (Option.bind_some _ _).symm.trans H; with_reducible exact H2_) | with_reducible exact H | (rw [hy374]; exact H) | exact H
       have Ny374 := Aside0.mk hy374
       clear hy374
       have H' := Aside0.mk H
       clear H
       have p369 : 0 ≤ (x4_1 : Int) := of_decide_eq_true (by first | (with_reducible assumption) | assumption)
       have q369 : x4_1 < (l0.length : Int) := of_decide_eq_true (by first | (with_reducible assumption) | assumption)
       obtain ⟨ad369, e369, hx369_0⟩ := Kd.at_int HR0.out x4_1 p369 q369
       cases e369
       replace hx369_0 := (HB.out.cell (World.block_lt_of_cell? w _ hx369_0)).trans hx369_0
       replace p369 := eq_true p369
       replace q369 := eq_true q369
       go_wp2_with (first | ((with_reducible refine gate_builtin (b := .append) (xs := #[.tmp 30, .tmp 32]) rfl ?_); at_builtin; refine Kd.R_append (Kd.int .u32) (w0 := w) w.heap.size rfl (.tmp 30) (.tmp 32) 23 37 (.int .u32 0) 4 rfl Tryd.underlying23 info37 rfl (by decide) (by omega) u3 x3_1 ((rd l0 x4_1) / 2) [.int .u32 ((rd l0 x4_1) / 2)] (fun _ => True) (fun _ => False) rfl rfl ?aP (fun _ hk => hk.elim) ?aF ?aO ?aB ?aS ?aL ?_; (case aP => exact rfl); (case aB => exact (by repeat (first | (with_reducible first | exact HB.out | apply below_alloc | apply pw_below_drewN | apply below_drew1) | exact HB.out))); (case aF => exact (fun _ _ => trivial)); (case aO => exact (by (with_reducible repeat (first | apply Kd.R_alloc | apply Kd.R_drewN | apply Kd.R_drew)); exact HO_3.out)); (case aS => exact (below_size (by repeat (first | (with_reducible first | exact HB.out | apply below_alloc | apply pw_below_drewN | apply below_drew1) | exact HB.out)))); (case aL => have := LMc9.out; omega); intro v375 w10 ho hb hg hat; rw [← Ny374.out] at ho; have n0_ := Aside0.mk (hb); have n1_ := Aside0.mk (ho); clear HB; clear HO_3; have HB := n0_; have HO376 := n1_; clear n0_ n1_; clear ho hb hg hat))
       go_roundg k1
       case measure => have := HK1.out; omega
       case rel => exact ⟨(y374), (wrap64 (x4_1 + 1)), (by first | rfl | (simp [*]; done)), H', ⟨by have := HK1.out; omega⟩, ⟨by (with_reducible repeat (first | apply Kd.R_alloc | apply Kd.R_drewN | apply Kd.R_drew)); exact HO376.out⟩, ⟨by repeat (first | (with_reducible first | exact HB.out | apply below_alloc | apply pw_below_drewN | apply below_drew1) | exact HB.out)⟩⟩
      ·
       rw [if_neg c9] at H
       exact absurd H (by simp)
    ·
     rw [if_neg c3] at H
     exact absurd H (by simp)
   ·
    rw [if_neg c2] at H
    have c2b0 : decide (x4_1 < (l0.length : Int)) = false := decide_eq_false c2
    clear c2
    replace H := Option.bind_eq_some_iff.mp H
    obtain ⟨t377, A110, H⟩ := H
    replace H : (some t377) = some r := H
    have A11 := Aside0.mk A110
    clear A110
    obtain rfl := Option.some.inj H
    obtain ⟨Ao12, co12, eo12⟩ := Kd.R_slice HO_3.out
    subst eo12
    go_wp2_with (first | ((with_reducible refine gate_callee (f := 87) rfl ?_); refine goesL_ (some 35) rfl rfl Tryd.func87 (by kernel_rfl) rfl #[.slice Ao12 x3_1.length co12] rfl (by first | rfl | (go_simp; first | done | rfl | omega)) ?_; (with_reducible refine (credenceref1_NatNorm.calls k1 _ _ x3_1 t377 _ ?side1 ?side2 A11.out).mono ?_); (case side1 => repeat first | exact (Kd.R_reads' HO_3.out).2.2 | refine Kd.C_drewN ?_ _ | refine Kd.C_alloc ?_ _ | refine Kd.C_drew ?_); (case side2 => exact (Kd.R_reads' HO_3.out).2.1); rintro e w13 ⟨v378, rfl, ho0, hb⟩; refine ⟨_, rfl, ?_⟩; have n0_ := Aside0.mk (Kd.R_elder' (zr HO_3 rfl) (Kd.R_base ho0) hb); have n1_ := Aside0.mk (Kd.R_lower (Kd.R_new' ho0 (Kd.R_lt (zr HO_3 rfl))) (below_size (zb HB rfl))); have n2_ := Aside0.mk (below_step (zb HB rfl) hb); clear HO_3; clear HB; have HO_3 := n0_; have HO379 := n1_; have HB := n2_; clear n0_ n1_ n2_))
    go_ret
    exact ⟨_, by first | rfl | (simp [*, errW_none, errW_some] <;> rfl), by (with_reducible repeat (first | apply Kd.R_alloc | apply Kd.R_drewN | apply Kd.R_drew)); exact Kd.R_mono HO379.out (fun _ hk => trivial), by repeat (first | (with_reducible first | exact HB.out | apply below_alloc | apply pw_below_drewN | apply below_drew1) | exact HB.out)⟩

def credenceref1_double.l0 : Nat → List Int → Int → List Int → Int → Option (List Int)
 | 0, _, _, _, _ => none
 | k + 1, x0, x1, x5, x6 => if x6 < (x0.length : Int) then (if 0 ≤ x6 then (if x5.length < 35184372088832 then (credenceref1_double.l0 k x0 ((rd x0 x6) / 2147483648) (x5 ++ [Go.bits .or .u32 (((rd x0 x6) * 2) % 4294967296) x1]) (wrap64 (x6 + 1))) else (none)) else (none)) else (if x5.length < 35184372088832 then ((credenceref1_NatNorm.f k (x5 ++ [x1])).bind fun t388 => (some t388)) else (none))
def credenceref1_double.f (k : Nat) (l0 : List Int) (a1 : Int) : Option (List Int) := credenceref1_double.l0 k l0 a1 ([] : List Int) 0
set_option maxHeartbeats 8000000 in
set_option maxRecDepth 100000 in
theorem credenceref1_double.calls (k : Nat) (A0 : Option Addr) (c0 : Nat) (l0 : List Int) (a1 : Int) (r : List Int) (w : World) (hr0 : Kd.C (Kd.int .u32) w A0 l0.length l0) (hc0 : l0.length ≤ c0) (h : credenceref1_double.f k l0 a1 = some r) :
  Calls Tryd.prog 93 #[.slice A0 l0.length c0, .int .u32 a1] w fun e w' => ∃ v0_ : Value, e = .returned (v0_) ∧ Kd.R (Kd.int .u32) 37 w' w.heap.size (fun _ => True) v0_ r ∧ Below w.heap.size w w' := by
 have HR0 := Aside0.mk hr0
 have HC0 := Aside0.mk hc0
 clear hr0 hc0
 have HB := Aside0.mk (Below.refl w.heap.size w)
 have H : (credenceref1_double.l0 k l0 a1 ([] : List Int) 0) = some r := h
 clear h
 have H' := Aside0.mk H
 clear H
 go_enter Tryd.func93, Tryd.ntmps93
 go_wp2
 go_loopg [1, 5, 6] k (fun kq v1 v5 v6 w' => ∃ (x1_1 : Int) (x5_1 : List Int) (x6_1 : Int), v1 = .int .u32 x1_1 ∧ v6 = .int .i64 x6_1 ∧ Aside0 (credenceref1_double.l0 kq l0 x1_1 x5_1 x6_1 = some r) ∧ Aside0 (kq ≤ k) ∧ Aside0 (Kd.R (Kd.int .u32) 37 w' w.heap.size (fun _ => True) v5 x5_1) ∧ Aside0 (Below w.heap.size w w'))
 case atStart => exact ⟨(a1), (([] : List Int)), (0), (by first | rfl | (simp [*]; done)), (by first | rfl | (simp [*]; done)), H', ⟨Nat.le_refl _⟩, ⟨by first | exact Kd.R_nil _ _ _ _ _ | exact Kd.V_nil _ _ _ _ _⟩, ⟨by repeat (first | (with_reducible first | exact HB.out | apply below_alloc | apply pw_below_drewN | apply below_drew1) | exact HB.out)⟩⟩
 case round =>
  clear H'
  try clear p2
  obtain ⟨x1_1, x5_1, x6_1, rfl, rfl, HA, HK1, HO_5, HB⟩ := hrel
  cases gk with
  | zero => exact absurd HA.out (by simp [credenceref1_double.l0])
  | succ k1 =>
   have H := HA.out
   clear HA
   simp only [credenceref1_double.l0] at H
   by_cases c3 : x6_1 < (l0.length : Int)
   ·
    rw [if_pos c3] at H
    have c3b0 : decide (x6_1 < (l0.length : Int)) = true := decide_eq_true c3
    clear c3
    by_cases c4 : 0 ≤ x6_1
    ·
     rw [if_pos c4] at H
     have c4b0 : decide (0 ≤ x6_1) = true := decide_eq_true c4
     clear c4
     by_cases c5 : x5_1.length < 35184372088832
     ·
      rw [if_pos c5] at H
      have LMc5 := Aside0.mk c5
      clear c5
      obtain ⟨y381, hy381⟩ : ∃ y_ : List Int, y_ = (x5_1 ++ [Go.bits .or .u32 (((rd l0 x6_1) * 2) % 4294967296) x1_1]) := ⟨_, rfl⟩
      replace H : (credenceref1_double.l0 k1 l0 ((rd l0 x6_1) / 2147483648) y381 (wrap64 (x6_1 + 1))) = some r := by first | (rw [hy381]; with_reducible exact H) | (have H2_ := (Option.bind_some _ _).symm.trans H; rw [hy381]; with_reducible exact H2_) | (have H2_ := (Option.bind_some _ _).symm.trans H; with_reducible exact H2_) | with_reducible exact H | (rw [hy381]; exact H) | exact H
      have Ny381 := Aside0.mk hy381
      clear hy381
      have H' := Aside0.mk H
      clear H
      have p380 : 0 ≤ (x6_1 : Int) := of_decide_eq_true (by first | (with_reducible assumption) | assumption)
      have q380 : x6_1 < (l0.length : Int) := of_decide_eq_true (by first | (with_reducible assumption) | assumption)
      obtain ⟨ad380, e380, hx380_0⟩ := Kd.at_int HR0.out x6_1 p380 q380
      cases e380
      replace hx380_0 := (HB.out.cell (World.block_lt_of_cell? w _ hx380_0)).trans hx380_0
      replace p380 := eq_true p380
      replace q380 := eq_true q380
      go_wp2_with (first | ((with_reducible refine gate_builtin (b := .append) (xs := #[.tmp 13, .tmp 21]) rfl ?_); at_builtin; refine Kd.R_append (Kd.int .u32) (w0 := w) w.heap.size rfl (.tmp 13) (.tmp 21) 23 37 (.int .u32 0) 4 rfl Tryd.underlying23 info37 rfl (by decide) (by omega) u5 x5_1 (Go.bits .or .u32 (((rd l0 x6_1) * 2) % 4294967296) x1_1) [.int .u32 (Go.bits .or .u32 (((rd l0 x6_1) * 2) % 4294967296) x1_1)] (fun _ => True) (fun _ => False) rfl rfl ?aP (fun _ hk => hk.elim) ?aF ?aO ?aB ?aS ?aL ?_; (case aP => exact rfl); (case aB => exact (by repeat (first | (with_reducible first | exact HB.out | apply below_alloc | apply pw_below_drewN | apply below_drew1) | exact HB.out))); (case aF => exact (fun _ _ => trivial)); (case aO => exact (by (with_reducible repeat (first | apply Kd.R_alloc | apply Kd.R_drewN | apply Kd.R_drew)); exact HO_5.out)); (case aS => exact (below_size (by repeat (first | (with_reducible first | exact HB.out | apply below_alloc | apply pw_below_drewN | apply below_drew1) | exact HB.out)))); (case aL => have := LMc5.out; omega); intro v382 w6 ho hb hg hat; rw [← Ny381.out] at ho; have n0_ := Aside0.mk (hb); have n1_ := Aside0.mk (ho); clear HB; clear HO_5; have HB := n0_; have HO383 := n1_; clear n0_ n1_; clear ho hb hg hat; have p384 : 0 ≤ (x6_1 : Int) := of_decide_eq_true (by first | (with_reducible assumption) | assumption); have q384 : x6_1 < (l0.length : Int) := of_decide_eq_true (by first | (with_reducible assumption) | assumption); obtain ⟨ad384, e384, hx384_0⟩ := Kd.at_int HR0.out x6_1 p384 q384; obtain rfl : ad380 = ad384 := (by injection e384); replace hx384_0 := (HB.out.cell (World.block_lt_of_cell? w _ hx384_0)).trans hx384_0; replace p384 := eq_true p384; replace q384 := eq_true q384))
      go_roundg k1
      case measure => have := HK1.out; omega
      case rel => exact ⟨((rd l0 x6_1) / 2147483648), (y381), (wrap64 (x6_1 + 1)), (by first | rfl | (simp [*]; done)), (by first | rfl | (simp [*]; done)), H', ⟨by have := HK1.out; omega⟩, ⟨by (with_reducible repeat (first | apply Kd.R_alloc | apply Kd.R_drewN | apply Kd.R_drew)); exact HO383.out⟩, ⟨by repeat (first | (with_reducible first | exact HB.out | apply below_alloc | apply pw_below_drewN | apply below_drew1) | exact HB.out)⟩⟩
     ·
      rw [if_neg c5] at H
      exact absurd H (by simp)
    ·
     rw [if_neg c4] at H
     exact absurd H (by simp)
   ·
    rw [if_neg c3] at H
    have c3b0 : decide (x6_1 < (l0.length : Int)) = false := decide_eq_false c3
    clear c3
    by_cases c7 : x5_1.length < 35184372088832
    ·
     rw [if_pos c7] at H
     have LMc7 := Aside0.mk c7
     clear c7
     obtain ⟨y385, hy385⟩ : ∃ y_ : List Int, y_ = (x5_1 ++ [x1_1]) := ⟨_, rfl⟩
     replace H : ((credenceref1_NatNorm.f k1 y385).bind fun t388 => (some t388)) = some r := by first | (rw [hy385]; with_reducible exact H) | (have H2_ := (Option.bind_some _ _).symm.trans H; rw [hy385]; with_reducible exact H2_) | (have H2_ := (Option.bind_some _ _).symm.trans H; with_reducible exact H2_) | with_reducible exact H | (rw [hy385]; exact H) | exact H
     have Ny385 := Aside0.mk hy385
     clear hy385
     replace H := Option.bind_eq_some_iff.mp H
     obtain ⟨t388, A80, H⟩ := H
     replace H : (some t388) = some r := H
     have A8 := Aside0.mk A80
     clear A80
     obtain rfl := Option.some.inj H
     go_wp2_with (first | ((with_reducible refine gate_builtin (b := .append) (xs := #[.tmp 28, .tmp 30]) rfl ?_); at_builtin; refine Kd.R_append (Kd.int .u32) (w0 := w) w.heap.size rfl (.tmp 28) (.tmp 30) 23 37 (.int .u32 0) 4 rfl Tryd.underlying23 info37 rfl (by decide) (by omega) u5 x5_1 x1_1 [.int .u32 x1_1] (fun _ => True) (fun _ => False) rfl rfl ?aP (fun _ hk => hk.elim) ?aF ?aO ?aB ?aS ?aL ?_; (case aP => exact rfl); (case aB => exact (by repeat (first | (with_reducible first | exact HB.out | apply below_alloc | apply pw_below_drewN | apply below_drew1) | exact HB.out))); (case aF => exact (fun _ _ => trivial)); (case aO => exact (by (with_reducible repeat (first | apply Kd.R_alloc | apply Kd.R_drewN | apply Kd.R_drew)); exact HO_5.out)); (case aS => exact (below_size (by repeat (first | (with_reducible first | exact HB.out | apply below_alloc | apply pw_below_drewN | apply below_drew1) | exact HB.out)))); (case aL => have := LMc7.out; omega); intro v386 w9 ho hb hg hat; rw [← Ny385.out] at ho; have n0_ := Aside0.mk (hb); have n1_ := Aside0.mk (ho); clear HB; clear HO_5; have HB := n0_; have HO387 := n1_; clear n0_ n1_; clear ho hb hg hat; obtain ⟨Ao10, co10, eo10⟩ := Kd.R_slice HO387.out; subst eo10) | ((with_reducible refine gate_callee (f := 87) rfl ?_); refine goesL_ (some 32) rfl rfl Tryd.func87 (by kernel_rfl) rfl #[.slice Ao10 y385.length co10] rfl (by first | rfl | (go_simp; first | done | rfl | omega)) ?_; (with_reducible refine (credenceref1_NatNorm.calls k1 _ _ y385 t388 _ ?side1 ?side2 A8.out).mono ?_); (case side1 => repeat first | exact (Kd.R_reads' HO387.out).2.2 | refine Kd.C_drewN ?_ _ | refine Kd.C_alloc ?_ _ | refine Kd.C_drew ?_); (case side2 => exact (Kd.R_reads' HO387.out).2.1); rintro e w11 ⟨v389, rfl, ho0, hb⟩; refine ⟨_, rfl, ?_⟩; have n0_ := Aside0.mk (Kd.R_elder' (zr HO387 rfl) (Kd.R_base ho0) hb); have n1_ := Aside0.mk (Kd.R_lower (Kd.R_new' ho0 (Kd.R_lt (zr HO387 rfl))) (below_size (zb HB rfl))); have n2_ := Aside0.mk (below_step (zb HB rfl) hb); clear HO387; clear HB; have HO387 := n0_; have HO390 := n1_; have HB := n2_; clear n0_ n1_ n2_))
     go_ret
     exact ⟨_, by first | rfl | (simp [*, errW_none, errW_some] <;> rfl), by (with_reducible repeat (first | apply Kd.R_alloc | apply Kd.R_drewN | apply Kd.R_drew)); exact Kd.R_mono HO390.out (fun _ hk => trivial), by repeat (first | (with_reducible first | exact HB.out | apply below_alloc | apply pw_below_drewN | apply below_drew1) | exact HB.out)⟩
    ·
     rw [if_neg c7] at H
     exact absurd H (by simp)

end Go.Proofs.YtoeldfopjalpkaaDoor.Q

