/- Lemmas for the proof of one law of this seat (Qx7). -/
import Derived.Test.YtoeldfopjalpkaaDoorZRationalTextQx6
namespace Go.Proofs.YtoeldfopjalpkaaDoor.Q
open Go.RowKit Go.Proofs.YtoeldfopjalpkaaDoorW.PrintWords Go.Proofs.YtoeldfopjalpkaaDoorW.PrintLast Go.Proofs.YtoeldfopjalpkaaDoorW.PrintMore
attribute [local go_sem] max2_int min2_int max_two min_two max_three min_three max_four min_four   -- for this text's walks alone
set_option linter.unusedVariables false
set_option linter.unusedSimpArgs false

mutual
def credenceref1_NatGCD.l0 : Nat → List Int → List Int → Int → Option (List Int)
 | 0, _, _, _ => none
 | k + 1, x5, x6, x7 => if 0 < (x5.length : Int) then (if (Go.bits .and .u32 (rd x5 0) 1) = 0 then (if 0 < (x6.length : Int) then (credenceref1_NatGCD.j1 k x5 x6 x7 ((Go.bits .and .u32 (rd x6 0) 1) == 0)) else (none)) else (credenceref1_NatGCD.j1 k x5 x6 x7 false)) else (none)
def credenceref1_NatGCD.j1 : Nat → List Int → List Int → Int → Bool → Option (List Int)
 | 0, _, _, _, _ => none
 | k + 1, x5, x6, x7, x32 => if x32 = true then ((credenceref1_half.f k x5).bind fun t399 => ((credenceref1_half.f k x6).bind fun t402 => (credenceref1_NatGCD.l0 k t399 t402 (wrap64 (x7 + 1))))) else (credenceref1_NatGCD.l1 k x5 x6 x7)
def credenceref1_NatGCD.l1 : Nat → List Int → List Int → Int → Option (List Int)
 | 0, _, _, _ => none
 | k + 1, x5, x6, x7 => if (x6.length : Int) > 0 then (credenceref1_NatGCD.l2 k x5 x6 x7) else (credenceref1_NatGCD.l4 k x5 x7 0)
def credenceref1_NatGCD.l2 : Nat → List Int → List Int → Int → Option (List Int)
 | 0, _, _, _ => none
 | k + 1, x5, x6, x7 => if 0 < (x5.length : Int) then (if (Go.bits .and .u32 (rd x5 0) 1) = 0 then ((credenceref1_half.f k x5).bind fun t406 => (credenceref1_NatGCD.l2 k t406 x6 x7)) else (credenceref1_NatGCD.l3 k x5 x6 x7)) else (none)
def credenceref1_NatGCD.l3 : Nat → List Int → List Int → Int → Option (List Int)
 | 0, _, _, _ => none
 | k + 1, x5, x6, x7 => if 0 < (x6.length : Int) then (if (Go.bits .and .u32 (rd x6 0) 1) = 0 then ((credenceref1_half.f k x6).bind fun t410 => (credenceref1_NatGCD.l3 k x5 t410 x7)) else ((credenceref1_NatCmp.f k x5 x6).bind fun t413 => (if t413 > 0 then ((credenceref1_NatSub.f k x5 x6).bind fun bt414 => (credenceref1_NatGCD.l1 k x6 bt414.1 x7)) else ((credenceref1_NatSub.f k x6 x5).bind fun bt418 => (credenceref1_NatGCD.l1 k x5 bt418.1 x7))))) else (none)
def credenceref1_NatGCD.l4 : Nat → List Int → Int → Int → Option (List Int)
 | 0, _, _, _ => none
 | k + 1, x5, x7, x8 => if x8 < x7 then ((credenceref1_double.f k x5 0).bind fun t422 => (credenceref1_NatGCD.l4 k t422 x7 (wrap64 (x8 + 1)))) else (some x5)
end
def credenceref1_NatGCD.f (k : Nat) (l0 : List Int) (l1 : List Int) : Option (List Int) := (credenceref1_NatNorm.f k l0).bind fun t391 => ((credenceref1_NatNorm.f k l1).bind fun t394 => (if (t391.length : Int) = 0 then (some t394) else (if (t394.length : Int) = 0 then (some t391) else (credenceref1_NatGCD.l0 k t391 t394 0))))
set_option maxHeartbeats 8000000 in
set_option maxRecDepth 100000 in
theorem credenceref1_NatGCD.calls (k : Nat) (A0 : Option Addr) (c0 : Nat) (l0 : List Int) (A1 : Option Addr) (c1 : Nat) (l1 : List Int) (r : List Int) (w : World) (hr0 : Kd.C (Kd.int .u32) w A0 l0.length l0) (hc0 : l0.length ≤ c0) (hr1 : Kd.C (Kd.int .u32) w A1 l1.length l1) (hc1 : l1.length ≤ c1) (h : credenceref1_NatGCD.f k l0 l1 = some r) :
 Calls Tryd.prog 79 #[.slice A0 l0.length c0, .slice A1 l1.length c1] w fun e w' => ∃ v0_ : Value, e = .returned (v0_) ∧ Kd.R (Kd.int .u32) 37 w' w.heap.size (fun _ => True) v0_ r ∧ Below w.heap.size w w' := by
 have HR0 := zA hr0;have HC0 := zA hc0;clear hr0 hc0;have HR1 := zA hr1;have HC1 := zA hc1;clear hr1 hc1;have HB := zA (Below.refl w.heap.size w);have H : ((credenceref1_NatNorm.f k l0).bind fun t391 => ((credenceref1_NatNorm.f k l1).bind fun t394 => (if (t391.length : Int) = 0 then (some t394) else (if (t394.length : Int) = 0 then (some t391) else (credenceref1_NatGCD.l0 k t391 t394 0))))) = some r := h;clear h;obtain ⟨t391, A30, H⟩ := zi H;have A3 := zA A30;clear A30;obtain ⟨t394, A40, H⟩ := zi H;have A4 := zA A40;clear A40;by_cases c5 : (t391.length : Int) = 0
 ·rw [if_pos c5] at H;have c5b0 := beq_iff_eq.mpr c5;have c5b1 := bne_eq_false_iff_eq.mpr c5;clear c5;obtain rfl := Option.some.inj H;go_enter Tryd.func79, Tryd.ntmps79
  go_wp2_with (first | ((with_reducible refine gate_callee (f := 87) rfl ?_); refine goesL_ (some 10) rfl rfl Tryd.func87 zk rfl #[.slice A0 l0.length c0] rfl zX ?_; (with_reducible refine (credenceref1_NatNorm.calls k _ _ l0 t391 _ ?side1 ?side2 A3.out).mono ?_); (case side1 => exact zC HR0.out); (case side2 => exact HC0.out); rintro e w6 ⟨v392, rfl, ho0, hb⟩; refine ⟨_, rfl, ?_⟩; have HO393 := zlo ho0 HB rfl; replace HB := zbb HB hb rfl) | ((with_reducible refine gate_callee (f := 87) rfl ?_); refine goesL_ (some 12) rfl rfl Tryd.func87 zk rfl #[.slice A1 l1.length c1] rfl zX ?_; (with_reducible refine (credenceref1_NatNorm.calls k _ _ l1 t394 _ ?side1 ?side2 A4.out).mono ?_); (case side1 => exact zC (Kd.C_below HR1.out HB.out)); (case side2 => exact HC1.out); rintro e w7 ⟨v395, rfl, ho0, hb⟩; refine ⟨_, rfl, ?_⟩; have HO396 := zA (Kd.R_lower (zN ho0 HO393 rfl) (below_size (zb HB rfl))); replace HO393 := zre HO393 hb ho0 rfl; replace HB := zbb HB hb rfl; obtain ⟨Ao8, co8, eo8⟩ := Kd.R_slice HO393.out; subst eo8))
  go_ret
  exact ⟨_, zE, zRM HO396.out (fun _ hk => trivial), zH⟩
 rw [if_neg c5] at H;have c5b0 := beq_eq_false_iff_ne.mpr c5;have c5b1 := bne_iff_ne.mpr c5;have c5b2 : ¬ (t391 = []) := fun h_ => c5 (by rw [h_]; rfl)
 by_cases c9 : (t394.length : Int) = 0
 ·rw [if_pos c9] at H;have c9b0 := beq_iff_eq.mpr c9;have c9b1 := bne_eq_false_iff_eq.mpr c9;clear c9;obtain rfl := Option.some.inj H;go_enter Tryd.func79, Tryd.ntmps79
  go_wp2_with (first | ((with_reducible refine gate_callee (f := 87) rfl ?_); refine goesL_ (some 10) rfl rfl Tryd.func87 zk rfl #[.slice A0 l0.length c0] rfl zX ?_; (with_reducible refine (credenceref1_NatNorm.calls k _ _ l0 t391 _ ?side1 ?side2 A3.out).mono ?_); (case side1 => exact zC HR0.out); (case side2 => exact HC0.out); rintro e w10 ⟨v392, rfl, ho0, hb⟩; refine ⟨_, rfl, ?_⟩; have HO393 := zlo ho0 HB rfl; replace HB := zbb HB hb rfl) | ((with_reducible refine gate_callee (f := 87) rfl ?_); refine goesL_ (some 12) rfl rfl Tryd.func87 zk rfl #[.slice A1 l1.length c1] rfl zX ?_; (with_reducible refine (credenceref1_NatNorm.calls k _ _ l1 t394 _ ?side1 ?side2 A4.out).mono ?_); (case side1 => exact zC (Kd.C_below HR1.out HB.out)); (case side2 => exact HC1.out); rintro e w11 ⟨v395, rfl, ho0, hb⟩; refine ⟨_, rfl, ?_⟩; have HO396 := zA (Kd.R_lower (zN ho0 HO393 rfl) (below_size (zb HB rfl))); replace HO393 := zre HO393 hb ho0 rfl; replace HB := zbb HB hb rfl; obtain ⟨Ao12, co12, eo12⟩ := Kd.R_slice HO393.out; subst eo12; obtain ⟨Ao13, co13, eo13⟩ := Kd.R_slice HO396.out; subst eo13))
  go_ret
  exact ⟨_, zE, zRM HO393.out (fun _ hk => trivial), zH⟩
 rw [if_neg c9] at H;have c9b0 := beq_eq_false_iff_ne.mpr c9;have c9b1 := bne_iff_ne.mpr c9;have c9b2 : ¬ (t394 = []) := fun h_ => c9 (by rw [h_]; rfl)
 have H' := zA H;clear H;go_enter Tryd.func79, Tryd.ntmps79
 go_wp2_with (first | ((with_reducible refine gate_callee (f := 87) rfl ?_); refine goesL_ (some 10) rfl rfl Tryd.func87 zk rfl #[.slice A0 l0.length c0] rfl zX ?_; (with_reducible refine (credenceref1_NatNorm.calls k _ _ l0 t391 _ ?side1 ?side2 A3.out).mono ?_); (case side1 => exact zC HR0.out); (case side2 => exact HC0.out); rintro e w14 ⟨v392, rfl, ho0, hb⟩; refine ⟨_, rfl, ?_⟩; have HO393 := zlo ho0 HB rfl; replace HB := zbb HB hb rfl) | ((with_reducible refine gate_callee (f := 87) rfl ?_); refine goesL_ (some 12) rfl rfl Tryd.func87 zk rfl #[.slice A1 l1.length c1] rfl zX ?_; (with_reducible refine (credenceref1_NatNorm.calls k _ _ l1 t394 _ ?side1 ?side2 A4.out).mono ?_); (case side1 => exact zC (Kd.C_below HR1.out HB.out)); (case side2 => exact HC1.out); rintro e w15 ⟨v395, rfl, ho0, hb⟩; refine ⟨_, rfl, ?_⟩; have HO396 := zA (Kd.R_lower (zN ho0 HO393 rfl) (below_size (zb HB rfl))); replace HO393 := zre HO393 hb ho0 rfl; replace HB := zbb HB hb rfl; obtain ⟨Ao16, co16, eo16⟩ := Kd.R_slice HO393.out; subst eo16; obtain ⟨Ao17, co17, eo17⟩ := Kd.R_slice HO396.out; subst eo17))
 go_loopg [5, 6, 7] k (fun kq v5 v6 v7 w' => ∃ (x5_1 : List Int) (x6_1 : List Int) (x7_1 : Int), v7 = .int .i64 x7_1 ∧ Aside0 (credenceref1_NatGCD.l0 kq x5_1 x6_1 x7_1 = some r) ∧ Aside0 (kq ≤ k) ∧ Aside0 (Kd.R (Kd.int .u32) 37 w' w.heap.size (fun k_ => some k_ ≠ (v6 : Value).ownBlock) v5 x5_1) ∧ Aside0 (Kd.R (Kd.int .u32) 37 w' w.heap.size (fun k_ => some k_ ≠ (v5 : Value).ownBlock) v6 x6_1) ∧ Aside0 (Below w.heap.size w w'))
 case atStart => exact ⟨(t391), (t394), (0), zS, H', ⟨Nat.le_refl _⟩, ⟨zRM HO393.out (fun _ hk => hk.2)⟩, ⟨zRM HO396.out (fun _ hk => hk.2)⟩, ⟨zH⟩⟩
 case round =>
  clear H';obtain ⟨x5_1, x6_1, x7_1, rfl, HA, HK1, HO_5, HO_6, HB⟩ := hrel;cases gk with
  | zero => exact absurd HA.out (by simp [credenceref1_NatGCD.l0])
  | succ k1 =>
   have H := HA.out;clear HA;simp only [credenceref1_NatGCD.l0] at H;have HC18 := zA H;clear H
   go_upto_region 7 with (fail)
   go_cut [32] (fun v32 wc => ∃ (kq : Nat) (x32_17 : Bool), v32 = .bool x32_17 ∧ Aside0 (credenceref1_NatGCD.j1 kq x5_1 x6_1 x7_1 x32_17 = some r) ∧ Aside0 (kq ≤ k1) ∧ Aside0 (Kd.R (Kd.int .u32) 37 wc w.heap.size (fun k_ => some k_ ≠ (u6 : Value).ownBlock) u5 x5_1) ∧ Aside0 (Kd.R (Kd.int .u32) 37 wc w.heap.size (fun k_ => some k_ ≠ (u5 : Value).ownBlock) u6 x6_1) ∧ Aside0 (Below w.heap.size w wc))
   case first =>
    have H := HC18.out;clear HC18;by_cases c19 : 0 < (x5_1.length : Int)
    ·rw [if_pos c19] at H;have c19b0 := decide_eq_true c19;have c19b1 : decide (0 < x5_1.length) = true := decide_eq_true (by omega);clear c19;(first | rw [c19b0] | rw [c19b1] | (simp only [i64_w, i32_w]; rw [c19b0]) | skip);by_cases c20 : (Go.bits .and .u32 (rd x5_1 0) 1) = 0
     ·rw [if_pos c20] at H;have c20b0 := beq_iff_eq.mpr c20;have c20b1 := bne_eq_false_iff_eq.mpr c20;clear c20;by_cases c21 : 0 < (x6_1.length : Int)
      ·rw [if_pos c21] at H;have c21b0 := decide_eq_true c21;have c21b1 : decide (0 < x6_1.length) = true := decide_eq_true (by omega);clear c21;have H' := zA H;clear H;obtain ⟨Ao22, co22, eo22⟩ := Kd.R_slice HO_5.out;subst eo22;have p397 : 0 ≤ (0 : Int) := (by omega);have q397 : 0 < (x5_1.length : Int) := zD;obtain ⟨ad397, e397, hx397_0⟩ := Kd.at_int (Kd.R_reads' HO_5.out).2.2 0 p397 q397;cases e397;have qi397 : (0 < x5_1.length) = True := eq_true (by omega);(try rw [show ((0 : Int)).toNat = 0 from rfl] at hx397_0);(try rw [Addr.add_zero'] at hx397_0);replace p397 := eq_true p397;replace q397 := eq_true q397;obtain ⟨Ao23, co23, eo23⟩ := Kd.R_slice HO_6.out;subst eo23;have p398 : 0 ≤ (0 : Int) := (by omega);have q398 : 0 < (x6_1.length : Int) := zD;obtain ⟨ad398, e398, hx398_0⟩ := Kd.at_int (Kd.R_reads' HO_6.out).2.2 0 p398 q398;cases e398;have qi398 : (0 < x6_1.length) = True := eq_true (by omega);(try rw [show ((0 : Int)).toNat = 0 from rfl] at hx398_0);(try rw [Addr.add_zero'] at hx398_0);replace p398 := eq_true p398;replace q398 := eq_true q398
       go_wp2
       go_meet
       case rel => exact ⟨_, (((Go.bits .and .u32 (rd x6_1 0) 1) == 0)), zS, H', ⟨by have := HK1.out; first | omega | exact Nat.le_refl _⟩, ⟨zR HO_5.out⟩, ⟨zR HO_6.out⟩, ⟨zH⟩⟩
      rw [if_neg c21] at H;cases H
     rw [if_neg c20] at H;have c20b0 := beq_eq_false_iff_ne.mpr c20;have c20b1 := bne_iff_ne.mpr c20;have H' := zA H;clear H;obtain ⟨Ao24, co24, eo24⟩ := Kd.R_slice HO_5.out;subst eo24;have p397 : 0 ≤ (0 : Int) := (by omega);have q397 : 0 < (x5_1.length : Int) := zD;obtain ⟨ad397, e397, hx397_0⟩ := Kd.at_int (Kd.R_reads' HO_5.out).2.2 0 p397 q397;cases e397;have qi397 : (0 < x5_1.length) = True := eq_true (by omega);(try rw [show ((0 : Int)).toNat = 0 from rfl] at hx397_0);(try rw [Addr.add_zero'] at hx397_0);replace p397 := eq_true p397;replace q397 := eq_true q397
     go_wp2
     go_meet
     case rel => exact ⟨_, (false), zS, H', ⟨by have := HK1.out; first | omega | exact Nat.le_refl _⟩, ⟨zR HO_5.out⟩, ⟨zR HO_6.out⟩, ⟨zH⟩⟩
    rw [if_neg c19] at H;cases H
   case rest =>
    clear HC18
    try clear hx3
    try clear qi3
    try clear hx397_0
    try clear hx398_0
    obtain ⟨kq, x32_17, rfl, HA, HJ17, HO_5, HO_6, HB⟩ := hcut;cases kq with
    | zero => exact absurd HA.out (by simp [credenceref1_NatGCD.j1])
    | succ kj17 =>
     have H := HA.out;clear HA;simp only [credenceref1_NatGCD.j1] at H;by_cases c25 : x32_17 = true
     ·subst c25;have H1 : ((credenceref1_half.f kj17 x5_1).bind fun t399 => ((credenceref1_half.f kj17 x6_1).bind fun t402 => (credenceref1_NatGCD.l0 kj17 t399 t402 (wrap64 (x7_1 + 1))))) = some r := by rw [if_pos rfl] at H; exact H
      clear H;have H := H1;clear H1;obtain ⟨t399, A260, H⟩ := zi H;have A26 := zA A260;clear A260;obtain ⟨t402, A270, H⟩ := zi H;have A27 := zA A270;clear A270;have H' := zA H;clear H;obtain ⟨Ao28, co28, eo28⟩ := Kd.R_slice HO_5.out;subst eo28
      go_wp2_with (first | ((with_reducible refine gate_callee (f := 92) rfl ?_); refine goesL_ (some 34) rfl rfl Tryd.func92 zk rfl #[.slice Ao28 x5_1.length co28] rfl zX ?_; (with_reducible refine (credenceref1_half.calls kj17 _ _ x5_1 t399 _ ?side1 ?side2 A26.out).mono ?_); (case side1 => exact zC (Kd.R_reads' HO_5.out).2.2); (case side2 => exact (Kd.R_reads' HO_5.out).2.1); rintro e w29 ⟨v400, rfl, ho0, hb⟩; refine ⟨_, rfl, ?_⟩; have HO401 := zA (Kd.R_lower (zN (zN ho0 HO_5 rfl) HO_6 rfl) (below_size (zb HB rfl))); replace HO_5 := zre HO_5 hb ho0 rfl; replace HO_6 := zre HO_6 hb ho0 rfl; replace HB := zbb HB hb rfl; obtain ⟨Ao30, co30, eo30⟩ := Kd.R_slice HO_6.out; subst eo30) | ((with_reducible refine gate_callee (f := 92) rfl ?_); refine goesL_ (some 36) rfl rfl Tryd.func92 zk rfl #[.slice Ao30 x6_1.length co30] rfl zX ?_; (with_reducible refine (credenceref1_half.calls kj17 _ _ x6_1 t402 _ ?side1 ?side2 A27.out).mono ?_); (case side1 => exact zC (Kd.R_reads' HO_6.out).2.2); (case side2 => exact (Kd.R_reads' HO_6.out).2.1); rintro e w31 ⟨v403, rfl, ho0, hb⟩; refine ⟨_, rfl, ?_⟩; have HO404 := zA (Kd.R_lower (zN (zN (zN ho0 HO_5 rfl) HO_6 rfl) HO401 rfl) (below_size (zb HB rfl))); replace HO_5 := zre HO_5 hb ho0 rfl; replace HO_6 := zre HO_6 hb ho0 rfl; replace HO401 := zre HO401 hb ho0 rfl; replace HB := zbb HB hb rfl))
      go_roundg kj17
      case measure => have := HK1.out; have := HJ17.out; omega
      case rel => exact ⟨(t399), (t402), (wrap64 (x7_1 + 1)), zS, H', ⟨by have := HK1.out; have := HJ17.out; omega⟩, ⟨zRM HO401.out (fun _ hk => hk.2)⟩, ⟨zRM HO404.out (fun _ hk => hk.2)⟩, ⟨zH⟩⟩
     replace c25 := Bool.eq_false_iff.mpr c25;subst c25;have H1 : (credenceref1_NatGCD.l1 kj17 x5_1 x6_1 x7_1) = some r := by rw [if_neg (show ¬ (false = true) by decide)] at H; exact H
     clear H;have H := H1;clear H1;have H' := zA H;clear H
     go_wp2
     go_loopg [5, 6] kj17 (fun kq v5 v6 w' => ∃ (x5_3 : List Int) (x6_3 : List Int), Aside0 (credenceref1_NatGCD.l1 kq x5_3 x6_3 x7_1 = some r) ∧ Aside0 (kq ≤ kj17) ∧ Aside0 (Kd.R (Kd.int .u32) 37 w' w.heap.size (fun k_ => some k_ ≠ (v6 : Value).ownBlock) v5 x5_3) ∧ Aside0 (Kd.R (Kd.int .u32) 37 w' w.heap.size (fun k_ => some k_ ≠ (v5 : Value).ownBlock) v6 x6_3) ∧ Aside0 (Below w.heap.size w w'))
     case atStart => exact ⟨(x5_1), (x6_1), H', ⟨Nat.le_refl _⟩, ⟨zR HO_5.out⟩, ⟨zR HO_6.out⟩, ⟨zH⟩⟩
     case round =>
      clear H'
      try clear hx3
      try clear qi3
      try clear hx397_0
      try clear hx398_0
      obtain ⟨x5_3, x6_3, HA, HK3, HO_5, HO_6, HB⟩ := hrel;cases gk with
      | zero => exact absurd HA.out (by simp [credenceref1_NatGCD.l1])
      | succ k3 =>
       have H := HA.out;clear HA;simp only [credenceref1_NatGCD.l1] at H;by_cases c32 : (x6_3.length : Int) > 0
       ·rw [if_pos c32] at H;have c32b0 : decide (0 < (x6_3.length : Int)) = true := decide_eq_true c32;have c32b1 : decide (0 < x6_3.length) = true := decide_eq_true (by omega);clear c32;have H' := zA H;clear H;obtain ⟨Ao33, co33, eo33⟩ := Kd.R_slice HO_6.out;subst eo33
        go_wp2
        go_loopg [5] k3 (fun kq v5 w' => ∃ (x5_4 : List Int), Aside0 (credenceref1_NatGCD.l2 kq x5_4 x6_3 x7_1 = some r) ∧ Aside0 (kq ≤ k3) ∧ Aside0 (Kd.R (Kd.int .u32) 37 w' w.heap.size (fun k_ => some k_ ≠ ((.slice Ao33 x6_3.length co33) : Value).ownBlock) v5 x5_4) ∧ Aside0 (Kd.R (Kd.int .u32) 37 w' w.heap.size (fun k_ => some k_ ≠ (v5 : Value).ownBlock) (.slice Ao33 x6_3.length co33) x6_3) ∧ Aside0 (Below w.heap.size w w'))
        case atStart => exact ⟨(x5_3), H', ⟨Nat.le_refl _⟩, ⟨zR HO_5.out⟩, ⟨zR HO_6.out⟩, ⟨zH⟩⟩
        case round =>
         clear H'
         try clear hx3
         try clear qi3
         try clear hx397_0
         try clear hx398_0
         obtain ⟨x5_4, HA, HK4, HO_5, HO_6, HB⟩ := hrel;cases gk with
         | zero => exact absurd HA.out (by simp [credenceref1_NatGCD.l2])
         | succ k4 =>
          have H := HA.out;clear HA;simp only [credenceref1_NatGCD.l2] at H;by_cases c34 : 0 < (x5_4.length : Int)
          ·rw [if_pos c34] at H;have c34b0 := decide_eq_true c34;have c34b1 : decide (0 < x5_4.length) = true := decide_eq_true (by omega);clear c34;by_cases c35 : (Go.bits .and .u32 (rd x5_4 0) 1) = 0
           ·rw [if_pos c35] at H;have c35b0 := beq_iff_eq.mpr c35;have c35b1 := bne_eq_false_iff_eq.mpr c35;clear c35;obtain ⟨t406, A360, H⟩ := zi H;have A36 := zA A360;clear A360;have H' := zA H;clear H;obtain ⟨Ao37, co37, eo37⟩ := Kd.R_slice HO_5.out;subst eo37;have p405 : 0 ≤ (0 : Int) := (by omega);have q405 : 0 < (x5_4.length : Int) := zD;obtain ⟨ad405, e405, hx405_0⟩ := Kd.at_int (Kd.R_reads' HO_5.out).2.2 0 p405 q405;cases e405;have qi405 : (0 < x5_4.length) = True := eq_true (by omega);(try rw [show ((0 : Int)).toNat = 0 from rfl] at hx405_0);(try rw [Addr.add_zero'] at hx405_0);replace p405 := eq_true p405;replace q405 := eq_true q405
            go_wp2_with (first | ((with_reducible refine gate_callee (f := 92) rfl ?_); refine goesL_ (some 48) rfl rfl Tryd.func92 zk rfl #[.slice (some ad405) x5_4.length co37] rfl zX ?_; (with_reducible refine (credenceref1_half.calls k4 _ _ x5_4 t406 _ ?side1 ?side2 A36.out).mono ?_); (case side1 => exact zC (Kd.R_reads' HO_5.out).2.2); (case side2 => exact (Kd.R_reads' HO_5.out).2.1); rintro e w38 ⟨v407, rfl, ho0, hb⟩; refine ⟨_, rfl, ?_⟩; have HO408 := zA (Kd.R_lower (zN (zN ho0 HO_5 rfl) HO_6 rfl) (below_size (zb HB rfl))); replace HO_5 := zre HO_5 hb ho0 rfl; replace HO_6 := zre HO_6 hb ho0 rfl; replace HB := zbb HB hb rfl))
            go_roundg k4
            case measure => have := HK1.out; have := HJ17.out; have := HK3.out; have := HK4.out; omega
            case rel => exact ⟨(t406), H', ⟨by have := HK1.out; have := HJ17.out; have := HK3.out; have := HK4.out; omega⟩, ⟨zRM HO408.out (fun _ hk => hk.2)⟩, ⟨zRM HO_6.out (fun _ hk => hk.2)⟩, ⟨zH⟩⟩
           rw [if_neg c35] at H;have c35b0 := beq_eq_false_iff_ne.mpr c35;have c35b1 := bne_iff_ne.mpr c35;have H' := zA H;clear H;obtain ⟨Ao39, co39, eo39⟩ := Kd.R_slice HO_5.out;subst eo39;have p405 : 0 ≤ (0 : Int) := (by omega);have q405 : 0 < (x5_4.length : Int) := zD;obtain ⟨ad405, e405, hx405_0⟩ := Kd.at_int (Kd.R_reads' HO_5.out).2.2 0 p405 q405;cases e405;have qi405 : (0 < x5_4.length) = True := eq_true (by omega);(try rw [show ((0 : Int)).toNat = 0 from rfl] at hx405_0);(try rw [Addr.add_zero'] at hx405_0);replace p405 := eq_true p405;replace q405 := eq_true q405
           go_wp2
           go_loopg [6] k4 (fun kq v6 w' => ∃ (x6_5 : List Int), Aside0 (credenceref1_NatGCD.l3 kq x5_4 x6_5 x7_1 = some r) ∧ Aside0 (kq ≤ k4) ∧ Aside0 (Kd.R (Kd.int .u32) 37 w' w.heap.size (fun k_ => some k_ ≠ (v6 : Value).ownBlock) (.slice (some ad405) x5_4.length co39) x5_4) ∧ Aside0 (Kd.R (Kd.int .u32) 37 w' w.heap.size (fun k_ => some k_ ≠ ((.slice (some ad405) x5_4.length co39) : Value).ownBlock) v6 x6_5) ∧ Aside0 (Below w.heap.size w w'))
           case atStart => exact ⟨(x6_3), H', ⟨Nat.le_refl _⟩, ⟨zR HO_5.out⟩, ⟨zR HO_6.out⟩, ⟨zH⟩⟩
           case round =>
            clear H'
            try clear hx3
            try clear qi3
            try clear hx4
            try clear qi4
            try clear hx39
            try clear qi39
            try clear hx397_0
            try clear hx398_0
            try clear hx405_0
            obtain ⟨x6_5, HA, HK5, HO_5, HO_6, HB⟩ := hrel;cases gk with
            | zero => exact absurd HA.out (by simp [credenceref1_NatGCD.l3])
            | succ k5 =>
             have H := HA.out;clear HA;simp only [credenceref1_NatGCD.l3] at H;by_cases c40 : 0 < (x6_5.length : Int)
             ·rw [if_pos c40] at H;have c40b0 := decide_eq_true c40;have c40b1 : decide (0 < x6_5.length) = true := decide_eq_true (by omega);clear c40;by_cases c41 : (Go.bits .and .u32 (rd x6_5 0) 1) = 0
              ·rw [if_pos c41] at H;have c41b0 := beq_iff_eq.mpr c41;have c41b1 := bne_eq_false_iff_eq.mpr c41;clear c41;obtain ⟨t410, A420, H⟩ := zi H;have A42 := zA A420;clear A420;have H' := zA H;clear H;obtain ⟨Ao43, co43, eo43⟩ := Kd.R_slice HO_6.out;subst eo43;have p409 : 0 ≤ (0 : Int) := (by omega);have q409 : 0 < (x6_5.length : Int) := zD;obtain ⟨ad409, e409, hx409_0⟩ := Kd.at_int (Kd.R_reads' HO_6.out).2.2 0 p409 q409;cases e409;have qi409 : (0 < x6_5.length) = True := eq_true (by omega);(try rw [show ((0 : Int)).toNat = 0 from rfl] at hx409_0);(try rw [Addr.add_zero'] at hx409_0);replace p409 := eq_true p409;replace q409 := eq_true q409
               go_wp2_with (first | ((with_reducible refine gate_callee (f := 92) rfl ?_); refine goesL_ (some 55) rfl rfl Tryd.func92 zk rfl #[.slice (some ad409) x6_5.length co43] rfl zX ?_; (with_reducible refine (credenceref1_half.calls k5 _ _ x6_5 t410 _ ?side1 ?side2 A42.out).mono ?_); (case side1 => exact zC (Kd.R_reads' HO_6.out).2.2); (case side2 => exact (Kd.R_reads' HO_6.out).2.1); rintro e w44 ⟨v411, rfl, ho0, hb⟩; refine ⟨_, rfl, ?_⟩; have HO412 := zA (Kd.R_lower (zN (zN ho0 HO_5 rfl) HO_6 rfl) (below_size (zb HB rfl))); replace HO_5 := zre HO_5 hb ho0 rfl; replace HO_6 := zre HO_6 hb ho0 rfl; replace HB := zbb HB hb rfl))
               go_roundg k5
               case measure => have := HK1.out; have := HJ17.out; have := HK3.out; have := HK4.out; have := HK5.out; omega
               case rel => exact ⟨(t410), H', ⟨by have := HK1.out; have := HJ17.out; have := HK3.out; have := HK4.out; have := HK5.out; omega⟩, ⟨zRM HO_5.out (fun _ hk => hk.2)⟩, ⟨zRM HO412.out (fun _ hk => hk.1.2)⟩, ⟨zH⟩⟩
              rw [if_neg c41] at H;have c41b0 := beq_eq_false_iff_ne.mpr c41;have c41b1 := bne_iff_ne.mpr c41;obtain ⟨t413, A450, H⟩ := zi H;have A45 := zA A450;clear A450;by_cases c46 : t413 > 0
              ·rw [if_pos c46] at H;have c46b0 : decide (0 < t413) = true := decide_eq_true c46;clear c46;obtain ⟨⟨t414, t415⟩, A470, H⟩ := zi H;dsimp only at H;have A47 := zA A470;clear A470;have H' := zA H;clear H;obtain ⟨Ao48, co48, eo48⟩ := Kd.R_slice HO_6.out;subst eo48;have p409 : 0 ≤ (0 : Int) := (by omega);have q409 : 0 < (x6_5.length : Int) := zD;obtain ⟨ad409, e409, hx409_0⟩ := Kd.at_int (Kd.R_reads' HO_6.out).2.2 0 p409 q409;cases e409;have qi409 : (0 < x6_5.length) = True := eq_true (by omega);(try rw [show ((0 : Int)).toNat = 0 from rfl] at hx409_0);(try rw [Addr.add_zero'] at hx409_0);replace p409 := eq_true p409;replace q409 := eq_true q409
               go_wp2_with (first | ((with_reducible refine gate_callee (f := 63) rfl ?_); refine goesL_ (some 58) rfl rfl Tryd.func63 zk rfl #[.slice (some ad405) x5_4.length co39, .slice (some ad409) x6_5.length co48] rfl zX ?_; (with_reducible refine (credenceref1_NatCmp.calls k5 _ _ x5_4 _ _ x6_5 t413 _ ?side1 ?side2 ?side3 ?side4 A45.out).mono ?_); (case side1 => exact zC (Kd.R_reads' HO_5.out).2.2); (case side2 => exact (Kd.R_reads' HO_5.out).2.1); (case side3 => exact zC (Kd.R_reads' HO_6.out).2.2); (case side4 => exact (Kd.R_reads' HO_6.out).2.1); rintro e w49 ⟨rfl, hb⟩; refine ⟨_, rfl, ?_⟩; replace HO_5 := zrb HO_5 hb rfl; replace HO_6 := zrb HO_6 hb rfl; replace HB := zbb HB hb rfl) | ((with_reducible refine gate_callee (f := 74) rfl ?_); refine goesL_ (some 65) rfl rfl Tryd.func74 zk rfl #[.slice (some ad405) x5_4.length co39, .slice (some ad409) x6_5.length co48] rfl zX ?_; (with_reducible refine (credenceref1_NatSub.calls k5 _ _ x5_4 _ _ x6_5 t414 t415 _ ?side1 ?side2 ?side3 ?side4 A47.out).mono ?_); (case side1 => exact zC (Kd.R_reads' HO_5.out).2.2); (case side2 => exact (Kd.R_reads' HO_5.out).2.1); (case side3 => exact zC (Kd.R_reads' HO_6.out).2.2); (case side4 => exact (Kd.R_reads' HO_6.out).2.1); rintro e w50 ⟨v416, rfl, ho0, hb⟩; refine ⟨_, rfl, ?_⟩; have HO417 := zA (Kd.R_lower (zN (zN ho0 HO_5 rfl) HO_6 rfl) (below_size (zb HB rfl))); replace HO_5 := zre HO_5 hb ho0 rfl; replace HO_6 := zre HO_6 hb ho0 rfl; replace HB := zbb HB hb rfl))
               go_roundg k5
               case measure => have := HK1.out; have := HJ17.out; have := HK3.out; have := HK4.out; have := HK5.out; omega
               case rel => exact ⟨(x6_5), (t414), H', ⟨by have := HK1.out; have := HJ17.out; have := HK3.out; have := HK4.out; have := HK5.out; omega⟩, ⟨zRM HO_6.out (fun _ hk => hk.2)⟩, ⟨zRM HO417.out (fun _ hk => hk.2)⟩, ⟨zH⟩⟩
              rw [if_neg c46] at H;have c46b0 : decide (0 < t413) = false := decide_eq_false c46;clear c46;obtain ⟨⟨t418, t419⟩, A510, H⟩ := zi H;dsimp only at H;have A51 := zA A510;clear A510;have H' := zA H;clear H;obtain ⟨Ao52, co52, eo52⟩ := Kd.R_slice HO_6.out;subst eo52;have p409 : 0 ≤ (0 : Int) := (by omega);have q409 : 0 < (x6_5.length : Int) := zD;obtain ⟨ad409, e409, hx409_0⟩ := Kd.at_int (Kd.R_reads' HO_6.out).2.2 0 p409 q409;cases e409;have qi409 : (0 < x6_5.length) = True := eq_true (by omega);(try rw [show ((0 : Int)).toNat = 0 from rfl] at hx409_0);(try rw [Addr.add_zero'] at hx409_0);replace p409 := eq_true p409;replace q409 := eq_true q409
              go_wp2_with (first | ((with_reducible refine gate_callee (f := 63) rfl ?_); refine goesL_ (some 58) rfl rfl Tryd.func63 zk rfl #[.slice (some ad405) x5_4.length co39, .slice (some ad409) x6_5.length co52] rfl zX ?_; (with_reducible refine (credenceref1_NatCmp.calls k5 _ _ x5_4 _ _ x6_5 t413 _ ?side1 ?side2 ?side3 ?side4 A45.out).mono ?_); (case side1 => exact zC (Kd.R_reads' HO_5.out).2.2); (case side2 => exact (Kd.R_reads' HO_5.out).2.1); (case side3 => exact zC (Kd.R_reads' HO_6.out).2.2); (case side4 => exact (Kd.R_reads' HO_6.out).2.1); rintro e w53 ⟨rfl, hb⟩; refine ⟨_, rfl, ?_⟩; replace HO_5 := zrb HO_5 hb rfl; replace HO_6 := zrb HO_6 hb rfl; replace HB := zbb HB hb rfl) | ((with_reducible refine gate_callee (f := 74) rfl ?_); refine goesL_ (some 65) rfl rfl Tryd.func74 zk rfl #[.slice (some ad409) x6_5.length co52, .slice (some ad405) x5_4.length co39] rfl zX ?_; (with_reducible refine (credenceref1_NatSub.calls k5 _ _ x6_5 _ _ x5_4 t418 t419 _ ?side1 ?side2 ?side3 ?side4 A51.out).mono ?_); (case side1 => exact zC (Kd.R_reads' HO_6.out).2.2); (case side2 => exact (Kd.R_reads' HO_6.out).2.1); (case side3 => exact zC (Kd.R_reads' HO_5.out).2.2); (case side4 => exact (Kd.R_reads' HO_5.out).2.1); rintro e w54 ⟨v420, rfl, ho0, hb⟩; refine ⟨_, rfl, ?_⟩; have HO421 := zA (Kd.R_lower (zN (zN ho0 HO_5 rfl) HO_6 rfl) (below_size (zb HB rfl))); replace HO_5 := zre HO_5 hb ho0 rfl; replace HO_6 := zre HO_6 hb ho0 rfl; replace HB := zbb HB hb rfl))
              go_roundg k5
              case measure => have := HK1.out; have := HJ17.out; have := HK3.out; have := HK4.out; have := HK5.out; omega
              case rel => exact ⟨(x5_4), (t418), H', ⟨by have := HK1.out; have := HJ17.out; have := HK3.out; have := HK4.out; have := HK5.out; omega⟩, ⟨zRM HO_5.out (fun _ hk => hk.2)⟩, ⟨zRM HO421.out (fun _ hk => hk.1.2)⟩, ⟨zH⟩⟩
             rw [if_neg c40] at H;cases H
          rw [if_neg c34] at H;cases H
       rw [if_neg c32] at H;have c32b0 : decide (0 < (x6_3.length : Int)) = false := decide_eq_false c32;have c32b1 : decide (0 < x6_3.length) = false := decide_eq_false (by omega);clear c32;have H' := zA H;clear H;obtain ⟨Ao55, co55, eo55⟩ := Kd.R_slice HO_6.out;subst eo55
       go_wp2
       go_loopg [5, 8] k3 (fun kq v5 v8 w' => ∃ (x5_4 : List Int) (x8_4 : Int), v8 = .int .i64 x8_4 ∧ Aside0 (credenceref1_NatGCD.l4 kq x5_4 x7_1 x8_4 = some r) ∧ Aside0 (kq ≤ k3) ∧ Aside0 (Kd.R (Kd.int .u32) 37 w' w.heap.size (fun _ => True) v5 x5_4) ∧ Aside0 (Below w.heap.size w w'))
       case atStart => exact ⟨(x5_3), (0), zS, H', ⟨Nat.le_refl _⟩, ⟨zRM HO_5.out (fun _ hk => trivial)⟩, ⟨zH⟩⟩
       case round =>
        clear H'
        try clear hx3
        try clear qi3
        try clear hx4
        try clear qi4
        try clear hx39
        try clear qi39
        try clear hx40
        try clear qi40
        try clear hx397_0
        try clear hx398_0
        try clear hx405_0
        try clear hx409_0
        obtain ⟨x5_4, x8_4, rfl, HA, HK4, HO_5, HB⟩ := hrel;cases gk with
        | zero => exact absurd HA.out (by simp [credenceref1_NatGCD.l4])
        | succ k4 =>
         have H := HA.out;clear HA;simp only [credenceref1_NatGCD.l4] at H;by_cases c56 : x8_4 < x7_1
         ·rw [if_pos c56] at H;have c56b0 := decide_eq_true c56;clear c56;obtain ⟨t422, A570, H⟩ := zi H;have A57 := zA A570;clear A570;have H' := zA H;clear H;obtain ⟨Ao58, co58, eo58⟩ := Kd.R_slice HO_5.out;subst eo58
          go_wp2_with (first | ((with_reducible refine gate_callee (f := 93) rfl ?_); refine goesL_ (some 74) rfl rfl Tryd.func93 zk rfl #[.slice Ao58 x5_4.length co58, .int .u32 0] rfl zX ?_; (with_reducible refine (credenceref1_double.calls k4 _ _ x5_4 0 t422 _ ?side1 ?side2 A57.out).mono ?_); (case side1 => exact zC (Kd.R_reads' HO_5.out).2.2); (case side2 => exact (Kd.R_reads' HO_5.out).2.1); rintro e w59 ⟨v423, rfl, ho0, hb⟩; refine ⟨_, rfl, ?_⟩; have HO424 := zA (Kd.R_lower (zN ho0 HO_5 rfl) (below_size (zb HB rfl))); replace HO_5 := zre HO_5 hb ho0 rfl; replace HB := zbb HB hb rfl))
          go_roundg k4
          case measure => have := HK1.out; have := HJ17.out; have := HK3.out; have := HK4.out; omega
          case rel => exact ⟨(t422), (wrap64 (x8_4 + 1)), zS, H', ⟨by have := HK1.out; have := HJ17.out; have := HK3.out; have := HK4.out; omega⟩, ⟨zRM HO424.out (fun _ hk => trivial)⟩, ⟨zH⟩⟩
         rw [if_neg c56] at H;have c56b0 := decide_eq_false c56;clear c56;obtain rfl := Option.some.inj H
         go_wp2
         go_ret
         exact ⟨_, zE, zR HO_5.out, zH⟩

end Go.Proofs.YtoeldfopjalpkaaDoor.Q

