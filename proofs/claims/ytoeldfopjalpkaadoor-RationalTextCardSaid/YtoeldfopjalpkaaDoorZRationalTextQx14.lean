/- Lemmas for the proof of one law of this seat (Qx14). -/
import Derived.Test.YtoeldfopjalpkaaDoorZRationalTextQx8
import Derived.Test.YtoeldfopjalpkaaDoorZRationalTextQx12
import Derived.Test.YtoeldfopjalpkaaDoorZRationalTextQx13
namespace Go.Proofs.YtoeldfopjalpkaaDoor.Q
open Go.RowKit Go.Proofs.YtoeldfopjalpkaaDoorW.PrintWords Go.Proofs.YtoeldfopjalpkaaDoorW.PrintLast Go.Proofs.YtoeldfopjalpkaaDoorW.PrintMore
attribute [local go_sem] max2_int min2_int max_two min_two max_three min_three max_four min_four   -- for this text's walks alone
set_option linter.unusedVariables false
set_option linter.unusedSimpArgs false

def bignat_Pow.l0 : Nat → List Int → Int → List Int → Int → Option (List Int × Int)
 | 0, _, _, _, _ => none
 | k + 1, x0, x1, x7, x8 => if x8 ≥ 0 then ((bignat_Mul.f k x7 x7).bind fun t562 => (if 0 ≤ x8 then (if (Go.bits .and .i64 (shr .i64 x1 x8) 1) = 1 then ((bignat_Mul.f k t562 x0).bind fun t565 => (bignat_Pow.l0 k x0 x1 t565 (wrap64 (x8 - 1)))) else (bignat_Pow.l0 k x0 x1 t562 (wrap64 (x8 - 1)))) else (none))) else ((bignat_BitLen.f k x7).bind fun t561 => (if t561 > 65536 then (some (([] : List Int), 4)) else (some (x7, 0))))
def bignat_Pow.f (k : Nat) (l0 : List Int) (a1 : Int) : Option (List Int × Int) := (bignat_trim.f k l0).bind fun t547 => ((bignat_BitLen.f k t547).bind fun t550 => (if a1 < 0 then (some (([] : List Int), 1)) else (if a1 = 0 then ((bignat_FromUint64.f 1).bind fun t551 => (some (t551, 0))) else (if t550 ≤ 1 then ((bignat_clone.f k t547).bind fun t554 => (some (t554, 0))) else (if a1 > 65536 then (some (([] : List Int), 4)) else (if t550 > 65536 then (some (([] : List Int), 4)) else (if (wrap64 ((wrap64 (t550 - 1)) * a1)) ≥ 65536 then (some (([] : List Int), 4)) else ((bignat_FromUint64.f 1).bind fun t557 => ((bits_Len.f k (IntKind.u64.wrap (a1))).bind fun t560 => (bignat_Pow.l0 k t547 a1 t557 (wrap64 (t560 - 1))))))))))))
theorem bignat_Pow.mono_l : ∀ k, (∀ y0 y1 y2 y3, LeO (bignat_Pow.l0 k y0 y1 y2 y3) (bignat_Pow.l0 (k + 1) y0 y1 y2 y3))
 | 0 => fun _ _ _ _ r h => by simp [bignat_Pow.l0] at h
 | k + 1 => by
  have ih0 := bignat_Pow.mono_l k
  intro y0 y1 y2 y3
  unfold bignat_Pow.l0
  exact zm6 ih0 bignat_BitLen.mono bignat_Mul.mono bignat_clone.mono bignat_trim.mono bits_Len.mono
theorem bignat_Pow.mono : ∀ a0 a1 k, LeO (bignat_Pow.f k a0 a1) (bignat_Pow.f (k + 1) a0 a1) := by
 intro a0 a1 k;have ih0 := bignat_Pow.mono_l k;unfold bignat_Pow.f;exact zm6 ih0 bignat_BitLen.mono bignat_Mul.mono bignat_clone.mono bignat_trim.mono bits_Len.mono
set_option maxHeartbeats 8000000 in
set_option maxRecDepth 100000 in
theorem bignat_Pow.calls (k : Nat) (A0 : Option Addr) (c0 : Nat) (l0 : List Int) (a1 : Int) (r1 : List Int) (r2 : Int) (w : World) (hr0 : Kd.C (Kd.int .u32) w A0 l0.length l0) (hc0 : l0.length ≤ c0) (h : bignat_Pow.f k l0 a1 = some (r1, r2)) :
 Calls Tryd.prog 57 #[.slice A0 l0.length c0, .int .i64 a1] w fun e w' => ∃ v0_ : Value, e = .returned (.tuple #[v0_, .int .i64 r2]) ∧ Kd.R (Kd.int .u32) 37 w' w.heap.size (fun _ => True) v0_ r1 ∧ Below w.heap.size w w' := by
 have HR0 := zA hr0;have HC0 := zA hc0;clear hr0 hc0;have HB := zA (Below.refl w.heap.size w);have H : ((bignat_trim.f k l0).bind fun t547 => ((bignat_BitLen.f k t547).bind fun t550 => (if a1 < 0 then (some (([] : List Int), 1)) else (if a1 = 0 then ((bignat_FromUint64.f 1).bind fun t551 => (some (t551, 0))) else (if t550 ≤ 1 then ((bignat_clone.f k t547).bind fun t554 => (some (t554, 0))) else (if a1 > 65536 then (some (([] : List Int), 4)) else (if t550 > 65536 then (some (([] : List Int), 4)) else (if (wrap64 ((wrap64 (t550 - 1)) * a1)) ≥ 65536 then (some (([] : List Int), 4)) else ((bignat_FromUint64.f 1).bind fun t557 => ((bits_Len.f k (IntKind.u64.wrap (a1))).bind fun t560 => (bignat_Pow.l0 k t547 a1 t557 (wrap64 (t560 - 1))))))))))))) = some (r1, r2) := h;clear h;obtain ⟨t547, A30, H⟩ := zi H;have A3 := zA A30;clear A30;obtain ⟨t550, A40, H⟩ := zi H;have A4 := zA A40;clear A40;by_cases c5 : a1 < 0
 ·rw [if_pos c5] at H;have c5b0 := decide_eq_true c5;clear c5;simp only [Option.some.injEq, Prod.mk.injEq] at H;obtain ⟨rfl, rfl⟩ := H;go_enter Tryd.func57, Tryd.ntmps57
  go_wp2_with (first | ((with_reducible refine gate_callee (f := 71) rfl ?_); refine goesL_ (some 10) rfl rfl Tryd.func71 zk rfl #[.slice A0 l0.length c0] rfl zX ?_; (with_reducible refine (bignat_trim.calls k (fun k_ => k_ < w.heap.size) _ _ l0 t547 _ ?side1 A3.out).mono ?_); (case side1 => exact Kd.V_mk HC0.out (Kd.F_below (Kd.C_F (Kd.heap_int .u32) HR0.out) (zb HB rfl))); rintro e w6 ⟨v548, rfl, ho0, hb⟩; refine ⟨_, rfl, ?_⟩; have HO549 := zvl ho0 HB rfl; replace HB := zbb HB hb rfl; obtain ⟨Ao7, co7, eo7⟩ := Kd.V_slice HO549.out; subst eo7) | ((with_reducible refine gate_callee (f := 70) rfl ?_); refine goesL_ (some 12) rfl rfl Tryd.func70 zk rfl #[.slice Ao7 t547.length co7] rfl zX ?_; (with_reducible refine (bignat_BitLen.calls k _ _ t547 t550 _ ?side1 ?side2 A4.out).mono ?_); (case side1 => exact zC (Kd.V_reads' HO549.out).2.2); (case side2 => exact (Kd.V_reads' HO549.out).2.1); rintro e w8 ⟨rfl, hb⟩; refine ⟨_, rfl, ?_⟩; replace HO549 := zA (Kd.V_below (zv HO549 rfl) hb); replace HB := zbb HB hb rfl))
  go_ret2
  exact ⟨_, zE, by first | exact Kd.R_nil _ _ _ _ _ | exact Kd.V_nil _ _ _ _ _, zH⟩
 rw [if_neg c5] at H;have c5b0 := decide_eq_false c5;clear c5;by_cases c9 : a1 = 0
 ·rw [if_pos c9] at H;have c9b0 := beq_iff_eq.mpr c9;have c9b1 := bne_eq_false_iff_eq.mpr c9;clear c9;obtain ⟨t551, A100, H⟩ := zi H;have A10 := zA A100;clear A100;simp only [Option.some.injEq, Prod.mk.injEq] at H;obtain ⟨rfl, rfl⟩ := H;go_enter Tryd.func57, Tryd.ntmps57
  go_wp2_with (first | ((with_reducible refine gate_callee (f := 71) rfl ?_); refine goesL_ (some 10) rfl rfl Tryd.func71 zk rfl #[.slice A0 l0.length c0] rfl zX ?_; (with_reducible refine (bignat_trim.calls k (fun k_ => k_ < w.heap.size) _ _ l0 t547 _ ?side1 A3.out).mono ?_); (case side1 => exact Kd.V_mk HC0.out (Kd.F_below (Kd.C_F (Kd.heap_int .u32) HR0.out) (zb HB rfl))); rintro e w11 ⟨v548, rfl, ho0, hb⟩; refine ⟨_, rfl, ?_⟩; have HO549 := zvl ho0 HB rfl; replace HB := zbb HB hb rfl; obtain ⟨Ao12, co12, eo12⟩ := Kd.V_slice HO549.out; subst eo12) | ((with_reducible refine gate_callee (f := 70) rfl ?_); refine goesL_ (some 12) rfl rfl Tryd.func70 zk rfl #[.slice Ao12 t547.length co12] rfl zX ?_; (with_reducible refine (bignat_BitLen.calls k _ _ t547 t550 _ ?side1 ?side2 A4.out).mono ?_); (case side1 => exact zC (Kd.V_reads' HO549.out).2.2); (case side2 => exact (Kd.V_reads' HO549.out).2.1); rintro e w13 ⟨rfl, hb⟩; refine ⟨_, rfl, ?_⟩; replace HO549 := zA (Kd.V_below (zv HO549 rfl) hb); replace HB := zbb HB hb rfl) | ((with_reducible refine gate_callee (f := 22) rfl ?_); refine goesL_ (some 19) rfl rfl Tryd.func22 zk rfl #[.int .u64 1] rfl zX ?_; (with_reducible refine (bignat_FromUint64.calls 1 t551 _ A10.out).mono ?_); rintro e w14 ⟨v552, rfl, ho0, hb⟩; refine ⟨_, rfl, ?_⟩; replace HO549 := zA (Kd.V_elder' (zv HO549 rfl) (Kd.R_base ho0) hb); have HO553 := zlo ho0 HB rfl; replace HB := zbb HB hb rfl))
  go_ret2
  exact ⟨_, zE, zR HO553.out, zH⟩
 rw [if_neg c9] at H;have c9b0 := beq_eq_false_iff_ne.mpr c9;have c9b1 := bne_iff_ne.mpr c9;by_cases c15 : t550 ≤ 1
 ·rw [if_pos c15] at H;have c15b0 := decide_eq_true c15;clear c15;obtain ⟨t554, A160, H⟩ := zi H;have A16 := zA A160;clear A160;simp only [Option.some.injEq, Prod.mk.injEq] at H;obtain ⟨rfl, rfl⟩ := H;go_enter Tryd.func57, Tryd.ntmps57
  go_wp2_with (first | ((with_reducible refine gate_callee (f := 71) rfl ?_); refine goesL_ (some 10) rfl rfl Tryd.func71 zk rfl #[.slice A0 l0.length c0] rfl zX ?_; (with_reducible refine (bignat_trim.calls k (fun k_ => k_ < w.heap.size) _ _ l0 t547 _ ?side1 A3.out).mono ?_); (case side1 => exact Kd.V_mk HC0.out (Kd.F_below (Kd.C_F (Kd.heap_int .u32) HR0.out) (zb HB rfl))); rintro e w17 ⟨v548, rfl, ho0, hb⟩; refine ⟨_, rfl, ?_⟩; have HO549 := zvl ho0 HB rfl; replace HB := zbb HB hb rfl; obtain ⟨Ao18, co18, eo18⟩ := Kd.V_slice HO549.out; subst eo18) | ((with_reducible refine gate_callee (f := 70) rfl ?_); refine goesL_ (some 12) rfl rfl Tryd.func70 zk rfl #[.slice Ao18 t547.length co18] rfl zX ?_; (with_reducible refine (bignat_BitLen.calls k _ _ t547 t550 _ ?side1 ?side2 A4.out).mono ?_); (case side1 => exact zC (Kd.V_reads' HO549.out).2.2); (case side2 => exact (Kd.V_reads' HO549.out).2.1); rintro e w19 ⟨rfl, hb⟩; refine ⟨_, rfl, ?_⟩; replace HO549 := zA (Kd.V_below (zv HO549 rfl) hb); replace HB := zbb HB hb rfl) | ((with_reducible refine gate_callee (f := 64) rfl ?_); refine goesL_ (some 24) rfl rfl Tryd.func64 zk rfl #[.slice Ao18 t547.length co18] rfl zX ?_; (with_reducible refine (bignat_clone.calls k _ _ t547 t554 _ ?side1 ?side2 A16.out).mono ?_); (case side1 => exact zC (Kd.V_reads' HO549.out).2.2); (case side2 => exact (Kd.V_reads' HO549.out).2.1); rintro e w20 ⟨v555, rfl, ho0, hb⟩; refine ⟨_, rfl, ?_⟩; replace HO549 := zA (Kd.V_elder' (zv HO549 rfl) (Kd.R_base ho0) hb); have HO556 := zlo ho0 HB rfl; replace HB := zbb HB hb rfl))
  go_ret2
  exact ⟨_, zE, zR HO556.out, zH⟩
 rw [if_neg c15] at H;have c15b0 := decide_eq_false c15;clear c15;by_cases c21 : a1 > 65536
 ·rw [if_pos c21] at H;have c21b0 : decide (65536 < a1) = true := decide_eq_true c21;clear c21;simp only [Option.some.injEq, Prod.mk.injEq] at H;obtain ⟨rfl, rfl⟩ := H;go_enter Tryd.func57, Tryd.ntmps57
  go_wp2_with (first | ((with_reducible refine gate_callee (f := 71) rfl ?_); refine goesL_ (some 10) rfl rfl Tryd.func71 zk rfl #[.slice A0 l0.length c0] rfl zX ?_; (with_reducible refine (bignat_trim.calls k (fun k_ => k_ < w.heap.size) _ _ l0 t547 _ ?side1 A3.out).mono ?_); (case side1 => exact Kd.V_mk HC0.out (Kd.F_below (Kd.C_F (Kd.heap_int .u32) HR0.out) (zb HB rfl))); rintro e w22 ⟨v548, rfl, ho0, hb⟩; refine ⟨_, rfl, ?_⟩; have HO549 := zvl ho0 HB rfl; replace HB := zbb HB hb rfl; obtain ⟨Ao23, co23, eo23⟩ := Kd.V_slice HO549.out; subst eo23) | ((with_reducible refine gate_callee (f := 70) rfl ?_); refine goesL_ (some 12) rfl rfl Tryd.func70 zk rfl #[.slice Ao23 t547.length co23] rfl zX ?_; (with_reducible refine (bignat_BitLen.calls k _ _ t547 t550 _ ?side1 ?side2 A4.out).mono ?_); (case side1 => exact zC (Kd.V_reads' HO549.out).2.2); (case side2 => exact (Kd.V_reads' HO549.out).2.1); rintro e w24 ⟨rfl, hb⟩; refine ⟨_, rfl, ?_⟩; replace HO549 := zA (Kd.V_below (zv HO549 rfl) hb); replace HB := zbb HB hb rfl))
  go_ret2
  exact ⟨_, zE, by first | exact Kd.R_nil _ _ _ _ _ | exact Kd.V_nil _ _ _ _ _, zH⟩
 rw [if_neg c21] at H;have c21b0 : decide (65536 < a1) = false := decide_eq_false c21;clear c21;by_cases c25 : t550 > 65536
 ·rw [if_pos c25] at H;have c25b0 : decide (65536 < t550) = true := decide_eq_true c25;clear c25;simp only [Option.some.injEq, Prod.mk.injEq] at H;obtain ⟨rfl, rfl⟩ := H;go_enter Tryd.func57, Tryd.ntmps57
  go_wp2_with (first | ((with_reducible refine gate_callee (f := 71) rfl ?_); refine goesL_ (some 10) rfl rfl Tryd.func71 zk rfl #[.slice A0 l0.length c0] rfl zX ?_; (with_reducible refine (bignat_trim.calls k (fun k_ => k_ < w.heap.size) _ _ l0 t547 _ ?side1 A3.out).mono ?_); (case side1 => exact Kd.V_mk HC0.out (Kd.F_below (Kd.C_F (Kd.heap_int .u32) HR0.out) (zb HB rfl))); rintro e w26 ⟨v548, rfl, ho0, hb⟩; refine ⟨_, rfl, ?_⟩; have HO549 := zvl ho0 HB rfl; replace HB := zbb HB hb rfl; obtain ⟨Ao27, co27, eo27⟩ := Kd.V_slice HO549.out; subst eo27) | ((with_reducible refine gate_callee (f := 70) rfl ?_); refine goesL_ (some 12) rfl rfl Tryd.func70 zk rfl #[.slice Ao27 t547.length co27] rfl zX ?_; (with_reducible refine (bignat_BitLen.calls k _ _ t547 t550 _ ?side1 ?side2 A4.out).mono ?_); (case side1 => exact zC (Kd.V_reads' HO549.out).2.2); (case side2 => exact (Kd.V_reads' HO549.out).2.1); rintro e w28 ⟨rfl, hb⟩; refine ⟨_, rfl, ?_⟩; replace HO549 := zA (Kd.V_below (zv HO549 rfl) hb); replace HB := zbb HB hb rfl))
  go_ret2
  exact ⟨_, zE, by first | exact Kd.R_nil _ _ _ _ _ | exact Kd.V_nil _ _ _ _ _, zH⟩
 rw [if_neg c25] at H;have c25b0 : decide (65536 < t550) = false := decide_eq_false c25;clear c25;by_cases c29 : (wrap64 ((wrap64 (t550 - 1)) * a1)) ≥ 65536
 ·rw [if_pos c29] at H;have c29b0 : decide (65536 ≤ (wrap64 ((wrap64 (t550 - 1)) * a1))) = true := decide_eq_true c29;clear c29;simp only [Option.some.injEq, Prod.mk.injEq] at H;obtain ⟨rfl, rfl⟩ := H;go_enter Tryd.func57, Tryd.ntmps57
  go_wp2_with (first | ((with_reducible refine gate_callee (f := 71) rfl ?_); refine goesL_ (some 10) rfl rfl Tryd.func71 zk rfl #[.slice A0 l0.length c0] rfl zX ?_; (with_reducible refine (bignat_trim.calls k (fun k_ => k_ < w.heap.size) _ _ l0 t547 _ ?side1 A3.out).mono ?_); (case side1 => exact Kd.V_mk HC0.out (Kd.F_below (Kd.C_F (Kd.heap_int .u32) HR0.out) (zb HB rfl))); rintro e w30 ⟨v548, rfl, ho0, hb⟩; refine ⟨_, rfl, ?_⟩; have HO549 := zvl ho0 HB rfl; replace HB := zbb HB hb rfl; obtain ⟨Ao31, co31, eo31⟩ := Kd.V_slice HO549.out; subst eo31) | ((with_reducible refine gate_callee (f := 70) rfl ?_); refine goesL_ (some 12) rfl rfl Tryd.func70 zk rfl #[.slice Ao31 t547.length co31] rfl zX ?_; (with_reducible refine (bignat_BitLen.calls k _ _ t547 t550 _ ?side1 ?side2 A4.out).mono ?_); (case side1 => exact zC (Kd.V_reads' HO549.out).2.2); (case side2 => exact (Kd.V_reads' HO549.out).2.1); rintro e w32 ⟨rfl, hb⟩; refine ⟨_, rfl, ?_⟩; replace HO549 := zA (Kd.V_below (zv HO549 rfl) hb); replace HB := zbb HB hb rfl))
  go_ret2
  exact ⟨_, zE, by first | exact Kd.R_nil _ _ _ _ _ | exact Kd.V_nil _ _ _ _ _, zH⟩
 rw [if_neg c29] at H;have c29b0 : decide (65536 ≤ (wrap64 ((wrap64 (t550 - 1)) * a1))) = false := decide_eq_false c29;clear c29;obtain ⟨t557, A330, H⟩ := zi H;have A33 := zA A330;clear A330;obtain ⟨t560, A340, H⟩ := zi H;have A34 := zA A340;clear A340;have H' := zA H;clear H;go_enter Tryd.func57, Tryd.ntmps57
 go_wp2_with (first | ((with_reducible refine gate_callee (f := 71) rfl ?_); refine goesL_ (some 10) rfl rfl Tryd.func71 zk rfl #[.slice A0 l0.length c0] rfl zX ?_; (with_reducible refine (bignat_trim.calls k (fun k_ => k_ < w.heap.size) _ _ l0 t547 _ ?side1 A3.out).mono ?_); (case side1 => exact Kd.V_mk HC0.out (Kd.F_below (Kd.C_F (Kd.heap_int .u32) HR0.out) (zb HB rfl))); rintro e w35 ⟨v548, rfl, ho0, hb⟩; refine ⟨_, rfl, ?_⟩; have HO549 := zvl ho0 HB rfl; replace HB := zbb HB hb rfl; obtain ⟨Ao36, co36, eo36⟩ := Kd.V_slice HO549.out; subst eo36) | ((with_reducible refine gate_callee (f := 70) rfl ?_); refine goesL_ (some 12) rfl rfl Tryd.func70 zk rfl #[.slice Ao36 t547.length co36] rfl zX ?_; (with_reducible refine (bignat_BitLen.calls k _ _ t547 t550 _ ?side1 ?side2 A4.out).mono ?_); (case side1 => exact zC (Kd.V_reads' HO549.out).2.2); (case side2 => exact (Kd.V_reads' HO549.out).2.1); rintro e w37 ⟨rfl, hb⟩; refine ⟨_, rfl, ?_⟩; replace HO549 := zA (Kd.V_below (zv HO549 rfl) hb); replace HB := zbb HB hb rfl) | ((with_reducible refine gate_callee (f := 22) rfl ?_); refine goesL_ (some 39) rfl rfl Tryd.func22 zk rfl #[.int .u64 1] rfl zX ?_; (with_reducible refine (bignat_FromUint64.calls 1 t557 _ A33.out).mono ?_); rintro e w38 ⟨v558, rfl, ho0, hb⟩; refine ⟨_, rfl, ?_⟩; replace HO549 := zA (Kd.V_elder' (zv HO549 rfl) (Kd.R_base ho0) hb); have HO559 := zlo ho0 HB rfl; replace HB := zbb HB hb rfl) | ((with_reducible refine gate_callee (f := 86) rfl ?_); refine goesL_ (some 42) rfl rfl Tryd.func86 zk rfl #[.int .u64 (IntKind.u64.wrap (a1))] rfl zX ?_; (with_reducible refine (bits_Len.calls k (IntKind.u64.wrap (a1)) t560 _ A34.out).mono ?_); rintro e w' ⟨rfl, ⟨nd, rfl⟩⟩; refine ⟨_, rfl, ?_⟩))
 go_loopg [7, 8] k (fun kq v7 v8 w' => ∃ (x7_1 : List Int) (x8_1 : Int), v8 = .int .i64 x8_1 ∧ Aside0 (bignat_Pow.l0 kq t547 a1 x7_1 x8_1 = some (r1, r2)) ∧ Aside0 (kq ≤ k) ∧ Aside0 (Kd.V (Kd.int .u32) 37 w' w.heap.size (fun k_ => some k_ ≠ (v7 : Value).ownBlock) (.slice Ao36 t547.length co36) t547) ∧ Aside0 (Kd.R (Kd.int .u32) 37 w' w.heap.size (fun _ => True) v7 x7_1) ∧ Aside0 (Below w.heap.size w w'))
 case atStart => exact ⟨(t557), (wrap64 (t560 - 1)), zS, H', ⟨Nat.le_refl _⟩, ⟨zVM HO549.out (fun _ hk => hk.2)⟩, ⟨zR HO559.out⟩, ⟨zH⟩⟩
 case round =>
  clear H';obtain ⟨x7_1, x8_1, rfl, HA, HK1, HO_0, HO_7, HB⟩ := hrel;cases gk with
  | zero => exact absurd HA.out (by simp [bignat_Pow.l0])
  | succ k1 =>
   have H := HA.out;clear HA;simp only [bignat_Pow.l0] at H;by_cases c39 : x8_1 ≥ 0
   ·rw [if_pos c39] at H;have c39b0 : decide (0 ≤ x8_1) = true := decide_eq_true c39;clear c39;obtain ⟨t562, A400, H⟩ := zi H;have A40 := zA A400;clear A400;by_cases c41 : 0 ≤ x8_1
    ·rw [if_pos c41] at H;have c41b0 := eq_true c41;have c41b1 := decide_eq_true c41;clear c41;obtain ⟨ji42, hji42⟩ : ∃ j_ : Int, (shr .i64 a1 x8_1) = j_ := ⟨_, rfl⟩
     first | rw [hji42] at H | simp only [hji42] at H
     (try rw [hji42] at A40);have hji42_ : (a1 / 2 ^ min x8_1.toNat 64) = ji42 := hji42;have hji42z : x8_1 ≤ 64 → (a1 / 2 ^ x8_1.toNat) = ji42 := shr_small hji42;by_cases c43 : (Go.bits .and .i64 (ji42) 1) = 1
     ·rw [if_pos c43] at H;have c43b0 := beq_iff_eq.mpr c43;have c43b1 := bne_eq_false_iff_eq.mpr c43;clear c43;obtain ⟨t565, A440, H⟩ := zi H;have A44 := zA A440;clear A440;have H' := zA H;clear H;obtain ⟨Ao45, co45, eo45⟩ := Kd.R_slice HO_7.out;subst eo45
      go_wp2_with (first | ((with_reducible refine gate_callee (f := 33) rfl ?_); refine goesL_ (some 50) rfl rfl Tryd.func33 zk rfl #[.slice Ao45 x7_1.length co45, .slice Ao45 x7_1.length co45] rfl zX ?_; (with_reducible refine (bignat_Mul.calls k1 _ _ x7_1 _ _ x7_1 t562 _ ?side1 ?side2 ?side3 ?side4 A40.out).mono ?_); (case side1 => exact zC (Kd.R_reads' HO_7.out).2.2); (case side2 => exact (Kd.R_reads' HO_7.out).2.1); (case side3 => exact zC (Kd.R_reads' HO_7.out).2.2); (case side4 => exact (Kd.R_reads' HO_7.out).2.1); rintro e w46 ⟨v563, rfl, ho0, hb⟩; refine ⟨_, rfl, ?_⟩; replace HO_0 := zA (Kd.V_elder' (zv HO_0 rfl) (Kd.R_base ho0) hb); have HO564 := zA (Kd.R_lower (zN ho0 HO_7 rfl) (below_size (zb HB rfl))); replace HO_7 := zre HO_7 hb ho0 rfl; replace HB := zbb HB hb rfl; obtain ⟨Ao47, co47, eo47⟩ := Kd.R_slice HO564.out; subst eo47) | ((with_reducible refine gate_callee (f := 33) rfl ?_); refine goesL_ (some 58) rfl rfl Tryd.func33 zk rfl #[.slice Ao47 t562.length co47, .slice Ao36 t547.length co36] rfl zX ?_; (with_reducible refine (bignat_Mul.calls k1 _ _ t562 _ _ t547 t565 _ ?side1 ?side2 ?side3 ?side4 A44.out).mono ?_); (case side1 => exact zC (Kd.R_reads' HO564.out).2.2); (case side2 => exact (Kd.R_reads' HO564.out).2.1); (case side3 => exact zC (Kd.V_reads' HO_0.out).2.2); (case side4 => exact (Kd.V_reads' HO_0.out).2.1); rintro e w48 ⟨v566, rfl, ho0, hb⟩; refine ⟨_, rfl, ?_⟩; replace HO_0 := zA (Kd.V_elder' (zv HO_0 rfl) (Kd.R_base ho0) hb); have HO567 := zA (Kd.R_lower (zN (zN ho0 HO_7 rfl) HO564 rfl) (below_size (zb HB rfl))); replace HO_7 := zre HO_7 hb ho0 rfl; replace HO564 := zre HO564 hb ho0 rfl; replace HB := zbb HB hb rfl))
      go_roundg k1
      case measure => have := HK1.out; omega
      case rel => exact ⟨(t565), (wrap64 (x8_1 - 1)), zS, H', ⟨by have := HK1.out; omega⟩, ⟨zVM HO_0.out (fun _ hk => hk.2)⟩, ⟨zRM HO567.out (fun _ hk => trivial)⟩, ⟨zH⟩⟩
     rw [if_neg c43] at H;have c43b0 := beq_eq_false_iff_ne.mpr c43;have c43b1 := bne_iff_ne.mpr c43;have H' := zA H;clear H;obtain ⟨Ao49, co49, eo49⟩ := Kd.R_slice HO_7.out;subst eo49
     go_wp2_with (first | ((with_reducible refine gate_callee (f := 33) rfl ?_); refine goesL_ (some 50) rfl rfl Tryd.func33 zk rfl #[.slice Ao49 x7_1.length co49, .slice Ao49 x7_1.length co49] rfl zX ?_; (with_reducible refine (bignat_Mul.calls k1 _ _ x7_1 _ _ x7_1 t562 _ ?side1 ?side2 ?side3 ?side4 A40.out).mono ?_); (case side1 => exact zC (Kd.R_reads' HO_7.out).2.2); (case side2 => exact (Kd.R_reads' HO_7.out).2.1); (case side3 => exact zC (Kd.R_reads' HO_7.out).2.2); (case side4 => exact (Kd.R_reads' HO_7.out).2.1); rintro e w50 ⟨v563, rfl, ho0, hb⟩; refine ⟨_, rfl, ?_⟩; replace HO_0 := zA (Kd.V_elder' (zv HO_0 rfl) (Kd.R_base ho0) hb); have HO564 := zA (Kd.R_lower (zN ho0 HO_7 rfl) (below_size (zb HB rfl))); replace HO_7 := zre HO_7 hb ho0 rfl; replace HB := zbb HB hb rfl))
     go_roundg k1
     case measure => have := HK1.out; omega
     case rel => exact ⟨(t562), (wrap64 (x8_1 - 1)), zS, H', ⟨by have := HK1.out; omega⟩, ⟨zVM HO_0.out (fun _ hk => hk.2)⟩, ⟨zRM HO564.out (fun _ hk => trivial)⟩, ⟨zH⟩⟩
    rw [if_neg c41] at H;cases H
   rw [if_neg c39] at H;have c39b0 : decide (0 ≤ x8_1) = false := decide_eq_false c39;clear c39;obtain ⟨t561, A510, H⟩ := zi H;have A51 := zA A510;clear A510;by_cases c52 : t561 > 65536
   ·rw [if_pos c52] at H;have c52b0 : decide (65536 < t561) = true := decide_eq_true c52;clear c52;simp only [Option.some.injEq, Prod.mk.injEq] at H;obtain ⟨rfl, rfl⟩ := H;obtain ⟨Ao53, co53, eo53⟩ := Kd.R_slice HO_7.out;subst eo53
    go_wp2_with (first | ((with_reducible refine gate_callee (f := 70) rfl ?_); refine goesL_ (some 60) rfl rfl Tryd.func70 zk rfl #[.slice Ao53 x7_1.length co53] rfl zX ?_; (with_reducible refine (bignat_BitLen.calls k1 _ _ x7_1 t561 _ ?side1 ?side2 A51.out).mono ?_); (case side1 => exact zC (Kd.R_reads' HO_7.out).2.2); (case side2 => exact (Kd.R_reads' HO_7.out).2.1); rintro e w54 ⟨rfl, hb⟩; refine ⟨_, rfl, ?_⟩; replace HO_0 := zA (Kd.V_below (zv HO_0 rfl) hb); replace HO_7 := zrb HO_7 hb rfl; replace HB := zbb HB hb rfl))
    go_ret2
    exact ⟨_, zE, by first | exact Kd.R_nil _ _ _ _ _ | exact Kd.V_nil _ _ _ _ _, zH⟩
   rw [if_neg c52] at H;have c52b0 : decide (65536 < t561) = false := decide_eq_false c52;clear c52;simp only [Option.some.injEq, Prod.mk.injEq] at H;obtain ⟨rfl, rfl⟩ := H;obtain ⟨Ao55, co55, eo55⟩ := Kd.R_slice HO_7.out;subst eo55
   go_wp2_with (first | ((with_reducible refine gate_callee (f := 70) rfl ?_); refine goesL_ (some 60) rfl rfl Tryd.func70 zk rfl #[.slice Ao55 x7_1.length co55] rfl zX ?_; (with_reducible refine (bignat_BitLen.calls k1 _ _ x7_1 t561 _ ?side1 ?side2 A51.out).mono ?_); (case side1 => exact zC (Kd.R_reads' HO_7.out).2.2); (case side2 => exact (Kd.R_reads' HO_7.out).2.1); rintro e w56 ⟨rfl, hb⟩; refine ⟨_, rfl, ?_⟩; replace HO_0 := zA (Kd.V_below (zv HO_0 rfl) hb); replace HO_7 := zrb HO_7 hb rfl; replace HB := zbb HB hb rfl))
   go_ret2
   exact ⟨_, zE, zR HO_7.out, zH⟩

mutual
def rational_Parse.j2 : Nat → Bool → ByteArray → ByteArray → Bool → Option (Bool × List Int × List Int × Int)
 | 0, _, _, _, _ => none
 | k + 1, x5, x6, x7, x85 => if x85 = true then (some (false, ([] : List Int), ([] : List Int), 2)) else ((rational_number.f k x7).bind fun t612 => (if (t612.length : Int) = 0 then (some (false, ([] : List Int), ([] : List Int), 20)) else ((rational_number.f k x6).bind fun t615 => ((rational_reduce.f k x5 t615 t612).bind fun bt618 => (some (bt618.1, bt618.2.1, bt618.2.2, 0))))))
def rational_Parse.j0 : Nat → ByteArray → Bool → ByteArray → ByteArray → Bool → Bool → Option (Bool × List Int × List Int × Int)
 | 0, _, _, _, _, _, _ => none
 | k + 1, x4, x5, x9, x10, x11, x38 => if x38 = true then ((rational_number.f k x4).bind fun t578 => ((rational_one.f).bind fun t581 => ((rational_reduce.f k x5 t578 t581).bind fun bt584 => (some (bt584.1, bt584.2.1, bt584.2.2, 0))))) else (if x11 = true then ((rational_digits.f k x9).bind fun t591 => (if t591 = true then ((rational_digits.f k x10).bind fun t592 => (rational_Parse.j1 k x5 x9 x10 (!t592))) else (rational_Parse.j1 k x5 x9 x10 true))) else (rational_Parse.j1 k x5 x9 x10 true))
def rational_Parse.j1 : Nat → Bool → ByteArray → ByteArray → Bool → Option (Bool × List Int × List Int × Int)
 | 0, _, _, _, _ => none
 | k + 1, x5, x9, x10, x50 => if x50 = true then (some (false, ([] : List Int), ([] : List Int), 2)) else ((bignat_Pow.f k (([10] : List Int)) (x10.size : Int)).bind fun bt596 => (if x9.size + x10.size ≤ 9223372036854775807 then ((rational_number.f k (x9 ++ x10)).bind fun t600 => ((rational_reduce.f k x5 t600 bt596.1).bind fun bt603 => (some (bt603.1, bt603.2.1, bt603.2.2, 0)))) else (none)))
end
def rational_Parse.f (k : Nat) (a0 : ByteArray) : Option (Bool × List Int × List Int × Int) := if (a0.size : Int) > 4000 then (some (false, ([] : List Int), ([] : List Int), 4)) else ((strings_CutPrefix.f a0 (⟨#[45]⟩ : ByteArray)).bind fun bt569 => ((strings_Cut.f bt569.1 (⟨#[47]⟩ : ByteArray)).bind fun bt571 => (if bt571.2.2 = true then ((rational_digits.f k bt571.1).bind fun t610 => (if t610 = true then ((rational_digits.f k bt571.2.1).bind fun t611 => (rational_Parse.j2 k bt569.2 bt571.1 bt571.2.1 (!t611))) else (rational_Parse.j2 k bt569.2 bt571.1 bt571.2.1 true))) else ((strings_Cut.f bt569.1 (⟨#[46]⟩ : ByteArray)).bind fun bt574 => (if bt574.2.2 = true then (rational_Parse.j0 k bt569.1 bt569.2 bt574.1 bt574.2.1 bt574.2.2 false) else ((rational_digits.f k bt569.1).bind fun t577 => (rational_Parse.j0 k bt569.1 bt569.2 bt574.1 bt574.2.1 bt574.2.2 t577)))))))
theorem rational_Parse.mono_l : ∀ k, (∀ y0 y1 y2 y3, LeO (rational_Parse.j2 k y0 y1 y2 y3) (rational_Parse.j2 (k + 1) y0 y1 y2 y3)) ∧ (∀ y0 y1 y2 y3 y4 y5, LeO (rational_Parse.j0 k y0 y1 y2 y3 y4 y5) (rational_Parse.j0 (k + 1) y0 y1 y2 y3 y4 y5)) ∧ (∀ y0 y1 y2 y3, LeO (rational_Parse.j1 k y0 y1 y2 y3) (rational_Parse.j1 (k + 1) y0 y1 y2 y3))
 | 0 => ⟨fun _ _ _ _ r h => by simp [rational_Parse.j2] at h, fun _ _ _ _ _ _ r h => by simp [rational_Parse.j0] at h, fun _ _ _ _ r h => by simp [rational_Parse.j1] at h⟩
 | k + 1 => by
  obtain ⟨ih0, ih1, ih2⟩ := rational_Parse.mono_l k
  refine ⟨?_, ?_, ?_⟩
  ·intro y0 y1 y2 y3
   unfold rational_Parse.j2
   exact zm7 ih0 ih1 ih2 bignat_Pow.mono rational_digits.mono rational_number.mono rational_reduce.mono
  ·intro y0 y1 y2 y3 y4 y5
   unfold rational_Parse.j0
   exact zm7 ih0 ih1 ih2 bignat_Pow.mono rational_digits.mono rational_number.mono rational_reduce.mono
  intro y0 y1 y2 y3
  unfold rational_Parse.j1
  exact zm7 ih0 ih1 ih2 bignat_Pow.mono rational_digits.mono rational_number.mono rational_reduce.mono
theorem rational_Parse.mono : ∀ a0 k, LeO (rational_Parse.f k a0) (rational_Parse.f (k + 1) a0) := by
 intro a0 k;obtain ⟨ih0, ih1, ih2⟩ := rational_Parse.mono_l k;unfold rational_Parse.f;exact zm7 ih0 ih1 ih2 bignat_Pow.mono rational_digits.mono rational_number.mono rational_reduce.mono
set_option maxHeartbeats 8000000 in
set_option maxRecDepth 100000 in
theorem rational_Parse.calls (k : Nat) (a0 : ByteArray) (r1 : Bool) (r2 : List Int) (r3 : List Int) (r4 : Int) (w : World) (h : rational_Parse.f k a0 = some (r1, r2, r3, r4)) :
 Calls Tryd.prog 16 #[.string a0] w fun e w' => ∃ v1_ v2_ : Value, e = .returned (.tuple #[.agg #[.bool r1, v1_, v2_], .int .i64 r4]) ∧ Kd.R (Kd.int .u32) 37 w' w.heap.size (fun k_ => some k_ ≠ (v2_ : Value).ownBlock) v1_ r2 ∧ Kd.R (Kd.int .u32) 37 w' w.heap.size (fun k_ => some k_ ≠ (v1_ : Value).ownBlock) v2_ r3 ∧ Below w.heap.size w w' := by
 have hu25 := Tryd.underlying25;have HB := zA (Below.refl w.heap.size w);have H : (if (a0.size : Int) > 4000 then (some (false, ([] : List Int), ([] : List Int), 4)) else ((strings_CutPrefix.f a0 (⟨#[45]⟩ : ByteArray)).bind fun bt569 => ((strings_Cut.f bt569.1 (⟨#[47]⟩ : ByteArray)).bind fun bt571 => (if bt571.2.2 = true then ((rational_digits.f k bt571.1).bind fun t610 => (if t610 = true then ((rational_digits.f k bt571.2.1).bind fun t611 => (rational_Parse.j2 k bt569.2 bt571.1 bt571.2.1 (!t611))) else (rational_Parse.j2 k bt569.2 bt571.1 bt571.2.1 true))) else ((strings_Cut.f bt569.1 (⟨#[46]⟩ : ByteArray)).bind fun bt574 => (if bt574.2.2 = true then (rational_Parse.j0 k bt569.1 bt569.2 bt574.1 bt574.2.1 bt574.2.2 false) else ((rational_digits.f k bt569.1).bind fun t577 => (rational_Parse.j0 k bt569.1 bt569.2 bt574.1 bt574.2.1 bt574.2.2 t577)))))))) = some (r1, r2, r3, r4) := h;clear h;by_cases c2 : (a0.size : Int) > 4000
 ·rw [if_pos c2] at H;have c2b0 : decide (4000 < (a0.size : Int)) = true := decide_eq_true c2;have c2b1 : decide (4000 < a0.size) = true := decide_eq_true (by omega);clear c2;simp only [Option.some.injEq, Prod.mk.injEq] at H;obtain ⟨rfl, rfl, rfl, rfl⟩ := H;go_enter Tryd.func16, Tryd.ntmps16
  go_wp2_with (first | ((with_reducible refine gate_dst (N := 2) rfl ?_); refine zbox 2 #[.bool false, .slice none 0 0, .slice none 0 0] 25 ?_; intro gb568 hg w3 hbox hb; have BK568 := zA (hbox); have GW568 := zg HB hg rfl; have GE568 := zg HB hg rfl; replace HB := zbb HB hb rfl; clear hb hbox hg; have hcz4_0 := zc BK568 0 (v := .bool false) rfl; have hcz4_1 := zc BK568 1 (v := .slice none 0 0) rfl; have hcz4_2 := zc BK568 2 (v := .slice none 0 0) rfl; have hfz4_0 := zF BK568 0; have hfz4_1 := zF BK568 1; have hfz4_2 := zF BK568 2))
  refine bodyPost_ret (results_ct rfl _ _ gb568 25 #[.bool false, .slice none 0 0, .slice none 0 0] (0, 0) _ rfl (zQ BK568.out) Tryd.underlying25 rfl zk) rfl ?_;exact ⟨_, _, zE, by first | exact Kd.R_nil _ _ _ _ _ | exact Kd.V_nil _ _ _ _ _, by first | exact Kd.R_nil _ _ _ _ _ | exact Kd.V_nil _ _ _ _ _, zG1 GE568.out⟩
 rw [if_neg c2] at H;have c2b0 : decide (4000 < (a0.size : Int)) = false := decide_eq_false c2;have c2b1 : decide (4000 < a0.size) = false := decide_eq_false (by omega);clear c2;obtain ⟨⟨t569, t570⟩, A50, H⟩ := zi H;dsimp only at H;have A5 := zA A50;clear A50;obtain ⟨⟨t571, t572, t573⟩, A60, H⟩ := zi H;dsimp only at H;have A6 := zA A60;clear A60;by_cases c7 : t573 = true
 ·subst c7;have H1 : ((rational_digits.f k t571).bind fun t610 => (if t610 = true then ((rational_digits.f k t572).bind fun t611 => (rational_Parse.j2 k t570 t571 t572 (!t611))) else (rational_Parse.j2 k t570 t571 t572 true))) = some (r1, r2, r3, r4) := by rw [if_pos rfl] at H; exact H
  clear H;have H := H1;clear H1;have HC8 := zA H;clear H;go_enter Tryd.func16, Tryd.ntmps16
  go_upto_region 13 with (first | ((with_reducible refine gate_dst (N := 2) rfl ?_); refine zbox 2 #[.bool false, .slice none 0 0, .slice none 0 0] 25 ?_; intro gb568 hg w9 hbox hb; have BK568 := zA (hbox); have GW568 := zg HB hg rfl; have GE568 := zg HB hg rfl; replace HB := zbb HB hb rfl; clear hb hbox hg) | ((with_reducible refine gate_callee (f := 52) rfl ?_); refine goesL_ (some 21) rfl rfl Tryd.func52 zk rfl #[.string a0, .string (⟨#[45]⟩ : ByteArray)] rfl zX ?_; (with_reducible refine (strings_CutPrefix.calls a0 (⟨#[45]⟩ : ByteArray) t569 t570 _ A5.out).mono ?_); rintro e w' ⟨rfl, ⟨nd, rfl⟩⟩; refine ⟨_, rfl, ?_⟩) | ((with_reducible refine gate_callee (f := 53) rfl ?_); refine goesL_ (some 26) rfl rfl Tryd.func53 zk rfl #[.string t569, .string (⟨#[47]⟩ : ByteArray)] rfl zX ?_; (with_reducible refine (strings_Cut.calls t569 (⟨#[47]⟩ : ByteArray) t571 t572 true _ A6.out).mono ?_); rintro e w' ⟨rfl, ⟨nd, rfl⟩⟩; refine ⟨_, rfl, ?_⟩))
  (try simp only [Act.put, List.setIfInBounds_toArray, List.set_cons_zero, List.set_cons_succ])
  go_cut [85] (fun v85 wc => ∃ (kq : Nat) (x85_7 : Bool), v85 = .bool x85_7 ∧ Aside0 (rational_Parse.j2 kq t570 t571 t572 x85_7 = some (r1, r2, r3, r4)) ∧ Aside0 (kq ≤ k) ∧ Aside0 (wc.heap[gb568]? = some (.cells #[.bool false, (.slice none 0 0), (.slice none 0 0)] 25 (0, 0))) ∧ Aside0 (Below w.heap.size w wc))
  case first =>
   have H := HC8.out;clear HC8;obtain ⟨t610, A100, H⟩ := zi H;have A10 := zA A100;clear A100;by_cases c11 : t610 = true
   ·subst c11;have H1 : ((rational_digits.f k t572).bind fun t611 => (rational_Parse.j2 k t570 t571 t572 (!t611))) = some (r1, r2, r3, r4) := by rw [if_pos rfl] at H; exact H
    clear H;have H := H1;clear H1;obtain ⟨t611, A120, H⟩ := zi H;have A12 := zA A120;clear A120;have H' := zA H;clear H
    go_wp2_with (first | ((with_reducible refine gate_callee (f := 54) rfl ?_); refine goesL_ (some 79) rfl rfl Tryd.func54 zk rfl #[.string t571] rfl zX ?_; (with_reducible refine (rational_digits.calls k t571 true _ A10.out).mono ?_); rintro e w' ⟨rfl, ⟨nd, rfl⟩⟩; refine ⟨_, rfl, ?_⟩) | (go_at_call 54; (with_reducible refine (rational_digits.calls k t572 t611 _ A12.out).mono ?_); rintro e w' ⟨rfl, ⟨nd, rfl⟩⟩))
    go_meet
    case rel => exact ⟨_, (!t611), zS, H', ⟨by first | omega | exact Nat.le_refl _⟩, ⟨zB BK568.out⟩, ⟨zG1 GE568.out⟩⟩
   replace c11 := Bool.eq_false_iff.mpr c11;subst c11;have H1 : (rational_Parse.j2 k t570 t571 t572 true) = some (r1, r2, r3, r4) := by rw [if_neg (show ¬ (false = true) by decide)] at H; exact H
   clear H;have H := H1;clear H1;have H' := zA H;clear H
   go_wp2_with (first | ((with_reducible refine gate_callee (f := 54) rfl ?_); refine goesL_ (some 79) rfl rfl Tryd.func54 zk rfl #[.string t571] rfl zX ?_; (with_reducible refine (rational_digits.calls k t571 false _ A10.out).mono ?_); rintro e w' ⟨rfl, ⟨nd, rfl⟩⟩; refine ⟨_, rfl, ?_⟩))
   go_meet
   case rel => exact ⟨_, (true), zS, H', ⟨by first | omega | exact Nat.le_refl _⟩, ⟨zB BK568.out⟩, ⟨zG1 GE568.out⟩⟩
  case rest =>
   clear HC8
   try clear hcz4_0
   try clear hcz4_1
   try clear hcz4_2
   try clear hfz4_0
   try clear hfz4_1
   try clear hfz4_2
   obtain ⟨kq, x85_7, rfl, HA, HJ7, BK568, HB⟩ := hcut;cases kq with
   | zero => exact absurd HA.out (by simp [rational_Parse.j2])
   | succ kj7 =>
    have H := HA.out;clear HA;simp only [rational_Parse.j2] at H;by_cases c13 : x85_7 = true
    ·subst c13;have H1 : (some (false, ([] : List Int), ([] : List Int), 2)) = some (r1, r2, r3, r4) := by rw [if_pos rfl] at H; exact H
     clear H;have H := H1;clear H1;simp only [Option.some.injEq, Prod.mk.injEq] at H;obtain ⟨rfl, rfl, rfl, rfl⟩ := H;have hcz14_0 := zc BK568 0 (v := .bool false) rfl;have hcz14_1 := zc BK568 1 (v := .slice none 0 0) rfl;have hcz14_2 := zc BK568 2 (v := .slice none 0 0) rfl;have hfz14_0 := zF BK568 0;have hfz14_1 := zF BK568 1;have hfz14_2 := zF BK568 2
     go_wp2
     refine bodyPost_ret (results_ct rfl _ _ gb568 25 #[.bool false, .slice none 0 0, .slice none 0 0] (0, 0) _ rfl (zQ BK568.out) Tryd.underlying25 rfl zk) rfl ?_;exact ⟨_, _, zE, by first | exact Kd.R_nil _ _ _ _ _ | exact Kd.V_nil _ _ _ _ _, by first | exact Kd.R_nil _ _ _ _ _ | exact Kd.V_nil _ _ _ _ _, zG1 GE568.out⟩
    replace c13 := Bool.eq_false_iff.mpr c13;subst c13;have H1 : ((rational_number.f kj7 t572).bind fun t612 => (if (t612.length : Int) = 0 then (some (false, ([] : List Int), ([] : List Int), 20)) else ((rational_number.f kj7 t571).bind fun t615 => ((rational_reduce.f kj7 t570 t615 t612).bind fun bt618 => (some (bt618.1, bt618.2.1, bt618.2.2, 0)))))) = some (r1, r2, r3, r4) := by rw [if_neg (show ¬ (false = true) by decide)] at H; exact H
    clear H;have H := H1;clear H1;obtain ⟨t612, A150, H⟩ := zi H;have A15 := zA A150;clear A150;by_cases c16 : (t612.length : Int) = 0
    ·rw [if_pos c16] at H;have c16b0 := beq_iff_eq.mpr c16;have c16b1 := bne_eq_false_iff_eq.mpr c16;clear c16;simp only [Option.some.injEq, Prod.mk.injEq] at H;obtain ⟨rfl, rfl, rfl, rfl⟩ := H
     go_wp2_with (first | ((with_reducible refine gate_callee (f := 55) rfl ?_); refine goesL_ (some 88) rfl rfl Tryd.func55 zk rfl #[.string t572] rfl zX ?_; (with_reducible refine (rational_number.calls kj7 t572 t612 _ A15.out).mono ?_); rintro e w17 ⟨v613, rfl, ho0, hb⟩; refine ⟨_, rfl, ?_⟩; have HO614 := zlo ho0 HB rfl; replace BK568 := zkb BK568 hb; replace HB := zbb HB hb rfl; obtain ⟨Ao18, co18, eo18⟩ := Kd.R_slice HO614.out; subst eo18; have hcz19_0 := zc BK568 0 (v := .bool false) rfl; have hcz19_1 := zc BK568 1 (v := .slice none 0 0) rfl; have hcz19_2 := zc BK568 2 (v := .slice none 0 0) rfl; have hfz19_0 := zF BK568 0; have hfz19_1 := zF BK568 1; have hfz19_2 := zF BK568 2))
     refine bodyPost_ret (results_ct rfl _ _ gb568 25 #[.bool false, .slice none 0 0, .slice none 0 0] (0, 0) _ rfl (zQ BK568.out) Tryd.underlying25 rfl zk) rfl ?_;exact ⟨_, _, zE, by first | exact Kd.R_nil _ _ _ _ _ | exact Kd.V_nil _ _ _ _ _, by first | exact Kd.R_nil _ _ _ _ _ | exact Kd.V_nil _ _ _ _ _, zG1 GE568.out⟩
    rw [if_neg c16] at H;have c16b0 := beq_eq_false_iff_ne.mpr c16;have c16b1 := bne_iff_ne.mpr c16;have c16b2 : ¬ (t612 = []) := fun h_ => c16 (by rw [h_]; rfl)
    obtain ⟨t615, A200, H⟩ := zi H;have A20 := zA A200;clear A200;obtain ⟨⟨t618, t619, t622⟩, A210, H⟩ := zi H;dsimp only at H;have A21 := zA A210;clear A210;simp only [Option.some.injEq, Prod.mk.injEq] at H;obtain ⟨rfl, rfl, rfl, rfl⟩ := H
    go_wp2_with (first | ((with_reducible refine gate_callee (f := 55) rfl ?_); refine goesL_ (some 88) rfl rfl Tryd.func55 zk rfl #[.string t572] rfl zX ?_; (with_reducible refine (rational_number.calls kj7 t572 t612 _ A15.out).mono ?_); rintro e w22 ⟨v613, rfl, ho0, hb⟩; refine ⟨_, rfl, ?_⟩; have HO614 := zlo ho0 HB rfl; replace BK568 := zkb BK568 hb; replace HB := zbb HB hb rfl; obtain ⟨Ao23, co23, eo23⟩ := Kd.R_slice HO614.out; subst eo23) | ((with_reducible refine gate_callee (f := 55) rfl ?_); refine goesL_ (some 95) rfl rfl Tryd.func55 zk rfl #[.string t571] rfl zX ?_; (with_reducible refine (rational_number.calls kj7 t571 t615 _ A20.out).mono ?_); rintro e w24 ⟨v616, rfl, ho0, hb⟩; refine ⟨_, rfl, ?_⟩; have HO617 := zA (Kd.R_lower (zN ho0 HO614 rfl) (below_size (zb HB rfl))); replace HO614 := zre HO614 hb ho0 rfl; replace BK568 := zkb BK568 hb; replace HB := zbb HB hb rfl; obtain ⟨Ao25, co25, eo25⟩ := Kd.R_slice HO617.out; subst eo25) | ((with_reducible refine gate_callee (f := 46) rfl ?_); refine goesL_ (some 97) rfl rfl Tryd.func46 zk rfl #[.bool t570, .slice Ao25 t615.length co25, .slice Ao23 t612.length co23] rfl zX ?_; (with_reducible refine (rational_reduce.calls kj7 t570 _ _ t615 _ _ t612 t618 t619 t622 _ ?side1 ?side2 ?side3 ?side4 A21.out).mono ?_); (case side1 => exact zC (Kd.R_reads' HO617.out).2.2); (case side2 => exact (Kd.R_reads' HO617.out).2.1); (case side3 => exact zC (Kd.R_reads' HO614.out).2.2); (case side4 => exact (Kd.R_reads' HO614.out).2.1); rintro e w26 ⟨v620, v623, rfl, ho0, ho1, hb⟩; refine ⟨_, rfl, ?_⟩; have HO621 := zA (Kd.R_lower (zN (zN ho0 HO614 rfl) HO617 rfl) (below_size (zb HB rfl))); have HO624 := zA (Kd.R_lower (zN (zN ho1 HO614 rfl) HO617 rfl) (below_size (zb HB rfl))); replace HO614 := zt2 HO614 hb ho0 ho1 rfl; replace HO617 := zt2 HO617 hb ho0 ho1 rfl; replace BK568 := zkb BK568 hb; replace HB := zbb HB hb rfl; have hcz27_0 := zc BK568 0 (v := .bool false) rfl; have hcz27_1 := zc BK568 1 (v := .slice none 0 0) rfl; have hcz27_2 := zc BK568 2 (v := .slice none 0 0) rfl; have hfz27_0 := zF BK568 0; have hfz27_1 := zF BK568 1; have hfz27_2 := zF BK568 2; obtain ⟨Ao28, co28, eo28⟩ := Kd.R_slice HO621.out; subst eo28; obtain ⟨Ao29, co29, eo29⟩ := Kd.R_slice HO624.out; subst eo29))
    refine bodyPost_ret (results_ct rfl _ _ gb568 25 #[.bool t618, .slice Ao28 t619.length co28, .slice Ao29 t622.length co29] (0, 0) _ rfl (zQ BK568.out) Tryd.underlying25 rfl zk) rfl ?_;exact ⟨_, _, zE, zRM (Kd.R_far (p := ⟨gb568, 2, none⟩) (Kd.R_far (p := ⟨gb568, 1, none⟩) (Kd.R_far (p := ⟨gb568, 0, none⟩) (Kd.R_types HO621.out BK568.out (by decide)) (fun _ hk => hk.2) (.bool t618)) (fun _ hk => hk.2) (.slice Ao28 t619.length co28)) (fun _ hk => hk.2) (.slice Ao29 t622.length co29)) (fun _ hk => hk.1.1.1), zRM (Kd.R_far (p := ⟨gb568, 2, none⟩) (Kd.R_far (p := ⟨gb568, 1, none⟩) (Kd.R_far (p := ⟨gb568, 0, none⟩) (Kd.R_types HO624.out BK568.out (by decide)) (fun _ hk => hk.2) (.bool t618)) (fun _ hk => hk.2) (.slice Ao28 t619.length co28)) (fun _ hk => hk.2) (.slice Ao29 t622.length co29)) (fun _ hk => hk.1.1.1), zG1 GE568.out⟩
 replace c7 := Bool.eq_false_iff.mpr c7;subst c7;have H1 : ((strings_Cut.f t569 (⟨#[46]⟩ : ByteArray)).bind fun bt574 => (if bt574.2.2 = true then (rational_Parse.j0 k t569 t570 bt574.1 bt574.2.1 bt574.2.2 false) else ((rational_digits.f k t569).bind fun t577 => (rational_Parse.j0 k t569 t570 bt574.1 bt574.2.1 bt574.2.2 t577)))) = some (r1, r2, r3, r4) := by rw [if_neg (show ¬ (false = true) by decide)] at H; exact H
 clear H;have H := H1;clear H1;obtain ⟨⟨t574, t575, t576⟩, A300, H⟩ := zi H;dsimp only at H;have A30 := zA A300;clear A300;have HC31 := zA H;clear H;go_enter Tryd.func16, Tryd.ntmps16
 go_upto_region 7 with (first | ((with_reducible refine gate_dst (N := 2) rfl ?_); refine zbox 2 #[.bool false, .slice none 0 0, .slice none 0 0] 25 ?_; intro gb568 hg w32 hbox hb; have BK568 := zA (hbox); have GW568 := zg HB hg rfl; have GE568 := zg HB hg rfl; replace HB := zbb HB hb rfl; clear hb hbox hg) | ((with_reducible refine gate_callee (f := 52) rfl ?_); refine goesL_ (some 21) rfl rfl Tryd.func52 zk rfl #[.string a0, .string (⟨#[45]⟩ : ByteArray)] rfl zX ?_; (with_reducible refine (strings_CutPrefix.calls a0 (⟨#[45]⟩ : ByteArray) t569 t570 _ A5.out).mono ?_); rintro e w' ⟨rfl, ⟨nd, rfl⟩⟩; refine ⟨_, rfl, ?_⟩) | ((with_reducible refine gate_callee (f := 53) rfl ?_); refine goesL_ (some 26) rfl rfl Tryd.func53 zk rfl #[.string t569, .string (⟨#[47]⟩ : ByteArray)] rfl zX ?_; (with_reducible refine (strings_Cut.calls t569 (⟨#[47]⟩ : ByteArray) t571 t572 false _ A6.out).mono ?_); rintro e w' ⟨rfl, ⟨nd, rfl⟩⟩; refine ⟨_, rfl, ?_⟩) | ((with_reducible refine gate_callee (f := 53) rfl ?_); refine goesL_ (some 34) rfl rfl Tryd.func53 zk rfl #[.string t569, .string (⟨#[46]⟩ : ByteArray)] rfl zX ?_; (with_reducible refine (strings_Cut.calls t569 (⟨#[46]⟩ : ByteArray) t574 t575 t576 _ A30.out).mono ?_); rintro e w' ⟨rfl, ⟨nd, rfl⟩⟩; refine ⟨_, rfl, ?_⟩))
 (try simp only [Act.put, List.setIfInBounds_toArray, List.set_cons_zero, List.set_cons_succ])
 go_cut [38] (fun v38 wc => ∃ (kq : Nat) (x38_30 : Bool), v38 = .bool x38_30 ∧ Aside0 (rational_Parse.j0 kq t569 t570 t574 t575 t576 x38_30 = some (r1, r2, r3, r4)) ∧ Aside0 (kq ≤ k) ∧ Aside0 (wc.heap[gb568]? = some (.cells #[.bool false, (.slice none 0 0), (.slice none 0 0)] 25 (0, 0))) ∧ Aside0 (Below w.heap.size w wc))
 case first =>
  have H := HC31.out;clear HC31;by_cases c33 : t576 = true
  ·subst c33;have H1 : (rational_Parse.j0 k t569 t570 t574 t575 true false) = some (r1, r2, r3, r4) := by rw [if_pos rfl] at H; exact H
   clear H;have H := H1;clear H1;have H' := zA H;clear H
   go_wp2
   go_meet
   case rel => exact ⟨_, (false), zS, H', ⟨by first | omega | exact Nat.le_refl _⟩, ⟨zB BK568.out⟩, ⟨zG1 GE568.out⟩⟩
  replace c33 := Bool.eq_false_iff.mpr c33;subst c33;have H1 : ((rational_digits.f k t569).bind fun t577 => (rational_Parse.j0 k t569 t570 t574 t575 false t577)) = some (r1, r2, r3, r4) := by rw [if_neg (show ¬ (false = true) by decide)] at H; exact H
  clear H;have H := H1;clear H1;obtain ⟨t577, A340, H⟩ := zi H;have A34 := zA A340;clear A340;have H' := zA H;clear H
  go_wp2_with (first | (go_at_call 54; (with_reducible refine (rational_digits.calls k t569 t577 _ A34.out).mono ?_); rintro e w' ⟨rfl, ⟨nd, rfl⟩⟩))
  go_meet
  case rel => exact ⟨_, (t577), zS, H', ⟨by first | omega | exact Nat.le_refl _⟩, ⟨zB BK568.out⟩, ⟨zG1 GE568.out⟩⟩
 case rest =>
  clear HC31
  try clear hcz14_0
  try clear hcz14_1
  try clear hcz14_2
  try clear hcz19_0
  try clear hcz19_1
  try clear hcz19_2
  try clear hcz27_0
  try clear hcz27_1
  try clear hcz27_2
  try clear hcz4_0
  try clear hcz4_1
  try clear hcz4_2
  try clear hfz14_0
  try clear hfz14_1
  try clear hfz14_2
  try clear hfz19_0
  try clear hfz19_1
  try clear hfz19_2
  try clear hfz27_0
  try clear hfz27_1
  try clear hfz27_2
  try clear hfz4_0
  try clear hfz4_1
  try clear hfz4_2
  obtain ⟨kq, x38_30, rfl, HA, HJ30, BK568, HB⟩ := hcut;cases kq with
  | zero => exact absurd HA.out (by simp [rational_Parse.j0])
  | succ kj30 =>
   have H := HA.out;clear HA;simp only [rational_Parse.j0] at H;by_cases c35 : x38_30 = true
   ·subst c35;have H1 : ((rational_number.f kj30 t569).bind fun t578 => ((rational_one.f).bind fun t581 => ((rational_reduce.f kj30 t570 t578 t581).bind fun bt584 => (some (bt584.1, bt584.2.1, bt584.2.2, 0))))) = some (r1, r2, r3, r4) := by rw [if_pos rfl] at H; exact H
    clear H;have H := H1;clear H1;obtain ⟨t578, A360, H⟩ := zi H;have A36 := zA A360;clear A360;obtain ⟨t581, A370, H⟩ := zi H;have A37 := zA A370;clear A370;obtain ⟨⟨t584, t585, t588⟩, A380, H⟩ := zi H;dsimp only at H;have A38 := zA A380;clear A380;simp only [Option.some.injEq, Prod.mk.injEq] at H;obtain ⟨rfl, rfl, rfl, rfl⟩ := H
    go_wp2_with (first | ((with_reducible refine gate_callee (f := 55) rfl ?_); refine goesL_ (some 47) rfl rfl Tryd.func55 zk rfl #[.string t569] rfl zX ?_; (with_reducible refine (rational_number.calls kj30 t569 t578 _ A36.out).mono ?_); rintro e w39 ⟨v579, rfl, ho0, hb⟩; refine ⟨_, rfl, ?_⟩; have HO580 := zlo ho0 HB rfl; replace BK568 := zkb BK568 hb; replace HB := zbb HB hb rfl) | ((with_reducible refine gate_callee (f := 56) rfl ?_); refine goesL_ (some 48) rfl rfl Tryd.func56 zk rfl #[] rfl zX ?_; (with_reducible refine (rational_one.calls  t581 _ A37.out).mono ?_); rintro e w40 ⟨v582, rfl, ho0, hb⟩; refine ⟨_, rfl, ?_⟩; have HO583 := zA (Kd.R_lower (zN ho0 HO580 rfl) (below_size (zb HB rfl))); replace HO580 := zre HO580 hb ho0 rfl; replace BK568 := zkb BK568 hb; replace HB := zbb HB hb rfl; obtain ⟨Ao41, co41, eo41⟩ := Kd.R_slice HO580.out; subst eo41; obtain ⟨Ao42, co42, eo42⟩ := Kd.R_slice HO583.out; subst eo42) | ((with_reducible refine gate_callee (f := 46) rfl ?_); refine goesL_ (some 49) rfl rfl Tryd.func46 zk rfl #[.bool t570, .slice Ao41 t578.length co41, .slice Ao42 t581.length co42] rfl zX ?_; (with_reducible refine (rational_reduce.calls kj30 t570 _ _ t578 _ _ t581 t584 t585 t588 _ ?side1 ?side2 ?side3 ?side4 A38.out).mono ?_); (case side1 => exact zC (Kd.R_reads' HO580.out).2.2); (case side2 => exact (Kd.R_reads' HO580.out).2.1); (case side3 => exact zC (Kd.R_reads' HO583.out).2.2); (case side4 => exact (Kd.R_reads' HO583.out).2.1); rintro e w43 ⟨v586, v589, rfl, ho0, ho1, hb⟩; refine ⟨_, rfl, ?_⟩; have HO587 := zA (Kd.R_lower (zN (zN ho0 HO580 rfl) HO583 rfl) (below_size (zb HB rfl))); have HO590 := zA (Kd.R_lower (zN (zN ho1 HO580 rfl) HO583 rfl) (below_size (zb HB rfl))); replace HO580 := zt2 HO580 hb ho0 ho1 rfl; replace HO583 := zt2 HO583 hb ho0 ho1 rfl; replace BK568 := zkb BK568 hb; replace HB := zbb HB hb rfl; have hcz44_0 := zc BK568 0 (v := .bool false) rfl; have hcz44_1 := zc BK568 1 (v := .slice none 0 0) rfl; have hcz44_2 := zc BK568 2 (v := .slice none 0 0) rfl; have hfz44_0 := zF BK568 0; have hfz44_1 := zF BK568 1; have hfz44_2 := zF BK568 2; obtain ⟨Ao45, co45, eo45⟩ := Kd.R_slice HO587.out; subst eo45; obtain ⟨Ao46, co46, eo46⟩ := Kd.R_slice HO590.out; subst eo46))
    refine bodyPost_ret (results_ct rfl _ _ gb568 25 #[.bool t584, .slice Ao45 t585.length co45, .slice Ao46 t588.length co46] (0, 0) _ rfl (zQ BK568.out) Tryd.underlying25 rfl zk) rfl ?_;exact ⟨_, _, zE, zRM (Kd.R_far (p := ⟨gb568, 2, none⟩) (Kd.R_far (p := ⟨gb568, 1, none⟩) (Kd.R_far (p := ⟨gb568, 0, none⟩) (Kd.R_types HO587.out BK568.out (by decide)) (fun _ hk => hk.2) (.bool t584)) (fun _ hk => hk.2) (.slice Ao45 t585.length co45)) (fun _ hk => hk.2) (.slice Ao46 t588.length co46)) (fun _ hk => hk.1.1.1), zRM (Kd.R_far (p := ⟨gb568, 2, none⟩) (Kd.R_far (p := ⟨gb568, 1, none⟩) (Kd.R_far (p := ⟨gb568, 0, none⟩) (Kd.R_types HO590.out BK568.out (by decide)) (fun _ hk => hk.2) (.bool t584)) (fun _ hk => hk.2) (.slice Ao45 t585.length co45)) (fun _ hk => hk.2) (.slice Ao46 t588.length co46)) (fun _ hk => hk.1.1.1), zG1 GE568.out⟩
   replace c35 := Bool.eq_false_iff.mpr c35;subst c35;have H1 : (if t576 = true then ((rational_digits.f kj30 t574).bind fun t591 => (if t591 = true then ((rational_digits.f kj30 t575).bind fun t592 => (rational_Parse.j1 kj30 t570 t574 t575 (!t592))) else (rational_Parse.j1 kj30 t570 t574 t575 true))) else (rational_Parse.j1 kj30 t570 t574 t575 true)) = some (r1, r2, r3, r4) := by rw [if_neg (show ¬ (false = true) by decide)] at H; exact H
   clear H;have H := H1;clear H1;have HC47 := zA H;clear H
   go_upto_region 9 with (fail)
   go_cut [50] (fun v50 wc => ∃ (kq : Nat) (x50_46 : Bool), v50 = .bool x50_46 ∧ Aside0 (rational_Parse.j1 kq t570 t574 t575 x50_46 = some (r1, r2, r3, r4)) ∧ Aside0 (kq ≤ kj30) ∧ Aside0 (wc.heap[gb568]? = some (.cells #[.bool false, (.slice none 0 0), (.slice none 0 0)] 25 (0, 0))) ∧ Aside0 (Below w.heap.size w wc))
   case first =>
    have H := HC47.out;clear HC47;by_cases c48 : t576 = true
    ·subst c48;have H1 : ((rational_digits.f kj30 t574).bind fun t591 => (if t591 = true then ((rational_digits.f kj30 t575).bind fun t592 => (rational_Parse.j1 kj30 t570 t574 t575 (!t592))) else (rational_Parse.j1 kj30 t570 t574 t575 true))) = some (r1, r2, r3, r4) := by rw [if_pos rfl] at H; exact H
     clear H;have H := H1;clear H1;obtain ⟨t591, A490, H⟩ := zi H;have A49 := zA A490;clear A490;by_cases c50 : t591 = true
     ·subst c50;have H1 : ((rational_digits.f kj30 t575).bind fun t592 => (rational_Parse.j1 kj30 t570 t574 t575 (!t592))) = some (r1, r2, r3, r4) := by rw [if_pos rfl] at H; exact H
      clear H;have H := H1;clear H1;obtain ⟨t592, A510, H⟩ := zi H;have A51 := zA A510;clear A510;have H' := zA H;clear H;have M740_0 : Aside0 True := ⟨trivial⟩;have M740_1 : Aside0 True := ⟨trivial⟩
      go_wp2_with (first | (go_at_call 54; clear M740_0; (with_reducible refine (rational_digits.calls kj30 t574 true _ A49.out).mono ?_); rintro e w' ⟨rfl, ⟨nd, rfl⟩⟩) | (go_at_call 54; clear M740_1; (with_reducible refine (rational_digits.calls kj30 t575 t592 _ A51.out).mono ?_); rintro e w' ⟨rfl, ⟨nd, rfl⟩⟩))
      go_meet
      case rel => exact ⟨_, (!t592), zS, H', ⟨by have := HJ30.out; first | omega | exact Nat.le_refl _⟩, ⟨zB BK568.out⟩, ⟨zG1 GE568.out⟩⟩
     replace c50 := Bool.eq_false_iff.mpr c50;subst c50;have H1 : (rational_Parse.j1 kj30 t570 t574 t575 true) = some (r1, r2, r3, r4) := by rw [if_neg (show ¬ (false = true) by decide)] at H; exact H
     clear H;have H := H1;clear H1;have H' := zA H;clear H
     go_wp2_with (first | (go_at_call 54; (with_reducible refine (rational_digits.calls kj30 t574 false _ A49.out).mono ?_); rintro e w' ⟨rfl, ⟨nd, rfl⟩⟩))
     go_meet
     case rel => exact ⟨_, (true), zS, H', ⟨by have := HJ30.out; first | omega | exact Nat.le_refl _⟩, ⟨zB BK568.out⟩, ⟨zG1 GE568.out⟩⟩
    replace c48 := Bool.eq_false_iff.mpr c48;subst c48;have H1 : (rational_Parse.j1 kj30 t570 t574 t575 true) = some (r1, r2, r3, r4) := by rw [if_neg (show ¬ (false = true) by decide)] at H; exact H
    clear H;have H := H1;clear H1;have H' := zA H;clear H
    go_wp2
    go_meet
    case rel => exact ⟨_, (true), zS, H', ⟨by have := HJ30.out; first | omega | exact Nat.le_refl _⟩, ⟨zB BK568.out⟩, ⟨zG1 GE568.out⟩⟩
   case rest =>
    clear HC47
    try clear hcz14_0
    try clear hcz14_1
    try clear hcz14_2
    try clear hcz19_0
    try clear hcz19_1
    try clear hcz19_2
    try clear hcz27_0
    try clear hcz27_1
    try clear hcz27_2
    try clear hcz44_0
    try clear hcz44_1
    try clear hcz44_2
    try clear hcz4_0
    try clear hcz4_1
    try clear hcz4_2
    try clear hfz14_0
    try clear hfz14_1
    try clear hfz14_2
    try clear hfz19_0
    try clear hfz19_1
    try clear hfz19_2
    try clear hfz27_0
    try clear hfz27_1
    try clear hfz27_2
    try clear hfz44_0
    try clear hfz44_1
    try clear hfz44_2
    try clear hfz4_0
    try clear hfz4_1
    try clear hfz4_2
    obtain ⟨kq, x50_46, rfl, HA, HJ46, BK568, HB⟩ := hcut;cases kq with
    | zero => exact absurd HA.out (by simp [rational_Parse.j1])
    | succ kj46 =>
     have H := HA.out;clear HA;simp only [rational_Parse.j1] at H;by_cases c52 : x50_46 = true
     ·subst c52;have H1 : (some (false, ([] : List Int), ([] : List Int), 2)) = some (r1, r2, r3, r4) := by rw [if_pos rfl] at H; exact H
      clear H;have H := H1;clear H1;simp only [Option.some.injEq, Prod.mk.injEq] at H;obtain ⟨rfl, rfl, rfl, rfl⟩ := H;have hcz53_0 := zc BK568 0 (v := .bool false) rfl;have hcz53_1 := zc BK568 1 (v := .slice none 0 0) rfl;have hcz53_2 := zc BK568 2 (v := .slice none 0 0) rfl;have hfz53_0 := zF BK568 0;have hfz53_1 := zF BK568 1;have hfz53_2 := zF BK568 2
      go_wp2
      refine bodyPost_ret (results_ct rfl _ _ gb568 25 #[.bool false, .slice none 0 0, .slice none 0 0] (0, 0) _ rfl (zQ BK568.out) Tryd.underlying25 rfl zk) rfl ?_;exact ⟨_, _, zE, by first | exact Kd.R_nil _ _ _ _ _ | exact Kd.V_nil _ _ _ _ _, by first | exact Kd.R_nil _ _ _ _ _ | exact Kd.V_nil _ _ _ _ _, zG1 GE568.out⟩
     replace c52 := Bool.eq_false_iff.mpr c52;subst c52;have H1 : ((bignat_Pow.f kj46 (([10] : List Int)) (t575.size : Int)).bind fun bt596 => (if t574.size + t575.size ≤ 9223372036854775807 then ((rational_number.f kj46 (t574 ++ t575)).bind fun t600 => ((rational_reduce.f kj46 t570 t600 bt596.1).bind fun bt603 => (some (bt603.1, bt603.2.1, bt603.2.2, 0)))) else (none))) = some (r1, r2, r3, r4) := by rw [if_neg (show ¬ (false = true) by decide)] at H; exact H
     clear H;have H := H1;clear H1;obtain ⟨y593, hy593⟩ : ∃ y_ : List Int, y_ = (([10] : List Int)) := ⟨_, rfl⟩;replace H : ((bignat_Pow.f kj46 y593 (t575.size : Int)).bind fun bt596 => (if t574.size + t575.size ≤ 9223372036854775807 then ((rational_number.f kj46 (t574 ++ t575)).bind fun t600 => ((rational_reduce.f kj46 t570 t600 bt596.1).bind fun bt603 => (some (bt603.1, bt603.2.1, bt603.2.2, 0)))) else (none))) = some (r1, r2, r3, r4) := zY hy593 H;have Ny593 := zA hy593;clear hy593;obtain ⟨⟨t596, t597⟩, A540, H⟩ := zi H;dsimp only at H;have A54 := zA A540;clear A540;by_cases c55 : t574.size + t575.size ≤ 9223372036854775807
     ·rw [if_pos c55] at H;have c55b0 := eq_true c55;have c55b1 := decide_eq_true c55
      try have c55b2 : (9223372036854775807 < t574.size + t575.size) = False := eq_false (Nat.not_lt.2 c55)
      obtain ⟨t600, A560, H⟩ := zi H;have A56 := zA A560;clear A560;obtain ⟨⟨t603, t604, t607⟩, A570, H⟩ := zi H;dsimp only at H;have A57 := zA A570;clear A570;simp only [Option.some.injEq, Prod.mk.injEq] at H;obtain ⟨rfl, rfl, rfl, rfl⟩ := H
      go_wp2_with (first | ((with_reducible refine gate_dst (N := 65) rfl ?_); refine Kd.R_lit (Kd.int .u32) _ 37 ?hg (N := 65) ?hd (xs := ([10] : List Int)) (inner := [.int .u32 10]) (ok := fun _ => True) (okp := fun _ => True) ?hr ?hp (fun _ hk => hk) trivial (Below.refl _ _) (Nat.le_refl _) (by simp) ?_; (case hd => rfl); (case hg => rfl); (case hr => first | (go_simp; done) | (go_simp; rfl)); (case hp => exact (Reps.one (show Kd.M (Kd.int .u32) _ _ _ 10 [.int .u32 10] from rfl) (Reps.none _ _))); intro v594 w58 ho59 hb hg_ hnew_; clear hg_ hnew_; (first | rw [← Ny593.out] at ho59 | (simp only [Int.reduceToNat] at ho59; rw [← Ny593.out] at ho59)); have HO595 := zA (Kd.R_lower ho59 (below_size (zG1 GE568.out))); replace BK568 := zA (blk_below (zB BK568.out) hb); replace HB := zA (below_step (zG1 GE568.out) hb); clear hb ho59; obtain ⟨Ao60, co60, eo60⟩ := Kd.R_slice HO595.out; subst eo60) | ((with_reducible refine gate_callee (f := 57) rfl ?_); refine goesL_ (some 68) rfl rfl Tryd.func57 zk rfl #[.slice Ao60 y593.length co60, .int .i64 (t575.size : Int)] rfl zX ?_; (with_reducible refine (bignat_Pow.calls kj46 _ _ y593 (t575.size : Int) t596 t597 _ ?side1 ?side2 A54.out).mono ?_); (case side1 => exact zC (Kd.R_reads' HO595.out).2.2); (case side2 => exact (Kd.R_reads' HO595.out).2.1); rintro e w61 ⟨v598, rfl, ho0, hb⟩; refine ⟨_, rfl, ?_⟩; have HO599 := zA (Kd.R_lower (zN ho0 HO595 rfl) (below_size (zb HB rfl))); replace HO595 := zre HO595 hb ho0 rfl; replace BK568 := zkb BK568 hb; replace HB := zbb HB hb rfl) | ((with_reducible refine gate_callee (f := 55) rfl ?_); refine goesL_ (some 75) rfl rfl Tryd.func55 zk rfl #[.string (t574 ++ t575)] rfl zX ?_; (with_reducible refine (rational_number.calls kj46 (t574 ++ t575) t600 _ A56.out).mono ?_); rintro e w62 ⟨v601, rfl, ho0, hb⟩; refine ⟨_, rfl, ?_⟩; have HO602 := zA (Kd.R_lower (zN (zN ho0 HO595 rfl) HO599 rfl) (below_size (zb HB rfl))); replace HO595 := zre HO595 hb ho0 rfl; replace HO599 := zre HO599 hb ho0 rfl; replace BK568 := zkb BK568 hb; replace HB := zbb HB hb rfl; obtain ⟨Ao63, co63, eo63⟩ := Kd.R_slice HO602.out; subst eo63; obtain ⟨Ao64, co64, eo64⟩ := Kd.R_slice HO599.out; subst eo64) | ((with_reducible refine gate_callee (f := 46) rfl ?_); refine goesL_ (some 77) rfl rfl Tryd.func46 zk rfl #[.bool t570, .slice Ao63 t600.length co63, .slice Ao64 t596.length co64] rfl zX ?_; (with_reducible refine (rational_reduce.calls kj46 t570 _ _ t600 _ _ t596 t603 t604 t607 _ ?side1 ?side2 ?side3 ?side4 A57.out).mono ?_); (case side1 => exact zC (Kd.R_reads' HO602.out).2.2); (case side2 => exact (Kd.R_reads' HO602.out).2.1); (case side3 => exact zC (Kd.R_reads' HO599.out).2.2); (case side4 => exact (Kd.R_reads' HO599.out).2.1); rintro e w65 ⟨v605, v608, rfl, ho0, ho1, hb⟩; refine ⟨_, rfl, ?_⟩; have HO606 := zA (Kd.R_lower (zN (zN (zN ho0 HO595 rfl) HO599 rfl) HO602 rfl) (below_size (zb HB rfl))); have HO609 := zA (Kd.R_lower (zN (zN (zN ho1 HO595 rfl) HO599 rfl) HO602 rfl) (below_size (zb HB rfl))); replace HO595 := zt2 HO595 hb ho0 ho1 rfl; replace HO599 := zt2 HO599 hb ho0 ho1 rfl; replace HO602 := zt2 HO602 hb ho0 ho1 rfl; replace BK568 := zkb BK568 hb; replace HB := zbb HB hb rfl; have hcz66_0 := zc BK568 0 (v := .bool false) rfl; have hcz66_1 := zc BK568 1 (v := .slice none 0 0) rfl; have hcz66_2 := zc BK568 2 (v := .slice none 0 0) rfl; have hfz66_0 := zF BK568 0; have hfz66_1 := zF BK568 1; have hfz66_2 := zF BK568 2; obtain ⟨Ao67, co67, eo67⟩ := Kd.R_slice HO606.out; subst eo67; obtain ⟨Ao68, co68, eo68⟩ := Kd.R_slice HO609.out; subst eo68))
      refine bodyPost_ret (results_ct rfl _ _ gb568 25 #[.bool t603, .slice Ao67 t604.length co67, .slice Ao68 t607.length co68] (0, 0) _ rfl (zQ BK568.out) Tryd.underlying25 rfl zk) rfl ?_;exact ⟨_, _, zE, zRM (Kd.R_far (p := ⟨gb568, 2, none⟩) (Kd.R_far (p := ⟨gb568, 1, none⟩) (Kd.R_far (p := ⟨gb568, 0, none⟩) (Kd.R_types HO606.out BK568.out (by decide)) (fun _ hk => hk.2) (.bool t603)) (fun _ hk => hk.2) (.slice Ao67 t604.length co67)) (fun _ hk => hk.2) (.slice Ao68 t607.length co68)) (fun _ hk => hk.1.1.1.1), zRM (Kd.R_far (p := ⟨gb568, 2, none⟩) (Kd.R_far (p := ⟨gb568, 1, none⟩) (Kd.R_far (p := ⟨gb568, 0, none⟩) (Kd.R_types HO609.out BK568.out (by decide)) (fun _ hk => hk.2) (.bool t603)) (fun _ hk => hk.2) (.slice Ao67 t604.length co67)) (fun _ hk => hk.2) (.slice Ao68 t607.length co68)) (fun _ hk => hk.1.1.1.1), zG1 GE568.out⟩
     rw [if_neg c55] at H;cases H

end Go.Proofs.YtoeldfopjalpkaaDoor.Q

