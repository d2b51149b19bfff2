/- Lemmas for the proof of one law of this seat (Qx4). -/
import Derived.Test.YtoeldfopjalpkaaDoorZRationalTextQx3
namespace Go.Proofs.YtoeldfopjalpkaaDoor.Q
open Go.RowKit Go.Proofs.YtoeldfopjalpkaaDoorW.PrintWords Go.Proofs.YtoeldfopjalpkaaDoorW.PrintLast Go.Proofs.YtoeldfopjalpkaaDoorW.PrintMore
attribute [local go_sem] max2_int min2_int max_two min_two max_three min_three max_four min_four   -- for this text's walks alone
set_option linter.unusedVariables false
set_option linter.unusedSimpArgs false

def bignat_DivMod.f (k : Nat) (l0 : List Int) (l1 : List Int) : Option (List Int × List Int × Bool) := (bignat_trim.f k l0).bind fun t217 => ((bignat_trim.f k l1).bind fun t220 => (if (t220.length : Int) = 0 then (some (([] : List Int), ([] : List Int), false)) else ((bignat_Cmp.f k t217 t220).bind fun t223 => (if t223 < 0 then ((bignat_clone.f k t217).bind fun t224 => (some (([] : List Int), t224, true))) else (if (t220.length : Int) = 1 then (if 0 < (t220.length : Int) then ((bignat_divSmall.f k t217 (rd t220 0)).bind fun bt228 => ((bignat_FromUint64.f (IntKind.u64.wrap (bt228.2))).bind fun t232 => (some (bt228.1, t232, true)))) else (none)) else ((bignat_divLong.f k t217 t220).bind fun bt235 => (some (bt235.1, bt235.2, true))))))))
theorem bignat_DivMod.mono : ∀ a0 a1 k, LeO (bignat_DivMod.f k a0 a1) (bignat_DivMod.f (k + 1) a0 a1) := by
 intro a0 a1 k;unfold bignat_DivMod.f;exact zm5 bignat_Cmp.mono bignat_clone.mono bignat_divLong.mono bignat_divSmall.mono bignat_trim.mono
set_option maxHeartbeats 8000000 in
set_option maxRecDepth 100000 in
theorem bignat_DivMod.calls (k : Nat) (A0 : Option Addr) (c0 : Nat) (l0 : List Int) (A1 : Option Addr) (c1 : Nat) (l1 : List Int) (r1 : List Int) (r2 : List Int) (r3 : Bool) (w : World) (hr0 : Kd.C (Kd.int .u32) w A0 l0.length l0) (hc0 : l0.length ≤ c0) (hr1 : Kd.C (Kd.int .u32) w A1 l1.length l1) (hc1 : l1.length ≤ c1) (h : bignat_DivMod.f k l0 l1 = some (r1, r2, r3)) :
 Calls Tryd.prog 78 #[.slice A0 l0.length c0, .slice A1 l1.length c1] w fun e w' => ∃ v0_ v1_ : Value, e = .returned (.tuple #[v0_, v1_, .bool r3]) ∧ Kd.R (Kd.int .u32) 37 w' w.heap.size (fun k_ => some k_ ≠ (v1_ : Value).ownBlock) v0_ r1 ∧ Kd.R (Kd.int .u32) 37 w' w.heap.size (fun k_ => some k_ ≠ (v0_ : Value).ownBlock) v1_ r2 ∧ Below w.heap.size w w' := by
 have HR0 := zA hr0;have HC0 := zA hc0;clear hr0 hc0;have HR1 := zA hr1;have HC1 := zA hc1;clear hr1 hc1;have HB := zA (Below.refl w.heap.size w);have H : ((bignat_trim.f k l0).bind fun t217 => ((bignat_trim.f k l1).bind fun t220 => (if (t220.length : Int) = 0 then (some (([] : List Int), ([] : List Int), false)) else ((bignat_Cmp.f k t217 t220).bind fun t223 => (if t223 < 0 then ((bignat_clone.f k t217).bind fun t224 => (some (([] : List Int), t224, true))) else (if (t220.length : Int) = 1 then (if 0 < (t220.length : Int) then ((bignat_divSmall.f k t217 (rd t220 0)).bind fun bt228 => ((bignat_FromUint64.f (IntKind.u64.wrap (bt228.2))).bind fun t232 => (some (bt228.1, t232, true)))) else (none)) else ((bignat_divLong.f k t217 t220).bind fun bt235 => (some (bt235.1, bt235.2, true))))))))) = some (r1, r2, r3) := h;clear h;obtain ⟨t217, A30, H⟩ := zi H;have A3 := zA A30;clear A30;obtain ⟨t220, A40, H⟩ := zi H;have A4 := zA A40;clear A40;by_cases c5 : (t220.length : Int) = 0
 ·rw [if_pos c5] at H;have c5b0 := beq_iff_eq.mpr c5;have c5b1 := bne_eq_false_iff_eq.mpr c5;clear c5;simp only [Option.some.injEq, Prod.mk.injEq] at H;obtain ⟨rfl, rfl, rfl⟩ := H;go_enter Tryd.func78, Tryd.ntmps78
  go_wp2_with (first | ((with_reducible refine gate_callee (f := 71) rfl ?_); refine goesL_ (some 12) rfl rfl Tryd.func71 zk rfl #[.slice A0 l0.length c0] rfl zX ?_; (with_reducible refine (bignat_trim.calls k (fun k_ => k_ < w.heap.size) _ _ l0 t217 _ ?side1 A3.out).mono ?_); (case side1 => exact Kd.V_mk HC0.out (Kd.F_below (Kd.C_F (Kd.heap_int .u32) HR0.out) (zb HB rfl))); rintro e w6 ⟨v218, rfl, ho0, hb⟩; refine ⟨_, rfl, ?_⟩; have HO219 := zvl ho0 HB rfl; replace HB := zbb HB hb rfl) | ((with_reducible refine gate_callee (f := 71) rfl ?_); refine goesL_ (some 14) rfl rfl Tryd.func71 zk rfl #[.slice A1 l1.length c1] rfl zX ?_; (with_reducible refine (bignat_trim.calls k (fun k_ => k_ < w.heap.size) _ _ l1 t220 _ ?side1 A4.out).mono ?_); (case side1 => exact Kd.V_mk HC1.out (Kd.F_below (Kd.C_F (Kd.heap_int .u32) HR1.out) (zb HB rfl))); rintro e w7 ⟨v221, rfl, ho0, hb⟩; refine ⟨_, rfl, ?_⟩; replace HO219 := zA (Kd.V_below (zv HO219 rfl) hb); have HO222 := zvl ho0 HB rfl; replace HB := zbb HB hb rfl; obtain ⟨Ao8, co8, eo8⟩ := Kd.V_slice HO222.out; subst eo8))
  go_ret3
  exact ⟨_, _, zE, by first | exact Kd.R_nil _ _ _ _ _ | exact Kd.V_nil _ _ _ _ _, by first | exact Kd.R_nil _ _ _ _ _ | exact Kd.V_nil _ _ _ _ _, zH⟩
 rw [if_neg c5] at H;have c5b0 := beq_eq_false_iff_ne.mpr c5;have c5b1 := bne_iff_ne.mpr c5;have c5b2 : ¬ (t220 = []) := fun h_ => c5 (by rw [h_]; rfl)
 obtain ⟨t223, A90, H⟩ := zi H;have A9 := zA A90;clear A90;by_cases c10 : t223 < 0
 ·rw [if_pos c10] at H;have c10b0 := decide_eq_true c10;clear c10;obtain ⟨t224, A110, H⟩ := zi H;have A11 := zA A110;clear A110;simp only [Option.some.injEq, Prod.mk.injEq] at H;obtain ⟨rfl, rfl, rfl⟩ := H;go_enter Tryd.func78, Tryd.ntmps78
  go_wp2_with (first | ((with_reducible refine gate_callee (f := 71) rfl ?_); refine goesL_ (some 12) rfl rfl Tryd.func71 zk rfl #[.slice A0 l0.length c0] rfl zX ?_; (with_reducible refine (bignat_trim.calls k (fun k_ => k_ < w.heap.size) _ _ l0 t217 _ ?side1 A3.out).mono ?_); (case side1 => exact Kd.V_mk HC0.out (Kd.F_below (Kd.C_F (Kd.heap_int .u32) HR0.out) (zb HB rfl))); rintro e w12 ⟨v218, rfl, ho0, hb⟩; refine ⟨_, rfl, ?_⟩; have HO219 := zvl ho0 HB rfl; replace HB := zbb HB hb rfl) | ((with_reducible refine gate_callee (f := 71) rfl ?_); refine goesL_ (some 14) rfl rfl Tryd.func71 zk rfl #[.slice A1 l1.length c1] rfl zX ?_; (with_reducible refine (bignat_trim.calls k (fun k_ => k_ < w.heap.size) _ _ l1 t220 _ ?side1 A4.out).mono ?_); (case side1 => exact Kd.V_mk HC1.out (Kd.F_below (Kd.C_F (Kd.heap_int .u32) HR1.out) (zb HB rfl))); rintro e w13 ⟨v221, rfl, ho0, hb⟩; refine ⟨_, rfl, ?_⟩; replace HO219 := zA (Kd.V_below (zv HO219 rfl) hb); have HO222 := zvl ho0 HB rfl; replace HB := zbb HB hb rfl; obtain ⟨Ao14, co14, eo14⟩ := Kd.V_slice HO222.out; subst eo14; obtain ⟨Ao15, co15, eo15⟩ := Kd.V_slice HO219.out; subst eo15) | ((with_reducible refine gate_callee (f := 67) rfl ?_); refine goesL_ (some 22) rfl rfl Tryd.func67 zk rfl #[.slice Ao15 t217.length co15, .slice Ao14 t220.length co14] rfl zX ?_; (with_reducible refine (bignat_Cmp.calls k _ _ t217 _ _ t220 t223 _ ?side1 ?side2 ?side3 ?side4 A9.out).mono ?_); (case side1 => exact zC (Kd.V_reads' HO219.out).2.2); (case side2 => exact (Kd.V_reads' HO219.out).2.1); (case side3 => exact zC (Kd.V_reads' HO222.out).2.2); (case side4 => exact (Kd.V_reads' HO222.out).2.1); rintro e w16 ⟨rfl, hb⟩; refine ⟨_, rfl, ?_⟩; replace HO219 := zA (Kd.V_below (zv HO219 rfl) hb); replace HO222 := zA (Kd.V_below (zv HO222 rfl) hb); replace HB := zbb HB hb rfl) | ((with_reducible refine gate_callee (f := 64) rfl ?_); refine goesL_ (some 25) rfl rfl Tryd.func64 zk rfl #[.slice Ao15 t217.length co15] rfl zX ?_; (with_reducible refine (bignat_clone.calls k _ _ t217 t224 _ ?side1 ?side2 A11.out).mono ?_); (case side1 => exact zC (Kd.V_reads' HO219.out).2.2); (case side2 => exact (Kd.V_reads' HO219.out).2.1); rintro e w17 ⟨v225, rfl, ho0, hb⟩; refine ⟨_, rfl, ?_⟩; replace HO219 := zA (Kd.V_elder' (zv HO219 rfl) (Kd.R_base ho0) hb); replace HO222 := zA (Kd.V_elder' (zv HO222 rfl) (Kd.R_base ho0) hb); have HO226 := zlo ho0 HB rfl; replace HB := zbb HB hb rfl))
  go_ret3
  exact ⟨_, _, zE, by first | exact Kd.R_nil _ _ _ _ _ | exact Kd.V_nil _ _ _ _ _, zRM HO226.out (fun _ hk => (by simp [Value.ownBlock])), zH⟩
 rw [if_neg c10] at H;have c10b0 := decide_eq_false c10;clear c10;by_cases c18 : (t220.length : Int) = 1
 ·rw [if_pos c18] at H;have c18b0 := beq_iff_eq.mpr c18;have c18b1 := bne_eq_false_iff_eq.mpr c18;clear c18;by_cases c19 : 0 < (t220.length : Int)
  ·rw [if_pos c19] at H;have c19b0 := decide_eq_true c19;have c19b1 : decide (0 < t220.length) = true := decide_eq_true (by omega);clear c19;obtain ⟨⟨t228, t229⟩, A200, H⟩ := zi H;dsimp only at H;have A20 := zA A200;clear A200;obtain ⟨t232, A210, H⟩ := zi H;have A21 := zA A210;clear A210;simp only [Option.some.injEq, Prod.mk.injEq] at H;obtain ⟨rfl, rfl, rfl⟩ := H;go_enter Tryd.func78, Tryd.ntmps78
   go_wp2_with (first | ((with_reducible refine gate_callee (f := 71) rfl ?_); refine goesL_ (some 12) rfl rfl Tryd.func71 zk rfl #[.slice A0 l0.length c0] rfl zX ?_; (with_reducible refine (bignat_trim.calls k (fun k_ => k_ < w.heap.size) _ _ l0 t217 _ ?side1 A3.out).mono ?_); (case side1 => exact Kd.V_mk HC0.out (Kd.F_below (Kd.C_F (Kd.heap_int .u32) HR0.out) (zb HB rfl))); rintro e w22 ⟨v218, rfl, ho0, hb⟩; refine ⟨_, rfl, ?_⟩; have HO219 := zvl ho0 HB rfl; replace HB := zbb HB hb rfl) | ((with_reducible refine gate_callee (f := 71) rfl ?_); refine goesL_ (some 14) rfl rfl Tryd.func71 zk rfl #[.slice A1 l1.length c1] rfl zX ?_; (with_reducible refine (bignat_trim.calls k (fun k_ => k_ < w.heap.size) _ _ l1 t220 _ ?side1 A4.out).mono ?_); (case side1 => exact Kd.V_mk HC1.out (Kd.F_below (Kd.C_F (Kd.heap_int .u32) HR1.out) (zb HB rfl))); rintro e w23 ⟨v221, rfl, ho0, hb⟩; refine ⟨_, rfl, ?_⟩; replace HO219 := zA (Kd.V_below (zv HO219 rfl) hb); have HO222 := zvl ho0 HB rfl; replace HB := zbb HB hb rfl; obtain ⟨Ao24, co24, eo24⟩ := Kd.V_slice HO222.out; subst eo24; obtain ⟨Ao25, co25, eo25⟩ := Kd.V_slice HO219.out; subst eo25) | ((with_reducible refine gate_callee (f := 67) rfl ?_); refine goesL_ (some 22) rfl rfl Tryd.func67 zk rfl #[.slice Ao25 t217.length co25, .slice Ao24 t220.length co24] rfl zX ?_; (with_reducible refine (bignat_Cmp.calls k _ _ t217 _ _ t220 t223 _ ?side1 ?side2 ?side3 ?side4 A9.out).mono ?_); (case side1 => exact zC (Kd.V_reads' HO219.out).2.2); (case side2 => exact (Kd.V_reads' HO219.out).2.1); (case side3 => exact zC (Kd.V_reads' HO222.out).2.2); (case side4 => exact (Kd.V_reads' HO222.out).2.1); rintro e w26 ⟨rfl, hb⟩; refine ⟨_, rfl, ?_⟩; replace HO219 := zA (Kd.V_below (zv HO219 rfl) hb); replace HO222 := zA (Kd.V_below (zv HO222 rfl) hb); replace HB := zbb HB hb rfl; have p227 : 0 ≤ (0 : Int) := (by omega); have q227 : 0 < (t220.length : Int) := zD; obtain ⟨ad227, e227, hx227_0⟩ := Kd.at_int (Kd.V_reads' HO222.out).2.2 0 p227 q227; cases e227; have qi227 : (0 < t220.length) = True := eq_true (by omega); (try rw [show ((0 : Int)).toNat = 0 from rfl] at hx227_0); (try rw [Addr.add_zero'] at hx227_0); replace p227 := eq_true p227; replace q227 := eq_true q227) | ((with_reducible refine gate_callee (f := 65) rfl ?_); refine goesL_ (some 35) rfl rfl Tryd.func65 zk rfl #[.slice Ao25 t217.length co25, .int .u32 (rd t220 0)] rfl zX ?_; (with_reducible refine (bignat_divSmall.calls k _ _ t217 (rd t220 0) t228 t229 _ ?side1 ?side2 A20.out).mono ?_); (case side1 => exact zC (Kd.V_reads' HO219.out).2.2); (case side2 => exact (Kd.V_reads' HO219.out).2.1); rintro e w27 ⟨v230, rfl, ho0, hb⟩; refine ⟨_, rfl, ?_⟩; replace HO219 := zA (Kd.V_elder' (zv HO219 rfl) (Kd.R_base ho0) hb); replace HO222 := zA (Kd.V_elder' (zv HO222 rfl) (Kd.R_base ho0) hb); have HO231 := zlo ho0 HB rfl; replace HB := zbb HB hb rfl) | ((with_reducible refine gate_callee (f := 22) rfl ?_); refine goesL_ (some 41) rfl rfl Tryd.func22 zk rfl #[.int .u64 (IntKind.u64.wrap (t229))] rfl zX ?_; (with_reducible refine (bignat_FromUint64.calls (IntKind.u64.wrap (t229)) t232 _ A21.out).mono ?_); rintro e w28 ⟨v233, rfl, ho0, hb⟩; refine ⟨_, rfl, ?_⟩; replace HO219 := zA (Kd.V_elder' (zv HO219 rfl) (Kd.R_base ho0) hb); replace HO222 := zA (Kd.V_elder' (zv HO222 rfl) (Kd.R_base ho0) hb); have HO234 := zA (Kd.R_lower (zN ho0 HO231 rfl) (below_size (zb HB rfl))); replace HO231 := zre HO231 hb ho0 rfl; replace HB := zbb HB hb rfl))
   go_ret3
   exact ⟨_, _, zE, zRM HO231.out (fun _ hk => hk.2), zRM HO234.out (fun _ hk => hk.2), zH⟩
  rw [if_neg c19] at H;cases H
 rw [if_neg c18] at H;have c18b0 := beq_eq_false_iff_ne.mpr c18;have c18b1 := bne_iff_ne.mpr c18;obtain ⟨⟨t235, t236⟩, A290, H⟩ := zi H;dsimp only at H;have A29 := zA A290;clear A290;simp only [Option.some.injEq, Prod.mk.injEq] at H;obtain ⟨rfl, rfl, rfl⟩ := H;go_enter Tryd.func78, Tryd.ntmps78
 go_wp2_with (first | ((with_reducible refine gate_callee (f := 71) rfl ?_); refine goesL_ (some 12) rfl rfl Tryd.func71 zk rfl #[.slice A0 l0.length c0] rfl zX ?_; (with_reducible refine (bignat_trim.calls k (fun k_ => k_ < w.heap.size) _ _ l0 t217 _ ?side1 A3.out).mono ?_); (case side1 => exact Kd.V_mk HC0.out (Kd.F_below (Kd.C_F (Kd.heap_int .u32) HR0.out) (zb HB rfl))); rintro e w30 ⟨v218, rfl, ho0, hb⟩; refine ⟨_, rfl, ?_⟩; have HO219 := zvl ho0 HB rfl; replace HB := zbb HB hb rfl) | ((with_reducible refine gate_callee (f := 71) rfl ?_); refine goesL_ (some 14) rfl rfl Tryd.func71 zk rfl #[.slice A1 l1.length c1] rfl zX ?_; (with_reducible refine (bignat_trim.calls k (fun k_ => k_ < w.heap.size) _ _ l1 t220 _ ?side1 A4.out).mono ?_); (case side1 => exact Kd.V_mk HC1.out (Kd.F_below (Kd.C_F (Kd.heap_int .u32) HR1.out) (zb HB rfl))); rintro e w31 ⟨v221, rfl, ho0, hb⟩; refine ⟨_, rfl, ?_⟩; replace HO219 := zA (Kd.V_below (zv HO219 rfl) hb); have HO222 := zvl ho0 HB rfl; replace HB := zbb HB hb rfl; obtain ⟨Ao32, co32, eo32⟩ := Kd.V_slice HO222.out; subst eo32; obtain ⟨Ao33, co33, eo33⟩ := Kd.V_slice HO219.out; subst eo33) | ((with_reducible refine gate_callee (f := 67) rfl ?_); refine goesL_ (some 22) rfl rfl Tryd.func67 zk rfl #[.slice Ao33 t217.length co33, .slice Ao32 t220.length co32] rfl zX ?_; (with_reducible refine (bignat_Cmp.calls k _ _ t217 _ _ t220 t223 _ ?side1 ?side2 ?side3 ?side4 A9.out).mono ?_); (case side1 => exact zC (Kd.V_reads' HO219.out).2.2); (case side2 => exact (Kd.V_reads' HO219.out).2.1); (case side3 => exact zC (Kd.V_reads' HO222.out).2.2); (case side4 => exact (Kd.V_reads' HO222.out).2.1); rintro e w34 ⟨rfl, hb⟩; refine ⟨_, rfl, ?_⟩; replace HO219 := zA (Kd.V_below (zv HO219 rfl) hb); replace HO222 := zA (Kd.V_below (zv HO222 rfl) hb); replace HB := zbb HB hb rfl) | ((with_reducible refine gate_callee (f := 91) rfl ?_); refine goesL_ (some 45) rfl rfl Tryd.func91 zk rfl #[.slice Ao33 t217.length co33, .slice Ao32 t220.length co32] rfl zX ?_; (with_reducible refine (bignat_divLong.calls k _ _ t217 _ _ t220 t235 t236 _ ?side1 ?side2 ?side3 ?side4 A29.out).mono ?_); (case side1 => exact zC (Kd.V_reads' HO219.out).2.2); (case side2 => exact (Kd.V_reads' HO219.out).2.1); (case side3 => exact zC (Kd.V_reads' HO222.out).2.2); (case side4 => exact (Kd.V_reads' HO222.out).2.1); rintro e w35 ⟨v237, v239, rfl, ho0, ho1, hb⟩; refine ⟨_, rfl, ?_⟩; replace HO219 := zA (Kd.V_mono (Kd.V_told (Kd.V_told (Kd.V_old (zv HO219 rfl) hb) (Kd.R_base ho0)) (Kd.R_base ho1)) (fun _ h_ => h_.1)); replace HO222 := zA (Kd.V_mono (Kd.V_told (Kd.V_told (Kd.V_old (zv HO222 rfl) hb) (Kd.R_base ho0)) (Kd.R_base ho1)) (fun _ h_ => h_.1)); have HO238 := zlo ho0 HB rfl; have HO240 := zlo ho1 HB rfl; replace HB := zbb HB hb rfl))
 go_ret3
 exact ⟨_, _, zE, zR HO238.out, zR HO240.out, zH⟩

def bignat_Uint64.l0 : Nat → Int → List Int → Int → Int → Option (Int × Bool)
 | 0, _, _, _, _ => none
 | k + 1, x4, x12, x13, x14 => if x14 < x13 then (if 0 ≤ x14 then (if x14 < (x12.length : Int) then (if 0 ≤ (wrap64 (32 * x14)) then (bignat_Uint64.l0 k (Go.bits .or .u64 x4 (shl .u64 (IntKind.u64.wrap (rd x12 x14)) (wrap64 (32 * x14)))) x12 x13 (wrap64 (x14 + 1))) else (none)) else (none)) else (none)) else (some (x4, true))
def bignat_Uint64.f (k : Nat) (l0 : List Int) : Option (Int × Bool) := (bignat_trim.f k l0).bind fun t241 => (if (t241.length : Int) > 2 then (some (0, false)) else (bignat_Uint64.l0 k 0 t241 (t241.length : Int) 0))
theorem bignat_Uint64.mono_l : ∀ k, (∀ y0 y1 y2 y3, LeO (bignat_Uint64.l0 k y0 y1 y2 y3) (bignat_Uint64.l0 (k + 1) y0 y1 y2 y3))
 | 0 => fun _ _ _ _ r h => by simp [bignat_Uint64.l0] at h
 | k + 1 => by
  have ih0 := bignat_Uint64.mono_l k
  intro y0 y1 y2 y3
  unfold bignat_Uint64.l0
  exact zm2 ih0 bignat_trim.mono
theorem bignat_Uint64.mono : ∀ a0 k, LeO (bignat_Uint64.f k a0) (bignat_Uint64.f (k + 1) a0) := by
 intro a0 k;have ih0 := bignat_Uint64.mono_l k;unfold bignat_Uint64.f;exact zm2 ih0 bignat_trim.mono
set_option maxHeartbeats 8000000 in
set_option maxRecDepth 100000 in
theorem bignat_Uint64.calls (k : Nat) (A0 : Option Addr) (c0 : Nat) (l0 : List Int) (r1 : Int) (r2 : Bool) (w : World) (hr0 : Kd.C (Kd.int .u32) w A0 l0.length l0) (hc0 : l0.length ≤ c0) (h : bignat_Uint64.f k l0 = some (r1, r2)) :
 Calls Tryd.prog 101 #[.slice A0 l0.length c0] w fun e w' => e = .returned (.tuple #[.int .u64 r1, .bool r2]) ∧ Below w.heap.size w w' := by
 have HR0 := zA hr0;have HC0 := zA hc0;clear hr0 hc0;have HB := zA (Below.refl w.heap.size w);have H : ((bignat_trim.f k l0).bind fun t241 => (if (t241.length : Int) > 2 then (some (0, false)) else (bignat_Uint64.l0 k 0 t241 (t241.length : Int) 0))) = some (r1, r2) := h;clear h;obtain ⟨t241, A20, H⟩ := zi H;have A2 := zA A20;clear A20;by_cases c3 : (t241.length : Int) > 2
 ·rw [if_pos c3] at H;have c3b0 : decide (2 < (t241.length : Int)) = true := decide_eq_true c3;have c3b1 : decide (2 < t241.length) = true := decide_eq_true (by omega);clear c3;simp only [Option.some.injEq, Prod.mk.injEq] at H;obtain ⟨rfl, rfl⟩ := H;go_enter Tryd.func101, Tryd.ntmps101
  go_wp2_with (first | ((with_reducible refine gate_callee (f := 71) rfl ?_); refine goesL_ (some 8) rfl rfl Tryd.func71 zk rfl #[.slice A0 l0.length c0] rfl zX ?_; (with_reducible refine (bignat_trim.calls k (fun k_ => k_ < w.heap.size) _ _ l0 t241 _ ?side1 A2.out).mono ?_); (case side1 => exact Kd.V_mk HC0.out (Kd.F_below (Kd.C_F (Kd.heap_int .u32) HR0.out) (zb HB rfl))); rintro e w4 ⟨v242, rfl, ho0, hb⟩; refine ⟨_, rfl, ?_⟩; have HO243 := zvl ho0 HB rfl; replace HB := zbb HB hb rfl; obtain ⟨Ao5, co5, eo5⟩ := Kd.V_slice HO243.out; subst eo5))
  go_ret2
  exact ⟨zE, zH⟩
 rw [if_neg c3] at H;have c3b0 : decide (2 < (t241.length : Int)) = false := decide_eq_false c3;have c3b1 : decide (2 < t241.length) = false := decide_eq_false (by omega);clear c3;have H' := zA H;clear H;go_enter Tryd.func101, Tryd.ntmps101
 go_wp2_with (first | ((with_reducible refine gate_callee (f := 71) rfl ?_); refine goesL_ (some 8) rfl rfl Tryd.func71 zk rfl #[.slice A0 l0.length c0] rfl zX ?_; (with_reducible refine (bignat_trim.calls k (fun k_ => k_ < w.heap.size) _ _ l0 t241 _ ?side1 A2.out).mono ?_); (case side1 => exact Kd.V_mk HC0.out (Kd.F_below (Kd.C_F (Kd.heap_int .u32) HR0.out) (zb HB rfl))); rintro e w6 ⟨v242, rfl, ho0, hb⟩; refine ⟨_, rfl, ?_⟩; have HO243 := zvl ho0 HB rfl; replace HB := zbb HB hb rfl; obtain ⟨Ao7, co7, eo7⟩ := Kd.V_slice HO243.out; subst eo7))
 go_loopg [4, 14] k (fun kq v4 v14 w' => ∃ (x4_1 : Int) (x14_1 : Int), v4 = .int .u64 x4_1 ∧ v14 = .int .i64 x14_1 ∧ Aside0 (bignat_Uint64.l0 kq x4_1 t241 (t241.length : Int) x14_1 = some (r1, r2)) ∧ Aside0 (kq ≤ k) ∧ Aside0 (Kd.V (Kd.int .u32) 37 w' w.heap.size (fun _ => True) (.slice Ao7 t241.length co7) t241) ∧ Aside0 (Below w.heap.size w w'))
 case atStart => exact ⟨(0), (0), zS, zS, H', ⟨Nat.le_refl _⟩, ⟨zV HO243.out⟩, ⟨zH⟩⟩
 case round =>
  clear H';obtain ⟨x4_1, x14_1, rfl, rfl, HA, HK1, HO_12, HB⟩ := hrel;cases gk with
  | zero => exact absurd HA.out (by simp [bignat_Uint64.l0])
  | succ k1 =>
   have H := HA.out;clear HA;simp only [bignat_Uint64.l0] at H;by_cases c8 : x14_1 < (t241.length : Int)
   ·rw [if_pos c8] at H;have c8b0 := decide_eq_true c8;clear c8;by_cases c9 : 0 ≤ x14_1
    ·rw [if_pos c9] at H;have c9b0 := decide_eq_true c9;clear c9;by_cases c10 : x14_1 < (t241.length : Int)
     ·rw [if_pos c10] at H;have c10b0 := decide_eq_true c10;clear c10;obtain ⟨ji11, hji11⟩ : ∃ j_ : Int, (wrap64 (32 * x14_1)) = j_ := ⟨_, rfl⟩
      first | rw [hji11] at H | simp only [hji11] at H
      have hji11w : (IntKind.i64.wrap (32 * x14_1)) = ji11 := (i64_w _).trans hji11;by_cases c12 : 0 ≤ (ji11)
      ·rw [if_pos c12] at H;have c12b0 := eq_true c12;have c12b1 := decide_eq_true c12;clear c12;obtain ⟨ji13, hji13⟩ : ∃ j_ : Int, (shl .u64 (IntKind.u64.wrap (rd t241 x14_1)) (ji11)) = j_ := ⟨_, rfl⟩
       first | rw [hji13] at H | simp only [hji13] at H
       have hji13_ : (IntKind.u64.wrap ((IntKind.u64.wrap (rd t241 x14_1)) * 2 ^ min (ji11).toNat 64)) = ji13 := hji13;have hji13z : (ji11) ≤ 64 → (IntKind.u64.wrap ((IntKind.u64.wrap (rd t241 x14_1)) * 2 ^ (ji11).toNat)) = ji13 := shl_small hji13;have H' := zA H;clear H;have p244 : 0 ≤ (x14_1 : Int) := zD;have q244 : x14_1 < (t241.length : Int) := zD;obtain ⟨ad244, e244, hx244_0⟩ := Kd.at_int (Kd.V_reads' HO_12.out).2.2 x14_1 p244 q244;cases e244;replace p244 := eq_true p244;replace q244 := eq_true q244
       go_wp2
       go_roundg k1
       case measure => have := HK1.out; omega
       case rel => exact ⟨(Go.bits .or .u64 x4_1 (ji13)), (wrap64 (x14_1 + 1)), (by first | rfl | (simp; done) | (simp only [← hji13] <;> (first | rfl | simp)) | (simp [*]; done)), zS, H', ⟨by have := HK1.out; omega⟩, ⟨zV HO_12.out⟩, ⟨zH⟩⟩
      rw [if_neg c12] at H;cases H
     rw [if_neg c10] at H;cases H
    rw [if_neg c9] at H;cases H
   rw [if_neg c8] at H;have c8b0 := decide_eq_false c8;clear c8;simp only [Option.some.injEq, Prod.mk.injEq] at H;obtain ⟨rfl, rfl⟩ := H
   go_wp2
   go_ret2
   exact ⟨zE, zH⟩

def bignat_gcdSmall.l0 : Nat → Int → Int → Option (List Int)
 | 0, _, _ => none
 | k + 1, x5, x7 => if x7 = 0 then ((bignat_FromUint64.f x5).bind fun t249 => (some t249)) else (bignat_gcdSmall.l0 k x7 (Int.tmod x5 x7))
def bignat_gcdSmall.f (k : Nat) (l0 : List Int) (l1 : List Int) : Option (List Int) := (bignat_Uint64.f k l0).bind fun bt245 => ((bignat_Uint64.f k l1).bind fun bt247 => (bignat_gcdSmall.l0 k bt245.1 bt247.1))
theorem bignat_gcdSmall.mono_l : ∀ k, (∀ y0 y1, LeO (bignat_gcdSmall.l0 k y0 y1) (bignat_gcdSmall.l0 (k + 1) y0 y1))
 | 0 => fun _ _ r h => by simp [bignat_gcdSmall.l0] at h
 | k + 1 => by
  have ih0 := bignat_gcdSmall.mono_l k
  intro y0 y1
  unfold bignat_gcdSmall.l0
  exact zm2 ih0 bignat_Uint64.mono
theorem bignat_gcdSmall.mono : ∀ a0 a1 k, LeO (bignat_gcdSmall.f k a0 a1) (bignat_gcdSmall.f (k + 1) a0 a1) := by
 intro a0 a1 k;have ih0 := bignat_gcdSmall.mono_l k;unfold bignat_gcdSmall.f;exact zm2 ih0 bignat_Uint64.mono
set_option maxHeartbeats 8000000 in
set_option maxRecDepth 100000 in
theorem bignat_gcdSmall.calls (k : Nat) (A0 : Option Addr) (c0 : Nat) (l0 : List Int) (A1 : Option Addr) (c1 : Nat) (l1 : List Int) (r : List Int) (w : World) (hr0 : Kd.C (Kd.int .u32) w A0 l0.length l0) (hc0 : l0.length ≤ c0) (hr1 : Kd.C (Kd.int .u32) w A1 l1.length l1) (hc1 : l1.length ≤ c1) (h : bignat_gcdSmall.f k l0 l1 = some r) :
 Calls Tryd.prog 90 #[.slice A0 l0.length c0, .slice A1 l1.length c1] w fun e w' => ∃ v0_ : Value, e = .returned (v0_) ∧ Kd.R (Kd.int .u32) 37 w' w.heap.size (fun _ => True) v0_ r ∧ Below w.heap.size w w' := by
 have HR0 := zA hr0;have HC0 := zA hc0;clear hr0 hc0;have HR1 := zA hr1;have HC1 := zA hc1;clear hr1 hc1;have HB := zA (Below.refl w.heap.size w);have H : ((bignat_Uint64.f k l0).bind fun bt245 => ((bignat_Uint64.f k l1).bind fun bt247 => (bignat_gcdSmall.l0 k bt245.1 bt247.1))) = some r := h;clear h;obtain ⟨⟨t245, t246⟩, A30, H⟩ := zi H;dsimp only at H;have A3 := zA A30;clear A30;obtain ⟨⟨t247, t248⟩, A40, H⟩ := zi H;dsimp only at H;have A4 := zA A40;clear A40;have H' := zA H;clear H;go_enter Tryd.func90, Tryd.ntmps90
 have M343_0 : Aside0 True := ⟨trivial⟩;have M343_1 : Aside0 True := ⟨trivial⟩
 go_wp2_with (first | (go_at_call 101; clear M343_0; (with_reducible refine (bignat_Uint64.calls k _ _ l0 t245 t246 _ ?side1 ?side2 A3.out).mono ?_); (case side1 => exact zC HR0.out); (case side2 => exact HC0.out); rintro e w5 ⟨rfl, hb⟩; replace HB := zbb HB hb rfl) | (go_at_call 101; clear M343_1; (with_reducible refine (bignat_Uint64.calls k _ _ l1 t247 t248 _ ?side1 ?side2 A4.out).mono ?_); (case side1 => exact zC (Kd.C_below HR1.out HB.out)); (case side2 => exact HC1.out); rintro e w6 ⟨rfl, hb⟩; replace HB := zbb HB hb rfl))
 repeat (go_quiet (fail); try go_wp2)
 go_loopg [5, 7] k (fun kq v5 v7 w' => ∃ (x5_1 : Int) (x7_1 : Int), v5 = .int .u64 x5_1 ∧ v7 = .int .u64 x7_1 ∧ Aside0 (bignat_gcdSmall.l0 kq x5_1 x7_1 = some r) ∧ Aside0 (kq ≤ k) ∧ Aside0 (Below w.heap.size w w'))
 case atStart => exact ⟨(t245), (t247), zS, zS, H', ⟨Nat.le_refl _⟩, ⟨zH⟩⟩
 case round =>
  clear H';obtain ⟨x5_1, x7_1, rfl, rfl, HA, HK1, HB⟩ := hrel;cases gk with
  | zero => exact absurd HA.out (by simp [bignat_gcdSmall.l0])
  | succ k1 =>
   have H := HA.out;clear HA;simp only [bignat_gcdSmall.l0] at H;by_cases c7 : x7_1 = 0
   ·rw [if_pos c7] at H;have c7b0 := beq_iff_eq.mpr c7;have c7b1 := bne_eq_false_iff_eq.mpr c7;clear c7;obtain ⟨t249, A80, H⟩ := zi H;have A8 := zA A80;clear A80;obtain rfl := Option.some.inj H
    go_wp2_with (first | (go_at_call 22; (with_reducible refine (bignat_FromUint64.calls x5_1 t249 _ A8.out).mono ?_); rintro e w9 ⟨v250, rfl, ho0, hb⟩; have HO251 := zlo ho0 HB rfl; replace HB := zbb HB hb rfl))
    repeat (go_quiet (fail); try go_wp2)
    go_ret
    exact ⟨_, zE, zR HO251.out, zH⟩
   rw [if_neg c7] at H;have c7b0 := beq_eq_false_iff_ne.mpr c7;have c7b1 := bne_iff_ne.mpr c7;have H' := zA H;clear H
   go_wp2
   repeat (go_quiet (fail); try go_wp2)
   go_roundg k1
   case measure => have := HK1.out; omega
   case rel => exact ⟨(x7_1), (Int.tmod x5_1 x7_1), zS, zS, H', ⟨by have := HK1.out; omega⟩, ⟨zH⟩⟩

mutual
def bignat_GCD.l0 : Nat → List Int → List Int → Option (List Int)
 | 0, _, _ => none
 | k + 1, x0, x1 => if (x1.length : Int) > 0 then (if (x0.length : Int) ≤ 2 then (bignat_GCD.j1 k x0 x1 (decide ((x1.length : Int) ≤ 2))) else (bignat_GCD.j1 k x0 x1 false)) else (some x0)
def bignat_GCD.j1 : Nat → List Int → List Int → Bool → Option (List Int)
 | 0, _, _, _ => none
 | k + 1, x0, x1, x22 => if x22 = true then ((bignat_gcdSmall.f k x0 x1).bind fun t258 => (some t258)) else ((bignat_DivMod.f k x0 x1).bind fun bt261 => (bignat_GCD.l0 k x1 bt261.2.1))
end
def bignat_GCD.f (k : Nat) (l0 : List Int) (l1 : List Int) : Option (List Int) := (bignat_clone.f k l0).bind fun t252 => ((bignat_clone.f k l1).bind fun t255 => (bignat_GCD.l0 k t252 t255))
theorem bignat_GCD.mono_l : ∀ k, (∀ y0 y1, LeO (bignat_GCD.l0 k y0 y1) (bignat_GCD.l0 (k + 1) y0 y1)) ∧ (∀ y0 y1 y2, LeO (bignat_GCD.j1 k y0 y1 y2) (bignat_GCD.j1 (k + 1) y0 y1 y2))
 | 0 => ⟨fun _ _ r h => by simp [bignat_GCD.l0] at h, fun _ _ _ r h => by simp [bignat_GCD.j1] at h⟩
 | k + 1 => by
  obtain ⟨ih0, ih1⟩ := bignat_GCD.mono_l k
  refine ⟨?_, ?_⟩
  ·intro y0 y1
   unfold bignat_GCD.l0
   exact zm5 ih0 ih1 bignat_DivMod.mono bignat_clone.mono bignat_gcdSmall.mono
  intro y0 y1 y2
  unfold bignat_GCD.j1
  exact zm5 ih0 ih1 bignat_DivMod.mono bignat_clone.mono bignat_gcdSmall.mono
theorem bignat_GCD.mono : ∀ a0 a1 k, LeO (bignat_GCD.f k a0 a1) (bignat_GCD.f (k + 1) a0 a1) := by
 intro a0 a1 k;obtain ⟨ih0, ih1⟩ := bignat_GCD.mono_l k;unfold bignat_GCD.f;exact zm5 ih0 ih1 bignat_DivMod.mono bignat_clone.mono bignat_gcdSmall.mono
set_option maxHeartbeats 8000000 in
set_option maxRecDepth 100000 in
theorem bignat_GCD.calls (k : Nat) (A0 : Option Addr) (c0 : Nat) (l0 : List Int) (A1 : Option Addr) (c1 : Nat) (l1 : List Int) (r : List Int) (w : World) (hr0 : Kd.C (Kd.int .u32) w A0 l0.length l0) (hc0 : l0.length ≤ c0) (hr1 : Kd.C (Kd.int .u32) w A1 l1.length l1) (hc1 : l1.length ≤ c1) (h : bignat_GCD.f k l0 l1 = some r) :
 Calls Tryd.prog 77 #[.slice A0 l0.length c0, .slice A1 l1.length c1] w fun e w' => ∃ v0_ : Value, e = .returned (v0_) ∧ Kd.R (Kd.int .u32) 37 w' w.heap.size (fun _ => True) v0_ r ∧ Below w.heap.size w w' := by
 have HR0 := zA hr0;have HC0 := zA hc0;clear hr0 hc0;have HR1 := zA hr1;have HC1 := zA hc1;clear hr1 hc1;have HB := zA (Below.refl w.heap.size w);have H : ((bignat_clone.f k l0).bind fun t252 => ((bignat_clone.f k l1).bind fun t255 => (bignat_GCD.l0 k t252 t255))) = some r := h;clear h;obtain ⟨t252, A30, H⟩ := zi H;have A3 := zA A30;clear A30;obtain ⟨t255, A40, H⟩ := zi H;have A4 := zA A40;clear A40;have H' := zA H;clear H;go_enter Tryd.func77, Tryd.ntmps77
 go_wp2_with (first | ((with_reducible refine gate_callee (f := 64) rfl ?_); refine goesL_ (some 9) rfl rfl Tryd.func64 zk rfl #[.slice A0 l0.length c0] rfl zX ?_; (with_reducible refine (bignat_clone.calls k _ _ l0 t252 _ ?side1 ?side2 A3.out).mono ?_); (case side1 => exact zC HR0.out); (case side2 => exact HC0.out); rintro e w5 ⟨v253, rfl, ho0, hb⟩; refine ⟨_, rfl, ?_⟩; have HO254 := zlo ho0 HB rfl; replace HB := zbb HB hb rfl) | ((with_reducible refine gate_callee (f := 64) rfl ?_); refine goesL_ (some 11) rfl rfl Tryd.func64 zk rfl #[.slice A1 l1.length c1] rfl zX ?_; (with_reducible refine (bignat_clone.calls k _ _ l1 t255 _ ?side1 ?side2 A4.out).mono ?_); (case side1 => exact zC (Kd.C_below HR1.out HB.out)); (case side2 => exact HC1.out); rintro e w6 ⟨v256, rfl, ho0, hb⟩; refine ⟨_, rfl, ?_⟩; have HO257 := zA (Kd.R_lower (zN ho0 HO254 rfl) (below_size (zb HB rfl))); replace HO254 := zre HO254 hb ho0 rfl; replace HB := zbb HB hb rfl))
 go_loopg [0, 1] k (fun kq v0 v1 w' => ∃ (x0_1 : List Int) (x1_1 : List Int), Aside0 (bignat_GCD.l0 kq x0_1 x1_1 = some r) ∧ Aside0 (kq ≤ k) ∧ Aside0 (Kd.R (Kd.int .u32) 37 w' w.heap.size (fun k_ => some k_ ≠ (v1 : Value).ownBlock) v0 x0_1) ∧ Aside0 (Kd.R (Kd.int .u32) 37 w' w.heap.size (fun k_ => some k_ ≠ (v0 : Value).ownBlock) v1 x1_1) ∧ Aside0 (Below w.heap.size w w'))
 case atStart => exact ⟨(t252), (t255), H', ⟨Nat.le_refl _⟩, ⟨zRM HO254.out (fun _ hk => hk.2)⟩, ⟨zRM HO257.out (fun _ hk => hk.2)⟩, ⟨zH⟩⟩
 case round =>
  clear H';obtain ⟨x0_1, x1_1, HA, HK1, HO_0, HO_1, HB⟩ := hrel;cases gk with
  | zero => exact absurd HA.out (by simp [bignat_GCD.l0])
  | succ k1 =>
   have H := HA.out;clear HA;simp only [bignat_GCD.l0] at H;by_cases c7 : (x1_1.length : Int) > 0
   ·rw [if_pos c7] at H;have c7b0 : decide (0 < (x1_1.length : Int)) = true := decide_eq_true c7;have c7b1 : decide (0 < x1_1.length) = true := decide_eq_true (by omega);clear c7;have HC8 := zA H;clear H;obtain ⟨Ao9, co9, eo9⟩ := Kd.R_slice HO_1.out;subst eo9
    go_upto_region 3 with (fail)
    go_cut [22] (fun v22 wc => ∃ (kq : Nat) (x22_7 : Bool), v22 = .bool x22_7 ∧ Aside0 (bignat_GCD.j1 kq x0_1 x1_1 x22_7 = some r) ∧ Aside0 (kq ≤ k1) ∧ Aside0 (Kd.R (Kd.int .u32) 37 wc w.heap.size (fun k_ => some k_ ≠ ((.slice Ao9 x1_1.length co9) : Value).ownBlock) u0 x0_1) ∧ Aside0 (Kd.R (Kd.int .u32) 37 wc w.heap.size (fun k_ => some k_ ≠ (u0 : Value).ownBlock) (.slice Ao9 x1_1.length co9) x1_1) ∧ Aside0 (Below w.heap.size w wc))
    case first =>
     have H := HC8.out;clear HC8;by_cases c10 : (x0_1.length : Int) ≤ 2
     ·rw [if_pos c10] at H;have c10b0 := decide_eq_true c10;have c10b1 : decide (x0_1.length ≤ 2) = true := decide_eq_true (by omega);clear c10;(first | rw [c10b0] | rw [c10b1] | (simp only [i64_w, i32_w]; rw [c10b0]) | skip);have H' := zA H;clear H;obtain ⟨Ao11, co11, eo11⟩ := Kd.R_slice HO_0.out;subst eo11
      go_wp2
      go_meet
      case rel => exact ⟨_, (decide ((x1_1.length : Int) ≤ 2)), zS, H', ⟨by have := HK1.out; first | omega | exact Nat.le_refl _⟩, ⟨zR HO_0.out⟩, ⟨zR HO_1.out⟩, ⟨zH⟩⟩
     rw [if_neg c10] at H;have c10b0 := decide_eq_false c10;have c10b1 : decide (x0_1.length ≤ 2) = false := decide_eq_false (by omega);clear c10;(first | rw [c10b0] | rw [c10b1] | (simp only [i64_w, i32_w]; rw [c10b0]) | skip);have H' := zA H;clear H;obtain ⟨Ao12, co12, eo12⟩ := Kd.R_slice HO_0.out;subst eo12
     go_wp2
     go_meet
     case rel => exact ⟨_, (false), zS, H', ⟨by have := HK1.out; first | omega | exact Nat.le_refl _⟩, ⟨zR HO_0.out⟩, ⟨zR HO_1.out⟩, ⟨zH⟩⟩
    case rest =>
     clear HC8;obtain ⟨kq, x22_7, rfl, HA, HJ7, HO_0, HO_1, HB⟩ := hcut;cases kq with
     | zero => exact absurd HA.out (by simp [bignat_GCD.j1])
     | succ kj7 =>
      have H := HA.out;clear HA;simp only [bignat_GCD.j1] at H;by_cases c13 : x22_7 = true
      ·subst c13;have H1 : ((bignat_gcdSmall.f kj7 x0_1 x1_1).bind fun t258 => (some t258)) = some r := by rw [if_pos rfl] at H; exact H
       clear H;have H := H1;clear H1;obtain ⟨t258, A140, H⟩ := zi H;have A14 := zA A140;clear A140;obtain rfl := Option.some.inj H;obtain ⟨Ao15, co15, eo15⟩ := Kd.R_slice HO_0.out;subst eo15
       go_wp2_with (first | ((with_reducible refine gate_callee (f := 90) rfl ?_); refine goesL_ (some 25) rfl rfl Tryd.func90 zk rfl #[.slice Ao15 x0_1.length co15, .slice Ao9 x1_1.length co9] rfl zX ?_; (with_reducible refine (bignat_gcdSmall.calls kj7 _ _ x0_1 _ _ x1_1 t258 _ ?side1 ?side2 ?side3 ?side4 A14.out).mono ?_); (case side1 => exact zC (Kd.R_reads' HO_0.out).2.2); (case side2 => exact (Kd.R_reads' HO_0.out).2.1); (case side3 => exact zC (Kd.R_reads' HO_1.out).2.2); (case side4 => exact (Kd.R_reads' HO_1.out).2.1); rintro e w16 ⟨v259, rfl, ho0, hb⟩; refine ⟨_, rfl, ?_⟩; have HO260 := zA (Kd.R_lower (zN (zN ho0 HO_0 rfl) HO_1 rfl) (below_size (zb HB rfl))); replace HO_0 := zre HO_0 hb ho0 rfl; replace HO_1 := zre HO_1 hb ho0 rfl; replace HB := zbb HB hb rfl))
       go_ret
       exact ⟨_, zE, zRM HO260.out (fun _ hk => trivial), zH⟩
      replace c13 := Bool.eq_false_iff.mpr c13;subst c13;have H1 : ((bignat_DivMod.f kj7 x0_1 x1_1).bind fun bt261 => (bignat_GCD.l0 kj7 x1_1 bt261.2.1)) = some r := by rw [if_neg (show ¬ (false = true) by decide)] at H; exact H
      clear H;have H := H1;clear H1;obtain ⟨⟨t261, t262, t263⟩, A170, H⟩ := zi H;dsimp only at H;have A17 := zA A170;clear A170;have H' := zA H;clear H;obtain ⟨Ao18, co18, eo18⟩ := Kd.R_slice HO_0.out;subst eo18
      go_wp2_with (first | ((with_reducible refine gate_callee (f := 78) rfl ?_); refine goesL_ (some 29) rfl rfl Tryd.func78 zk rfl #[.slice Ao18 x0_1.length co18, .slice Ao9 x1_1.length co9] rfl zX ?_; (with_reducible refine (bignat_DivMod.calls kj7 _ _ x0_1 _ _ x1_1 t261 t262 t263 _ ?side1 ?side2 ?side3 ?side4 A17.out).mono ?_); (case side1 => exact zC (Kd.R_reads' HO_0.out).2.2); (case side2 => exact (Kd.R_reads' HO_0.out).2.1); (case side3 => exact zC (Kd.R_reads' HO_1.out).2.2); (case side4 => exact (Kd.R_reads' HO_1.out).2.1); rintro e w19 ⟨v264, v266, rfl, ho0, ho1, hb⟩; refine ⟨_, rfl, ?_⟩; have HO265 := zA (Kd.R_lower (zN (zN ho0 HO_0 rfl) HO_1 rfl) (below_size (zb HB rfl))); have HO267 := zA (Kd.R_lower (zN (zN ho1 HO_0 rfl) HO_1 rfl) (below_size (zb HB rfl))); replace HO_0 := zt2 HO_0 hb ho0 ho1 rfl; replace HO_1 := zt2 HO_1 hb ho0 ho1 rfl; replace HB := zbb HB hb rfl))
      go_roundg kj7
      case measure => have := HK1.out; have := HJ7.out; omega
      case rel => exact ⟨(x1_1), (t262), H', ⟨by have := HK1.out; have := HJ7.out; omega⟩, ⟨zRM HO_1.out (fun _ hk => hk.2)⟩, ⟨zRM HO267.out (fun _ hk => hk.2)⟩, ⟨zH⟩⟩
   rw [if_neg c7] at H;have c7b0 : decide (0 < (x1_1.length : Int)) = false := decide_eq_false c7;have c7b1 : decide (0 < x1_1.length) = false := decide_eq_false (by omega);clear c7;obtain rfl := Option.some.inj H;obtain ⟨Ao20, co20, eo20⟩ := Kd.R_slice HO_1.out;subst eo20
   go_wp2
   go_ret
   exact ⟨_, zE, zRM HO_0.out (fun _ hk => trivial), zH⟩

end Go.Proofs.YtoeldfopjalpkaaDoor.Q

