/- Lemmas for the proof of one law of this seat (Qx8). -/
import Derived.Test.YtoeldfopjalpkaaDoorZRationalNewQx0
import Derived.Test.YtoeldfopjalpkaaDoorZRationalNewQx5
import Derived.Test.YtoeldfopjalpkaaDoorZRationalNewQx6
import Derived.Test.YtoeldfopjalpkaaDoorZRationalNewQx7
namespace Go.Proofs.YtoeldfopjalpkaaDoor.Q
open Go.RowKit Go.Proofs.YtoeldfopjalpkaaDoorW.PrintWords Go.Proofs.YtoeldfopjalpkaaDoorW.PrintLast Go.Proofs.YtoeldfopjalpkaaDoorW.PrintMore
attribute [local go_sem] max2_int min2_int max_two min_two max_three min_three max_four min_four   -- for this text's walks alone
set_option linter.unusedVariables false
set_option linter.unusedSimpArgs false

def credenceref1_NatDivMod.l0 : Nat → List Int → List Int → List Int → List Int → Int → Option (List Int × List Int × Bool)
 | 0, _, _, _, _, _ => none
 | k + 1, x7, x8, x9, x10, x11 => if x11 ≥ 0 then (if 0 ≤ (wrap64 (Int.tdiv x11 32)) then (if (wrap64 (Int.tdiv x11 32)) < (x7.length : Int) then (if 0 ≤ (IntKind.u64.wrap (Int.tmod x11 32)) then ((credenceref1_double.f k x10 (Go.bits .and .u32 (shr .u32 (rd x7 (wrap64 (Int.tdiv x11 32))) (IntKind.u64.wrap (Int.tmod x11 32))) 1)).bind fun t441 => ((credenceref1_NatCmp.f k t441 x8).bind fun t444 => (if t444 ≥ 0 then ((credenceref1_NatSub.f k t441 x8).bind fun bt445 => (if (wrap64 (Int.tdiv x11 32)) < (x9.length : Int) then (credenceref1_NatDivMod.l0 k x7 x8 (x9.set ((wrap64 (Int.tdiv x11 32)) : Int).toNat (Go.bits .or .u32 (rd x9 (wrap64 (Int.tdiv x11 32))) (shl .u32 1 (IntKind.u64.wrap (Int.tmod x11 32))))) bt445.1 (wrap64 (x11 - 1))) else (none))) else (credenceref1_NatDivMod.l0 k x7 x8 x9 t441 (wrap64 (x11 - 1)))))) else (none)) else (none)) else (none)) else ((credenceref1_NatNorm.f k x9).bind fun t434 => ((credenceref1_NatNorm.f k x10).bind fun t437 => (some (t434, t437, true))))
def credenceref1_NatDivMod.f (k : Nat) (l0 : List Int) (l1 : List Int) : Option (List Int × List Int × Bool) := (credenceref1_NatNorm.f k l0).bind fun t425 => ((credenceref1_NatNorm.f k l1).bind fun t428 => (if (t428.length : Int) = 0 then (some (([] : List Int), ([] : List Int), false)) else (if 0 ≤ (t425.length : Int) then (if ((t425.length : Int) : Int).toNat ≤ 70368744177664 then (credenceref1_NatDivMod.l0 k t425 t428 (List.replicate ((t425.length : Int) : Int).toNat 0) ([] : List Int) (wrap64 ((wrap64 (32 * (t425.length : Int))) - 1))) else (none)) else (none))))
set_option maxHeartbeats 8000000 in
set_option maxRecDepth 100000 in
theorem credenceref1_NatDivMod.calls (k : Nat) (A0 : Option Addr) (c0 : Nat) (l0 : List Int) (A1 : Option Addr) (c1 : Nat) (l1 : List Int) (r1 : List Int) (r2 : List Int) (r3 : Bool) (w : World) (hr0 : Kd.C (Kd.int .u32) w A0 l0.length l0) (hc0 : l0.length ≤ c0) (hr1 : Kd.C (Kd.int .u32) w A1 l1.length l1) (hc1 : l1.length ≤ c1) (h : credenceref1_NatDivMod.f k l0 l1 = some (r1, r2, r3)) :
  Calls Tryd.prog 80 #[.slice A0 l0.length c0, .slice A1 l1.length c1] w fun e w' => ∃ v0_ v1_ : Value, e = .returned (.tuple #[v0_, v1_, .bool r3]) ∧ Kd.R (Kd.int .u32) 37 w' w.heap.size (fun k_ => some k_ ≠ (v1_ : Value).ownBlock) v0_ r1 ∧ Kd.R (Kd.int .u32) 37 w' w.heap.size (fun k_ => some k_ ≠ (v0_ : Value).ownBlock) v1_ r2 ∧ Below w.heap.size w w' := by
 have HR0 := Aside0.mk hr0
 have HC0 := Aside0.mk hc0
 clear hr0 hc0
 have HR1 := Aside0.mk hr1
 have HC1 := Aside0.mk hc1
 clear hr1 hc1
 have HB := Aside0.mk (Below.refl w.heap.size w)
 have H : ((credenceref1_NatNorm.f k l0).bind fun t425 => ((credenceref1_NatNorm.f k l1).bind fun t428 => (if (t428.length : Int) = 0 then (some (([] : List Int), ([] : List Int), false)) else (if 0 ≤ (t425.length : Int) then (if ((t425.length : Int) : Int).toNat ≤ 70368744177664 then (credenceref1_NatDivMod.l0 k t425 t428 (List.replicate ((t425.length : Int) : Int).toNat 0) ([] : List Int) (wrap64 ((wrap64 (32 * (t425.length : Int))) - 1))) else (none)) else (none))))) = some (r1, r2, r3) := h
 clear h
 replace H := Option.bind_eq_some_iff.mp H
 obtain ⟨t425, A30, H⟩ := H
 replace H : ((credenceref1_NatNorm.f k l1).bind fun t428 => (if (t428.length : Int) = 0 then (some (([] : List Int), ([] : List Int), false)) else (if 0 ≤ (t425.length : Int) then (if ((t425.length : Int) : Int).toNat ≤ 70368744177664 then (credenceref1_NatDivMod.l0 k t425 t428 (List.replicate ((t425.length : Int) : Int).toNat 0) ([] : List Int) (wrap64 ((wrap64 (32 * (t425.length : Int))) - 1))) else (none)) else (none)))) = some (r1, r2, r3) := H
 have A3 := Aside0.mk A30
 clear A30
 replace H := Option.bind_eq_some_iff.mp H
 obtain ⟨t428, A40, H⟩ := H
 replace H : (if (t428.length : Int) = 0 then (some (([] : List Int), ([] : List Int), false)) else (if 0 ≤ (t425.length : Int) then (if ((t425.length : Int) : Int).toNat ≤ 70368744177664 then (credenceref1_NatDivMod.l0 k t425 t428 (List.replicate ((t425.length : Int) : Int).toNat 0) ([] : List Int) (wrap64 ((wrap64 (32 * (t425.length : Int))) - 1))) else (none)) else (none))) = some (r1, r2, r3) := H
 have A4 := Aside0.mk A40
 clear A40
 by_cases c5 : (t428.length : Int) = 0
 ·
  rw [if_pos c5] at H
  have c5b0 : ((t428.length : Int) == 0) = true := beq_iff_eq.mpr c5
  have c5b1 : ((t428.length : Int) != 0) = false := bne_eq_false_iff_eq.mpr c5
  clear c5
  simp only [Option.some.injEq, Prod.mk.injEq] at H
  obtain ⟨rfl, rfl, rfl⟩ := H
  go_enter Tryd.func80, Tryd.ntmps80
  go_wp2_with (first | ((with_reducible refine gate_callee (f := 87) rfl ?_); refine goesL_ (some 13) rfl rfl Tryd.func87 (by kernel_rfl) rfl #[.slice A0 l0.length c0] rfl (by first | rfl | (go_simp; first | done | rfl | omega)) ?_; (with_reducible refine (credenceref1_NatNorm.calls k _ _ l0 t425 _ ?side1 ?side2 A3.out).mono ?_); (case side1 => repeat first | exact HR0.out | refine Kd.C_drewN ?_ _ | refine Kd.C_alloc ?_ _ | refine Kd.C_drew ?_); (case side2 => exact HC0.out); rintro e w6 ⟨v426, rfl, ho0, hb⟩; refine ⟨_, rfl, ?_⟩; have n0_ := Aside0.mk (Kd.R_lower ho0 (below_size (zb HB rfl))); have n1_ := Aside0.mk (below_step (zb HB rfl) hb); clear HB; have HO427 := n0_; have HB := n1_; clear n0_ n1_) | ((with_reducible refine gate_callee (f := 87) rfl ?_); refine goesL_ (some 15) rfl rfl Tryd.func87 (by kernel_rfl) rfl #[.slice A1 l1.length c1] rfl (by first | rfl | (go_simp; first | done | rfl | omega)) ?_; (with_reducible refine (credenceref1_NatNorm.calls k _ _ l1 t428 _ ?side1 ?side2 A4.out).mono ?_); (case side1 => repeat first | exact (Kd.C_below HR1.out HB.out) | refine Kd.C_drewN ?_ _ | refine Kd.C_alloc ?_ _ | refine Kd.C_drew ?_); (case side2 => exact HC1.out); rintro e w7 ⟨v429, rfl, ho0, hb⟩; refine ⟨_, rfl, ?_⟩; have n0_ := Aside0.mk (Kd.R_elder' (zr HO427 rfl) (Kd.R_base ho0) hb); have n1_ := Aside0.mk (Kd.R_lower (Kd.R_new' ho0 (Kd.R_lt (zr HO427 rfl))) (below_size (zb HB rfl))); have n2_ := Aside0.mk (below_step (zb HB rfl) hb); clear HO427; clear HB; have HO427 := n0_; have HO430 := n1_; have HB := n2_; clear n0_ n1_ n2_; obtain ⟨Ao8, co8, eo8⟩ := Kd.R_slice HO430.out; subst eo8))
  go_ret3
  exact ⟨_, _, by first | rfl | (simp [*, errW_none, errW_some] <;> rfl), by first | exact Kd.R_nil _ _ _ _ _ | exact Kd.V_nil _ _ _ _ _, by first | exact Kd.R_nil _ _ _ _ _ | exact Kd.V_nil _ _ _ _ _, by repeat (first | (with_reducible first | exact HB.out | apply below_alloc | apply pw_below_drewN | apply below_drew1) | exact HB.out)⟩
 ·
  rw [if_neg c5] at H
  have c5b0 : ((t428.length : Int) == 0) = false := beq_eq_false_iff_ne.mpr c5
  have c5b1 : ((t428.length : Int) != 0) = true := bne_iff_ne.mpr c5
  have c5b2 : ¬ (t428 = []) := fun h_ => c5 (by rw [h_]; rfl)
  by_cases c9 : 0 ≤ (t425.length : Int)
  ·
   rw [if_pos c9] at H
   have c9b0 := eq_true c9
   have c9b1 : decide (0 ≤ (t425.length : Int)) = true := decide_eq_true c9
   clear c9
   by_cases c10 : ((t425.length : Int) : Int).toNat ≤ 70368744177664
   ·
    rw [if_pos c10] at H
    have c10b0 := eq_true c10
    have c10b1 : decide (((t425.length : Int) : Int).toNat ≤ 70368744177664) = true := decide_eq_true c10
    clear c10
    obtain ⟨y431, hy431⟩ : ∃ y_ : List Int, y_ = (List.replicate ((t425.length : Int) : Int).toNat 0) := ⟨_, rfl⟩
    replace H : (credenceref1_NatDivMod.l0 k t425 t428 y431 ([] : List Int) (wrap64 ((wrap64 (32 * (t425.length : Int))) - 1))) = some (r1, r2, r3) := by first | (rw [hy431]; with_reducible exact H) | (have H2_ := (Option.bind_some _ _).symm.trans H; rw [hy431]; with_reducible exact H2_) | (have H2_ := (Option.bind_some _ _).symm.trans H; with_reducible exact H2_) | with_reducible exact H | (rw [hy431]; exact H) | exact H
    have Ny431 := Aside0.mk hy431
    clear hy431
    have H' := Aside0.mk H
    clear H
    go_enter Tryd.func80, Tryd.ntmps80
    go_wp2_with (first | ((with_reducible refine gate_callee (f := 87) rfl ?_); refine goesL_ (some 13) rfl rfl Tryd.func87 (by kernel_rfl) rfl #[.slice A0 l0.length c0] rfl (by first | rfl | (go_simp; first | done | rfl | omega)) ?_; (with_reducible refine (credenceref1_NatNorm.calls k _ _ l0 t425 _ ?side1 ?side2 A3.out).mono ?_); (case side1 => repeat first | exact HR0.out | refine Kd.C_drewN ?_ _ | refine Kd.C_alloc ?_ _ | refine Kd.C_drew ?_); (case side2 => exact HC0.out); rintro e w11 ⟨v426, rfl, ho0, hb⟩; refine ⟨_, rfl, ?_⟩; have n0_ := Aside0.mk (Kd.R_lower ho0 (below_size (zb HB rfl))); have n1_ := Aside0.mk (below_step (zb HB rfl) hb); clear HB; have HO427 := n0_; have HB := n1_; clear n0_ n1_) | ((with_reducible refine gate_callee (f := 87) rfl ?_); refine goesL_ (some 15) rfl rfl Tryd.func87 (by kernel_rfl) rfl #[.slice A1 l1.length c1] rfl (by first | rfl | (go_simp; first | done | rfl | omega)) ?_; (with_reducible refine (credenceref1_NatNorm.calls k _ _ l1 t428 _ ?side1 ?side2 A4.out).mono ?_); (case side1 => repeat first | exact (Kd.C_below HR1.out HB.out) | refine Kd.C_drewN ?_ _ | refine Kd.C_alloc ?_ _ | refine Kd.C_drew ?_); (case side2 => exact HC1.out); rintro e w12 ⟨v429, rfl, ho0, hb⟩; refine ⟨_, rfl, ?_⟩; have n0_ := Aside0.mk (Kd.R_elder' (zr HO427 rfl) (Kd.R_base ho0) hb); have n1_ := Aside0.mk (Kd.R_lower (Kd.R_new' ho0 (Kd.R_lt (zr HO427 rfl))) (below_size (zb HB rfl))); have n2_ := Aside0.mk (below_step (zb HB rfl) hb); clear HO427; clear HB; have HO427 := n0_; have HO430 := n1_; have HB := n2_; clear n0_ n1_ n2_; obtain ⟨Ao13, co13, eo13⟩ := Kd.R_slice HO430.out; subst eo13; obtain ⟨Ao14, co14, eo14⟩ := Kd.R_slice HO427.out; subst eo14) | ((with_reducible refine gate_dst (N := 21) rfl ?_); refine Kd.R_make (Kd.int .u32) _ 37 rfl (N := 21) rfl 23 _ _ rfl (t425.length : Int) rfl rfl Tryd.underlying23 (.int .u32 0) 4 info37 rfl (by decide) (by omega) 0 (ok := fun _ => True) (okp := fun _ => True) rfl (fun _ hk => hk) trivial (of_decide_eq_true (by first | (with_reducible assumption) | assumption)) (Nat.le_trans (Nat.mul_le_mul_right _ (of_decide_eq_true (by first | (with_reducible assumption) | assumption) : (t425.length : Int).toNat ≤ 70368744177664)) (by omega)) (Below.refl _ _) (Nat.le_refl _) ?_; intro v432 w15 ho16 hb hg_ hnew_; clear hg_ hnew_; (first | rw [← Ny431.out] at ho16 | (simp only [Int.reduceToNat] at ho16; rw [← Ny431.out] at ho16)); have n0_ := Aside0.mk (Kd.R_elder' (zr HO427 rfl) (Kd.R_base ho16) hb); have n1_ := Aside0.mk (Kd.R_elder' (zr HO430 rfl) (Kd.R_base ho16) hb); have n2_ := Aside0.mk (Kd.R_lower (Kd.R_new' (Kd.R_new' ho16 (Kd.R_lt (zr HO427 rfl))) (Kd.R_lt (zr HO430 rfl))) (below_size (zb HB rfl))); have n3_ := Aside0.mk (below_step (zb HB rfl) hb); clear HO427; clear HO430; clear HB; have HO427 := n0_; have HO430 := n1_; have HO433 := n2_; have HB := n3_; clear n0_ n1_ n2_ n3_; clear hb ho16))
    go_loopg [10, 11] k (fun kq v10 v11 w' => ∃ (x9_1 : List Int) (x10_1 : List Int) (x11_1 : Int), v11 = .int .i64 x11_1 ∧ Aside0 (credenceref1_NatDivMod.l0 kq t425 t428 x9_1 x10_1 x11_1 = some (r1, r2, r3)) ∧ Aside0 (kq ≤ k) ∧ Aside0 (Kd.R (Kd.int .u32) 37 w' w.heap.size (fun k_ => some k_ ≠ ((.slice Ao13 t428.length co13) : Value).ownBlock ∧ some k_ ≠ (v432 : Value).ownBlock ∧ some k_ ≠ (v10 : Value).ownBlock) (.slice Ao14 t425.length co14) t425) ∧ Aside0 (Kd.R (Kd.int .u32) 37 w' w.heap.size (fun k_ => some k_ ≠ ((.slice Ao14 t425.length co14) : Value).ownBlock ∧ some k_ ≠ (v432 : Value).ownBlock ∧ some k_ ≠ (v10 : Value).ownBlock) (.slice Ao13 t428.length co13) t428) ∧ Aside0 (Kd.R (Kd.int .u32) 37 w' w.heap.size (fun k_ => some k_ ≠ ((.slice Ao14 t425.length co14) : Value).ownBlock ∧ some k_ ≠ ((.slice Ao13 t428.length co13) : Value).ownBlock ∧ some k_ ≠ (v10 : Value).ownBlock) v432 x9_1) ∧ Aside0 (Kd.R (Kd.int .u32) 37 w' w.heap.size (fun k_ => some k_ ≠ ((.slice Ao14 t425.length co14) : Value).ownBlock ∧ some k_ ≠ ((.slice Ao13 t428.length co13) : Value).ownBlock ∧ some k_ ≠ (v432 : Value).ownBlock) v10 x10_1) ∧ Aside0 (Below w.heap.size w w'))
    case atStart => exact ⟨(y431), (([] : List Int)), (wrap64 ((wrap64 (32 * (t425.length : Int))) - 1)), (by first | rfl | (simp [*]; done)), H', ⟨Nat.le_refl _⟩, ⟨by (with_reducible repeat (first | apply Kd.R_alloc | apply Kd.R_drewN | apply Kd.R_drew)); exact Kd.R_mono HO427.out (fun _ hk => ⟨hk.1.2, ⟨hk.2, (by simp [Value.ownBlock])⟩⟩)⟩, ⟨by (with_reducible repeat (first | apply Kd.R_alloc | apply Kd.R_drewN | apply Kd.R_drew)); exact Kd.R_mono HO430.out (fun _ hk => ⟨hk.1.2, ⟨hk.2, (by simp [Value.ownBlock])⟩⟩)⟩, ⟨by (with_reducible repeat (first | apply Kd.R_alloc | apply Kd.R_drewN | apply Kd.R_drew)); exact Kd.R_mono HO433.out (fun _ hk => ⟨hk.1.2, ⟨hk.2, (by simp [Value.ownBlock])⟩⟩)⟩, ⟨by first | exact Kd.R_nil _ _ _ _ _ | exact Kd.V_nil _ _ _ _ _⟩, ⟨by repeat (first | (with_reducible first | exact HB.out | apply below_alloc | apply pw_below_drewN | apply below_drew1) | exact HB.out)⟩⟩
    case round =>
     clear H'
     try clear c1
     try clear p2
     try clear c5
     try clear c5b0
     try clear c5b1
     try clear c5b2
     try clear p6
     try clear c8
     try clear c9
     try clear c9b0
     try clear c9b1
     try clear c10
     try clear c10b0
     try clear c10b1
     obtain ⟨x9_1, x10_1, x11_1, rfl, HA, HK1, HO_7, HO_8, HO_9, HO_10, HB⟩ := hrel
     cases gk with
     | zero => exact absurd HA.out (by simp [credenceref1_NatDivMod.l0])
     | succ k1 =>
      have H := HA.out
      clear HA
      simp only [credenceref1_NatDivMod.l0] at H
      by_cases c17 : x11_1 ≥ 0
      ·
       rw [if_pos c17] at H
       have c17b0 : decide (0 ≤ x11_1) = true := decide_eq_true c17
       clear c17
       obtain ⟨ji18, hji18⟩ : ∃ j_ : Int, (wrap64 (Int.tdiv x11_1 32)) = j_ := ⟨_, rfl⟩
       replace H : (if 0 ≤ (ji18) then (if (ji18) < (t425.length : Int) then (if 0 ≤ (IntKind.u64.wrap (Int.tmod x11_1 32)) then ((credenceref1_double.f k1 x10_1 (Go.bits .and .u32 (shr .u32 (rd t425 (ji18)) (IntKind.u64.wrap (Int.tmod x11_1 32))) 1)).bind fun t441 => ((credenceref1_NatCmp.f k1 t441 t428).bind fun t444 => (if t444 ≥ 0 then ((credenceref1_NatSub.f k1 t441 t428).bind fun bt445 => (if (ji18) < (x9_1.length : Int) then (credenceref1_NatDivMod.l0 k1 t425 t428 (x9_1.set ((ji18) : Int).toNat (Go.bits .or .u32 (rd x9_1 (ji18)) (shl .u32 1 (IntKind.u64.wrap (Int.tmod x11_1 32))))) bt445.1 (wrap64 (x11_1 - 1))) else (none))) else (credenceref1_NatDivMod.l0 k1 t425 t428 x9_1 t441 (wrap64 (x11_1 - 1)))))) else (none)) else (none)) else (none)) = some (r1, r2, r3) := by first | (rw [hji18] at H; exact H) | (simp only [hji18] at H ⊢; exact H)
       have hji18w : (IntKind.i64.wrap (Int.tdiv x11_1 32)) = ji18 := (i64_w _).trans hji18
       by_cases c19 : 0 ≤ (ji18)
       ·
        rw [if_pos c19] at H
        have c19b0 : decide (0 ≤ (ji18)) = true := decide_eq_true c19
        clear c19
        by_cases c20 : (ji18) < (t425.length : Int)
        ·
         rw [if_pos c20] at H
         have c20b0 : decide ((ji18) < (t425.length : Int)) = true := decide_eq_true c20
         clear c20
         obtain ⟨ji21, hji21⟩ : ∃ j_ : Int, (IntKind.u64.wrap (Int.tmod x11_1 32)) = j_ := ⟨_, rfl⟩
         replace H : (if 0 ≤ (ji21) then ((credenceref1_double.f k1 x10_1 (Go.bits .and .u32 (shr .u32 (rd t425 (ji18)) (ji21)) 1)).bind fun t441 => ((credenceref1_NatCmp.f k1 t441 t428).bind fun t444 => (if t444 ≥ 0 then ((credenceref1_NatSub.f k1 t441 t428).bind fun bt445 => (if (ji18) < (x9_1.length : Int) then (credenceref1_NatDivMod.l0 k1 t425 t428 (x9_1.set ((ji18) : Int).toNat (Go.bits .or .u32 (rd x9_1 (ji18)) (shl .u32 1 (ji21)))) bt445.1 (wrap64 (x11_1 - 1))) else (none))) else (credenceref1_NatDivMod.l0 k1 t425 t428 x9_1 t441 (wrap64 (x11_1 - 1)))))) else (none)) = some (r1, r2, r3) := by first | (rw [hji21] at H; exact H) | (simp only [hji21] at H ⊢; exact H)
         by_cases c22 : 0 ≤ (ji21)
         ·
          rw [if_pos c22] at H
          have c22b0 := eq_true c22
          have c22b1 : decide (0 ≤ (ji21)) = true := decide_eq_true c22
          clear c22
          obtain ⟨ji23, hji23⟩ : ∃ j_ : Int, (shr .u32 (rd t425 (ji18)) (ji21)) = j_ := ⟨_, rfl⟩
          replace H : ((credenceref1_double.f k1 x10_1 (Go.bits .and .u32 (ji23) 1)).bind fun t441 => ((credenceref1_NatCmp.f k1 t441 t428).bind fun t444 => (if t444 ≥ 0 then ((credenceref1_NatSub.f k1 t441 t428).bind fun bt445 => (if (ji18) < (x9_1.length : Int) then (credenceref1_NatDivMod.l0 k1 t425 t428 (x9_1.set ((ji18) : Int).toNat (Go.bits .or .u32 (rd x9_1 (ji18)) (shl .u32 1 (ji21)))) bt445.1 (wrap64 (x11_1 - 1))) else (none))) else (credenceref1_NatDivMod.l0 k1 t425 t428 x9_1 t441 (wrap64 (x11_1 - 1)))))) = some (r1, r2, r3) := by first | (rw [hji23] at H; exact H) | (simp only [hji23] at H ⊢; exact H)
          have hji23_ : ((rd t425 (ji18)) / 2 ^ min (ji21).toNat 32) = ji23 := hji23
          have hji23z : (ji21) ≤ 32 → ((rd t425 (ji18)) / 2 ^ (ji21).toNat) = ji23 := shr_small hji23
          replace H := Option.bind_eq_some_iff.mp H
          obtain ⟨t441, A240, H⟩ := H
          replace H : ((credenceref1_NatCmp.f k1 t441 t428).bind fun t444 => (if t444 ≥ 0 then ((credenceref1_NatSub.f k1 t441 t428).bind fun bt445 => (if (ji18) < (x9_1.length : Int) then (credenceref1_NatDivMod.l0 k1 t425 t428 (x9_1.set ((ji18) : Int).toNat (Go.bits .or .u32 (rd x9_1 (ji18)) (shl .u32 1 (ji21)))) bt445.1 (wrap64 (x11_1 - 1))) else (none))) else (credenceref1_NatDivMod.l0 k1 t425 t428 x9_1 t441 (wrap64 (x11_1 - 1))))) = some (r1, r2, r3) := H
          have A24 := Aside0.mk A240
          clear A240
          replace H := Option.bind_eq_some_iff.mp H
          obtain ⟨t444, A250, H⟩ := H
          replace H : (if t444 ≥ 0 then ((credenceref1_NatSub.f k1 t441 t428).bind fun bt445 => (if (ji18) < (x9_1.length : Int) then (credenceref1_NatDivMod.l0 k1 t425 t428 (x9_1.set ((ji18) : Int).toNat (Go.bits .or .u32 (rd x9_1 (ji18)) (shl .u32 1 (ji21)))) bt445.1 (wrap64 (x11_1 - 1))) else (none))) else (credenceref1_NatDivMod.l0 k1 t425 t428 x9_1 t441 (wrap64 (x11_1 - 1)))) = some (r1, r2, r3) := H
          have A25 := Aside0.mk A250
          clear A250
          by_cases c26 : t444 ≥ 0
          ·
           rw [if_pos c26] at H
           have c26b0 : decide (0 ≤ t444) = true := decide_eq_true c26
           clear c26
           replace H := Option.bind_eq_some_iff.mp H
           obtain ⟨⟨t445, t446⟩, A270, H⟩ := H
           replace H : (if (ji18) < (x9_1.length : Int) then (credenceref1_NatDivMod.l0 k1 t425 t428 (x9_1.set ((ji18) : Int).toNat (Go.bits .or .u32 (rd x9_1 (ji18)) (shl .u32 1 (ji21)))) t445 (wrap64 (x11_1 - 1))) else (none)) = some (r1, r2, r3) := H
           have A27 := Aside0.mk A270
           clear A270
           by_cases c28 : (ji18) < (x9_1.length : Int)
           ·
            rw [if_pos c28] at H
            have c28b0 : decide ((ji18) < (x9_1.length : Int)) = true := decide_eq_true c28
            clear c28
            have c29b0 := eq_true (of_decide_eq_true (by first | (with_reducible assumption) | assumption) : 0 ≤ (ji21))
            obtain ⟨ji30, hji30⟩ : ∃ j_ : Int, (shl .u32 1 (ji21)) = j_ := ⟨_, rfl⟩
            replace H : (credenceref1_NatDivMod.l0 k1 t425 t428 (x9_1.set ((ji18) : Int).toNat (Go.bits .or .u32 (rd x9_1 (ji18)) (ji30))) t445 (wrap64 (x11_1 - 1))) = some (r1, r2, r3) := by first | (rw [hji30] at H; exact H) | (simp only [hji30] at H ⊢; exact H)
            (try rw [hji30] at A24)
            (try rw [hji30] at A25)
            (try rw [hji30] at A27)
            have hji30_ : (IntKind.u32.wrap (1 * 2 ^ min (ji21).toNat 32)) = ji30 := hji30
            have hji30z : (ji21) ≤ 32 → (IntKind.u32.wrap (1 * 2 ^ (ji21).toNat)) = ji30 := shl_small hji30
            have hji30u : (IntKind.u32.wrap (2 ^ min (ji21).toNat 32)) = ji30 := by have h_ := hji30_; rw [Int.one_mul] at h_; exact h_
            have hji30v : (ji21) ≤ 32 → (IntKind.u32.wrap (2 ^ (ji21).toNat)) = ji30 := fun hle_ => by have h_ := hji30z hle_; rw [Int.one_mul] at h_; exact h_
            obtain ⟨y450, hy450⟩ : ∃ y_ : List Int, y_ = (x9_1.set ((ji18) : Int).toNat (Go.bits .or .u32 (rd x9_1 (ji18)) (ji30))) := ⟨_, rfl⟩
            replace H : (credenceref1_NatDivMod.l0 k1 t425 t428 y450 t445 (wrap64 (x11_1 - 1))) = some (r1, r2, r3) := by first | (rw [hy450]; with_reducible exact H) | (have H2_ := (Option.bind_some _ _).symm.trans H; rw [hy450]; with_reducible exact H2_) | (have H2_ := (Option.bind_some _ _).symm.trans H; with_reducible exact H2_) | with_reducible exact H | (rw [hy450]; exact H) | exact H
            have Ny450 := Aside0.mk hy450
            clear hy450
            have H' := Aside0.mk H
            clear H
            have p440 : 0 ≤ ((ji18) : Int) := of_decide_eq_true (by first | (with_reducible assumption) | assumption)
            have q440 : (ji18) < (t425.length : Int) := of_decide_eq_true (by first | (with_reducible assumption) | assumption)
            obtain ⟨ad440, e440, hx440_0⟩ := Kd.at_int (Kd.R_reads' HO_7.out).2.2 (ji18) p440 q440
            cases e440
            replace p440 := eq_true p440
            replace q440 := eq_true q440
            obtain ⟨Ao32, co32, eo32⟩ := Kd.R_slice HO_10.out
            subst eo32
            go_wp2_with (first | ((with_reducible refine gate_callee (f := 93) rfl ?_); refine goesL_ (some 41) rfl rfl Tryd.func93 (by kernel_rfl) rfl #[.slice Ao32 x10_1.length co32, .int .u32 (Go.bits .and .u32 (ji23) 1)] rfl (by (try simp only [List.map_toArray, List.map_cons, List.map_nil]); first | done | (simp only [hji23]; rfl) | rfl | (simp only [List.length_drop, List.length_take]; rfl) | (go_simp; done) | (go_simp; rfl) | (go_simp; (try simp only [IntKind.wrap_u8, IntKind.wrap_u32, IntKind.wrap_u64]); omega)) ?_; (with_reducible refine (credenceref1_double.calls k1 _ _ x10_1 (Go.bits .and .u32 (ji23) 1) t441 _ ?side1 ?side2 A24.out).mono ?_); (case side1 => repeat first | exact (Kd.R_reads' HO_10.out).2.2 | refine Kd.C_drewN ?_ _ | refine Kd.C_alloc ?_ _ | refine Kd.C_drew ?_); (case side2 => exact (Kd.R_reads' HO_10.out).2.1); rintro e w33 ⟨v442, rfl, ho0, hb⟩; refine ⟨_, rfl, ?_⟩; have n0_ := Aside0.mk (Kd.R_elder' (zr HO_7 rfl) (Kd.R_base ho0) hb); have n1_ := Aside0.mk (Kd.R_elder' (zr HO_8 rfl) (Kd.R_base ho0) hb); have n2_ := Aside0.mk (Kd.R_elder' (zr HO_9 rfl) (Kd.R_base ho0) hb); have n3_ := Aside0.mk (Kd.R_elder' (zr HO_10 rfl) (Kd.R_base ho0) hb); have n4_ := Aside0.mk (Kd.R_lower (Kd.R_new' (Kd.R_new' (Kd.R_new' (Kd.R_new' ho0 (Kd.R_lt (zr HO_7 rfl))) (Kd.R_lt (zr HO_8 rfl))) (Kd.R_lt (zr HO_9 rfl))) (Kd.R_lt (zr HO_10 rfl))) (below_size (zb HB rfl))); have n5_ := Aside0.mk (below_step (zb HB rfl) hb); clear HO_7; clear HO_8; clear HO_9; clear HO_10; clear HB; have HO_7 := n0_; have HO_8 := n1_; have HO_9 := n2_; have HO_10 := n3_; have HO443 := n4_; have HB := n5_; clear n0_ n1_ n2_ n3_ n4_ n5_; obtain ⟨Ao34, co34, eo34⟩ := Kd.R_slice HO443.out; subst eo34) | ((with_reducible refine gate_callee (f := 63) rfl ?_); refine goesL_ (some 44) rfl rfl Tryd.func63 (by kernel_rfl) rfl #[.slice Ao34 t441.length co34, .slice Ao13 t428.length co13] rfl (by first | rfl | (go_simp; first | done | rfl | omega)) ?_; (with_reducible refine (credenceref1_NatCmp.calls k1 _ _ t441 _ _ t428 t444 _ ?side1 ?side2 ?side3 ?side4 A25.out).mono ?_); (case side1 => repeat first | exact (Kd.R_reads' HO443.out).2.2 | refine Kd.C_drewN ?_ _ | refine Kd.C_alloc ?_ _ | refine Kd.C_drew ?_); (case side2 => exact (Kd.R_reads' HO443.out).2.1); (case side3 => repeat first | exact (Kd.R_reads' HO_8.out).2.2 | refine Kd.C_drewN ?_ _ | refine Kd.C_alloc ?_ _ | refine Kd.C_drew ?_); (case side4 => exact (Kd.R_reads' HO_8.out).2.1); rintro e w35 ⟨rfl, hb⟩; refine ⟨_, rfl, ?_⟩; have n0_ := Aside0.mk (Kd.R_below (zr HO_7 rfl) hb); have n1_ := Aside0.mk (Kd.R_below (zr HO_8 rfl) hb); have n2_ := Aside0.mk (Kd.R_below (zr HO_9 rfl) hb); have n3_ := Aside0.mk (Kd.R_below (zr HO_10 rfl) hb); have n4_ := Aside0.mk (Kd.R_below (zr HO443 rfl) hb); have n5_ := Aside0.mk (below_step (zb HB rfl) hb); clear HO_7; clear HO_8; clear HO_9; clear HO_10; clear HO443; clear HB; have HO_7 := n0_; have HO_8 := n1_; have HO_9 := n2_; have HO_10 := n3_; have HO443 := n4_; have HB := n5_; clear n0_ n1_ n2_ n3_ n4_ n5_) | ((with_reducible refine gate_callee (f := 74) rfl ?_); refine goesL_ (some 49) rfl rfl Tryd.func74 (by kernel_rfl) rfl #[.slice Ao34 t441.length co34, .slice Ao13 t428.length co13] rfl (by first | rfl | (go_simp; first | done | rfl | omega)) ?_; (with_reducible refine (credenceref1_NatSub.calls k1 _ _ t441 _ _ t428 t445 t446 _ ?side1 ?side2 ?side3 ?side4 A27.out).mono ?_); (case side1 => repeat first | exact (Kd.R_reads' HO443.out).2.2 | refine Kd.C_drewN ?_ _ | refine Kd.C_alloc ?_ _ | refine Kd.C_drew ?_); (case side2 => exact (Kd.R_reads' HO443.out).2.1); (case side3 => repeat first | exact (Kd.R_reads' HO_8.out).2.2 | refine Kd.C_drewN ?_ _ | refine Kd.C_alloc ?_ _ | refine Kd.C_drew ?_); (case side4 => exact (Kd.R_reads' HO_8.out).2.1); rintro e w36 ⟨v447, rfl, ho0, hb⟩; refine ⟨_, rfl, ?_⟩; have n0_ := Aside0.mk (Kd.R_elder' (zr HO_7 rfl) (Kd.R_base ho0) hb); have n1_ := Aside0.mk (Kd.R_elder' (zr HO_8 rfl) (Kd.R_base ho0) hb); have n2_ := Aside0.mk (Kd.R_elder' (zr HO_9 rfl) (Kd.R_base ho0) hb); have n3_ := Aside0.mk (Kd.R_elder' (zr HO_10 rfl) (Kd.R_base ho0) hb); have n4_ := Aside0.mk (Kd.R_elder' (zr HO443 rfl) (Kd.R_base ho0) hb); have n5_ := Aside0.mk (Kd.R_lower (Kd.R_new' (Kd.R_new' (Kd.R_new' (Kd.R_new' (Kd.R_new' ho0 (Kd.R_lt (zr HO_7 rfl))) (Kd.R_lt (zr HO_8 rfl))) (Kd.R_lt (zr HO_9 rfl))) (Kd.R_lt (zr HO_10 rfl))) (Kd.R_lt (zr HO443 rfl))) (below_size (zb HB rfl))); have n6_ := Aside0.mk (below_step (zb HB rfl) hb); clear HO_7; clear HO_8; clear HO_9; clear HO_10; clear HO443; clear HB; have HO_7 := n0_; have HO_8 := n1_; have HO_9 := n2_; have HO_10 := n3_; have HO443 := n4_; have HO448 := n5_; have HB := n6_; clear n0_ n1_ n2_ n3_ n4_ n5_ n6_; obtain ⟨Ao37, co37, eo37⟩ := Kd.R_slice HO_9.out; subst eo37; have p449 : 0 ≤ ((ji18) : Int) := of_decide_eq_true (by first | (with_reducible assumption) | assumption); have q449 : (ji18) < (x9_1.length : Int) := of_decide_eq_true (by first | (with_reducible assumption) | assumption); obtain ⟨ad449, e449, hx449_0⟩ := Kd.at_int (Kd.R_reads' HO_9.out).2.2 (ji18) p449 q449; cases e449; replace p449 := eq_true p449; replace q449 := eq_true q449; have p31 : 0 ≤ ((ji18) : Int) := of_decide_eq_true (by first | (with_reducible assumption) | assumption); have q31 : ((ji18) : Int) < ((x9_1.length : Int) : Int) := of_decide_eq_true (by first | (with_reducible assumption) | assumption); obtain ⟨go31, co31, eo31, gb31, gl31, cl31, HG31⟩ := Kd.R_form HO_9.out (by omega); (first | cases eo31 | (injection eo31 with ea_ en_ ec_; (first | subst ea_ | (injection ea_ with ea_; subst ea_)); subst ec_; clear en_)); have GB31 := Aside0.mk gb31; have GG31 := Aside0.mk HG31; clear gb31 gl31 HG31; (first | simp only [add_plain] at hx449_0 | skip); obtain ⟨hx31_0, hf31_0⟩ := Kd.R_celln 0 HO_9.out ((ji18) : Int) p31 q31; replace p31 := eq_true p31; replace q31 := eq_true q31; have n_ := Aside0.mk (Kd.R_mono (ok' := (fun k_ => some k_ ≠ (.slice (some ad440) t425.length co14 : Value).ownBlock ∧ some k_ ≠ (.slice Ao13 t428.length co13 : Value).ownBlock ∧ some k_ ≠ (.slice Ao32 x10_1.length co32 : Value).ownBlock ∧ some k_ ≠ (.slice Ao34 t441.length co34 : Value).ownBlock ∧ some k_ ≠ (v447 : Value).ownBlock)) HO_9.out (fun k_ hk => ⟨hk.1.1.1, ⟨hk.1.1.2.1, ⟨hk.1.1.2.2, ⟨hk.1.2, hk.2⟩⟩⟩⟩)); clear HO_9; have HO_9 := n_; clear n_; obtain ⟨hy38_, hz38_⟩ := Kd.R_celln 0 HO_9.out ((ji18) : Int) (of_decide_eq_true (by first | (with_reducible assumption) | assumption)) (of_decide_eq_true (by first | (with_reducible assumption) | assumption)); have HP38 := Kd.R_putg HO_9.out ((ji18) : Int) (Go.bits .or .u32 (rd x9_1 (ji18)) (ji30))) | ((with_reducible refine gate_store (t := 37) (p := 65) rfl ?_); refine store_event (t := 37) (p := 65) (v := ?vo_w39) (w1 := (w36.setCell ⟨go31, ((ji18) : Int).toNat, none⟩ (.int .u32 (Go.bits .or .u32 (rd x9_1 (ji18)) (ji30))))) ?hg ?ho ?hn ?hr ?_; (case ho => rfl); (case hg => rfl); (case hn => rfl); (case hr => first | (go_simp; done) | (go_simp; rfl)); intro w39 hw; have hg : w36.grownBy w39 (some go31) := (by rw [hw]; exact HP38.2); have hp_ : Kd.R (Kd.int .u32) 37 w39 w.heap.size (fun k_ => some k_ ≠ (.slice (some ad440) t425.length co14 : Value).ownBlock ∧ some k_ ≠ (.slice Ao13 t428.length co13 : Value).ownBlock ∧ some k_ ≠ (.slice Ao32 x10_1.length co32 : Value).ownBlock ∧ some k_ ≠ (.slice Ao34 t441.length co34 : Value).ownBlock ∧ some k_ ≠ (v447 : Value).ownBlock) (.slice (some ⟨go31, 0, none⟩) x9_1.length co37) y450 := (by rw [hw, Ny450.out]; exact HP38.1); clear HP38; have n0_ := Aside0.mk (Kd.R_after (v := (.slice (some ⟨go31, 0, none⟩) x9_1.length co37)) (v1 := (.slice (some ⟨go31, 0, none⟩) x9_1.length co37)) (ok := (fun k_ => some k_ ≠ (.slice Ao13 t428.length co13 : Value).ownBlock ∧ some k_ ≠ (.slice Ao32 x10_1.length co32 : Value).ownBlock ∧ some k_ ≠ (.slice Ao34 t441.length co34 : Value).ownBlock ∧ some k_ ≠ (v447 : Value).ownBlock)) (by (with_reducible repeat (first | apply Kd.R_alloc | apply Kd.R_drewN | apply Kd.R_drew)); exact Kd.R_mono HO_7.out (fun _ hk => ⟨⟨hk.1.1.1, ⟨hk.1.1.2.2, ⟨hk.1.2, hk.2⟩⟩⟩, hk.1.1.2.1⟩)) hg (.inl rfl)); have n1_ := Aside0.mk (Kd.R_after (v := (.slice (some ⟨go31, 0, none⟩) x9_1.length co37)) (v1 := (.slice (some ⟨go31, 0, none⟩) x9_1.length co37)) (ok := (fun k_ => some k_ ≠ (.slice (some ad440) t425.length co14 : Value).ownBlock ∧ some k_ ≠ (.slice Ao32 x10_1.length co32 : Value).ownBlock ∧ some k_ ≠ (.slice Ao34 t441.length co34 : Value).ownBlock ∧ some k_ ≠ (v447 : Value).ownBlock)) (by (with_reducible repeat (first | apply Kd.R_alloc | apply Kd.R_drewN | apply Kd.R_drew)); exact Kd.R_mono HO_8.out (fun _ hk => ⟨⟨hk.1.1.1, ⟨hk.1.1.2.2, ⟨hk.1.2, hk.2⟩⟩⟩, hk.1.1.2.1⟩)) hg (.inl rfl)); have n2_ := Aside0.mk (hp_); have n3_ := Aside0.mk (Kd.R_after (v := (.slice (some ⟨go31, 0, none⟩) x9_1.length co37)) (v1 := (.slice (some ⟨go31, 0, none⟩) x9_1.length co37)) (ok := (fun k_ => some k_ ≠ (.slice (some ad440) t425.length co14 : Value).ownBlock ∧ some k_ ≠ (.slice Ao13 t428.length co13 : Value).ownBlock ∧ some k_ ≠ (.slice Ao34 t441.length co34 : Value).ownBlock ∧ some k_ ≠ (v447 : Value).ownBlock)) (by (with_reducible repeat (first | apply Kd.R_alloc | apply Kd.R_drewN | apply Kd.R_drew)); exact Kd.R_mono HO_10.out (fun _ hk => ⟨⟨hk.1.1.1, ⟨hk.1.1.2.1, ⟨hk.1.2, hk.2⟩⟩⟩, hk.1.1.2.2⟩)) hg (.inl rfl)); have n4_ := Aside0.mk (Kd.R_after (v := (.slice (some ⟨go31, 0, none⟩) x9_1.length co37)) (v1 := (.slice (some ⟨go31, 0, none⟩) x9_1.length co37)) (ok := (fun k_ => some k_ ≠ (.slice (some ad440) t425.length co14 : Value).ownBlock ∧ some k_ ≠ (.slice Ao13 t428.length co13 : Value).ownBlock ∧ some k_ ≠ (.slice Ao32 x10_1.length co32 : Value).ownBlock ∧ some k_ ≠ (v447 : Value).ownBlock)) (by (with_reducible repeat (first | apply Kd.R_alloc | apply Kd.R_drewN | apply Kd.R_drew)); exact Kd.R_mono HO443.out (fun _ hk => ⟨⟨hk.1.1.1.1.2, ⟨hk.1.1.1.2, ⟨hk.1.2, hk.2⟩⟩⟩, hk.1.1.2⟩)) hg (.inl rfl)); have n5_ := Aside0.mk (Kd.R_after (v := (.slice (some ⟨go31, 0, none⟩) x9_1.length co37)) (v1 := (.slice (some ⟨go31, 0, none⟩) x9_1.length co37)) (ok := (fun k_ => some k_ ≠ (.slice (some ad440) t425.length co14 : Value).ownBlock ∧ some k_ ≠ (.slice Ao13 t428.length co13 : Value).ownBlock ∧ some k_ ≠ (.slice Ao32 x10_1.length co32 : Value).ownBlock ∧ some k_ ≠ (.slice Ao34 t441.length co34 : Value).ownBlock)) (by (with_reducible repeat (first | apply Kd.R_alloc | apply Kd.R_drewN | apply Kd.R_drew)); exact Kd.R_mono HO448.out (fun _ hk => ⟨⟨hk.1.1.1.1.2, ⟨hk.1.1.1.2, ⟨hk.1.2, hk.2⟩⟩⟩, hk.1.1.2⟩)) hg (.inl rfl)); have n6_ := Aside0.mk ((by rw [hw]; exact below_set (HB.out) GB31.out : Below w.heap.size w w39)); clear HO_7; clear HO_8; clear HO_9; clear HO_10; clear HO443; clear HO448; clear HB; have HO_7 := n0_; have HO_8 := n1_; have HO_9 := n2_; have HO_10 := n3_; have HO443 := n4_; have HO448 := n5_; have HB := n6_; clear n0_ n1_ n2_ n3_ n4_ n5_ n6_; clear hg hw hp_))
            go_roundg k1
            case measure => have := HK1.out; omega
            case rel => exact ⟨(y450), (t445), (wrap64 (x11_1 - 1)), (by first | rfl | (simp [*]; done)), H', ⟨by have := HK1.out; omega⟩, ⟨by (with_reducible repeat (first | apply Kd.R_alloc | apply Kd.R_drewN | apply Kd.R_drew)); exact Kd.R_mono HO_7.out (fun _ hk => ⟨hk.1.1, ⟨hk.2, hk.1.2.2.2⟩⟩)⟩, ⟨by (with_reducible repeat (first | apply Kd.R_alloc | apply Kd.R_drewN | apply Kd.R_drew)); exact Kd.R_mono HO_8.out (fun _ hk => ⟨hk.1.1, ⟨hk.2, hk.1.2.2.2⟩⟩)⟩, ⟨by (with_reducible repeat (first | apply Kd.R_alloc | apply Kd.R_drewN | apply Kd.R_drew)); exact Kd.R_mono HO_9.out (fun _ hk => ⟨hk.1, ⟨hk.2.1, hk.2.2.2.2⟩⟩)⟩, ⟨by (with_reducible repeat (first | apply Kd.R_alloc | apply Kd.R_drewN | apply Kd.R_drew)); exact Kd.R_mono HO448.out (fun _ hk => ⟨hk.1.1, ⟨hk.1.2.1, hk.2⟩⟩)⟩, ⟨by repeat (first | (with_reducible first | exact HB.out | apply below_alloc | apply pw_below_drewN | apply below_drew1) | exact HB.out)⟩⟩
           ·
            rw [if_neg c28] at H
            exact absurd H (by simp)
          ·
           rw [if_neg c26] at H
           have c26b0 : decide (0 ≤ t444) = false := decide_eq_false c26
           clear c26
           have H' := Aside0.mk H
           clear H
           have p440 : 0 ≤ ((ji18) : Int) := of_decide_eq_true (by first | (with_reducible assumption) | assumption)
           have q440 : (ji18) < (t425.length : Int) := of_decide_eq_true (by first | (with_reducible assumption) | assumption)
           obtain ⟨ad440, e440, hx440_0⟩ := Kd.at_int (Kd.R_reads' HO_7.out).2.2 (ji18) p440 q440
           cases e440
           replace p440 := eq_true p440
           replace q440 := eq_true q440
           obtain ⟨Ao40, co40, eo40⟩ := Kd.R_slice HO_10.out
           subst eo40
           go_wp2_with (first | ((with_reducible refine gate_callee (f := 93) rfl ?_); refine goesL_ (some 41) rfl rfl Tryd.func93 (by kernel_rfl) rfl #[.slice Ao40 x10_1.length co40, .int .u32 (Go.bits .and .u32 (ji23) 1)] rfl (by (try simp only [List.map_toArray, List.map_cons, List.map_nil]); first | done | (simp only [hji23]; rfl) | rfl | (simp only [List.length_drop, List.length_take]; rfl) | (go_simp; done) | (go_simp; rfl) | (go_simp; (try simp only [IntKind.wrap_u8, IntKind.wrap_u32, IntKind.wrap_u64]); omega)) ?_; (with_reducible refine (credenceref1_double.calls k1 _ _ x10_1 (Go.bits .and .u32 (ji23) 1) t441 _ ?side1 ?side2 A24.out).mono ?_); (case side1 => repeat first | exact (Kd.R_reads' HO_10.out).2.2 | refine Kd.C_drewN ?_ _ | refine Kd.C_alloc ?_ _ | refine Kd.C_drew ?_); (case side2 => exact (Kd.R_reads' HO_10.out).2.1); rintro e w41 ⟨v442, rfl, ho0, hb⟩; refine ⟨_, rfl, ?_⟩; have n0_ := Aside0.mk (Kd.R_elder' (zr HO_7 rfl) (Kd.R_base ho0) hb); have n1_ := Aside0.mk (Kd.R_elder' (zr HO_8 rfl) (Kd.R_base ho0) hb); have n2_ := Aside0.mk (Kd.R_elder' (zr HO_9 rfl) (Kd.R_base ho0) hb); have n3_ := Aside0.mk (Kd.R_elder' (zr HO_10 rfl) (Kd.R_base ho0) hb); have n4_ := Aside0.mk (Kd.R_lower (Kd.R_new' (Kd.R_new' (Kd.R_new' (Kd.R_new' ho0 (Kd.R_lt (zr HO_7 rfl))) (Kd.R_lt (zr HO_8 rfl))) (Kd.R_lt (zr HO_9 rfl))) (Kd.R_lt (zr HO_10 rfl))) (below_size (zb HB rfl))); have n5_ := Aside0.mk (below_step (zb HB rfl) hb); clear HO_7; clear HO_8; clear HO_9; clear HO_10; clear HB; have HO_7 := n0_; have HO_8 := n1_; have HO_9 := n2_; have HO_10 := n3_; have HO443 := n4_; have HB := n5_; clear n0_ n1_ n2_ n3_ n4_ n5_; obtain ⟨Ao42, co42, eo42⟩ := Kd.R_slice HO443.out; subst eo42) | ((with_reducible refine gate_callee (f := 63) rfl ?_); refine goesL_ (some 44) rfl rfl Tryd.func63 (by kernel_rfl) rfl #[.slice Ao42 t441.length co42, .slice Ao13 t428.length co13] rfl (by first | rfl | (go_simp; first | done | rfl | omega)) ?_; (with_reducible refine (credenceref1_NatCmp.calls k1 _ _ t441 _ _ t428 t444 _ ?side1 ?side2 ?side3 ?side4 A25.out).mono ?_); (case side1 => repeat first | exact (Kd.R_reads' HO443.out).2.2 | refine Kd.C_drewN ?_ _ | refine Kd.C_alloc ?_ _ | refine Kd.C_drew ?_); (case side2 => exact (Kd.R_reads' HO443.out).2.1); (case side3 => repeat first | exact (Kd.R_reads' HO_8.out).2.2 | refine Kd.C_drewN ?_ _ | refine Kd.C_alloc ?_ _ | refine Kd.C_drew ?_); (case side4 => exact (Kd.R_reads' HO_8.out).2.1); rintro e w43 ⟨rfl, hb⟩; refine ⟨_, rfl, ?_⟩; have n0_ := Aside0.mk (Kd.R_below (zr HO_7 rfl) hb); have n1_ := Aside0.mk (Kd.R_below (zr HO_8 rfl) hb); have n2_ := Aside0.mk (Kd.R_below (zr HO_9 rfl) hb); have n3_ := Aside0.mk (Kd.R_below (zr HO_10 rfl) hb); have n4_ := Aside0.mk (Kd.R_below (zr HO443 rfl) hb); have n5_ := Aside0.mk (below_step (zb HB rfl) hb); clear HO_7; clear HO_8; clear HO_9; clear HO_10; clear HO443; clear HB; have HO_7 := n0_; have HO_8 := n1_; have HO_9 := n2_; have HO_10 := n3_; have HO443 := n4_; have HB := n5_; clear n0_ n1_ n2_ n3_ n4_ n5_))
           go_roundg k1
           case measure => have := HK1.out; omega
           case rel => exact ⟨(x9_1), (t441), (wrap64 (x11_1 - 1)), (by first | rfl | (simp [*]; done)), H', ⟨by have := HK1.out; omega⟩, ⟨by (with_reducible repeat (first | apply Kd.R_alloc | apply Kd.R_drewN | apply Kd.R_drew)); exact Kd.R_mono HO_7.out (fun _ hk => ⟨hk.1.1, ⟨hk.1.2.1, hk.2⟩⟩)⟩, ⟨by (with_reducible repeat (first | apply Kd.R_alloc | apply Kd.R_drewN | apply Kd.R_drew)); exact Kd.R_mono HO_8.out (fun _ hk => ⟨hk.1.1, ⟨hk.1.2.1, hk.2⟩⟩)⟩, ⟨by (with_reducible repeat (first | apply Kd.R_alloc | apply Kd.R_drewN | apply Kd.R_drew)); exact Kd.R_mono HO_9.out (fun _ hk => ⟨hk.1.1, ⟨hk.1.2.1, hk.2⟩⟩)⟩, ⟨by (with_reducible repeat (first | apply Kd.R_alloc | apply Kd.R_drewN | apply Kd.R_drew)); exact Kd.R_mono HO443.out (fun _ hk => ⟨hk.1.1.1.2, ⟨hk.1.1.2, hk.1.2⟩⟩)⟩, ⟨by repeat (first | (with_reducible first | exact HB.out | apply below_alloc | apply pw_below_drewN | apply below_drew1) | exact HB.out)⟩⟩
         ·
          rw [if_neg c22] at H
          exact absurd H (by simp)
        ·
         rw [if_neg c20] at H
         exact absurd H (by simp)
       ·
        rw [if_neg c19] at H
        exact absurd H (by simp)
      ·
       rw [if_neg c17] at H
       have c17b0 : decide (0 ≤ x11_1) = false := decide_eq_false c17
       clear c17
       replace H := Option.bind_eq_some_iff.mp H
       obtain ⟨t434, A440, H⟩ := H
       replace H : ((credenceref1_NatNorm.f k1 x10_1).bind fun t437 => (some (t434, t437, true))) = some (r1, r2, r3) := H
       have A44 := Aside0.mk A440
       clear A440
       replace H := Option.bind_eq_some_iff.mp H
       obtain ⟨t437, A450, H⟩ := H
       replace H : (some (t434, t437, true)) = some (r1, r2, r3) := H
       have A45 := Aside0.mk A450
       clear A450
       simp only [Option.some.injEq, Prod.mk.injEq] at H
       obtain ⟨rfl, rfl, rfl⟩ := H
       obtain ⟨Ao46, co46, eo46⟩ := Kd.R_slice HO_9.out
       subst eo46
       go_wp2_with (first | ((with_reducible refine gate_callee (f := 87) rfl ?_); refine goesL_ (some 67) rfl rfl Tryd.func87 (by kernel_rfl) rfl #[.slice Ao46 x9_1.length co46] rfl (by first | rfl | (go_simp; first | done | rfl | omega)) ?_; (with_reducible refine (credenceref1_NatNorm.calls k1 _ _ x9_1 t434 _ ?side1 ?side2 A44.out).mono ?_); (case side1 => repeat first | exact (Kd.R_reads' HO_9.out).2.2 | refine Kd.C_drewN ?_ _ | refine Kd.C_alloc ?_ _ | refine Kd.C_drew ?_); (case side2 => exact (Kd.R_reads' HO_9.out).2.1); rintro e w47 ⟨v435, rfl, ho0, hb⟩; refine ⟨_, rfl, ?_⟩; have n0_ := Aside0.mk (Kd.R_elder' (zr HO_7 rfl) (Kd.R_base ho0) hb); have n1_ := Aside0.mk (Kd.R_elder' (zr HO_8 rfl) (Kd.R_base ho0) hb); have n2_ := Aside0.mk (Kd.R_elder' (zr HO_9 rfl) (Kd.R_base ho0) hb); have n3_ := Aside0.mk (Kd.R_elder' (zr HO_10 rfl) (Kd.R_base ho0) hb); have n4_ := Aside0.mk (Kd.R_lower (Kd.R_new' (Kd.R_new' (Kd.R_new' (Kd.R_new' ho0 (Kd.R_lt (zr HO_7 rfl))) (Kd.R_lt (zr HO_8 rfl))) (Kd.R_lt (zr HO_9 rfl))) (Kd.R_lt (zr HO_10 rfl))) (below_size (zb HB rfl))); have n5_ := Aside0.mk (below_step (zb HB rfl) hb); clear HO_7; clear HO_8; clear HO_9; clear HO_10; clear HB; have HO_7 := n0_; have HO_8 := n1_; have HO_9 := n2_; have HO_10 := n3_; have HO436 := n4_; have HB := n5_; clear n0_ n1_ n2_ n3_ n4_ n5_; obtain ⟨Ao48, co48, eo48⟩ := Kd.R_slice HO_10.out; subst eo48) | ((with_reducible refine gate_callee (f := 87) rfl ?_); refine goesL_ (some 69) rfl rfl Tryd.func87 (by kernel_rfl) rfl #[.slice Ao48 x10_1.length co48] rfl (by first | rfl | (go_simp; first | done | rfl | omega)) ?_; (with_reducible refine (credenceref1_NatNorm.calls k1 _ _ x10_1 t437 _ ?side1 ?side2 A45.out).mono ?_); (case side1 => repeat first | exact (Kd.R_reads' HO_10.out).2.2 | refine Kd.C_drewN ?_ _ | refine Kd.C_alloc ?_ _ | refine Kd.C_drew ?_); (case side2 => exact (Kd.R_reads' HO_10.out).2.1); rintro e w49 ⟨v438, rfl, ho0, hb⟩; refine ⟨_, rfl, ?_⟩; have n0_ := Aside0.mk (Kd.R_elder' (zr HO_7 rfl) (Kd.R_base ho0) hb); have n1_ := Aside0.mk (Kd.R_elder' (zr HO_8 rfl) (Kd.R_base ho0) hb); have n2_ := Aside0.mk (Kd.R_elder' (zr HO_9 rfl) (Kd.R_base ho0) hb); have n3_ := Aside0.mk (Kd.R_elder' (zr HO_10 rfl) (Kd.R_base ho0) hb); have n4_ := Aside0.mk (Kd.R_elder' (zr HO436 rfl) (Kd.R_base ho0) hb); have n5_ := Aside0.mk (Kd.R_lower (Kd.R_new' (Kd.R_new' (Kd.R_new' (Kd.R_new' (Kd.R_new' ho0 (Kd.R_lt (zr HO_7 rfl))) (Kd.R_lt (zr HO_8 rfl))) (Kd.R_lt (zr HO_9 rfl))) (Kd.R_lt (zr HO_10 rfl))) (Kd.R_lt (zr HO436 rfl))) (below_size (zb HB rfl))); have n6_ := Aside0.mk (below_step (zb HB rfl) hb); clear HO_7; clear HO_8; clear HO_9; clear HO_10; clear HO436; clear HB; have HO_7 := n0_; have HO_8 := n1_; have HO_9 := n2_; have HO_10 := n3_; have HO436 := n4_; have HO439 := n5_; have HB := n6_; clear n0_ n1_ n2_ n3_ n4_ n5_ n6_))
       go_ret3
       exact ⟨_, _, by first | rfl | (simp [*, errW_none, errW_some] <;> rfl), by (with_reducible repeat (first | apply Kd.R_alloc | apply Kd.R_drewN | apply Kd.R_drew)); exact Kd.R_mono HO436.out (fun _ hk => hk.2), by (with_reducible repeat (first | apply Kd.R_alloc | apply Kd.R_drewN | apply Kd.R_drew)); exact Kd.R_mono HO439.out (fun _ hk => hk.2), by repeat (first | (with_reducible first | exact HB.out | apply below_alloc | apply pw_below_drewN | apply below_drew1) | exact HB.out)⟩
   ·
    rw [if_neg c10] at H
    exact absurd H (by simp)
  ·
   rw [if_neg c9] at H
   exact absurd H (by simp)

def credenceref1_frac.f (k : Nat) (a0 : Bool) (l1 : List Int) (l2 : List Int) : Option (Bool × List Int × List Int) := (credenceref1_NatGCD.f k l1 l2).bind fun t452 => ((credenceref1_NatDivMod.f k l1 t452).bind fun bt455 => ((credenceref1_NatDivMod.f k l2 t452).bind fun bt462 => (if bt455.2.2 = true then (if (bt455.1.length : Int) = 0 then ((credenceref1_NatOf.f k 1).bind fun t469 => (some (false, ([] : List Int), t469))) else (if (bt462.1.length : Int) = 0 then ((credenceref1_NatOf.f k 1).bind fun t472 => (some (false, ([] : List Int), t472))) else (some (a0, bt455.1, bt462.1)))) else ((credenceref1_NatOf.f k 1).bind fun t475 => (some (false, ([] : List Int), t475))))))
set_option maxHeartbeats 8000000 in
set_option maxRecDepth 100000 in
theorem credenceref1_frac.calls (k : Nat) (a0 : Bool) (A1 : Option Addr) (c1 : Nat) (l1 : List Int) (A2 : Option Addr) (c2 : Nat) (l2 : List Int) (r1 : Bool) (r2 : List Int) (r3 : List Int) (w : World) (hr1 : Kd.C (Kd.int .u32) w A1 l1.length l1) (hc1 : l1.length ≤ c1) (hr2 : Kd.C (Kd.int .u32) w A2 l2.length l2) (hc2 : l2.length ≤ c2) (h : credenceref1_frac.f k a0 l1 l2 = some (r1, r2, r3)) :
  Calls Tryd.prog 48 #[.bool a0, .slice A1 l1.length c1, .slice A2 l2.length c2] w fun e w' => ∃ v1_ v2_ : Value, e = .returned (.agg #[.bool r1, v1_, v2_]) ∧ Kd.R (Kd.int .u32) 37 w' w.heap.size (fun k_ => some k_ ≠ (v2_ : Value).ownBlock) v1_ r2 ∧ Kd.R (Kd.int .u32) 37 w' w.heap.size (fun k_ => some k_ ≠ (v1_ : Value).ownBlock) v2_ r3 ∧ Below w.heap.size w w' := by
 have hu25 := Tryd.underlying25
 have HR1 := Aside0.mk hr1
 have HC1 := Aside0.mk hc1
 clear hr1 hc1
 have HR2 := Aside0.mk hr2
 have HC2 := Aside0.mk hc2
 clear hr2 hc2
 have HB := Aside0.mk (Below.refl w.heap.size w)
 have H : ((credenceref1_NatGCD.f k l1 l2).bind fun t452 => ((credenceref1_NatDivMod.f k l1 t452).bind fun bt455 => ((credenceref1_NatDivMod.f k l2 t452).bind fun bt462 => (if bt455.2.2 = true then (if (bt455.1.length : Int) = 0 then ((credenceref1_NatOf.f k 1).bind fun t469 => (some (false, ([] : List Int), t469))) else (if (bt462.1.length : Int) = 0 then ((credenceref1_NatOf.f k 1).bind fun t472 => (some (false, ([] : List Int), t472))) else (some (a0, bt455.1, bt462.1)))) else ((credenceref1_NatOf.f k 1).bind fun t475 => (some (false, ([] : List Int), t475))))))) = some (r1, r2, r3) := h
 clear h
 replace H := Option.bind_eq_some_iff.mp H
 obtain ⟨t452, A40, H⟩ := H
 replace H : ((credenceref1_NatDivMod.f k l1 t452).bind fun bt455 => ((credenceref1_NatDivMod.f k l2 t452).bind fun bt462 => (if bt455.2.2 = true then (if (bt455.1.length : Int) = 0 then ((credenceref1_NatOf.f k 1).bind fun t469 => (some (false, ([] : List Int), t469))) else (if (bt462.1.length : Int) = 0 then ((credenceref1_NatOf.f k 1).bind fun t472 => (some (false, ([] : List Int), t472))) else (some (a0, bt455.1, bt462.1)))) else ((credenceref1_NatOf.f k 1).bind fun t475 => (some (false, ([] : List Int), t475)))))) = some (r1, r2, r3) := H
 have A4 := Aside0.mk A40
 clear A40
 replace H := Option.bind_eq_some_iff.mp H
 obtain ⟨⟨t455, t456, t457⟩, A50, H⟩ := H
 replace H : ((credenceref1_NatDivMod.f k l2 t452).bind fun bt462 => (if t457 = true then (if (t455.length : Int) = 0 then ((credenceref1_NatOf.f k 1).bind fun t469 => (some (false, ([] : List Int), t469))) else (if (bt462.1.length : Int) = 0 then ((credenceref1_NatOf.f k 1).bind fun t472 => (some (false, ([] : List Int), t472))) else (some (a0, t455, bt462.1)))) else ((credenceref1_NatOf.f k 1).bind fun t475 => (some (false, ([] : List Int), t475))))) = some (r1, r2, r3) := H
 have A5 := Aside0.mk A50
 clear A50
 replace H := Option.bind_eq_some_iff.mp H
 obtain ⟨⟨t462, t463, t464⟩, A60, H⟩ := H
 replace H : (if t457 = true then (if (t455.length : Int) = 0 then ((credenceref1_NatOf.f k 1).bind fun t469 => (some (false, ([] : List Int), t469))) else (if (t462.length : Int) = 0 then ((credenceref1_NatOf.f k 1).bind fun t472 => (some (false, ([] : List Int), t472))) else (some (a0, t455, t462)))) else ((credenceref1_NatOf.f k 1).bind fun t475 => (some (false, ([] : List Int), t475)))) = some (r1, r2, r3) := H
 have A6 := Aside0.mk A60
 clear A60
 by_cases c7 : t457 = true
 ·
  subst c7
  have H1 : (if (t455.length : Int) = 0 then ((credenceref1_NatOf.f k 1).bind fun t469 => (some (false, ([] : List Int), t469))) else (if (t462.length : Int) = 0 then ((credenceref1_NatOf.f k 1).bind fun t472 => (some (false, ([] : List Int), t472))) else (some (a0, t455, t462)))) = some (r1, r2, r3) := by rw [if_pos rfl] at H; exact H
  clear H
  have H := H1
  clear H1
  by_cases c8 : (t455.length : Int) = 0
  ·
   rw [if_pos c8] at H
   have c8b0 : ((t455.length : Int) == 0) = true := beq_iff_eq.mpr c8
   have c8b1 : ((t455.length : Int) != 0) = false := bne_eq_false_iff_eq.mpr c8
   clear c8
   replace H := Option.bind_eq_some_iff.mp H
   obtain ⟨t469, A90, H⟩ := H
   replace H : (some (false, ([] : List Int), t469)) = some (r1, r2, r3) := H
   have A9 := Aside0.mk A90
   clear A90
   simp only [Option.some.injEq, Prod.mk.injEq] at H
   obtain ⟨rfl, rfl, rfl⟩ := H
   go_enter Tryd.func48, Tryd.ntmps48
   go_wp2_with (first | ((with_reducible refine gate_dst (N := 6) rfl ?_); (try (refine gate_guard (by rfl) ?_; dsimp only)); refine box_event ?hg (N := 6) ?hd (cs := #[.bool false, .slice none 0 0, .slice none 0 0]) (t := 25) ?hr ?_; (case hd => rfl); (case hg => rfl); (case hr => first | (go_simp; done) | (go_simp; rfl)); intro gb451 hg w10 hbox hb; have n0_ := Aside0.mk (below_step (zb HB rfl) hb); have n1_ := Aside0.mk (hbox); have n2_ := Aside0.mk ((by rw [hg]; exact (below_size (zb HB rfl)) : w.heap.size ≤ gb451)); have n3_ := Aside0.mk ((by rw [hg]; exact (below_size (zb HB rfl)) : w.heap.size ≤ gb451)); clear HB; have HB := n0_; have BK451 := n1_; have GW451 := n2_; have GE451 := n3_; clear n0_ n1_ n2_ n3_; clear hb hbox hg) | ((with_reducible refine gate_callee (f := 79) rfl ?_); refine goesL_ (some 16) rfl rfl Tryd.func79 (by kernel_rfl) rfl #[.slice A1 l1.length c1, .slice A2 l2.length c2] rfl (by first | rfl | (go_simp; first | done | rfl | omega)) ?_; (with_reducible refine (credenceref1_NatGCD.calls k _ _ l1 _ _ l2 t452 _ ?side1 ?side2 ?side3 ?side4 A4.out).mono ?_); (case side1 => repeat first | exact (Kd.C_below HR1.out HB.out) | refine Kd.C_drewN ?_ _ | refine Kd.C_alloc ?_ _ | refine Kd.C_drew ?_); (case side2 => exact HC1.out); (case side3 => repeat first | exact (Kd.C_below HR2.out HB.out) | refine Kd.C_drewN ?_ _ | refine Kd.C_alloc ?_ _ | refine Kd.C_drew ?_); (case side4 => exact HC2.out); rintro e w11 ⟨v453, rfl, ho0, hb⟩; refine ⟨_, rfl, ?_⟩; have n0_ := Aside0.mk (Kd.R_lower ho0 (below_size (zb HB rfl))); have n1_ := Aside0.mk (blk_below BK451.out hb); have n2_ := Aside0.mk (below_step (zb HB rfl) hb); clear BK451; clear HB; have HO454 := n0_; have BK451 := n1_; have HB := n2_; clear n0_ n1_ n2_; obtain ⟨Ao12, co12, eo12⟩ := Kd.R_slice HO454.out; subst eo12) | ((with_reducible refine gate_callee (f := 80) rfl ?_); refine goesL_ (some 20) rfl rfl Tryd.func80 (by kernel_rfl) rfl #[.slice A1 l1.length c1, .slice Ao12 t452.length co12] rfl (by first | rfl | (go_simp; first | done | rfl | omega)) ?_; (with_reducible refine (credenceref1_NatDivMod.calls k _ _ l1 _ _ t452 t455 t456 true _ ?side1 ?side2 ?side3 ?side4 A5.out).mono ?_); (case side1 => repeat first | exact (Kd.C_below HR1.out HB.out) | refine Kd.C_drewN ?_ _ | refine Kd.C_alloc ?_ _ | refine Kd.C_drew ?_); (case side2 => exact HC1.out); (case side3 => repeat first | exact (Kd.R_reads' HO454.out).2.2 | refine Kd.C_drewN ?_ _ | refine Kd.C_alloc ?_ _ | refine Kd.C_drew ?_); (case side4 => exact (Kd.R_reads' HO454.out).2.1); rintro e w13 ⟨v458, v460, rfl, ho0, ho1, hb⟩; refine ⟨_, rfl, ?_⟩; have n0_ := Aside0.mk (Kd.R_mono (Kd.R_told (Kd.R_told (Kd.R_old (zr HO454 rfl) hb) (Kd.R_base ho0)) (Kd.R_base ho1)) (fun _ h_ => h_.1)); have n1_ := Aside0.mk (Kd.R_lower (Kd.R_new' ho0 (Kd.R_lt (zr HO454 rfl))) (below_size (zb HB rfl))); have n2_ := Aside0.mk (Kd.R_lower (Kd.R_new' ho1 (Kd.R_lt (zr HO454 rfl))) (below_size (zb HB rfl))); have n3_ := Aside0.mk (blk_below BK451.out hb); have n4_ := Aside0.mk (below_step (zb HB rfl) hb); clear HO454; clear BK451; clear HB; have HO454 := n0_; have HO459 := n1_; have HO461 := n2_; have BK451 := n3_; have HB := n4_; clear n0_ n1_ n2_ n3_ n4_) | ((with_reducible refine gate_callee (f := 80) rfl ?_); refine goesL_ (some 27) rfl rfl Tryd.func80 (by kernel_rfl) rfl #[.slice A2 l2.length c2, .slice Ao12 t452.length co12] rfl (by first | rfl | (go_simp; first | done | rfl | omega)) ?_; (with_reducible refine (credenceref1_NatDivMod.calls k _ _ l2 _ _ t452 t462 t463 t464 _ ?side1 ?side2 ?side3 ?side4 A6.out).mono ?_); (case side1 => repeat first | exact (Kd.C_below HR2.out HB.out) | refine Kd.C_drewN ?_ _ | refine Kd.C_alloc ?_ _ | refine Kd.C_drew ?_); (case side2 => exact HC2.out); (case side3 => repeat first | exact (Kd.R_reads' HO454.out).2.2 | refine Kd.C_drewN ?_ _ | refine Kd.C_alloc ?_ _ | refine Kd.C_drew ?_); (case side4 => exact (Kd.R_reads' HO454.out).2.1); rintro e w14 ⟨v465, v467, rfl, ho0, ho1, hb⟩; refine ⟨_, rfl, ?_⟩; have n0_ := Aside0.mk (Kd.R_mono (Kd.R_told (Kd.R_told (Kd.R_old (zr HO454 rfl) hb) (Kd.R_base ho0)) (Kd.R_base ho1)) (fun _ h_ => h_.1)); have n1_ := Aside0.mk (Kd.R_mono (Kd.R_told (Kd.R_told (Kd.R_old (zr HO459 rfl) hb) (Kd.R_base ho0)) (Kd.R_base ho1)) (fun _ h_ => h_.1)); have n2_ := Aside0.mk (Kd.R_mono (Kd.R_told (Kd.R_told (Kd.R_old (zr HO461 rfl) hb) (Kd.R_base ho0)) (Kd.R_base ho1)) (fun _ h_ => h_.1)); have n3_ := Aside0.mk (Kd.R_lower (Kd.R_new' (Kd.R_new' (Kd.R_new' ho0 (Kd.R_lt (zr HO454 rfl))) (Kd.R_lt (zr HO459 rfl))) (Kd.R_lt (zr HO461 rfl))) (below_size (zb HB rfl))); have n4_ := Aside0.mk (Kd.R_lower (Kd.R_new' (Kd.R_new' (Kd.R_new' ho1 (Kd.R_lt (zr HO454 rfl))) (Kd.R_lt (zr HO459 rfl))) (Kd.R_lt (zr HO461 rfl))) (below_size (zb HB rfl))); have n5_ := Aside0.mk (blk_below BK451.out hb); have n6_ := Aside0.mk (below_step (zb HB rfl) hb); clear HO454; clear HO459; clear HO461; clear BK451; clear HB; have HO454 := n0_; have HO459 := n1_; have HO461 := n2_; have HO466 := n3_; have HO468 := n4_; have BK451 := n5_; have HB := n6_; clear n0_ n1_ n2_ n3_ n4_ n5_ n6_; obtain ⟨Ao15, co15, eo15⟩ := Kd.R_slice HO459.out; subst eo15) | ((with_reducible refine gate_callee (f := 60) rfl ?_); refine goesL_ (some 43) rfl rfl Tryd.func60 (by kernel_rfl) rfl #[.int .u64 1] rfl (by first | rfl | (go_simp; first | done | rfl | omega)) ?_; (with_reducible refine (credenceref1_NatOf.calls k 1 t469 _ A9.out).mono ?_); rintro e w16 ⟨v470, rfl, ho0, hb⟩; refine ⟨_, rfl, ?_⟩; have n0_ := Aside0.mk (Kd.R_elder' (zr HO454 rfl) (Kd.R_base ho0) hb); have n1_ := Aside0.mk (Kd.R_elder' (zr HO459 rfl) (Kd.R_base ho0) hb); have n2_ := Aside0.mk (Kd.R_elder' (zr HO461 rfl) (Kd.R_base ho0) hb); have n3_ := Aside0.mk (Kd.R_elder' (zr HO466 rfl) (Kd.R_base ho0) hb); have n4_ := Aside0.mk (Kd.R_elder' (zr HO468 rfl) (Kd.R_base ho0) hb); have n5_ := Aside0.mk (Kd.R_lower (Kd.R_new' (Kd.R_new' (Kd.R_new' (Kd.R_new' (Kd.R_new' ho0 (Kd.R_lt (zr HO454 rfl))) (Kd.R_lt (zr HO459 rfl))) (Kd.R_lt (zr HO461 rfl))) (Kd.R_lt (zr HO466 rfl))) (Kd.R_lt (zr HO468 rfl))) (below_size (zb HB rfl))); have n6_ := Aside0.mk (blk_below BK451.out hb); have n7_ := Aside0.mk (below_step (zb HB rfl) hb); clear HO454; clear HO459; clear HO461; clear HO466; clear HO468; clear BK451; clear HB; have HO454 := n0_; have HO459 := n1_; have HO461 := n2_; have HO466 := n3_; have HO468 := n4_; have HO471 := n5_; have BK451 := n6_; have HB := n7_; clear n0_ n1_ n2_ n3_ n4_ n5_ n6_ n7_; obtain ⟨Ao17, co17, eo17⟩ := Kd.R_slice HO471.out; subst eo17; have hcz18_0 : w16.cell? ⟨gb451, 0, none⟩ = some (.bool false) := (blk_cell BK451.out 0).trans rfl; have hcz18_1 : w16.cell? ⟨gb451, 1, none⟩ = some (.slice none 0 0) := (blk_cell BK451.out 1).trans rfl; have hcz18_2 : w16.cell? ⟨gb451, 2, none⟩ = some (.slice none 0 0) := (blk_cell BK451.out 2).trans rfl; have hfz18_0 := blk_frozen BK451.out 0; have hfz18_1 := blk_frozen BK451.out 1; have hfz18_2 := blk_frozen BK451.out 2))
   refine bodyPost_ret (results_cell_row rfl _ _ gb451 25 #[.bool false, .slice none 0 0, .slice Ao17 t469.length co17] (0, 0) _ rfl (by (with_reducible repeat (first | refine blk_drewN ?_ _ | refine blk_drew ?_ | refine blk_alloc ?_ _)); refine blk_put (cs := #[.bool false, .slice none 0 0, .slice none 0 0]) ?_ 2 _ rfl; (with_reducible repeat (first | refine blk_drewN ?_ _ | refine blk_drew ?_ | refine blk_alloc ?_ _)); refine blk_put (cs := #[.bool false, .slice none 0 0, .slice none 0 0]) ?_ 1 _ rfl; (with_reducible repeat (first | refine blk_drewN ?_ _ | refine blk_drew ?_ | refine blk_alloc ?_ _)); refine blk_put (cs := #[.bool false, .slice none 0 0, .slice none 0 0]) ?_ 0 _ rfl; (with_reducible repeat (first | refine blk_drewN ?_ _ | refine blk_drew ?_ | refine blk_alloc ?_ _)); exact BK451.out) Tryd.underlying25 rfl (by kernel_rfl)) rfl ?_
   exact ⟨_, _, by first | rfl | (simp [*, errW_none, errW_some] <;> rfl), by first | exact Kd.R_nil _ _ _ _ _ | exact Kd.V_nil _ _ _ _ _, by (with_reducible repeat (first | apply Kd.R_alloc | apply Kd.R_drewN | apply Kd.R_drew)); exact Kd.R_mono (Kd.R_far (p := ⟨gb451, 2, none⟩) (Kd.R_far (p := ⟨gb451, 1, none⟩) (Kd.R_far (p := ⟨gb451, 0, none⟩) (Kd.R_types HO471.out BK451.out (by decide)) (fun _ hk => hk.2) (.bool false)) (fun _ hk => hk.2) (.slice none 0 0)) (fun _ hk => hk.2) (.slice Ao17 t469.length co17)) (fun _ hk => (by simp [Value.ownBlock])), by repeat (first | (with_reducible first | exact HB.out | apply below_alloc | apply pw_below_drewN | apply below_drew1 | refine below_set ?_ GE451.out) | exact HB.out)⟩
  ·
   rw [if_neg c8] at H
   have c8b0 : ((t455.length : Int) == 0) = false := beq_eq_false_iff_ne.mpr c8
   have c8b1 : ((t455.length : Int) != 0) = true := bne_iff_ne.mpr c8
   have c8b2 : ¬ (t455 = []) := fun h_ => c8 (by rw [h_]; rfl)
   by_cases c19 : (t462.length : Int) = 0
   ·
    rw [if_pos c19] at H
    have c19b0 : ((t462.length : Int) == 0) = true := beq_iff_eq.mpr c19
    have c19b1 : ((t462.length : Int) != 0) = false := bne_eq_false_iff_eq.mpr c19
    clear c19
    replace H := Option.bind_eq_some_iff.mp H
    obtain ⟨t472, A200, H⟩ := H
    replace H : (some (false, ([] : List Int), t472)) = some (r1, r2, r3) := H
    have A20 := Aside0.mk A200
    clear A200
    simp only [Option.some.injEq, Prod.mk.injEq] at H
    obtain ⟨rfl, rfl, rfl⟩ := H
    go_enter Tryd.func48, Tryd.ntmps48
    go_wp2_with (first | ((with_reducible refine gate_dst (N := 6) rfl ?_); (try (refine gate_guard (by rfl) ?_; dsimp only)); refine box_event ?hg (N := 6) ?hd (cs := #[.bool false, .slice none 0 0, .slice none 0 0]) (t := 25) ?hr ?_; (case hd => rfl); (case hg => rfl); (case hr => first | (go_simp; done) | (go_simp; rfl)); intro gb451 hg w21 hbox hb; have n0_ := Aside0.mk (below_step (zb HB rfl) hb); have n1_ := Aside0.mk (hbox); have n2_ := Aside0.mk ((by rw [hg]; exact (below_size (zb HB rfl)) : w.heap.size ≤ gb451)); have n3_ := Aside0.mk ((by rw [hg]; exact (below_size (zb HB rfl)) : w.heap.size ≤ gb451)); clear HB; have HB := n0_; have BK451 := n1_; have GW451 := n2_; have GE451 := n3_; clear n0_ n1_ n2_ n3_; clear hb hbox hg) | ((with_reducible refine gate_callee (f := 79) rfl ?_); refine goesL_ (some 16) rfl rfl Tryd.func79 (by kernel_rfl) rfl #[.slice A1 l1.length c1, .slice A2 l2.length c2] rfl (by first | rfl | (go_simp; first | done | rfl | omega)) ?_; (with_reducible refine (credenceref1_NatGCD.calls k _ _ l1 _ _ l2 t452 _ ?side1 ?side2 ?side3 ?side4 A4.out).mono ?_); (case side1 => repeat first | exact (Kd.C_below HR1.out HB.out) | refine Kd.C_drewN ?_ _ | refine Kd.C_alloc ?_ _ | refine Kd.C_drew ?_); (case side2 => exact HC1.out); (case side3 => repeat first | exact (Kd.C_below HR2.out HB.out) | refine Kd.C_drewN ?_ _ | refine Kd.C_alloc ?_ _ | refine Kd.C_drew ?_); (case side4 => exact HC2.out); rintro e w22 ⟨v453, rfl, ho0, hb⟩; refine ⟨_, rfl, ?_⟩; have n0_ := Aside0.mk (Kd.R_lower ho0 (below_size (zb HB rfl))); have n1_ := Aside0.mk (blk_below BK451.out hb); have n2_ := Aside0.mk (below_step (zb HB rfl) hb); clear BK451; clear HB; have HO454 := n0_; have BK451 := n1_; have HB := n2_; clear n0_ n1_ n2_; obtain ⟨Ao23, co23, eo23⟩ := Kd.R_slice HO454.out; subst eo23) | ((with_reducible refine gate_callee (f := 80) rfl ?_); refine goesL_ (some 20) rfl rfl Tryd.func80 (by kernel_rfl) rfl #[.slice A1 l1.length c1, .slice Ao23 t452.length co23] rfl (by first | rfl | (go_simp; first | done | rfl | omega)) ?_; (with_reducible refine (credenceref1_NatDivMod.calls k _ _ l1 _ _ t452 t455 t456 true _ ?side1 ?side2 ?side3 ?side4 A5.out).mono ?_); (case side1 => repeat first | exact (Kd.C_below HR1.out HB.out) | refine Kd.C_drewN ?_ _ | refine Kd.C_alloc ?_ _ | refine Kd.C_drew ?_); (case side2 => exact HC1.out); (case side3 => repeat first | exact (Kd.R_reads' HO454.out).2.2 | refine Kd.C_drewN ?_ _ | refine Kd.C_alloc ?_ _ | refine Kd.C_drew ?_); (case side4 => exact (Kd.R_reads' HO454.out).2.1); rintro e w24 ⟨v458, v460, rfl, ho0, ho1, hb⟩; refine ⟨_, rfl, ?_⟩; have n0_ := Aside0.mk (Kd.R_mono (Kd.R_told (Kd.R_told (Kd.R_old (zr HO454 rfl) hb) (Kd.R_base ho0)) (Kd.R_base ho1)) (fun _ h_ => h_.1)); have n1_ := Aside0.mk (Kd.R_lower (Kd.R_new' ho0 (Kd.R_lt (zr HO454 rfl))) (below_size (zb HB rfl))); have n2_ := Aside0.mk (Kd.R_lower (Kd.R_new' ho1 (Kd.R_lt (zr HO454 rfl))) (below_size (zb HB rfl))); have n3_ := Aside0.mk (blk_below BK451.out hb); have n4_ := Aside0.mk (below_step (zb HB rfl) hb); clear HO454; clear BK451; clear HB; have HO454 := n0_; have HO459 := n1_; have HO461 := n2_; have BK451 := n3_; have HB := n4_; clear n0_ n1_ n2_ n3_ n4_) | ((with_reducible refine gate_callee (f := 80) rfl ?_); refine goesL_ (some 27) rfl rfl Tryd.func80 (by kernel_rfl) rfl #[.slice A2 l2.length c2, .slice Ao23 t452.length co23] rfl (by first | rfl | (go_simp; first | done | rfl | omega)) ?_; (with_reducible refine (credenceref1_NatDivMod.calls k _ _ l2 _ _ t452 t462 t463 t464 _ ?side1 ?side2 ?side3 ?side4 A6.out).mono ?_); (case side1 => repeat first | exact (Kd.C_below HR2.out HB.out) | refine Kd.C_drewN ?_ _ | refine Kd.C_alloc ?_ _ | refine Kd.C_drew ?_); (case side2 => exact HC2.out); (case side3 => repeat first | exact (Kd.R_reads' HO454.out).2.2 | refine Kd.C_drewN ?_ _ | refine Kd.C_alloc ?_ _ | refine Kd.C_drew ?_); (case side4 => exact (Kd.R_reads' HO454.out).2.1); rintro e w25 ⟨v465, v467, rfl, ho0, ho1, hb⟩; refine ⟨_, rfl, ?_⟩; have n0_ := Aside0.mk (Kd.R_mono (Kd.R_told (Kd.R_told (Kd.R_old (zr HO454 rfl) hb) (Kd.R_base ho0)) (Kd.R_base ho1)) (fun _ h_ => h_.1)); have n1_ := Aside0.mk (Kd.R_mono (Kd.R_told (Kd.R_told (Kd.R_old (zr HO459 rfl) hb) (Kd.R_base ho0)) (Kd.R_base ho1)) (fun _ h_ => h_.1)); have n2_ := Aside0.mk (Kd.R_mono (Kd.R_told (Kd.R_told (Kd.R_old (zr HO461 rfl) hb) (Kd.R_base ho0)) (Kd.R_base ho1)) (fun _ h_ => h_.1)); have n3_ := Aside0.mk (Kd.R_lower (Kd.R_new' (Kd.R_new' (Kd.R_new' ho0 (Kd.R_lt (zr HO454 rfl))) (Kd.R_lt (zr HO459 rfl))) (Kd.R_lt (zr HO461 rfl))) (below_size (zb HB rfl))); have n4_ := Aside0.mk (Kd.R_lower (Kd.R_new' (Kd.R_new' (Kd.R_new' ho1 (Kd.R_lt (zr HO454 rfl))) (Kd.R_lt (zr HO459 rfl))) (Kd.R_lt (zr HO461 rfl))) (below_size (zb HB rfl))); have n5_ := Aside0.mk (blk_below BK451.out hb); have n6_ := Aside0.mk (below_step (zb HB rfl) hb); clear HO454; clear HO459; clear HO461; clear BK451; clear HB; have HO454 := n0_; have HO459 := n1_; have HO461 := n2_; have HO466 := n3_; have HO468 := n4_; have BK451 := n5_; have HB := n6_; clear n0_ n1_ n2_ n3_ n4_ n5_ n6_; obtain ⟨Ao26, co26, eo26⟩ := Kd.R_slice HO459.out; subst eo26; obtain ⟨Ao27, co27, eo27⟩ := Kd.R_slice HO466.out; subst eo27) | ((with_reducible refine gate_callee (f := 60) rfl ?_); refine goesL_ (some 43) rfl rfl Tryd.func60 (by kernel_rfl) rfl #[.int .u64 1] rfl (by first | rfl | (go_simp; first | done | rfl | omega)) ?_; (with_reducible refine (credenceref1_NatOf.calls k 1 t472 _ A20.out).mono ?_); rintro e w28 ⟨v473, rfl, ho0, hb⟩; refine ⟨_, rfl, ?_⟩; have n0_ := Aside0.mk (Kd.R_elder' (zr HO454 rfl) (Kd.R_base ho0) hb); have n1_ := Aside0.mk (Kd.R_elder' (zr HO459 rfl) (Kd.R_base ho0) hb); have n2_ := Aside0.mk (Kd.R_elder' (zr HO461 rfl) (Kd.R_base ho0) hb); have n3_ := Aside0.mk (Kd.R_elder' (zr HO466 rfl) (Kd.R_base ho0) hb); have n4_ := Aside0.mk (Kd.R_elder' (zr HO468 rfl) (Kd.R_base ho0) hb); have n5_ := Aside0.mk (Kd.R_lower (Kd.R_new' (Kd.R_new' (Kd.R_new' (Kd.R_new' (Kd.R_new' ho0 (Kd.R_lt (zr HO454 rfl))) (Kd.R_lt (zr HO459 rfl))) (Kd.R_lt (zr HO461 rfl))) (Kd.R_lt (zr HO466 rfl))) (Kd.R_lt (zr HO468 rfl))) (below_size (zb HB rfl))); have n6_ := Aside0.mk (blk_below BK451.out hb); have n7_ := Aside0.mk (below_step (zb HB rfl) hb); clear HO454; clear HO459; clear HO461; clear HO466; clear HO468; clear BK451; clear HB; have HO454 := n0_; have HO459 := n1_; have HO461 := n2_; have HO466 := n3_; have HO468 := n4_; have HO474 := n5_; have BK451 := n6_; have HB := n7_; clear n0_ n1_ n2_ n3_ n4_ n5_ n6_ n7_; obtain ⟨Ao29, co29, eo29⟩ := Kd.R_slice HO474.out; subst eo29; have hcz30_0 : w28.cell? ⟨gb451, 0, none⟩ = some (.bool false) := (blk_cell BK451.out 0).trans rfl; have hcz30_1 : w28.cell? ⟨gb451, 1, none⟩ = some (.slice none 0 0) := (blk_cell BK451.out 1).trans rfl; have hcz30_2 : w28.cell? ⟨gb451, 2, none⟩ = some (.slice none 0 0) := (blk_cell BK451.out 2).trans rfl; have hfz30_0 := blk_frozen BK451.out 0; have hfz30_1 := blk_frozen BK451.out 1; have hfz30_2 := blk_frozen BK451.out 2))
    refine bodyPost_ret (results_cell_row rfl _ _ gb451 25 #[.bool false, .slice none 0 0, .slice Ao29 t472.length co29] (0, 0) _ rfl (by (with_reducible repeat (first | refine blk_drewN ?_ _ | refine blk_drew ?_ | refine blk_alloc ?_ _)); refine blk_put (cs := #[.bool false, .slice none 0 0, .slice none 0 0]) ?_ 2 _ rfl; (with_reducible repeat (first | refine blk_drewN ?_ _ | refine blk_drew ?_ | refine blk_alloc ?_ _)); refine blk_put (cs := #[.bool false, .slice none 0 0, .slice none 0 0]) ?_ 1 _ rfl; (with_reducible repeat (first | refine blk_drewN ?_ _ | refine blk_drew ?_ | refine blk_alloc ?_ _)); refine blk_put (cs := #[.bool false, .slice none 0 0, .slice none 0 0]) ?_ 0 _ rfl; (with_reducible repeat (first | refine blk_drewN ?_ _ | refine blk_drew ?_ | refine blk_alloc ?_ _)); exact BK451.out) Tryd.underlying25 rfl (by kernel_rfl)) rfl ?_
    exact ⟨_, _, by first | rfl | (simp [*, errW_none, errW_some] <;> rfl), by first | exact Kd.R_nil _ _ _ _ _ | exact Kd.V_nil _ _ _ _ _, by (with_reducible repeat (first | apply Kd.R_alloc | apply Kd.R_drewN | apply Kd.R_drew)); exact Kd.R_mono (Kd.R_far (p := ⟨gb451, 2, none⟩) (Kd.R_far (p := ⟨gb451, 1, none⟩) (Kd.R_far (p := ⟨gb451, 0, none⟩) (Kd.R_types HO474.out BK451.out (by decide)) (fun _ hk => hk.2) (.bool false)) (fun _ hk => hk.2) (.slice none 0 0)) (fun _ hk => hk.2) (.slice Ao29 t472.length co29)) (fun _ hk => (by simp [Value.ownBlock])), by repeat (first | (with_reducible first | exact HB.out | apply below_alloc | apply pw_below_drewN | apply below_drew1 | refine below_set ?_ GE451.out) | exact HB.out)⟩
   ·
    rw [if_neg c19] at H
    have c19b0 : ((t462.length : Int) == 0) = false := beq_eq_false_iff_ne.mpr c19
    have c19b1 : ((t462.length : Int) != 0) = true := bne_iff_ne.mpr c19
    have c19b2 : ¬ (t462 = []) := fun h_ => c19 (by rw [h_]; rfl)
    simp only [Option.some.injEq, Prod.mk.injEq] at H
    obtain ⟨rfl, rfl, rfl⟩ := H
    go_enter Tryd.func48, Tryd.ntmps48
    go_wp2_with (first | ((with_reducible refine gate_dst (N := 6) rfl ?_); (try (refine gate_guard (by rfl) ?_; dsimp only)); refine box_event ?hg (N := 6) ?hd (cs := #[.bool false, .slice none 0 0, .slice none 0 0]) (t := 25) ?hr ?_; (case hd => rfl); (case hg => rfl); (case hr => first | (go_simp; done) | (go_simp; rfl)); intro gb451 hg w31 hbox hb; have n0_ := Aside0.mk (below_step (zb HB rfl) hb); have n1_ := Aside0.mk (hbox); have n2_ := Aside0.mk ((by rw [hg]; exact (below_size (zb HB rfl)) : w.heap.size ≤ gb451)); have n3_ := Aside0.mk ((by rw [hg]; exact (below_size (zb HB rfl)) : w.heap.size ≤ gb451)); clear HB; have HB := n0_; have BK451 := n1_; have GW451 := n2_; have GE451 := n3_; clear n0_ n1_ n2_ n3_; clear hb hbox hg) | ((with_reducible refine gate_callee (f := 79) rfl ?_); refine goesL_ (some 16) rfl rfl Tryd.func79 (by kernel_rfl) rfl #[.slice A1 l1.length c1, .slice A2 l2.length c2] rfl (by first | rfl | (go_simp; first | done | rfl | omega)) ?_; (with_reducible refine (credenceref1_NatGCD.calls k _ _ l1 _ _ l2 t452 _ ?side1 ?side2 ?side3 ?side4 A4.out).mono ?_); (case side1 => repeat first | exact (Kd.C_below HR1.out HB.out) | refine Kd.C_drewN ?_ _ | refine Kd.C_alloc ?_ _ | refine Kd.C_drew ?_); (case side2 => exact HC1.out); (case side3 => repeat first | exact (Kd.C_below HR2.out HB.out) | refine Kd.C_drewN ?_ _ | refine Kd.C_alloc ?_ _ | refine Kd.C_drew ?_); (case side4 => exact HC2.out); rintro e w32 ⟨v453, rfl, ho0, hb⟩; refine ⟨_, rfl, ?_⟩; have n0_ := Aside0.mk (Kd.R_lower ho0 (below_size (zb HB rfl))); have n1_ := Aside0.mk (blk_below BK451.out hb); have n2_ := Aside0.mk (below_step (zb HB rfl) hb); clear BK451; clear HB; have HO454 := n0_; have BK451 := n1_; have HB := n2_; clear n0_ n1_ n2_; obtain ⟨Ao33, co33, eo33⟩ := Kd.R_slice HO454.out; subst eo33) | ((with_reducible refine gate_callee (f := 80) rfl ?_); refine goesL_ (some 20) rfl rfl Tryd.func80 (by kernel_rfl) rfl #[.slice A1 l1.length c1, .slice Ao33 t452.length co33] rfl (by first | rfl | (go_simp; first | done | rfl | omega)) ?_; (with_reducible refine (credenceref1_NatDivMod.calls k _ _ l1 _ _ t452 t455 t456 true _ ?side1 ?side2 ?side3 ?side4 A5.out).mono ?_); (case side1 => repeat first | exact (Kd.C_below HR1.out HB.out) | refine Kd.C_drewN ?_ _ | refine Kd.C_alloc ?_ _ | refine Kd.C_drew ?_); (case side2 => exact HC1.out); (case side3 => repeat first | exact (Kd.R_reads' HO454.out).2.2 | refine Kd.C_drewN ?_ _ | refine Kd.C_alloc ?_ _ | refine Kd.C_drew ?_); (case side4 => exact (Kd.R_reads' HO454.out).2.1); rintro e w34 ⟨v458, v460, rfl, ho0, ho1, hb⟩; refine ⟨_, rfl, ?_⟩; have n0_ := Aside0.mk (Kd.R_mono (Kd.R_told (Kd.R_told (Kd.R_old (zr HO454 rfl) hb) (Kd.R_base ho0)) (Kd.R_base ho1)) (fun _ h_ => h_.1)); have n1_ := Aside0.mk (Kd.R_lower (Kd.R_new' ho0 (Kd.R_lt (zr HO454 rfl))) (below_size (zb HB rfl))); have n2_ := Aside0.mk (Kd.R_lower (Kd.R_new' ho1 (Kd.R_lt (zr HO454 rfl))) (below_size (zb HB rfl))); have n3_ := Aside0.mk (blk_below BK451.out hb); have n4_ := Aside0.mk (below_step (zb HB rfl) hb); clear HO454; clear BK451; clear HB; have HO454 := n0_; have HO459 := n1_; have HO461 := n2_; have BK451 := n3_; have HB := n4_; clear n0_ n1_ n2_ n3_ n4_) | ((with_reducible refine gate_callee (f := 80) rfl ?_); refine goesL_ (some 27) rfl rfl Tryd.func80 (by kernel_rfl) rfl #[.slice A2 l2.length c2, .slice Ao33 t452.length co33] rfl (by first | rfl | (go_simp; first | done | rfl | omega)) ?_; (with_reducible refine (credenceref1_NatDivMod.calls k _ _ l2 _ _ t452 t462 t463 t464 _ ?side1 ?side2 ?side3 ?side4 A6.out).mono ?_); (case side1 => repeat first | exact (Kd.C_below HR2.out HB.out) | refine Kd.C_drewN ?_ _ | refine Kd.C_alloc ?_ _ | refine Kd.C_drew ?_); (case side2 => exact HC2.out); (case side3 => repeat first | exact (Kd.R_reads' HO454.out).2.2 | refine Kd.C_drewN ?_ _ | refine Kd.C_alloc ?_ _ | refine Kd.C_drew ?_); (case side4 => exact (Kd.R_reads' HO454.out).2.1); rintro e w35 ⟨v465, v467, rfl, ho0, ho1, hb⟩; refine ⟨_, rfl, ?_⟩; have n0_ := Aside0.mk (Kd.R_mono (Kd.R_told (Kd.R_told (Kd.R_old (zr HO454 rfl) hb) (Kd.R_base ho0)) (Kd.R_base ho1)) (fun _ h_ => h_.1)); have n1_ := Aside0.mk (Kd.R_mono (Kd.R_told (Kd.R_told (Kd.R_old (zr HO459 rfl) hb) (Kd.R_base ho0)) (Kd.R_base ho1)) (fun _ h_ => h_.1)); have n2_ := Aside0.mk (Kd.R_mono (Kd.R_told (Kd.R_told (Kd.R_old (zr HO461 rfl) hb) (Kd.R_base ho0)) (Kd.R_base ho1)) (fun _ h_ => h_.1)); have n3_ := Aside0.mk (Kd.R_lower (Kd.R_new' (Kd.R_new' (Kd.R_new' ho0 (Kd.R_lt (zr HO454 rfl))) (Kd.R_lt (zr HO459 rfl))) (Kd.R_lt (zr HO461 rfl))) (below_size (zb HB rfl))); have n4_ := Aside0.mk (Kd.R_lower (Kd.R_new' (Kd.R_new' (Kd.R_new' ho1 (Kd.R_lt (zr HO454 rfl))) (Kd.R_lt (zr HO459 rfl))) (Kd.R_lt (zr HO461 rfl))) (below_size (zb HB rfl))); have n5_ := Aside0.mk (blk_below BK451.out hb); have n6_ := Aside0.mk (below_step (zb HB rfl) hb); clear HO454; clear HO459; clear HO461; clear BK451; clear HB; have HO454 := n0_; have HO459 := n1_; have HO461 := n2_; have HO466 := n3_; have HO468 := n4_; have BK451 := n5_; have HB := n6_; clear n0_ n1_ n2_ n3_ n4_ n5_ n6_; obtain ⟨Ao36, co36, eo36⟩ := Kd.R_slice HO459.out; subst eo36; obtain ⟨Ao37, co37, eo37⟩ := Kd.R_slice HO466.out; subst eo37; have hcz38_0 : w35.cell? ⟨gb451, 0, none⟩ = some (.bool false) := (blk_cell BK451.out 0).trans rfl; have hcz38_1 : w35.cell? ⟨gb451, 1, none⟩ = some (.slice none 0 0) := (blk_cell BK451.out 1).trans rfl; have hcz38_2 : w35.cell? ⟨gb451, 2, none⟩ = some (.slice none 0 0) := (blk_cell BK451.out 2).trans rfl; have hfz38_0 := blk_frozen BK451.out 0; have hfz38_1 := blk_frozen BK451.out 1; have hfz38_2 := blk_frozen BK451.out 2))
    refine bodyPost_ret (results_cell_row rfl _ _ gb451 25 #[.bool a0, .slice Ao36 t455.length co36, .slice Ao37 t462.length co37] (0, 0) _ rfl (by (with_reducible repeat (first | refine blk_drewN ?_ _ | refine blk_drew ?_ | refine blk_alloc ?_ _)); refine blk_put (cs := #[.bool a0, .slice Ao36 t455.length co36, .slice none 0 0]) ?_ 2 _ rfl; (with_reducible repeat (first | refine blk_drewN ?_ _ | refine blk_drew ?_ | refine blk_alloc ?_ _)); refine blk_put (cs := #[.bool a0, .slice none 0 0, .slice none 0 0]) ?_ 1 _ rfl; (with_reducible repeat (first | refine blk_drewN ?_ _ | refine blk_drew ?_ | refine blk_alloc ?_ _)); refine blk_put (cs := #[.bool false, .slice none 0 0, .slice none 0 0]) ?_ 0 _ rfl; (with_reducible repeat (first | refine blk_drewN ?_ _ | refine blk_drew ?_ | refine blk_alloc ?_ _)); exact BK451.out) Tryd.underlying25 rfl (by kernel_rfl)) rfl ?_
    exact ⟨_, _, by first | rfl | (simp [*, errW_none, errW_some] <;> rfl), by (with_reducible repeat (first | apply Kd.R_alloc | apply Kd.R_drewN | apply Kd.R_drew)); exact Kd.R_mono (Kd.R_far (p := ⟨gb451, 2, none⟩) (Kd.R_far (p := ⟨gb451, 1, none⟩) (Kd.R_far (p := ⟨gb451, 0, none⟩) (Kd.R_types HO459.out BK451.out (by decide)) (fun _ hk => hk.2) (.bool a0)) (fun _ hk => hk.2) (.slice Ao36 t455.length co36)) (fun _ hk => hk.2) (.slice Ao37 t462.length co37)) (fun _ hk => hk.1.1.2), by (with_reducible repeat (first | apply Kd.R_alloc | apply Kd.R_drewN | apply Kd.R_drew)); exact Kd.R_mono (Kd.R_far (p := ⟨gb451, 2, none⟩) (Kd.R_far (p := ⟨gb451, 1, none⟩) (Kd.R_far (p := ⟨gb451, 0, none⟩) (Kd.R_types HO466.out BK451.out (by decide)) (fun _ hk => hk.2) (.bool a0)) (fun _ hk => hk.2) (.slice Ao36 t455.length co36)) (fun _ hk => hk.2) (.slice Ao37 t462.length co37)) (fun _ hk => hk.1.1.2), by repeat (first | (with_reducible first | exact HB.out | apply below_alloc | apply pw_below_drewN | apply below_drew1 | refine below_set ?_ GE451.out) | exact HB.out)⟩
 ·
  replace c7 := Bool.eq_false_iff.mpr c7
  subst c7
  have H1 : ((credenceref1_NatOf.f k 1).bind fun t475 => (some (false, ([] : List Int), t475))) = some (r1, r2, r3) := by rw [if_neg (show ¬ (false = true) by decide)] at H; exact H
  clear H
  have H := H1
  clear H1
  replace H := Option.bind_eq_some_iff.mp H
  obtain ⟨t475, A390, H⟩ := H
  replace H : (some (false, ([] : List Int), t475)) = some (r1, r2, r3) := H
  have A39 := Aside0.mk A390
  clear A390
  simp only [Option.some.injEq, Prod.mk.injEq] at H
  obtain ⟨rfl, rfl, rfl⟩ := H
  go_enter Tryd.func48, Tryd.ntmps48
  go_wp2_with (first | ((with_reducible refine gate_dst (N := 6) rfl ?_); (try (refine gate_guard (by rfl) ?_; dsimp only)); refine box_event ?hg (N := 6) ?hd (cs := #[.bool false, .slice none 0 0, .slice none 0 0]) (t := 25) ?hr ?_; (case hd => rfl); (case hg => rfl); (case hr => first | (go_simp; done) | (go_simp; rfl)); intro gb451 hg w40 hbox hb; have n0_ := Aside0.mk (below_step (zb HB rfl) hb); have n1_ := Aside0.mk (hbox); have n2_ := Aside0.mk ((by rw [hg]; exact (below_size (zb HB rfl)) : w.heap.size ≤ gb451)); have n3_ := Aside0.mk ((by rw [hg]; exact (below_size (zb HB rfl)) : w.heap.size ≤ gb451)); clear HB; have HB := n0_; have BK451 := n1_; have GW451 := n2_; have GE451 := n3_; clear n0_ n1_ n2_ n3_; clear hb hbox hg) | ((with_reducible refine gate_callee (f := 79) rfl ?_); refine goesL_ (some 16) rfl rfl Tryd.func79 (by kernel_rfl) rfl #[.slice A1 l1.length c1, .slice A2 l2.length c2] rfl (by first | rfl | (go_simp; first | done | rfl | omega)) ?_; (with_reducible refine (credenceref1_NatGCD.calls k _ _ l1 _ _ l2 t452 _ ?side1 ?side2 ?side3 ?side4 A4.out).mono ?_); (case side1 => repeat first | exact (Kd.C_below HR1.out HB.out) | refine Kd.C_drewN ?_ _ | refine Kd.C_alloc ?_ _ | refine Kd.C_drew ?_); (case side2 => exact HC1.out); (case side3 => repeat first | exact (Kd.C_below HR2.out HB.out) | refine Kd.C_drewN ?_ _ | refine Kd.C_alloc ?_ _ | refine Kd.C_drew ?_); (case side4 => exact HC2.out); rintro e w41 ⟨v453, rfl, ho0, hb⟩; refine ⟨_, rfl, ?_⟩; have n0_ := Aside0.mk (Kd.R_lower ho0 (below_size (zb HB rfl))); have n1_ := Aside0.mk (blk_below BK451.out hb); have n2_ := Aside0.mk (below_step (zb HB rfl) hb); clear BK451; clear HB; have HO454 := n0_; have BK451 := n1_; have HB := n2_; clear n0_ n1_ n2_; obtain ⟨Ao42, co42, eo42⟩ := Kd.R_slice HO454.out; subst eo42) | ((with_reducible refine gate_callee (f := 80) rfl ?_); refine goesL_ (some 20) rfl rfl Tryd.func80 (by kernel_rfl) rfl #[.slice A1 l1.length c1, .slice Ao42 t452.length co42] rfl (by first | rfl | (go_simp; first | done | rfl | omega)) ?_; (with_reducible refine (credenceref1_NatDivMod.calls k _ _ l1 _ _ t452 t455 t456 false _ ?side1 ?side2 ?side3 ?side4 A5.out).mono ?_); (case side1 => repeat first | exact (Kd.C_below HR1.out HB.out) | refine Kd.C_drewN ?_ _ | refine Kd.C_alloc ?_ _ | refine Kd.C_drew ?_); (case side2 => exact HC1.out); (case side3 => repeat first | exact (Kd.R_reads' HO454.out).2.2 | refine Kd.C_drewN ?_ _ | refine Kd.C_alloc ?_ _ | refine Kd.C_drew ?_); (case side4 => exact (Kd.R_reads' HO454.out).2.1); rintro e w43 ⟨v458, v460, rfl, ho0, ho1, hb⟩; refine ⟨_, rfl, ?_⟩; have n0_ := Aside0.mk (Kd.R_mono (Kd.R_told (Kd.R_told (Kd.R_old (zr HO454 rfl) hb) (Kd.R_base ho0)) (Kd.R_base ho1)) (fun _ h_ => h_.1)); have n1_ := Aside0.mk (Kd.R_lower (Kd.R_new' ho0 (Kd.R_lt (zr HO454 rfl))) (below_size (zb HB rfl))); have n2_ := Aside0.mk (Kd.R_lower (Kd.R_new' ho1 (Kd.R_lt (zr HO454 rfl))) (below_size (zb HB rfl))); have n3_ := Aside0.mk (blk_below BK451.out hb); have n4_ := Aside0.mk (below_step (zb HB rfl) hb); clear HO454; clear BK451; clear HB; have HO454 := n0_; have HO459 := n1_; have HO461 := n2_; have BK451 := n3_; have HB := n4_; clear n0_ n1_ n2_ n3_ n4_) | ((with_reducible refine gate_callee (f := 80) rfl ?_); refine goesL_ (some 27) rfl rfl Tryd.func80 (by kernel_rfl) rfl #[.slice A2 l2.length c2, .slice Ao42 t452.length co42] rfl (by first | rfl | (go_simp; first | done | rfl | omega)) ?_; (with_reducible refine (credenceref1_NatDivMod.calls k _ _ l2 _ _ t452 t462 t463 t464 _ ?side1 ?side2 ?side3 ?side4 A6.out).mono ?_); (case side1 => repeat first | exact (Kd.C_below HR2.out HB.out) | refine Kd.C_drewN ?_ _ | refine Kd.C_alloc ?_ _ | refine Kd.C_drew ?_); (case side2 => exact HC2.out); (case side3 => repeat first | exact (Kd.R_reads' HO454.out).2.2 | refine Kd.C_drewN ?_ _ | refine Kd.C_alloc ?_ _ | refine Kd.C_drew ?_); (case side4 => exact (Kd.R_reads' HO454.out).2.1); rintro e w44 ⟨v465, v467, rfl, ho0, ho1, hb⟩; refine ⟨_, rfl, ?_⟩; have n0_ := Aside0.mk (Kd.R_mono (Kd.R_told (Kd.R_told (Kd.R_old (zr HO454 rfl) hb) (Kd.R_base ho0)) (Kd.R_base ho1)) (fun _ h_ => h_.1)); have n1_ := Aside0.mk (Kd.R_mono (Kd.R_told (Kd.R_told (Kd.R_old (zr HO459 rfl) hb) (Kd.R_base ho0)) (Kd.R_base ho1)) (fun _ h_ => h_.1)); have n2_ := Aside0.mk (Kd.R_mono (Kd.R_told (Kd.R_told (Kd.R_old (zr HO461 rfl) hb) (Kd.R_base ho0)) (Kd.R_base ho1)) (fun _ h_ => h_.1)); have n3_ := Aside0.mk (Kd.R_lower (Kd.R_new' (Kd.R_new' (Kd.R_new' ho0 (Kd.R_lt (zr HO454 rfl))) (Kd.R_lt (zr HO459 rfl))) (Kd.R_lt (zr HO461 rfl))) (below_size (zb HB rfl))); have n4_ := Aside0.mk (Kd.R_lower (Kd.R_new' (Kd.R_new' (Kd.R_new' ho1 (Kd.R_lt (zr HO454 rfl))) (Kd.R_lt (zr HO459 rfl))) (Kd.R_lt (zr HO461 rfl))) (below_size (zb HB rfl))); have n5_ := Aside0.mk (blk_below BK451.out hb); have n6_ := Aside0.mk (below_step (zb HB rfl) hb); clear HO454; clear HO459; clear HO461; clear BK451; clear HB; have HO454 := n0_; have HO459 := n1_; have HO461 := n2_; have HO466 := n3_; have HO468 := n4_; have BK451 := n5_; have HB := n6_; clear n0_ n1_ n2_ n3_ n4_ n5_ n6_) | ((with_reducible refine gate_callee (f := 60) rfl ?_); refine goesL_ (some 43) rfl rfl Tryd.func60 (by kernel_rfl) rfl #[.int .u64 1] rfl (by first | rfl | (go_simp; first | done | rfl | omega)) ?_; (with_reducible refine (credenceref1_NatOf.calls k 1 t475 _ A39.out).mono ?_); rintro e w45 ⟨v476, rfl, ho0, hb⟩; refine ⟨_, rfl, ?_⟩; have n0_ := Aside0.mk (Kd.R_elder' (zr HO454 rfl) (Kd.R_base ho0) hb); have n1_ := Aside0.mk (Kd.R_elder' (zr HO459 rfl) (Kd.R_base ho0) hb); have n2_ := Aside0.mk (Kd.R_elder' (zr HO461 rfl) (Kd.R_base ho0) hb); have n3_ := Aside0.mk (Kd.R_elder' (zr HO466 rfl) (Kd.R_base ho0) hb); have n4_ := Aside0.mk (Kd.R_elder' (zr HO468 rfl) (Kd.R_base ho0) hb); have n5_ := Aside0.mk (Kd.R_lower (Kd.R_new' (Kd.R_new' (Kd.R_new' (Kd.R_new' (Kd.R_new' ho0 (Kd.R_lt (zr HO454 rfl))) (Kd.R_lt (zr HO459 rfl))) (Kd.R_lt (zr HO461 rfl))) (Kd.R_lt (zr HO466 rfl))) (Kd.R_lt (zr HO468 rfl))) (below_size (zb HB rfl))); have n6_ := Aside0.mk (blk_below BK451.out hb); have n7_ := Aside0.mk (below_step (zb HB rfl) hb); clear HO454; clear HO459; clear HO461; clear HO466; clear HO468; clear BK451; clear HB; have HO454 := n0_; have HO459 := n1_; have HO461 := n2_; have HO466 := n3_; have HO468 := n4_; have HO477 := n5_; have BK451 := n6_; have HB := n7_; clear n0_ n1_ n2_ n3_ n4_ n5_ n6_ n7_; obtain ⟨Ao46, co46, eo46⟩ := Kd.R_slice HO477.out; subst eo46; have hcz47_0 : w45.cell? ⟨gb451, 0, none⟩ = some (.bool false) := (blk_cell BK451.out 0).trans rfl; have hcz47_1 : w45.cell? ⟨gb451, 1, none⟩ = some (.slice none 0 0) := (blk_cell BK451.out 1).trans rfl; have hcz47_2 : w45.cell? ⟨gb451, 2, none⟩ = some (.slice none 0 0) := (blk_cell BK451.out 2).trans rfl; have hfz47_0 := blk_frozen BK451.out 0; have hfz47_1 := blk_frozen BK451.out 1; have hfz47_2 := blk_frozen BK451.out 2))
  refine bodyPost_ret (results_cell_row rfl _ _ gb451 25 #[.bool false, .slice none 0 0, .slice Ao46 t475.length co46] (0, 0) _ rfl (by (with_reducible repeat (first | refine blk_drewN ?_ _ | refine blk_drew ?_ | refine blk_alloc ?_ _)); refine blk_put (cs := #[.bool false, .slice none 0 0, .slice none 0 0]) ?_ 2 _ rfl; (with_reducible repeat (first | refine blk_drewN ?_ _ | refine blk_drew ?_ | refine blk_alloc ?_ _)); refine blk_put (cs := #[.bool false, .slice none 0 0, .slice none 0 0]) ?_ 1 _ rfl; (with_reducible repeat (first | refine blk_drewN ?_ _ | refine blk_drew ?_ | refine blk_alloc ?_ _)); refine blk_put (cs := #[.bool false, .slice none 0 0, .slice none 0 0]) ?_ 0 _ rfl; (with_reducible repeat (first | refine blk_drewN ?_ _ | refine blk_drew ?_ | refine blk_alloc ?_ _)); exact BK451.out) Tryd.underlying25 rfl (by kernel_rfl)) rfl ?_
  exact ⟨_, _, by first | rfl | (simp [*, errW_none, errW_some] <;> rfl), by first | exact Kd.R_nil _ _ _ _ _ | exact Kd.V_nil _ _ _ _ _, by (with_reducible repeat (first | apply Kd.R_alloc | apply Kd.R_drewN | apply Kd.R_drew)); exact Kd.R_mono (Kd.R_far (p := ⟨gb451, 2, none⟩) (Kd.R_far (p := ⟨gb451, 1, none⟩) (Kd.R_far (p := ⟨gb451, 0, none⟩) (Kd.R_types HO477.out BK451.out (by decide)) (fun _ hk => hk.2) (.bool false)) (fun _ hk => hk.2) (.slice none 0 0)) (fun _ hk => hk.2) (.slice Ao46 t475.length co46)) (fun _ hk => (by simp [Value.ownBlock])), by repeat (first | (with_reducible first | exact HB.out | apply below_alloc | apply pw_below_drewN | apply below_drew1 | refine below_set ?_ GE451.out) | exact HB.out)⟩

def credenceref1_size.f (k : Nat) (a0 : Int) : Option (List Int) := if a0 < 0 then ((credenceref1_NatOf.f k (IntKind.u64.wrap ((IntKind.u64.wrap (wrap64 (-(wrap64 (a0 + 1))))) + 1))).bind fun t478 => (some t478)) else ((credenceref1_NatOf.f k (IntKind.u64.wrap (a0))).bind fun t481 => (some t481))
set_option maxHeartbeats 8000000 in
set_option maxRecDepth 100000 in
theorem credenceref1_size.calls (k : Nat) (a0 : Int) (r : List Int) (w : World) (h : credenceref1_size.f k a0 = some r) :
  Calls Tryd.prog 49 #[.int .i64 a0] w fun e w' => ∃ v0_ : Value, e = .returned (v0_) ∧ Kd.R (Kd.int .u32) 37 w' w.heap.size (fun _ => True) v0_ r ∧ Below w.heap.size w w' := by
 have HB := Aside0.mk (Below.refl w.heap.size w)
 have H : (if a0 < 0 then ((credenceref1_NatOf.f k (IntKind.u64.wrap ((IntKind.u64.wrap (wrap64 (-(wrap64 (a0 + 1))))) + 1))).bind fun t478 => (some t478)) else ((credenceref1_NatOf.f k (IntKind.u64.wrap (a0))).bind fun t481 => (some t481))) = some r := h
 clear h
 by_cases c2 : a0 < 0
 ·
  rw [if_pos c2] at H
  have c2b0 : decide (a0 < 0) = true := decide_eq_true c2
  clear c2
  replace H := Option.bind_eq_some_iff.mp H
  obtain ⟨t478, A30, H⟩ := H
  replace H : (some t478) = some r := H
  have A3 := Aside0.mk A30
  clear A30
  obtain rfl := Option.some.inj H
  go_enter Tryd.func49, Tryd.ntmps49
  go_wp2_with (first | ((with_reducible refine gate_callee (f := 60) rfl ?_); refine goesL_ (some 10) rfl rfl Tryd.func60 (by kernel_rfl) rfl #[.int .u64 (IntKind.u64.wrap ((IntKind.u64.wrap (wrap64 (-(wrap64 (a0 + 1))))) + 1))] rfl (by first | rfl | (go_simp; first | done | rfl | omega)) ?_; (with_reducible refine (credenceref1_NatOf.calls k (IntKind.u64.wrap ((IntKind.u64.wrap (wrap64 (-(wrap64 (a0 + 1))))) + 1)) t478 _ A3.out).mono ?_); rintro e w4 ⟨v479, rfl, ho0, hb⟩; refine ⟨_, rfl, ?_⟩; have n0_ := Aside0.mk (Kd.R_lower ho0 (below_size (zb HB rfl))); have n1_ := Aside0.mk (below_step (zb HB rfl) hb); clear HB; have HO480 := n0_; have HB := n1_; clear n0_ n1_))
  go_ret
  exact ⟨_, by first | rfl | (simp [*, errW_none, errW_some] <;> rfl), by (with_reducible repeat (first | apply Kd.R_alloc | apply Kd.R_drewN | apply Kd.R_drew)); exact HO480.out, by repeat (first | (with_reducible first | exact HB.out | apply below_alloc | apply pw_below_drewN | apply below_drew1) | exact HB.out)⟩
 ·
  rw [if_neg c2] at H
  have c2b0 : decide (a0 < 0) = false := decide_eq_false c2
  clear c2
  replace H := Option.bind_eq_some_iff.mp H
  obtain ⟨t481, A50, H⟩ := H
  replace H : (some t481) = some r := H
  have A5 := Aside0.mk A50
  clear A50
  obtain rfl := Option.some.inj H
  go_enter Tryd.func49, Tryd.ntmps49
  go_wp2_with (first | ((with_reducible refine gate_callee (f := 60) rfl ?_); refine goesL_ (some 13) rfl rfl Tryd.func60 (by kernel_rfl) rfl #[.int .u64 (IntKind.u64.wrap (a0))] rfl (by first | rfl | (go_simp; first | done | rfl | omega)) ?_; (with_reducible refine (credenceref1_NatOf.calls k (IntKind.u64.wrap (a0)) t481 _ A5.out).mono ?_); rintro e w6 ⟨v482, rfl, ho0, hb⟩; refine ⟨_, rfl, ?_⟩; have n0_ := Aside0.mk (Kd.R_lower ho0 (below_size (zb HB rfl))); have n1_ := Aside0.mk (below_step (zb HB rfl) hb); clear HB; have HO483 := n0_; have HB := n1_; clear n0_ n1_))
  go_ret
  exact ⟨_, by first | rfl | (simp [*, errW_none, errW_some] <;> rfl), by (with_reducible repeat (first | apply Kd.R_alloc | apply Kd.R_drewN | apply Kd.R_drew)); exact HO483.out, by repeat (first | (with_reducible first | exact HB.out | apply below_alloc | apply pw_below_drewN | apply below_drew1) | exact HB.out)⟩

def credenceref1_FracNew.f (k : Nat) (a0 : Int) (a1 : Int) : Option (Bool × List Int × List Int × Int) := if a1 = 0 then (some (false, ([] : List Int), ([] : List Int), 20)) else ((credenceref1_size.f k a0).bind fun t485 => ((credenceref1_size.f k a1).bind fun t488 => ((credenceref1_frac.f k ((decide (a0 < 0)) != (decide (a1 < 0))) t485 t488).bind fun bt491 => (some (bt491.1, bt491.2.1, bt491.2.2, 0)))))
set_option maxHeartbeats 8000000 in
set_option maxRecDepth 100000 in
theorem credenceref1_FracNew.calls (k : Nat) (a0 : Int) (a1 : Int) (r1 : Bool) (r2 : List Int) (r3 : List Int) (r4 : Int) (w : World) (h : credenceref1_FracNew.f k a0 a1 = some (r1, r2, r3, r4)) :
  Calls Tryd.prog 12 #[.int .i64 a0, .int .i64 a1] w fun e w' => ∃ v1_ v2_ : Value, e = .returned (.tuple #[.agg #[.bool r1, v1_, v2_], .int .i64 r4]) ∧ Kd.R (Kd.int .u32) 37 w' w.heap.size (fun k_ => some k_ ≠ (v2_ : Value).ownBlock) v1_ r2 ∧ Kd.R (Kd.int .u32) 37 w' w.heap.size (fun k_ => some k_ ≠ (v1_ : Value).ownBlock) v2_ r3 ∧ Below w.heap.size w w' := by
 have hu25 := Tryd.underlying25
 have HB := Aside0.mk (Below.refl w.heap.size w)
 have H : (if a1 = 0 then (some (false, ([] : List Int), ([] : List Int), 20)) else ((credenceref1_size.f k a0).bind fun t485 => ((credenceref1_size.f k a1).bind fun t488 => ((credenceref1_frac.f k ((decide (a0 < 0)) != (decide (a1 < 0))) t485 t488).bind fun bt491 => (some (bt491.1, bt491.2.1, bt491.2.2, 0)))))) = some (r1, r2, r3, r4) := h
 clear h
 by_cases c3 : a1 = 0
 ·
  rw [if_pos c3] at H
  have c3b0 : (a1 == 0) = true := beq_iff_eq.mpr c3
  have c3b1 : (a1 != 0) = false := bne_eq_false_iff_eq.mpr c3
  clear c3
  simp only [Option.some.injEq, Prod.mk.injEq] at H
  obtain ⟨rfl, rfl, rfl, rfl⟩ := H
  go_enter Tryd.func12, Tryd.ntmps12
  go_wp2_with (first | ((with_reducible refine gate_dst (N := 4) rfl ?_); refine box_event ?hg (N := 4) ?hd (cs := #[.bool false, .slice none 0 0, .slice none 0 0]) (t := 25) ?hr ?_; (case hd => rfl); (case hg => rfl); (case hr => first | (go_simp; done) | (go_simp; rfl)); intro gb484 hg w4 hbox hb; have n0_ := Aside0.mk (below_step (by repeat (first | (with_reducible first | exact HB.out | apply below_alloc | apply pw_below_drewN | apply below_drew1) | exact HB.out)) hb); have n1_ := Aside0.mk (hbox); have n2_ := Aside0.mk ((by rw [hg]; exact (below_size (by repeat (first | (with_reducible first | exact HB.out | apply below_alloc | apply pw_below_drewN | apply below_drew1) | exact HB.out))) : w.heap.size ≤ gb484)); have n3_ := Aside0.mk ((by rw [hg]; exact (below_size (by repeat (first | (with_reducible first | exact HB.out | apply below_alloc | apply pw_below_drewN | apply below_drew1) | exact HB.out))) : w.heap.size ≤ gb484)); clear HB; have HB := n0_; have BK484 := n1_; have GW484 := n2_; have GE484 := n3_; clear n0_ n1_ n2_ n3_; clear hb hbox hg; have hcz5_0 : w4.cell? ⟨gb484, 0, none⟩ = some (.bool false) := (blk_cell BK484.out 0).trans rfl; have hcz5_1 : w4.cell? ⟨gb484, 1, none⟩ = some (.slice none 0 0) := (blk_cell BK484.out 1).trans rfl; have hcz5_2 : w4.cell? ⟨gb484, 2, none⟩ = some (.slice none 0 0) := (blk_cell BK484.out 2).trans rfl; have hfz5_0 := blk_frozen BK484.out 0; have hfz5_1 := blk_frozen BK484.out 1; have hfz5_2 := blk_frozen BK484.out 2))
  refine bodyPost_ret (results_ct rfl _ _ gb484 25 #[.bool false, .slice none 0 0, .slice none 0 0] (0, 0) _ rfl (by (with_reducible repeat (first | refine blk_drewN ?_ _ | refine blk_drew ?_ | refine blk_alloc ?_ _)); refine blk_put (cs := #[.bool false, .slice none 0 0, .slice none 0 0]) ?_ 2 _ rfl; (with_reducible repeat (first | refine blk_drewN ?_ _ | refine blk_drew ?_ | refine blk_alloc ?_ _)); refine blk_put (cs := #[.bool false, .slice none 0 0, .slice none 0 0]) ?_ 1 _ rfl; (with_reducible repeat (first | refine blk_drewN ?_ _ | refine blk_drew ?_ | refine blk_alloc ?_ _)); refine blk_put (cs := #[.bool false, .slice none 0 0, .slice none 0 0]) ?_ 0 _ rfl; (with_reducible repeat (first | refine blk_drewN ?_ _ | refine blk_drew ?_ | refine blk_alloc ?_ _)); exact BK484.out) Tryd.underlying25 rfl (by kernel_rfl)) rfl ?_
  exact ⟨_, _, by first | rfl | (simp [errW_none, errW_some] <;> rfl) | (simp [*, errW_none, errW_some] <;> rfl), by first | exact Kd.R_nil _ _ _ _ _ | exact Kd.N_nil _ _ _ _ _ | exact Kd.V_nil _ _ _ _ _ | exact Kd.Q_nil _ _ _ _ _ | exact Kd.S_nil _ _ _ _ _, by first | exact Kd.R_nil _ _ _ _ _ | exact Kd.N_nil _ _ _ _ _ | exact Kd.V_nil _ _ _ _ _ | exact Kd.Q_nil _ _ _ _ _ | exact Kd.S_nil _ _ _ _ _, by repeat (first | (with_reducible first | exact HB.out | apply below_alloc | apply pw_below_drewN | apply below_drew1 | refine below_set ?_ GE484.out) | exact HB.out)⟩
 ·
  rw [if_neg c3] at H
  have c3b0 : (a1 == 0) = false := beq_eq_false_iff_ne.mpr c3
  have c3b1 : (a1 != 0) = true := bne_iff_ne.mpr c3
  replace H := Option.bind_eq_some_iff.mp H
  obtain ⟨t485, A60, H⟩ := H
  replace H : ((credenceref1_size.f k a1).bind fun t488 => ((credenceref1_frac.f k ((decide (a0 < 0)) != (decide (a1 < 0))) t485 t488).bind fun bt491 => (some (bt491.1, bt491.2.1, bt491.2.2, 0)))) = some (r1, r2, r3, r4) := H
  have A6 := Aside0.mk A60
  clear A60
  replace H := Option.bind_eq_some_iff.mp H
  obtain ⟨t488, A70, H⟩ := H
  replace H : ((credenceref1_frac.f k ((decide (a0 < 0)) != (decide (a1 < 0))) t485 t488).bind fun bt491 => (some (bt491.1, bt491.2.1, bt491.2.2, 0))) = some (r1, r2, r3, r4) := H
  have A7 := Aside0.mk A70
  clear A70
  replace H := Option.bind_eq_some_iff.mp H
  obtain ⟨⟨t491, t492, t495⟩, A80, H⟩ := H
  replace H : (some (t491, t492, t495, 0)) = some (r1, r2, r3, r4) := H
  have A8 := Aside0.mk A80
  clear A80
  simp only [Option.some.injEq, Prod.mk.injEq] at H
  obtain ⟨rfl, rfl, rfl, rfl⟩ := H
  go_enter Tryd.func12, Tryd.ntmps12
  go_wp2_with (first | ((with_reducible refine gate_dst (N := 4) rfl ?_); refine box_event ?hg (N := 4) ?hd (cs := #[.bool false, .slice none 0 0, .slice none 0 0]) (t := 25) ?hr ?_; (case hd => rfl); (case hg => rfl); (case hr => first | (go_simp; done) | (go_simp; rfl)); intro gb484 hg w9 hbox hb; have n0_ := Aside0.mk (below_step (by repeat (first | (with_reducible first | exact HB.out | apply below_alloc | apply pw_below_drewN | apply below_drew1) | exact HB.out)) hb); have n1_ := Aside0.mk (hbox); have n2_ := Aside0.mk ((by rw [hg]; exact (below_size (by repeat (first | (with_reducible first | exact HB.out | apply below_alloc | apply pw_below_drewN | apply below_drew1) | exact HB.out))) : w.heap.size ≤ gb484)); have n3_ := Aside0.mk ((by rw [hg]; exact (below_size (by repeat (first | (with_reducible first | exact HB.out | apply below_alloc | apply pw_below_drewN | apply below_drew1) | exact HB.out))) : w.heap.size ≤ gb484)); clear HB; have HB := n0_; have BK484 := n1_; have GW484 := n2_; have GE484 := n3_; clear n0_ n1_ n2_ n3_; clear hb hbox hg) | ((with_reducible refine gate_callee (f := 49) rfl ?_); refine goesL_ (some 15) rfl rfl Tryd.func49 (by kernel_rfl) rfl #[.int .i64 a0] rfl (by (try simp only [List.map_toArray, List.map_cons, List.map_nil]); first | done | rfl | (simp only [List.length_drop, List.length_take]; rfl) | (go_simp; done) | (go_simp; rfl) | (go_simp; (try simp only [IntKind.wrap_u8, IntKind.wrap_u32, IntKind.wrap_u64]); omega)) ?_; (with_reducible refine (credenceref1_size.calls k a0 t485 _ A6.out).mono ?_); rintro e w10 ⟨v486, rfl, ho0, hb⟩; refine ⟨_, rfl, ?_⟩; have n0_ := Aside0.mk (Kd.R_lower ho0 (below_size (by repeat (first | (with_reducible first | exact HB.out | apply below_alloc | apply pw_below_drewN | apply below_drew1 | refine below_set ?_ GE484.out) | exact HB.out)))); have n1_ := Aside0.mk (blk_below (g := gb484) (o := .cells #[.bool false, .slice none 0 0, .slice none 0 0] 25 (0, 0)) (by (with_reducible repeat (first | refine blk_drewN ?_ _ | refine blk_drew ?_ | refine blk_alloc ?_ _)); exact BK484.out) hb); have n2_ := Aside0.mk (below_step (by repeat (first | (with_reducible first | exact HB.out | apply below_alloc | apply pw_below_drewN | apply below_drew1 | refine below_set ?_ GE484.out) | exact HB.out)) hb); clear BK484; clear HB; have HO487 := n0_; have BK484 := n1_; have HB := n2_; clear n0_ n1_ n2_; (try clear hb); (try clear hb2); (try clear hk); (try clear hi); (try clear ho0)) | ((with_reducible refine gate_callee (f := 49) rfl ?_); refine goesL_ (some 17) rfl rfl Tryd.func49 (by kernel_rfl) rfl #[.int .i64 a1] rfl (by (try simp only [List.map_toArray, List.map_cons, List.map_nil]); first | done | rfl | (simp only [List.length_drop, List.length_take]; rfl) | (go_simp; done) | (go_simp; rfl) | (go_simp; (try simp only [IntKind.wrap_u8, IntKind.wrap_u32, IntKind.wrap_u64]); omega)) ?_; (with_reducible refine (credenceref1_size.calls k a1 t488 _ A7.out).mono ?_); rintro e w11 ⟨v489, rfl, ho0, hb⟩; refine ⟨_, rfl, ?_⟩; have n0_ := Aside0.mk (Kd.R_elder' (by (with_reducible repeat (first | apply Kd.R_alloc | apply Kd.R_drewN | apply Kd.R_drew)); exact HO487.out) (Kd.R_base ho0) hb); have n1_ := Aside0.mk (Kd.R_lower (Kd.R_new' ho0 (Kd.R_lt (by (with_reducible repeat (first | apply Kd.R_alloc | apply Kd.R_drewN | apply Kd.R_drew)); exact HO487.out))) (below_size (by repeat (first | (with_reducible first | exact HB.out | apply below_alloc | apply pw_below_drewN | apply below_drew1 | refine below_set ?_ GE484.out) | exact HB.out)))); have n2_ := Aside0.mk (blk_below (g := gb484) (o := .cells #[.bool false, .slice none 0 0, .slice none 0 0] 25 (0, 0)) (by (with_reducible repeat (first | refine blk_drewN ?_ _ | refine blk_drew ?_ | refine blk_alloc ?_ _)); exact BK484.out) hb); have n3_ := Aside0.mk (below_step (by repeat (first | (with_reducible first | exact HB.out | apply below_alloc | apply pw_below_drewN | apply below_drew1 | refine below_set ?_ GE484.out) | exact HB.out)) hb); clear HO487; clear BK484; clear HB; have HO487 := n0_; have HO490 := n1_; have BK484 := n2_; have HB := n3_; clear n0_ n1_ n2_ n3_; (try clear hb); (try clear hb2); (try clear hk); (try clear hi); (try clear ho0); obtain ⟨Ao12, co12, eo12⟩ := Kd.R_slice HO487.out; subst eo12; obtain ⟨Ao13, co13, eo13⟩ := Kd.R_slice HO490.out; subst eo13) | ((with_reducible refine gate_callee (f := 48) rfl ?_); refine goesL_ (some 18) rfl rfl Tryd.func48 (by kernel_rfl) rfl #[.bool ((decide (a0 < 0)) != (decide (a1 < 0))), .slice Ao12 t485.length co12, .slice Ao13 t488.length co13] rfl (by (try simp only [List.map_toArray, List.map_cons, List.map_nil]); first | done | rfl | (simp only [List.length_drop, List.length_take]; rfl) | (go_simp; done) | (go_simp; rfl) | (go_simp; (try simp only [IntKind.wrap_u8, IntKind.wrap_u32, IntKind.wrap_u64]); omega)) ?_; (with_reducible refine (credenceref1_frac.calls k ((decide (a0 < 0)) != (decide (a1 < 0))) _ _ t485 _ _ t488 t491 t492 t495 _ ?side1 ?side2 ?side3 ?side4 A8.out).mono ?_); (case side1 => repeat (first | exact (Kd.R_reads' HO487.out).2.2 | (with_reducible refine Kd.C_alloc ?_ _) | (with_reducible refine Kd.C_drewN ?_ _) | (with_reducible refine Kd.C_drew ?_))); (case side2 => exact (Kd.R_reads' HO487.out).2.1); (case side3 => repeat (first | exact (Kd.R_reads' HO490.out).2.2 | (with_reducible refine Kd.C_alloc ?_ _) | (with_reducible refine Kd.C_drewN ?_ _) | (with_reducible refine Kd.C_drew ?_))); (case side4 => exact (Kd.R_reads' HO490.out).2.1); rintro e w14 ⟨v493, v496, rfl, ho0, ho1, hb⟩; refine ⟨_, rfl, ?_⟩; have n0_ := Aside0.mk (Kd.R_mono (Kd.R_told (Kd.R_told (Kd.R_old (by (with_reducible repeat (first | apply Kd.R_alloc | apply Kd.R_drewN | apply Kd.R_drew)); exact HO487.out) hb) (Kd.R_base ho0)) (Kd.R_base ho1)) (fun _ h_ => h_.1)); have n1_ := Aside0.mk (Kd.R_mono (Kd.R_told (Kd.R_told (Kd.R_old (by (with_reducible repeat (first | apply Kd.R_alloc | apply Kd.R_drewN | apply Kd.R_drew)); exact HO490.out) hb) (Kd.R_base ho0)) (Kd.R_base ho1)) (fun _ h_ => h_.1)); have n2_ := Aside0.mk (Kd.R_lower (Kd.R_new' (Kd.R_new' ho0 (Kd.R_lt (by (with_reducible repeat (first | apply Kd.R_alloc | apply Kd.R_drewN | apply Kd.R_drew)); exact HO487.out))) (Kd.R_lt (by (with_reducible repeat (first | apply Kd.R_alloc | apply Kd.R_drewN | apply Kd.R_drew)); exact HO490.out))) (below_size (by repeat (first | (with_reducible first | exact HB.out | apply below_alloc | apply pw_below_drewN | apply below_drew1 | refine below_set ?_ GE484.out) | exact HB.out)))); have n3_ := Aside0.mk (Kd.R_lower (Kd.R_new' (Kd.R_new' ho1 (Kd.R_lt (by (with_reducible repeat (first | apply Kd.R_alloc | apply Kd.R_drewN | apply Kd.R_drew)); exact HO487.out))) (Kd.R_lt (by (with_reducible repeat (first | apply Kd.R_alloc | apply Kd.R_drewN | apply Kd.R_drew)); exact HO490.out))) (below_size (by repeat (first | (with_reducible first | exact HB.out | apply below_alloc | apply pw_below_drewN | apply below_drew1 | refine below_set ?_ GE484.out) | exact HB.out)))); have n4_ := Aside0.mk (blk_below (g := gb484) (o := .cells #[.bool false, .slice none 0 0, .slice none 0 0] 25 (0, 0)) (by (with_reducible repeat (first | refine blk_drewN ?_ _ | refine blk_drew ?_ | refine blk_alloc ?_ _)); exact BK484.out) hb); have n5_ := Aside0.mk (below_step (by repeat (first | (with_reducible first | exact HB.out | apply below_alloc | apply pw_below_drewN | apply below_drew1 | refine below_set ?_ GE484.out) | exact HB.out)) hb); clear HO487; clear HO490; clear BK484; clear HB; have HO487 := n0_; have HO490 := n1_; have HO494 := n2_; have HO497 := n3_; have BK484 := n4_; have HB := n5_; clear n0_ n1_ n2_ n3_ n4_ n5_; (try clear hb); (try clear hb2); (try clear hk); (try clear hi); (try clear ho0); (try clear ho1); have hcz15_0 : w14.cell? ⟨gb484, 0, none⟩ = some (.bool false) := (blk_cell BK484.out 0).trans rfl; have hcz15_1 : w14.cell? ⟨gb484, 1, none⟩ = some (.slice none 0 0) := (blk_cell BK484.out 1).trans rfl; have hcz15_2 : w14.cell? ⟨gb484, 2, none⟩ = some (.slice none 0 0) := (blk_cell BK484.out 2).trans rfl; have hfz15_0 := blk_frozen BK484.out 0; have hfz15_1 := blk_frozen BK484.out 1; have hfz15_2 := blk_frozen BK484.out 2; obtain ⟨Ao16, co16, eo16⟩ := Kd.R_slice HO494.out; subst eo16; obtain ⟨Ao17, co17, eo17⟩ := Kd.R_slice HO497.out; subst eo17))
  refine bodyPost_ret (results_ct rfl _ _ gb484 25 #[.bool t491, .slice Ao16 t492.length co16, .slice Ao17 t495.length co17] (0, 0) _ rfl (by (with_reducible repeat (first | refine blk_drewN ?_ _ | refine blk_drew ?_ | refine blk_alloc ?_ _)); refine blk_put (cs := #[.bool t491, .slice Ao16 t492.length co16, .slice none 0 0]) ?_ 2 _ rfl; (with_reducible repeat (first | refine blk_drewN ?_ _ | refine blk_drew ?_ | refine blk_alloc ?_ _)); refine blk_put (cs := #[.bool t491, .slice none 0 0, .slice none 0 0]) ?_ 1 _ rfl; (with_reducible repeat (first | refine blk_drewN ?_ _ | refine blk_drew ?_ | refine blk_alloc ?_ _)); refine blk_put (cs := #[.bool false, .slice none 0 0, .slice none 0 0]) ?_ 0 _ rfl; (with_reducible repeat (first | refine blk_drewN ?_ _ | refine blk_drew ?_ | refine blk_alloc ?_ _)); exact BK484.out) Tryd.underlying25 rfl (by kernel_rfl)) rfl ?_
  exact ⟨_, _, by first | rfl | (simp [errW_none, errW_some] <;> rfl) | (simp [*, errW_none, errW_some] <;> rfl), by (with_reducible repeat (first | apply Kd.R_alloc | apply Kd.R_drewN | apply Kd.R_drew)); exact Kd.R_mono (Kd.R_far (p := ⟨gb484, 2, none⟩) (Kd.R_far (p := ⟨gb484, 1, none⟩) (Kd.R_far (p := ⟨gb484, 0, none⟩) (Kd.R_types HO494.out BK484.out (by decide)) (fun _ hk => hk.2) (.bool t491)) (fun _ hk => hk.2) (.slice Ao16 t492.length co16)) (fun _ hk => hk.2) (.slice Ao17 t495.length co17)) (fun _ hk => hk.1.1.1), by (with_reducible repeat (first | apply Kd.R_alloc | apply Kd.R_drewN | apply Kd.R_drew)); exact Kd.R_mono (Kd.R_far (p := ⟨gb484, 2, none⟩) (Kd.R_far (p := ⟨gb484, 1, none⟩) (Kd.R_far (p := ⟨gb484, 0, none⟩) (Kd.R_types HO497.out BK484.out (by decide)) (fun _ hk => hk.2) (.bool t491)) (fun _ hk => hk.2) (.slice Ao16 t492.length co16)) (fun _ hk => hk.2) (.slice Ao17 t495.length co17)) (fun _ hk => hk.1.1.1), by repeat (first | (with_reducible first | exact HB.out | apply below_alloc | apply pw_below_drewN | apply below_drew1 | refine below_set ?_ GE484.out) | exact HB.out)⟩

def credenceref1_NatSame.l0 : Nat → List Int → List Int → Int → Option (Bool)
 | 0, _, _, _ => none
 | k + 1, x0, x1, x5 => if x5 < (x0.length : Int) then (if 0 ≤ x5 then (if x5 < (x1.length : Int) then (if (rd x0 x5) = (rd x1 x5) then (credenceref1_NatSame.l0 k x0 x1 (wrap64 (x5 + 1))) else (some false)) else (none)) else (none)) else (some true)
def credenceref1_NatSame.f (k : Nat) (l0 : List Int) (l1 : List Int) : Option (Bool) := if (l0.length : Int) = (l1.length : Int) then (credenceref1_NatSame.l0 k l0 l1 0) else (some false)
set_option maxHeartbeats 8000000 in
set_option maxRecDepth 100000 in
theorem credenceref1_NatSame.calls (k : Nat) (A0 : Option Addr) (c0 : Nat) (l0 : List Int) (A1 : Option Addr) (c1 : Nat) (l1 : List Int) (r : Bool) (w : World) (hr0 : Kd.C (Kd.int .u32) w A0 l0.length l0) (hc0 : l0.length ≤ c0) (hr1 : Kd.C (Kd.int .u32) w A1 l1.length l1) (hc1 : l1.length ≤ c1) (h : credenceref1_NatSame.f k l0 l1 = some r) :
  Calls Tryd.prog 81 #[.slice A0 l0.length c0, .slice A1 l1.length c1] w fun e w' => e = .returned (.bool r) ∧ Drawn0 w w' := by
 have HR0 := Aside0.mk hr0
 have HC0 := Aside0.mk hc0
 clear hr0 hc0
 have HR1 := Aside0.mk hr1
 have HC1 := Aside0.mk hc1
 clear hr1 hc1
 have H : (if (l0.length : Int) = (l1.length : Int) then (credenceref1_NatSame.l0 k l0 l1 0) else (some false)) = some r := h
 clear h
 by_cases c3 : (l0.length : Int) = (l1.length : Int)
 ·
  rw [if_pos c3] at H
  have c3b0 : ((l0.length : Int) == (l1.length : Int)) = true := beq_iff_eq.mpr c3
  have c3b1 : ((l0.length : Int) != (l1.length : Int)) = false := bne_eq_false_iff_eq.mpr c3
  have c3b2 : (l0.length == l1.length) = true := by first | simpa using c3 | (simp at c3 ⊢; omega)
  clear c3
  have H' := Aside0.mk H
  clear H
  go_enter Tryd.func81, Tryd.ntmps81
  go_wp2
  repeat (go_quiet (fail); try go_wp2)
  go_loopg [5] k (fun kq v5 w' => ∃ (x5_1 : Int), v5 = .int .i64 x5_1 ∧ Aside0 (credenceref1_NatSame.l0 kq l0 l1 x5_1 = some r) ∧ Aside0 (kq ≤ k) ∧ Drawn0 w w')
  case atStart => exact ⟨(0), (by first | rfl | (simp [*]; done)), H', ⟨Nat.le_refl _⟩, by repeat (first | exact Drawn0.refl _ | apply Drawn0.step)⟩
  case round =>
   clear H'
   try clear c1
   try clear p2
   try clear c3
   try clear c3b0
   try clear c3b1
   try clear c3b2
   obtain ⟨x5_1, rfl, HA, HK1, ⟨m1, rfl⟩⟩ := hrel
   cases gk with
   | zero => exact absurd HA.out (by simp [credenceref1_NatSame.l0])
   | succ k1 =>
    have H := HA.out
    clear HA
    simp only [credenceref1_NatSame.l0] at H
    by_cases c4 : x5_1 < (l0.length : Int)
    ·
     rw [if_pos c4] at H
     have c4b0 : decide (x5_1 < (l0.length : Int)) = true := decide_eq_true c4
     clear c4
     by_cases c5 : 0 ≤ x5_1
     ·
      rw [if_pos c5] at H
      have c5b0 : decide (0 ≤ x5_1) = true := decide_eq_true c5
      clear c5
      by_cases c6 : x5_1 < (l1.length : Int)
      ·
       rw [if_pos c6] at H
       have c6b0 : decide (x5_1 < (l1.length : Int)) = true := decide_eq_true c6
       clear c6
       by_cases c7 : (rd l0 x5_1) = (rd l1 x5_1)
       ·
        rw [if_pos c7] at H
        have c7b0 : ((rd l0 x5_1) == (rd l1 x5_1)) = true := beq_iff_eq.mpr c7
        have c7b1 : ((rd l0 x5_1) != (rd l1 x5_1)) = false := bne_eq_false_iff_eq.mpr c7
        clear c7
        have H' := Aside0.mk H
        clear H
        have p498 : 0 ≤ (x5_1 : Int) := of_decide_eq_true (by first | (with_reducible assumption) | assumption)
        have q498 : x5_1 < (l0.length : Int) := of_decide_eq_true (by first | (with_reducible assumption) | assumption)
        obtain ⟨ad498, e498, hx498_0⟩ := Kd.at_int HR0.out x5_1 p498 q498
        cases e498
        replace p498 := eq_true p498
        replace q498 := eq_true q498
        have p499 : 0 ≤ (x5_1 : Int) := of_decide_eq_true (by first | (with_reducible assumption) | assumption)
        have q499 : x5_1 < (l1.length : Int) := of_decide_eq_true (by first | (with_reducible assumption) | assumption)
        obtain ⟨ad499, e499, hx499_0⟩ := Kd.at_int HR1.out x5_1 p499 q499
        cases e499
        replace p499 := eq_true p499
        replace q499 := eq_true q499
        go_wp2
        repeat (go_quiet (fail); try go_wp2)
        go_roundg k1
        case measure => have := HK1.out; omega
        case rel => exact ⟨(wrap64 (x5_1 + 1)), (by first | rfl | (simp [*]; done)), H', ⟨by have := HK1.out; omega⟩, by repeat (first | exact Drawn0.refl _ | apply Drawn0.step)⟩
       ·
        rw [if_neg c7] at H
        have c7b0 : ((rd l0 x5_1) == (rd l1 x5_1)) = false := beq_eq_false_iff_ne.mpr c7
        have c7b1 : ((rd l0 x5_1) != (rd l1 x5_1)) = true := bne_iff_ne.mpr c7
        obtain rfl := Option.some.inj H
        have p498 : 0 ≤ (x5_1 : Int) := of_decide_eq_true (by first | (with_reducible assumption) | assumption)
        have q498 : x5_1 < (l0.length : Int) := of_decide_eq_true (by first | (with_reducible assumption) | assumption)
        obtain ⟨ad498, e498, hx498_0⟩ := Kd.at_int HR0.out x5_1 p498 q498
        cases e498
        replace p498 := eq_true p498
        replace q498 := eq_true q498
        have p499 : 0 ≤ (x5_1 : Int) := of_decide_eq_true (by first | (with_reducible assumption) | assumption)
        have q499 : x5_1 < (l1.length : Int) := of_decide_eq_true (by first | (with_reducible assumption) | assumption)
        obtain ⟨ad499, e499, hx499_0⟩ := Kd.at_int HR1.out x5_1 p499 q499
        cases e499
        replace p499 := eq_true p499
        replace q499 := eq_true q499
        go_wp2
        repeat (go_quiet (fail); try go_wp2)
        go_ret
        exact ⟨by first | rfl | (simp [*]; done), by repeat (first | exact Drawn0.refl _ | apply Drawn0.step)⟩
      ·
       rw [if_neg c6] at H
       exact absurd H (by simp)
     ·
      rw [if_neg c5] at H
      exact absurd H (by simp)
    ·
     rw [if_neg c4] at H
     have c4b0 : decide (x5_1 < (l0.length : Int)) = false := decide_eq_false c4
     clear c4
     obtain rfl := Option.some.inj H
     go_wp2
     repeat (go_quiet (fail); try go_wp2)
     go_ret
     exact ⟨by first | rfl | (simp [*]; done), by repeat (first | exact Drawn0.refl _ | apply Drawn0.step)⟩
 ·
  rw [if_neg c3] at H
  have c3b0 : ((l0.length : Int) == (l1.length : Int)) = false := beq_eq_false_iff_ne.mpr c3
  have c3b1 : ((l0.length : Int) != (l1.length : Int)) = true := bne_iff_ne.mpr c3
  have c3b2 : (l0.length == l1.length) = false := by first | simpa using c3 | (simp at c3 ⊢; omega)
  obtain rfl := Option.some.inj H
  go_enter Tryd.func81, Tryd.ntmps81
  go_wp2
  repeat (go_quiet (fail); try go_wp2)
  go_ret
  exact ⟨by first | rfl | (simp [*]; done), by repeat (first | exact Drawn0.refl _ | apply Drawn0.step)⟩

def credenceref1_FracSame.f (k : Nat) (a0_0 : Bool) (l0_1 : List Int) (l0_2 : List Int) (a1_0 : Bool) (l1_1 : List Int) (l1_2 : List Int) : Option (Bool) := if (a0_0 == a1_0) = true then ((credenceref1_NatSame.f k l0_1 l1_1).bind fun t502 => (if t502 = true then ((credenceref1_NatSame.f k l0_2 l1_2).bind fun t503 => (some t503)) else (none))) else (none)
set_option maxHeartbeats 8000000 in
set_option maxRecDepth 100000 in
theorem credenceref1_FracSame.calls (k : Nat) (a0_0 : Bool) (A0_1 : Option Addr) (c0_1 : Nat) (l0_1 : List Int) (A0_2 : Option Addr) (c0_2 : Nat) (l0_2 : List Int) (a1_0 : Bool) (A1_1 : Option Addr) (c1_1 : Nat) (l1_1 : List Int) (A1_2 : Option Addr) (c1_2 : Nat) (l1_2 : List Int) (r : Bool) (w : World) (hr0_1 : Kd.C (Kd.int .u32) w A0_1 l0_1.length l0_1) (hc0_1 : l0_1.length ≤ c0_1) (hr0_2 : Kd.C (Kd.int .u32) w A0_2 l0_2.length l0_2) (hc0_2 : l0_2.length ≤ c0_2) (hr1_1 : Kd.C (Kd.int .u32) w A1_1 l1_1.length l1_1) (hc1_1 : l1_1.length ≤ c1_1) (hr1_2 : Kd.C (Kd.int .u32) w A1_2 l1_2.length l1_2) (hc1_2 : l1_2.length ≤ c1_2) (h : credenceref1_FracSame.f k a0_0 l0_1 l0_2 a1_0 l1_1 l1_2 = some r) :
  Calls Tryd.prog 50 #[.agg #[.bool a0_0, .slice A0_1 l0_1.length c0_1, .slice A0_2 l0_2.length c0_2], .agg #[.bool a1_0, .slice A1_1 l1_1.length c1_1, .slice A1_2 l1_2.length c1_2]] w fun e w' => e = .returned (.bool r) ∧ Below w.heap.size w w' := by
 have hu25 := Tryd.underlying25
 have HR0_1 := Aside0.mk hr0_1
 have HC0_1 := Aside0.mk hc0_1
 clear hr0_1 hc0_1
 have HR0_2 := Aside0.mk hr0_2
 have HC0_2 := Aside0.mk hc0_2
 clear hr0_2 hc0_2
 have HR1_1 := Aside0.mk hr1_1
 have HC1_1 := Aside0.mk hc1_1
 clear hr1_1 hc1_1
 have HR1_2 := Aside0.mk hr1_2
 have HC1_2 := Aside0.mk hc1_2
 clear hr1_2 hc1_2
 have HB := Aside0.mk (Below.refl w.heap.size w)
 have H : (if (a0_0 == a1_0) = true then ((credenceref1_NatSame.f k l0_1 l1_1).bind fun t502 => (if t502 = true then ((credenceref1_NatSame.f k l0_2 l1_2).bind fun t503 => (some t503)) else (none))) else (none)) = some r := h
 clear h
 by_cases c3 : (a0_0 == a1_0) = true
 ·
  rw [if_pos c3] at H
  have c3b0 : (a0_0 == a1_0) = true := c3
  (try (have c3b1 : decide (a0_0 = a1_0) = true := by simpa using c3))
  (try (have c3b2 : (a0_0 == a1_0) = true := by simpa using c3))
  clear c3
  replace H := Option.bind_eq_some_iff.mp H
  obtain ⟨t502, A40, H⟩ := H
  replace H : (if t502 = true then ((credenceref1_NatSame.f k l0_2 l1_2).bind fun t503 => (some t503)) else (none)) = some r := H
  have A4 := Aside0.mk A40
  clear A40
  by_cases c5 : t502 = true
  ·
   subst c5
   have H1 : ((credenceref1_NatSame.f k l0_2 l1_2).bind fun t503 => (some t503)) = some r := by rw [if_pos rfl] at H; exact H
   clear H
   have H := H1
   clear H1
   replace H := Option.bind_eq_some_iff.mp H
   obtain ⟨t503, A60, H⟩ := H
   replace H : (some t503) = some r := H
   have A6 := Aside0.mk A60
   clear A60
   obtain rfl := Option.some.inj H
   go_enter Tryd.func50, Tryd.ntmps50
   have M712_0 : Aside0 True := ⟨trivial⟩
   have M712_1 : Aside0 True := ⟨trivial⟩
   go_wp2_with (first | ((with_reducible refine gate_dst (N := 2) rfl ?_); refine box_event ?hg (N := 2) ?hd (cs := #[.bool a0_0, .slice A0_1 l0_1.length c0_1, .slice A0_2 l0_2.length c0_2]) (t := 25) ?hr ?_; (case hd => rfl); (case hg => rfl); (case hr => first | (go_simp; done) | (go_simp; rfl)); intro gb500 hg w7 hbox hb; have n0_ := Aside0.mk (below_step (zb HB rfl) hb); have n1_ := Aside0.mk (hbox); have n2_ := Aside0.mk ((by rw [hg]; exact (below_size (zb HB rfl)) : w.heap.size ≤ gb500)); have n3_ := Aside0.mk ((by rw [hg]; exact (below_size (zb HB rfl)) : w.heap.size ≤ gb500)); clear HB; have HB := n0_; have BK500 := n1_; have GW500 := n2_; have GE500 := n3_; clear n0_ n1_ n2_ n3_; clear hb hbox hg) | ((with_reducible refine gate_dst (N := 3) rfl ?_); refine box_event ?hg (N := 3) ?hd (cs := #[.bool a1_0, .slice A1_1 l1_1.length c1_1, .slice A1_2 l1_2.length c1_2]) (t := 25) ?hr ?_; (case hd => rfl); (case hg => rfl); (case hr => first | (go_simp; done) | (go_simp; rfl)); intro gb501 hg w8 hbox hb; have n0_ := Aside0.mk (blk_below BK500.out hb); have n1_ := Aside0.mk (below_step (zb HB rfl) hb); have n2_ := Aside0.mk (hbox); have n3_ := Aside0.mk ((by rw [hg]; exact (below_size (zb HB rfl)) : w.heap.size ≤ gb501)); have n4_ := Aside0.mk ((by rw [hg]; exact (below_size (zb HB rfl)) : w.heap.size ≤ gb501)); have n5_ := Aside0.mk ((by rw [hg]; exact Nat.ne_of_lt (blk_lt BK500.out) : gb500 ≠ gb501)); have n6_ := Aside0.mk ((by rw [hg]; exact Nat.ne_of_gt (blk_lt BK500.out) : gb501 ≠ gb500)); clear BK500; clear HB; have BK500 := n0_; have HB := n1_; have BK501 := n2_; have GW501 := n3_; have GE501 := n4_; have NB500_501 := n5_; have NB501_500 := n6_; clear n0_ n1_ n2_ n3_ n4_ n5_ n6_; clear hb hbox hg; have hnb9 := NB500_501.out; have hnc9 := NB501_500.out; have hcz10_0 : w8.cell? ⟨gb500, 0, none⟩ = some (.bool a0_0) := (blk_cell BK500.out 0).trans rfl; have hcz10_1 : w8.cell? ⟨gb500, 1, none⟩ = some (.slice A0_1 l0_1.length c0_1) := (blk_cell BK500.out 1).trans rfl; have hcz10_2 : w8.cell? ⟨gb500, 2, none⟩ = some (.slice A0_2 l0_2.length c0_2) := (blk_cell BK500.out 2).trans rfl; have hfz10_0 := blk_frozen BK500.out 0; have hfz10_1 := blk_frozen BK500.out 1; have hfz10_2 := blk_frozen BK500.out 2; have hcz11_0 : w8.cell? ⟨gb501, 0, none⟩ = some (.bool a1_0) := (blk_cell BK501.out 0).trans rfl; have hcz11_1 : w8.cell? ⟨gb501, 1, none⟩ = some (.slice A1_1 l1_1.length c1_1) := (blk_cell BK501.out 1).trans rfl; have hcz11_2 : w8.cell? ⟨gb501, 2, none⟩ = some (.slice A1_2 l1_2.length c1_2) := (blk_cell BK501.out 2).trans rfl; have hfz11_0 := blk_frozen BK501.out 0; have hfz11_1 := blk_frozen BK501.out 1; have hfz11_2 := blk_frozen BK501.out 2) | (go_at_call 81; clear M712_0; (with_reducible refine (credenceref1_NatSame.calls k _ _ l0_1 _ _ l1_1 true _ ?side1 ?side2 ?side3 ?side4 A4.out).mono ?_); (case side1 => repeat first | exact (Kd.C_below HR0_1.out HB.out) | refine Kd.C_drewN ?_ _ | refine Kd.C_alloc ?_ _ | refine Kd.C_drew ?_); (case side2 => exact HC0_1.out); (case side3 => repeat first | exact (Kd.C_below HR1_1.out HB.out) | refine Kd.C_drewN ?_ _ | refine Kd.C_alloc ?_ _ | refine Kd.C_drew ?_); (case side4 => exact HC1_1.out); rintro e w' ⟨rfl, ⟨nd, rfl⟩⟩) | (go_at_call 81; clear M712_1; (with_reducible refine (credenceref1_NatSame.calls k _ _ l0_2 _ _ l1_2 t503 _ ?side1 ?side2 ?side3 ?side4 A6.out).mono ?_); (case side1 => repeat first | exact (Kd.C_below HR0_2.out (zb HB rfl)) | refine Kd.C_drewN ?_ _ | refine Kd.C_alloc ?_ _ | refine Kd.C_drew ?_); (case side2 => exact HC0_2.out); (case side3 => repeat first | exact (Kd.C_below HR1_2.out (zb HB rfl)) | refine Kd.C_drewN ?_ _ | refine Kd.C_alloc ?_ _ | refine Kd.C_drew ?_); (case side4 => exact HC1_2.out); rintro e w' ⟨rfl, ⟨nd, rfl⟩⟩))
   go_ret
   exact ⟨by first | rfl | (simp [*, errW_none, errW_some] <;> rfl), by repeat (first | (with_reducible first | exact HB.out | apply below_alloc | apply pw_below_drewN | apply below_drew1 | refine below_set ?_ GE500.out | refine below_set ?_ GE501.out) | exact HB.out)⟩
  ·
   replace c5 := Bool.eq_false_iff.mpr c5
   subst c5
   have H1 : (none) = some r := by rw [if_neg (show ¬ (false = true) by decide)] at H; exact H
   clear H
   have H := H1
   clear H1
   exact absurd H (by simp)
 ·
  rw [if_neg c3] at H
  exact absurd H (by simp)

def credencelaw2_same.f (k : Nat) (a0_0 : Bool) (l0_1 : List Int) (l0_2 : List Int) (a1_0 : Bool) (l1_1 : List Int) (l1_2 : List Int) : Option (Bool) := (credenceref1_FracSame.f k a0_0 l0_1 l0_2 a1_0 l1_1 l1_2).bind fun t506 => (some t506)
set_option maxHeartbeats 8000000 in
set_option maxRecDepth 100000 in
theorem credencelaw2_same.calls (k : Nat) (a0_0 : Bool) (A0_1 : Option Addr) (c0_1 : Nat) (l0_1 : List Int) (A0_2 : Option Addr) (c0_2 : Nat) (l0_2 : List Int) (a1_0 : Bool) (A1_1 : Option Addr) (c1_1 : Nat) (l1_1 : List Int) (A1_2 : Option Addr) (c1_2 : Nat) (l1_2 : List Int) (r : Bool) (w : World) (hr0_1 : Kd.C (Kd.int .u32) w A0_1 l0_1.length l0_1) (hc0_1 : l0_1.length ≤ c0_1) (hr0_2 : Kd.C (Kd.int .u32) w A0_2 l0_2.length l0_2) (hc0_2 : l0_2.length ≤ c0_2) (hr1_1 : Kd.C (Kd.int .u32) w A1_1 l1_1.length l1_1) (hc1_1 : l1_1.length ≤ c1_1) (hr1_2 : Kd.C (Kd.int .u32) w A1_2 l1_2.length l1_2) (hc1_2 : l1_2.length ≤ c1_2) (h : credencelaw2_same.f k a0_0 l0_1 l0_2 a1_0 l1_1 l1_2 = some r) :
  Calls Tryd.prog 13 #[.agg #[.bool a0_0, .slice A0_1 l0_1.length c0_1, .slice A0_2 l0_2.length c0_2], .agg #[.bool a1_0, .slice A1_1 l1_1.length c1_1, .slice A1_2 l1_2.length c1_2]] w fun e w' => e = .returned (.bool r) ∧ Below w.heap.size w w' := by
 have hu25 := Tryd.underlying25
 have HR0_1 := Aside0.mk hr0_1
 have HC0_1 := Aside0.mk hc0_1
 clear hr0_1 hc0_1
 have HR0_2 := Aside0.mk hr0_2
 have HC0_2 := Aside0.mk hc0_2
 clear hr0_2 hc0_2
 have HR1_1 := Aside0.mk hr1_1
 have HC1_1 := Aside0.mk hc1_1
 clear hr1_1 hc1_1
 have HR1_2 := Aside0.mk hr1_2
 have HC1_2 := Aside0.mk hc1_2
 clear hr1_2 hc1_2
 have HB := Aside0.mk (Below.refl w.heap.size w)
 have H : ((credenceref1_FracSame.f k a0_0 l0_1 l0_2 a1_0 l1_1 l1_2).bind fun t506 => (some t506)) = some r := h
 clear h
 replace H := Option.bind_eq_some_iff.mp H
 obtain ⟨t506, A30, H⟩ := H
 replace H : (some t506) = some r := H
 have A3 := Aside0.mk A30
 clear A30
 obtain rfl := Option.some.inj H
 go_enter Tryd.func13, Tryd.ntmps13
 go_wp2_with (first | ((with_reducible refine gate_dst (N := 2) rfl ?_); refine box_event ?hg (N := 2) ?hd (cs := #[.bool a0_0, .slice A0_1 l0_1.length c0_1, .slice A0_2 l0_2.length c0_2]) (t := 25) ?hr ?_; (case hd => rfl); (case hg => rfl); (case hr => first | (go_simp; done) | (go_simp; rfl)); intro gb504 hg w4 hbox hb; have n0_ := Aside0.mk (below_step (zb HB rfl) hb); have n1_ := Aside0.mk (hbox); have n2_ := Aside0.mk ((by rw [hg]; exact (below_size (zb HB rfl)) : w.heap.size ≤ gb504)); have n3_ := Aside0.mk ((by rw [hg]; exact (below_size (zb HB rfl)) : w.heap.size ≤ gb504)); clear HB; have HB := n0_; have BK504 := n1_; have GW504 := n2_; have GE504 := n3_; clear n0_ n1_ n2_ n3_; clear hb hbox hg) | ((with_reducible refine gate_dst (N := 3) rfl ?_); refine box_event ?hg (N := 3) ?hd (cs := #[.bool a1_0, .slice A1_1 l1_1.length c1_1, .slice A1_2 l1_2.length c1_2]) (t := 25) ?hr ?_; (case hd => rfl); (case hg => rfl); (case hr => first | (go_simp; done) | (go_simp; rfl)); intro gb505 hg w5 hbox hb; have n0_ := Aside0.mk (blk_below BK504.out hb); have n1_ := Aside0.mk (below_step (zb HB rfl) hb); have n2_ := Aside0.mk (hbox); have n3_ := Aside0.mk ((by rw [hg]; exact (below_size (zb HB rfl)) : w.heap.size ≤ gb505)); have n4_ := Aside0.mk ((by rw [hg]; exact (below_size (zb HB rfl)) : w.heap.size ≤ gb505)); have n5_ := Aside0.mk ((by rw [hg]; exact Nat.ne_of_lt (blk_lt BK504.out) : gb504 ≠ gb505)); have n6_ := Aside0.mk ((by rw [hg]; exact Nat.ne_of_gt (blk_lt BK504.out) : gb505 ≠ gb504)); clear BK504; clear HB; have BK504 := n0_; have HB := n1_; have BK505 := n2_; have GW505 := n3_; have GE505 := n4_; have NB504_505 := n5_; have NB505_504 := n6_; clear n0_ n1_ n2_ n3_ n4_ n5_ n6_; clear hb hbox hg; have hnb6 := NB504_505.out; have hnc6 := NB505_504.out; have hcz7_0 : w5.cell? ⟨gb504, 0, none⟩ = some (.bool a0_0) := (blk_cell BK504.out 0).trans rfl; have hcz7_1 : w5.cell? ⟨gb504, 1, none⟩ = some (.slice A0_1 l0_1.length c0_1) := (blk_cell BK504.out 1).trans rfl; have hcz7_2 : w5.cell? ⟨gb504, 2, none⟩ = some (.slice A0_2 l0_2.length c0_2) := (blk_cell BK504.out 2).trans rfl; have hfz7_0 := blk_frozen BK504.out 0; have hfz7_1 := blk_frozen BK504.out 1; have hfz7_2 := blk_frozen BK504.out 2; have hcz8_0 : w5.cell? ⟨gb505, 0, none⟩ = some (.bool a1_0) := (blk_cell BK505.out 0).trans rfl; have hcz8_1 : w5.cell? ⟨gb505, 1, none⟩ = some (.slice A1_1 l1_1.length c1_1) := (blk_cell BK505.out 1).trans rfl; have hcz8_2 : w5.cell? ⟨gb505, 2, none⟩ = some (.slice A1_2 l1_2.length c1_2) := (blk_cell BK505.out 2).trans rfl; have hfz8_0 := blk_frozen BK505.out 0; have hfz8_1 := blk_frozen BK505.out 1; have hfz8_2 := blk_frozen BK505.out 2) | ((with_reducible refine gate_callee (f := 50) rfl ?_); refine goesL_ (some 7) rfl rfl Tryd.func50 (by kernel_rfl) rfl #[.agg #[.bool a0_0, .slice A0_1 l0_1.length c0_1, .slice A0_2 l0_2.length c0_2], .agg #[.bool a1_0, .slice A1_1 l1_1.length c1_1, .slice A1_2 l1_2.length c1_2]] rfl (by first | rfl | (go_simp; first | done | rfl | omega)) ?_; (with_reducible refine (credenceref1_FracSame.calls k a0_0 _ _ l0_1 _ _ l0_2 a1_0 _ _ l1_1 _ _ l1_2 t506 _ ?side1 ?side2 ?side3 ?side4 ?side5 ?side6 ?side7 ?side8 A3.out).mono ?_); (case side1 => repeat first | exact (Kd.C_below HR0_1.out HB.out) | refine Kd.C_drewN ?_ _ | refine Kd.C_alloc ?_ _ | refine Kd.C_drew ?_); (case side2 => exact HC0_1.out); (case side3 => repeat first | exact (Kd.C_below HR0_2.out HB.out) | refine Kd.C_drewN ?_ _ | refine Kd.C_alloc ?_ _ | refine Kd.C_drew ?_); (case side4 => exact HC0_2.out); (case side5 => repeat first | exact (Kd.C_below HR1_1.out HB.out) | refine Kd.C_drewN ?_ _ | refine Kd.C_alloc ?_ _ | refine Kd.C_drew ?_); (case side6 => exact HC1_1.out); (case side7 => repeat first | exact (Kd.C_below HR1_2.out HB.out) | refine Kd.C_drewN ?_ _ | refine Kd.C_alloc ?_ _ | refine Kd.C_drew ?_); (case side8 => exact HC1_2.out); rintro e w9 ⟨rfl, hb⟩; refine ⟨_, rfl, ?_⟩; have n0_ := Aside0.mk (blk_below BK504.out hb); have n1_ := Aside0.mk (blk_below BK505.out hb); have n2_ := Aside0.mk (below_step (zb HB rfl) hb); clear BK504; clear BK505; clear HB; have BK504 := n0_; have BK505 := n1_; have HB := n2_; clear n0_ n1_ n2_))
 go_ret
 exact ⟨by first | rfl | (simp [*, errW_none, errW_some] <;> rfl), by repeat (first | (with_reducible first | exact HB.out | apply below_alloc | apply pw_below_drewN | apply below_drew1 | refine below_set ?_ GE504.out | refine below_set ?_ GE505.out) | exact HB.out)⟩

def stringslite_HasPrefix.f (a0 : ByteArray) (a1 : ByteArray) : Option (Bool) := if (a0.size : Int) ≥ (a1.size : Int) then (if 0 ≤ (a1.size : Int) then (if (a1.size : Int) ≤ (a0.size : Int) then (some ((a0.extract 0 ((a1.size : Int) : Int).toNat).toList == a1.toList)) else (none)) else (none)) else (some false)
set_option maxHeartbeats 8000000 in
set_option maxRecDepth 100000 in
theorem stringslite_HasPrefix.calls (a0 : ByteArray) (a1 : ByteArray) (r : Bool) (w : World) (h : stringslite_HasPrefix.f a0 a1 = some r) :
  Calls Tryd.prog 94 #[.string a0, .string a1] w fun e w' => e = .returned (.bool r) ∧ Drawn0 w w' := by
 have H : (if (a0.size : Int) ≥ (a1.size : Int) then (if 0 ≤ (a1.size : Int) then (if (a1.size : Int) ≤ (a0.size : Int) then (some ((a0.extract 0 ((a1.size : Int) : Int).toNat).toList == a1.toList)) else (none)) else (none)) else (some false)) = some r := h
 clear h
 by_cases c3 : (a0.size : Int) ≥ (a1.size : Int)
 ·
  rw [if_pos c3] at H
  have c3b0 : decide ((a1.size : Int) ≤ (a0.size : Int)) = true := decide_eq_true c3
  have c3b1 : decide (a1.size ≤ a0.size) = true := decide_eq_true (Int.ofNat_le.mp c3)
  clear c3
  by_cases c4 : 0 ≤ (a1.size : Int)
  ·
   rw [if_pos c4] at H
   have c4b0 := eq_true c4
   have c4b1 : decide (0 ≤ (a1.size : Int)) = true := decide_eq_true c4
   clear c4
   by_cases c5 : (a1.size : Int) ≤ (a0.size : Int)
   ·
    rw [if_pos c5] at H
    have c5b0 := eq_true c5
    have c5b1 : decide ((a1.size : Int) ≤ (a0.size : Int)) = true := decide_eq_true c5
    clear c5
    obtain rfl := Option.some.inj H
    go_enter Tryd.func94, Tryd.ntmps94
    go_wp2
    go_ret
    exact ⟨by first | rfl | (simp [*]; done), by repeat (first | exact Drawn0.refl _ | apply Drawn0.step)⟩
   ·
    rw [if_neg c5] at H
    exact absurd H (by simp)
  ·
   rw [if_neg c4] at H
   exact absurd H (by simp)
 ·
  rw [if_neg c3] at H
  have c3b0 : decide ((a1.size : Int) ≤ (a0.size : Int)) = false := decide_eq_false c3
  have c3b1 : decide (a1.size ≤ a0.size) = false := decide_eq_false (fun h => c3 (Int.ofNat_le.mpr h))
  clear c3
  obtain rfl := Option.some.inj H
  go_enter Tryd.func94, Tryd.ntmps94
  go_wp2
  go_ret
  exact ⟨by first | rfl | (simp [*]; done), by repeat (first | exact Drawn0.refl _ | apply Drawn0.step)⟩

def stringslite_CutPrefix.f (a0 : ByteArray) (a1 : ByteArray) : Option (ByteArray × Bool) := (stringslite_HasPrefix.f a0 a1).bind fun t507 => (if t507 = true then (if 0 ≤ (a1.size : Int) then (if (a1.size : Int) ≤ (a0.size : Int) then (some (a0.extract ((a1.size : Int) : Int).toNat a0.size, true)) else (none)) else (none)) else (some (a0, false)))
set_option maxHeartbeats 8000000 in
set_option maxRecDepth 100000 in
theorem stringslite_CutPrefix.calls (a0 : ByteArray) (a1 : ByteArray) (r1 : ByteArray) (r2 : Bool) (w : World) (h : stringslite_CutPrefix.f a0 a1 = some (r1, r2)) :
  Calls Tryd.prog 82 #[.string a0, .string a1] w fun e w' => e = .returned (.tuple #[.string r1, .bool r2]) ∧ Drawn0 w w' := by
 have H : ((stringslite_HasPrefix.f a0 a1).bind fun t507 => (if t507 = true then (if 0 ≤ (a1.size : Int) then (if (a1.size : Int) ≤ (a0.size : Int) then (some (a0.extract ((a1.size : Int) : Int).toNat a0.size, true)) else (none)) else (none)) else (some (a0, false)))) = some (r1, r2) := h
 clear h
 replace H := Option.bind_eq_some_iff.mp H
 obtain ⟨t507, A30, H⟩ := H
 replace H : (if t507 = true then (if 0 ≤ (a1.size : Int) then (if (a1.size : Int) ≤ (a0.size : Int) then (some (a0.extract ((a1.size : Int) : Int).toNat a0.size, true)) else (none)) else (none)) else (some (a0, false))) = some (r1, r2) := H
 have A3 := Aside0.mk A30
 clear A30
 by_cases c4 : t507 = true
 ·
  subst c4
  have H1 : (if 0 ≤ (a1.size : Int) then (if (a1.size : Int) ≤ (a0.size : Int) then (some (a0.extract ((a1.size : Int) : Int).toNat a0.size, true)) else (none)) else (none)) = some (r1, r2) := by rw [if_pos rfl] at H; exact H
  clear H
  have H := H1
  clear H1
  by_cases c5 : 0 ≤ (a1.size : Int)
  ·
   rw [if_pos c5] at H
   have c5b0 := eq_true c5
   have c5b1 : decide (0 ≤ (a1.size : Int)) = true := decide_eq_true c5
   clear c5
   by_cases c6 : (a1.size : Int) ≤ (a0.size : Int)
   ·
    rw [if_pos c6] at H
    have c6b0 := eq_true c6
    have c6b1 : decide ((a1.size : Int) ≤ (a0.size : Int)) = true := decide_eq_true c6
    clear c6
    simp only [Option.some.injEq, Prod.mk.injEq] at H
    obtain ⟨rfl, rfl⟩ := H
    go_enter Tryd.func82, Tryd.ntmps82
    go_wp2_with (first | ((with_reducible refine gate_callee (f := 94) rfl ?_); refine goesL_ (some 8) rfl rfl Tryd.func94 (by kernel_rfl) rfl #[.string a0, .string a1] rfl (by first | rfl | (go_simp; first | done | rfl | omega)) ?_; (with_reducible refine (stringslite_HasPrefix.calls a0 a1 true _ A3.out).mono ?_); rintro e w' ⟨rfl, ⟨nd, rfl⟩⟩; refine ⟨_, rfl, ?_⟩))
    go_ret2
    exact ⟨by first | rfl | (simp [*]; done), by repeat (first | exact Drawn0.refl _ | apply Drawn0.step)⟩
   ·
    rw [if_neg c6] at H
    exact absurd H (by simp)
  ·
   rw [if_neg c5] at H
   exact absurd H (by simp)
 ·
  replace c4 := Bool.eq_false_iff.mpr c4
  subst c4
  have H1 : (some (a0, false)) = some (r1, r2) := by rw [if_neg (show ¬ (false = true) by decide)] at H; exact H
  clear H
  have H := H1
  clear H1
  simp only [Option.some.injEq, Prod.mk.injEq] at H
  obtain ⟨rfl, rfl⟩ := H
  go_enter Tryd.func82, Tryd.ntmps82
  go_wp2_with (first | ((with_reducible refine gate_callee (f := 94) rfl ?_); refine goesL_ (some 8) rfl rfl Tryd.func94 (by kernel_rfl) rfl #[.string a0, .string a1] rfl (by first | rfl | (go_simp; first | done | rfl | omega)) ?_; (with_reducible refine (stringslite_HasPrefix.calls a0 a1 false _ A3.out).mono ?_); rintro e w' ⟨rfl, ⟨nd, rfl⟩⟩; refine ⟨_, rfl, ?_⟩))
  go_ret2
  exact ⟨by first | rfl | (simp [*]; done), by repeat (first | exact Drawn0.refl _ | apply Drawn0.step)⟩

def strings_CutPrefix.f (a0 : ByteArray) (a1 : ByteArray) : Option (ByteArray × Bool) := (stringslite_CutPrefix.f a0 a1).bind fun bt508 => (some (bt508.1, bt508.2))
set_option maxHeartbeats 8000000 in
set_option maxRecDepth 100000 in
theorem strings_CutPrefix.calls (a0 : ByteArray) (a1 : ByteArray) (r1 : ByteArray) (r2 : Bool) (w : World) (h : strings_CutPrefix.f a0 a1 = some (r1, r2)) :
  Calls Tryd.prog 52 #[.string a0, .string a1] w fun e w' => e = .returned (.tuple #[.string r1, .bool r2]) ∧ Drawn0 w w' := by
 have H : ((stringslite_CutPrefix.f a0 a1).bind fun bt508 => (some (bt508.1, bt508.2))) = some (r1, r2) := h
 clear h
 replace H := Option.bind_eq_some_iff.mp H
 obtain ⟨⟨t508, t509⟩, A30, H⟩ := H
 replace H : (some (t508, t509)) = some (r1, r2) := H
 have A3 := Aside0.mk A30
 clear A30
 simp only [Option.some.injEq, Prod.mk.injEq] at H
 obtain ⟨rfl, rfl⟩ := H
 go_enter Tryd.func52, Tryd.ntmps52
 go_wp2_with (first | ((with_reducible refine gate_callee (f := 82) rfl ?_); refine goesL_ (some 8) rfl rfl Tryd.func82 (by kernel_rfl) rfl #[.string a0, .string a1] rfl (by first | rfl | (go_simp; first | done | rfl | omega)) ?_; (with_reducible refine (stringslite_CutPrefix.calls a0 a1 t508 t509 _ A3.out).mono ?_); rintro e w' ⟨rfl, ⟨nd, rfl⟩⟩; refine ⟨_, rfl, ?_⟩))
 go_ret2
 exact ⟨by first | rfl | (simp [*]; done), by repeat (first | exact Drawn0.refl _ | apply Drawn0.step)⟩

end Go.Proofs.YtoeldfopjalpkaaDoor.Q

