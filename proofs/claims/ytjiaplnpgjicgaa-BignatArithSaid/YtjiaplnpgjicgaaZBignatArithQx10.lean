/- Lemmas for the proof of one law of this seat (Qx10). -/
import Derived.Test.YtjiaplnpgjicgaaZBignatArithQx0
import Derived.Test.YtjiaplnpgjicgaaZBignatArithQx1
import Derived.Test.YtjiaplnpgjicgaaZBignatArithQx2
import Derived.Test.YtjiaplnpgjicgaaZBignatArithQx3
import Derived.Test.YtjiaplnpgjicgaaZBignatArithQx5
import Derived.Test.YtjiaplnpgjicgaaZBignatArithQx6
import Derived.Test.YtjiaplnpgjicgaaZBignatArithQx7
import Derived.Test.YtjiaplnpgjicgaaZBignatArithQx9
import Derived.Test.YtjiaplnpgjicgaaZBignatArithSq
namespace Go.Proofs.Ytjiaplnpgjicgaa.Q
open Go.RowKit Go.Proofs.YtjiaplnpgjicgaaW.PrintWords Go.Proofs.YtjiaplnpgjicgaaW.PrintLast Go.Proofs.YtjiaplnpgjicgaaW.PrintMore
attribute [local go_sem] max2_int min2_int max_two min_two max_three min_three max_four min_four   -- for this text's walks alone
set_option linter.unusedVariables false
set_option linter.unusedSimpArgs false

def bignat_DivMod.f (k : Nat) (l0 : List Int) (l1 : List Int) : Option (List Int × List Int × Bool) := (bignat_trim.f k l0).bind fun t367 => ((bignat_trim.f k l1).bind fun t370 => (if (t370.length : Int) = 0 then (some (([] : List Int), ([] : List Int), false)) else ((bignat_Cmp.f k t367 t370).bind fun t373 => (if t373 < 0 then ((bignat_clone.f k t367).bind fun t374 => (some (([] : List Int), t374, true))) else (if (t370.length : Int) = 1 then (if 0 < (t370.length : Int) then ((bignat_divSmall.f k t367 (rd t370 0)).bind fun bt378 => ((bignat_FromUint64.f (IntKind.u64.wrap (bt378.2))).bind fun t382 => (some (bt378.1, t382, true)))) else (none)) else ((bignat_divLong.f k t367 t370).bind fun bt385 => (some (bt385.1, bt385.2, true))))))))
theorem bignat_DivMod.mono : ∀ a0 a1 k, LeO (bignat_DivMod.f k a0 a1) (bignat_DivMod.f (k + 1) a0 a1) := by
 intro a0 a1 k
 unfold bignat_DivMod.f
 repeat' first
   | (with_reducible exact bignat_Cmp.mono _ _ _)
   | (with_reducible exact bignat_clone.mono _ _)
   | (with_reducible exact bignat_divLong.mono _ _ _)
   | (with_reducible exact bignat_divSmall.mono _ _ _)
   | (with_reducible exact bignat_trim.mono _ _)
   | (with_reducible exact LeO.refl _)
   | (with_reducible exact LeO.none _)
   | (with_reducible refine LeO.ite ?_ ?_)
   | (with_reducible refine LeO.bind ?_ (fun _ => ?_))
   | exact bignat_Cmp.mono _ _ _
   | exact bignat_clone.mono _ _
   | exact bignat_divLong.mono _ _ _
   | exact bignat_divSmall.mono _ _ _
   | exact bignat_trim.mono _ _
   | exact LeO.none _
   | refine LeO.ite ?_ ?_
   | refine LeO.bind ?_ (fun _ => ?_)
set_option maxHeartbeats 8000000 in
set_option maxRecDepth 100000 in
theorem bignat_DivMod.calls (k : Nat) (A0 : Option Addr) (c0 : Nat) (l0 : List Int) (A1 : Option Addr) (c1 : Nat) (l1 : List Int) (r1 : List Int) (r2 : List Int) (r3 : Bool) (w : World) (hr0 : Kd.C (Kd.int .u32) w A0 l0.length l0) (hc0 : l0.length ≤ c0) (hr1 : Kd.C (Kd.int .u32) w A1 l1.length l1) (hc1 : l1.length ≤ c1) (h : bignat_DivMod.f k l0 l1 = some (r1, r2, r3)) :
  Calls Try.prog 21 #[.slice A0 l0.length c0, .slice A1 l1.length c1] w fun e w' => ∃ v0_ v1_ : Value, e = .returned (.tuple #[v0_, v1_, .bool r3]) ∧ Kd.R (Kd.int .u32) 43 w' w.heap.size (fun k_ => some k_ ≠ (v1_ : Value).ownBlock) v0_ r1 ∧ Kd.R (Kd.int .u32) 43 w' w.heap.size (fun k_ => some k_ ≠ (v0_ : Value).ownBlock) v1_ r2 ∧ Below w.heap.size w w' := by
 have HR0 := Aside0.mk hr0
 have HC0 := Aside0.mk hc0
 clear hr0 hc0
 have HR1 := Aside0.mk hr1
 have HC1 := Aside0.mk hc1
 clear hr1 hc1
 have HB := Aside0.mk (Below.refl w.heap.size w)
 have H : ((bignat_trim.f k l0).bind fun t367 => ((bignat_trim.f k l1).bind fun t370 => (if (t370.length : Int) = 0 then (some (([] : List Int), ([] : List Int), false)) else ((bignat_Cmp.f k t367 t370).bind fun t373 => (if t373 < 0 then ((bignat_clone.f k t367).bind fun t374 => (some (([] : List Int), t374, true))) else (if (t370.length : Int) = 1 then (if 0 < (t370.length : Int) then ((bignat_divSmall.f k t367 (rd t370 0)).bind fun bt378 => ((bignat_FromUint64.f (IntKind.u64.wrap (bt378.2))).bind fun t382 => (some (bt378.1, t382, true)))) else (none)) else ((bignat_divLong.f k t367 t370).bind fun bt385 => (some (bt385.1, bt385.2, true))))))))) = some (r1, r2, r3) := h
 clear h
 replace H := Option.bind_eq_some_iff.mp H
 obtain ⟨t367, A30, H⟩ := H
 replace H : ((bignat_trim.f k l1).bind fun t370 => (if (t370.length : Int) = 0 then (some (([] : List Int), ([] : List Int), false)) else ((bignat_Cmp.f k t367 t370).bind fun t373 => (if t373 < 0 then ((bignat_clone.f k t367).bind fun t374 => (some (([] : List Int), t374, true))) else (if (t370.length : Int) = 1 then (if 0 < (t370.length : Int) then ((bignat_divSmall.f k t367 (rd t370 0)).bind fun bt378 => ((bignat_FromUint64.f (IntKind.u64.wrap (bt378.2))).bind fun t382 => (some (bt378.1, t382, true)))) else (none)) else ((bignat_divLong.f k t367 t370).bind fun bt385 => (some (bt385.1, bt385.2, true)))))))) = some (r1, r2, r3) := H
 have A3 := Aside0.mk A30
 clear A30
 replace H := Option.bind_eq_some_iff.mp H
 obtain ⟨t370, A40, H⟩ := H
 replace H : (if (t370.length : Int) = 0 then (some (([] : List Int), ([] : List Int), false)) else ((bignat_Cmp.f k t367 t370).bind fun t373 => (if t373 < 0 then ((bignat_clone.f k t367).bind fun t374 => (some (([] : List Int), t374, true))) else (if (t370.length : Int) = 1 then (if 0 < (t370.length : Int) then ((bignat_divSmall.f k t367 (rd t370 0)).bind fun bt378 => ((bignat_FromUint64.f (IntKind.u64.wrap (bt378.2))).bind fun t382 => (some (bt378.1, t382, true)))) else (none)) else ((bignat_divLong.f k t367 t370).bind fun bt385 => (some (bt385.1, bt385.2, true))))))) = some (r1, r2, r3) := H
 have A4 := Aside0.mk A40
 clear A40
 by_cases c5 : (t370.length : Int) = 0
 ·
  rw [if_pos c5] at H
  have c5b0 : ((t370.length : Int) == 0) = true := beq_iff_eq.mpr c5
  have c5b1 : ((t370.length : Int) != 0) = false := bne_eq_false_iff_eq.mpr c5
  clear c5
  simp only [Option.some.injEq, Prod.mk.injEq] at H
  obtain ⟨rfl, rfl, rfl⟩ := H
  go_enter Try.func21, Try.ntmps21
  go_wp2_with (first | ((with_reducible refine gate_callee (f := 47) rfl ?_); refine goesL_ (some 12) rfl rfl Try.func47 (by kernel_rfl) rfl #[.slice A0 l0.length c0] rfl (by first | rfl | (go_simp; first | done | rfl | ((try simp only [IntKind.wrap_u8, IntKind.wrap_u32, IntKind.wrap_u64]); omega))) ?_; (with_reducible refine (bignat_trim.calls k (fun k_ => k_ < w.heap.size) _ _ l0 t367 _ ?side1 A3.out).mono ?_); (case side1 => exact Kd.V_mk HC0.out (Kd.F_below (Kd.C_F (Kd.heap_int .u32) HR0.out) (zb HB rfl))); rintro e w6 ⟨v368, rfl, ho0, hb⟩; refine ⟨_, rfl, ?_⟩; have n0_ := Aside0.mk (Kd.V_lower (Kd.V_mono (ok' := fun k_ => True) ho0 (fun k_ hk_ => trivial)) (below_size (zb HB rfl))); have n1_ := Aside0.mk (below_step (zb HB rfl) hb); clear HB; have HO369 := n0_; have HB := n1_; clear n0_ n1_) | ((with_reducible refine gate_callee (f := 47) rfl ?_); refine goesL_ (some 14) rfl rfl Try.func47 (by kernel_rfl) rfl #[.slice A1 l1.length c1] rfl (by first | rfl | (go_simp; first | done | rfl | ((try simp only [IntKind.wrap_u8, IntKind.wrap_u32, IntKind.wrap_u64]); omega))) ?_; (with_reducible refine (bignat_trim.calls k (fun k_ => k_ < w.heap.size) _ _ l1 t370 _ ?side1 A4.out).mono ?_); (case side1 => exact Kd.V_mk HC1.out (Kd.F_below (Kd.C_F (Kd.heap_int .u32) HR1.out) (zb HB rfl))); rintro e w7 ⟨v371, rfl, ho0, hb⟩; refine ⟨_, rfl, ?_⟩; have n0_ := Aside0.mk (Kd.V_below (zv HO369 rfl) hb); have n1_ := Aside0.mk (Kd.V_lower (Kd.V_mono (ok' := fun k_ => True) ho0 (fun k_ hk_ => trivial)) (below_size (zb HB rfl))); have n2_ := Aside0.mk (below_step (zb HB rfl) hb); clear HO369; clear HB; have HO369 := n0_; have HO372 := n1_; have HB := n2_; clear n0_ n1_ n2_; obtain ⟨Ao8, co8, eo8⟩ := Kd.V_slice HO372.out; subst eo8))
  go_ret3
  exact ⟨_, _, by first | rfl | (simp [*, errW_none, errW_some] <;> rfl), by first | exact Kd.R_nil _ _ _ _ _ | exact Kd.V_nil _ _ _ _ _, by first | exact Kd.R_nil _ _ _ _ _ | exact Kd.V_nil _ _ _ _ _, by repeat (first | (with_reducible first | exact HB.out | apply below_alloc | apply pw_below_drewN | apply below_drew1) | exact HB.out)⟩
 ·
  rw [if_neg c5] at H
  have c5b0 : ((t370.length : Int) == 0) = false := beq_eq_false_iff_ne.mpr c5
  have c5b1 : ((t370.length : Int) != 0) = true := bne_iff_ne.mpr c5
  have c5b2 : ¬ (t370 = []) := fun h_ => c5 (by rw [h_]; rfl)
  replace H := Option.bind_eq_some_iff.mp H
  obtain ⟨t373, A90, H⟩ := H
  replace H : (if t373 < 0 then ((bignat_clone.f k t367).bind fun t374 => (some (([] : List Int), t374, true))) else (if (t370.length : Int) = 1 then (if 0 < (t370.length : Int) then ((bignat_divSmall.f k t367 (rd t370 0)).bind fun bt378 => ((bignat_FromUint64.f (IntKind.u64.wrap (bt378.2))).bind fun t382 => (some (bt378.1, t382, true)))) else (none)) else ((bignat_divLong.f k t367 t370).bind fun bt385 => (some (bt385.1, bt385.2, true))))) = some (r1, r2, r3) := H
  have A9 := Aside0.mk A90
  clear A90
  by_cases c10 : t373 < 0
  ·
   rw [if_pos c10] at H
   have c10b0 : decide (t373 < 0) = true := decide_eq_true c10
   clear c10
   replace H := Option.bind_eq_some_iff.mp H
   obtain ⟨t374, A110, H⟩ := H
   replace H : (some (([] : List Int), t374, true)) = some (r1, r2, r3) := H
   have A11 := Aside0.mk A110
   clear A110
   simp only [Option.some.injEq, Prod.mk.injEq] at H
   obtain ⟨rfl, rfl, rfl⟩ := H
   go_enter Try.func21, Try.ntmps21
   go_wp2_with (first | ((with_reducible refine gate_callee (f := 47) rfl ?_); refine goesL_ (some 12) rfl rfl Try.func47 (by kernel_rfl) rfl #[.slice A0 l0.length c0] rfl (by first | rfl | (go_simp; first | done | rfl | ((try simp only [IntKind.wrap_u8, IntKind.wrap_u32, IntKind.wrap_u64]); omega))) ?_; (with_reducible refine (bignat_trim.calls k (fun k_ => k_ < w.heap.size) _ _ l0 t367 _ ?side1 A3.out).mono ?_); (case side1 => exact Kd.V_mk HC0.out (Kd.F_below (Kd.C_F (Kd.heap_int .u32) HR0.out) (zb HB rfl))); rintro e w12 ⟨v368, rfl, ho0, hb⟩; refine ⟨_, rfl, ?_⟩; have n0_ := Aside0.mk (Kd.V_lower (Kd.V_mono (ok' := fun k_ => True) ho0 (fun k_ hk_ => trivial)) (below_size (zb HB rfl))); have n1_ := Aside0.mk (below_step (zb HB rfl) hb); clear HB; have HO369 := n0_; have HB := n1_; clear n0_ n1_) | ((with_reducible refine gate_callee (f := 47) rfl ?_); refine goesL_ (some 14) rfl rfl Try.func47 (by kernel_rfl) rfl #[.slice A1 l1.length c1] rfl (by first | rfl | (go_simp; first | done | rfl | ((try simp only [IntKind.wrap_u8, IntKind.wrap_u32, IntKind.wrap_u64]); omega))) ?_; (with_reducible refine (bignat_trim.calls k (fun k_ => k_ < w.heap.size) _ _ l1 t370 _ ?side1 A4.out).mono ?_); (case side1 => exact Kd.V_mk HC1.out (Kd.F_below (Kd.C_F (Kd.heap_int .u32) HR1.out) (zb HB rfl))); rintro e w13 ⟨v371, rfl, ho0, hb⟩; refine ⟨_, rfl, ?_⟩; have n0_ := Aside0.mk (Kd.V_below (zv HO369 rfl) hb); have n1_ := Aside0.mk (Kd.V_lower (Kd.V_mono (ok' := fun k_ => True) ho0 (fun k_ hk_ => trivial)) (below_size (zb HB rfl))); have n2_ := Aside0.mk (below_step (zb HB rfl) hb); clear HO369; clear HB; have HO369 := n0_; have HO372 := n1_; have HB := n2_; clear n0_ n1_ n2_; obtain ⟨Ao14, co14, eo14⟩ := Kd.V_slice HO372.out; subst eo14; obtain ⟨Ao15, co15, eo15⟩ := Kd.V_slice HO369.out; subst eo15) | ((with_reducible refine gate_callee (f := 23) rfl ?_); refine goesL_ (some 22) rfl rfl Try.func23 (by kernel_rfl) rfl #[.slice Ao15 t367.length co15, .slice Ao14 t370.length co14] rfl (by first | rfl | (go_simp; first | done | rfl | ((try simp only [IntKind.wrap_u8, IntKind.wrap_u32, IntKind.wrap_u64]); omega))) ?_; (with_reducible refine (bignat_Cmp.calls k _ _ t367 _ _ t370 t373 _ ?side1 ?side2 ?side3 ?side4 A9.out).mono ?_); (case side1 => repeat first | exact (Kd.V_reads' HO369.out).2.2 | refine Kd.C_drewN ?_ _ | refine Kd.C_alloc ?_ _ | refine Kd.C_drew ?_); (case side2 => exact (Kd.V_reads' HO369.out).2.1); (case side3 => repeat first | exact (Kd.V_reads' HO372.out).2.2 | refine Kd.C_drewN ?_ _ | refine Kd.C_alloc ?_ _ | refine Kd.C_drew ?_); (case side4 => exact (Kd.V_reads' HO372.out).2.1); rintro e w16 ⟨rfl, hb⟩; refine ⟨_, rfl, ?_⟩; have n0_ := Aside0.mk (Kd.V_below (zv HO369 rfl) hb); have n1_ := Aside0.mk (Kd.V_below (zv HO372 rfl) hb); have n2_ := Aside0.mk (below_step (zb HB rfl) hb); clear HO369; clear HO372; clear HB; have HO369 := n0_; have HO372 := n1_; have HB := n2_; clear n0_ n1_ n2_) | ((with_reducible refine gate_callee (f := 41) rfl ?_); refine goesL_ (some 25) rfl rfl Try.func41 (by kernel_rfl) rfl #[.slice Ao15 t367.length co15] rfl (by first | rfl | (go_simp; first | done | rfl | ((try simp only [IntKind.wrap_u8, IntKind.wrap_u32, IntKind.wrap_u64]); omega))) ?_; (with_reducible refine (bignat_clone.calls k _ _ t367 t374 _ ?side1 ?side2 A11.out).mono ?_); (case side1 => repeat first | exact (Kd.V_reads' HO369.out).2.2 | refine Kd.C_drewN ?_ _ | refine Kd.C_alloc ?_ _ | refine Kd.C_drew ?_); (case side2 => exact (Kd.V_reads' HO369.out).2.1); rintro e w17 ⟨v375, rfl, ho0, hb⟩; refine ⟨_, rfl, ?_⟩; have n0_ := Aside0.mk (Kd.V_elder' (zv HO369 rfl) (Kd.R_base ho0) hb); have n1_ := Aside0.mk (Kd.V_elder' (zv HO372 rfl) (Kd.R_base ho0) hb); have n2_ := Aside0.mk (Kd.R_lower ho0 (below_size (zb HB rfl))); have n3_ := Aside0.mk (below_step (zb HB rfl) hb); clear HO369; clear HO372; clear HB; have HO369 := n0_; have HO372 := n1_; have HO376 := n2_; have HB := n3_; clear n0_ n1_ n2_ n3_))
   go_ret3
   exact ⟨_, _, by first | rfl | (simp [*, errW_none, errW_some] <;> rfl), by first | exact Kd.R_nil _ _ _ _ _ | exact Kd.V_nil _ _ _ _ _, by (with_reducible repeat (first | apply Kd.R_alloc | apply Kd.R_drewN | apply Kd.R_drew)); exact Kd.R_mono HO376.out (fun _ hk => (by simp [Value.ownBlock])), by repeat (first | (with_reducible first | exact HB.out | apply below_alloc | apply pw_below_drewN | apply below_drew1) | exact HB.out)⟩
  ·
   rw [if_neg c10] at H
   have c10b0 : decide (t373 < 0) = false := decide_eq_false c10
   clear c10
   by_cases c18 : (t370.length : Int) = 1
   ·
    rw [if_pos c18] at H
    have c18b0 : ((t370.length : Int) == 1) = true := beq_iff_eq.mpr c18
    have c18b1 : ((t370.length : Int) != 1) = false := bne_eq_false_iff_eq.mpr c18
    clear c18
    by_cases c19 : 0 < (t370.length : Int)
    ·
     rw [if_pos c19] at H
     have c19b0 : decide (0 < (t370.length : Int)) = true := decide_eq_true c19
     have c19b1 : decide (0 < t370.length) = true := decide_eq_true (by omega)
     clear c19
     replace H := Option.bind_eq_some_iff.mp H
     obtain ⟨⟨t378, t379⟩, A200, H⟩ := H
     replace H : ((bignat_FromUint64.f (IntKind.u64.wrap (t379))).bind fun t382 => (some (t378, t382, true))) = some (r1, r2, r3) := H
     have A20 := Aside0.mk A200
     clear A200
     replace H := Option.bind_eq_some_iff.mp H
     obtain ⟨t382, A210, H⟩ := H
     replace H : (some (t378, t382, true)) = some (r1, r2, r3) := H
     have A21 := Aside0.mk A210
     clear A210
     simp only [Option.some.injEq, Prod.mk.injEq] at H
     obtain ⟨rfl, rfl, rfl⟩ := H
     go_enter Try.func21, Try.ntmps21
     go_wp2_with (first | ((with_reducible refine gate_callee (f := 47) rfl ?_); refine goesL_ (some 12) rfl rfl Try.func47 (by kernel_rfl) rfl #[.slice A0 l0.length c0] rfl (by first | rfl | (go_simp; first | done | rfl | ((try simp only [IntKind.wrap_u8, IntKind.wrap_u32, IntKind.wrap_u64]); omega))) ?_; (with_reducible refine (bignat_trim.calls k (fun k_ => k_ < w.heap.size) _ _ l0 t367 _ ?side1 A3.out).mono ?_); (case side1 => exact Kd.V_mk HC0.out (Kd.F_below (Kd.C_F (Kd.heap_int .u32) HR0.out) (zb HB rfl))); rintro e w22 ⟨v368, rfl, ho0, hb⟩; refine ⟨_, rfl, ?_⟩; have n0_ := Aside0.mk (Kd.V_lower (Kd.V_mono (ok' := fun k_ => True) ho0 (fun k_ hk_ => trivial)) (below_size (zb HB rfl))); have n1_ := Aside0.mk (below_step (zb HB rfl) hb); clear HB; have HO369 := n0_; have HB := n1_; clear n0_ n1_) | ((with_reducible refine gate_callee (f := 47) rfl ?_); refine goesL_ (some 14) rfl rfl Try.func47 (by kernel_rfl) rfl #[.slice A1 l1.length c1] rfl (by first | rfl | (go_simp; first | done | rfl | ((try simp only [IntKind.wrap_u8, IntKind.wrap_u32, IntKind.wrap_u64]); omega))) ?_; (with_reducible refine (bignat_trim.calls k (fun k_ => k_ < w.heap.size) _ _ l1 t370 _ ?side1 A4.out).mono ?_); (case side1 => exact Kd.V_mk HC1.out (Kd.F_below (Kd.C_F (Kd.heap_int .u32) HR1.out) (zb HB rfl))); rintro e w23 ⟨v371, rfl, ho0, hb⟩; refine ⟨_, rfl, ?_⟩; have n0_ := Aside0.mk (Kd.V_below (zv HO369 rfl) hb); have n1_ := Aside0.mk (Kd.V_lower (Kd.V_mono (ok' := fun k_ => True) ho0 (fun k_ hk_ => trivial)) (below_size (zb HB rfl))); have n2_ := Aside0.mk (below_step (zb HB rfl) hb); clear HO369; clear HB; have HO369 := n0_; have HO372 := n1_; have HB := n2_; clear n0_ n1_ n2_; obtain ⟨Ao24, co24, eo24⟩ := Kd.V_slice HO372.out; subst eo24; obtain ⟨Ao25, co25, eo25⟩ := Kd.V_slice HO369.out; subst eo25) | ((with_reducible refine gate_callee (f := 23) rfl ?_); refine goesL_ (some 22) rfl rfl Try.func23 (by kernel_rfl) rfl #[.slice Ao25 t367.length co25, .slice Ao24 t370.length co24] rfl (by first | rfl | (go_simp; first | done | rfl | ((try simp only [IntKind.wrap_u8, IntKind.wrap_u32, IntKind.wrap_u64]); omega))) ?_; (with_reducible refine (bignat_Cmp.calls k _ _ t367 _ _ t370 t373 _ ?side1 ?side2 ?side3 ?side4 A9.out).mono ?_); (case side1 => repeat first | exact (Kd.V_reads' HO369.out).2.2 | refine Kd.C_drewN ?_ _ | refine Kd.C_alloc ?_ _ | refine Kd.C_drew ?_); (case side2 => exact (Kd.V_reads' HO369.out).2.1); (case side3 => repeat first | exact (Kd.V_reads' HO372.out).2.2 | refine Kd.C_drewN ?_ _ | refine Kd.C_alloc ?_ _ | refine Kd.C_drew ?_); (case side4 => exact (Kd.V_reads' HO372.out).2.1); rintro e w26 ⟨rfl, hb⟩; refine ⟨_, rfl, ?_⟩; have n0_ := Aside0.mk (Kd.V_below (zv HO369 rfl) hb); have n1_ := Aside0.mk (Kd.V_below (zv HO372 rfl) hb); have n2_ := Aside0.mk (below_step (zb HB rfl) hb); clear HO369; clear HO372; clear HB; have HO369 := n0_; have HO372 := n1_; have HB := n2_; clear n0_ n1_ n2_; have p377 : 0 ≤ (0 : Int) := (by omega); have q377 : 0 < (t370.length : Int) := of_decide_eq_true (by first | (with_reducible assumption) | assumption); obtain ⟨ad377, e377, hx377_0⟩ := Kd.at_int (Kd.V_reads' HO372.out).2.2 0 p377 q377; cases e377; have qi377 : (0 < t370.length) = True := eq_true (by omega); (try rw [show ((0 : Int)).toNat = 0 from rfl] at hx377_0); (try rw [Addr.add_zero'] at hx377_0); replace p377 := eq_true p377; replace q377 := eq_true q377) | ((with_reducible refine gate_callee (f := 42) rfl ?_); refine goesL_ (some 35) rfl rfl Try.func42 (by kernel_rfl) rfl #[.slice Ao25 t367.length co25, .int .u32 (rd t370 0)] rfl (by first | rfl | (go_simp; first | done | rfl | ((try simp only [IntKind.wrap_u8, IntKind.wrap_u32, IntKind.wrap_u64]); omega))) ?_; (with_reducible refine (bignat_divSmall.calls k _ _ t367 (rd t370 0) t378 t379 _ ?side1 ?side2 A20.out).mono ?_); (case side1 => repeat first | exact (Kd.V_reads' HO369.out).2.2 | refine Kd.C_drewN ?_ _ | refine Kd.C_alloc ?_ _ | refine Kd.C_drew ?_); (case side2 => exact (Kd.V_reads' HO369.out).2.1); rintro e w27 ⟨v380, rfl, ho0, hb⟩; refine ⟨_, rfl, ?_⟩; have n0_ := Aside0.mk (Kd.V_elder' (zv HO369 rfl) (Kd.R_base ho0) hb); have n1_ := Aside0.mk (Kd.V_elder' (zv HO372 rfl) (Kd.R_base ho0) hb); have n2_ := Aside0.mk (Kd.R_lower ho0 (below_size (zb HB rfl))); have n3_ := Aside0.mk (below_step (zb HB rfl) hb); clear HO369; clear HO372; clear HB; have HO369 := n0_; have HO372 := n1_; have HO381 := n2_; have HB := n3_; clear n0_ n1_ n2_ n3_) | ((with_reducible refine gate_callee (f := 26) rfl ?_); refine goesL_ (some 41) rfl rfl Try.func26 (by kernel_rfl) rfl #[.int .u64 (IntKind.u64.wrap (t379))] rfl (by first | rfl | (go_simp; first | done | rfl | ((try simp only [IntKind.wrap_u8, IntKind.wrap_u32, IntKind.wrap_u64]); omega))) ?_; (with_reducible refine (bignat_FromUint64.calls (IntKind.u64.wrap (t379)) t382 _ A21.out).mono ?_); rintro e w28 ⟨v383, rfl, ho0, hb⟩; refine ⟨_, rfl, ?_⟩; have n0_ := Aside0.mk (Kd.V_elder' (zv HO369 rfl) (Kd.R_base ho0) hb); have n1_ := Aside0.mk (Kd.V_elder' (zv HO372 rfl) (Kd.R_base ho0) hb); have n2_ := Aside0.mk (Kd.R_elder' (zr HO381 rfl) (Kd.R_base ho0) hb); have n3_ := Aside0.mk (Kd.R_lower (Kd.R_new' ho0 (Kd.R_lt (zr HO381 rfl))) (below_size (zb HB rfl))); have n4_ := Aside0.mk (below_step (zb HB rfl) hb); clear HO369; clear HO372; clear HO381; clear HB; have HO369 := n0_; have HO372 := n1_; have HO381 := n2_; have HO384 := n3_; have HB := n4_; clear n0_ n1_ n2_ n3_ n4_))
     go_ret3
     exact ⟨_, _, by first | rfl | (simp [*, errW_none, errW_some] <;> rfl), by (with_reducible repeat (first | apply Kd.R_alloc | apply Kd.R_drewN | apply Kd.R_drew)); exact Kd.R_mono HO381.out (fun _ hk => hk.2), by (with_reducible repeat (first | apply Kd.R_alloc | apply Kd.R_drewN | apply Kd.R_drew)); exact Kd.R_mono HO384.out (fun _ hk => hk.2), by repeat (first | (with_reducible first | exact HB.out | apply below_alloc | apply pw_below_drewN | apply below_drew1) | exact HB.out)⟩
    ·
     rw [if_neg c19] at H
     exact absurd H (by simp)
   ·
    rw [if_neg c18] at H
    have c18b0 : ((t370.length : Int) == 1) = false := beq_eq_false_iff_ne.mpr c18
    have c18b1 : ((t370.length : Int) != 1) = true := bne_iff_ne.mpr c18
    replace H := Option.bind_eq_some_iff.mp H
    obtain ⟨⟨t385, t386⟩, A290, H⟩ := H
    replace H : (some (t385, t386, true)) = some (r1, r2, r3) := H
    have A29 := Aside0.mk A290
    clear A290
    simp only [Option.some.injEq, Prod.mk.injEq] at H
    obtain ⟨rfl, rfl, rfl⟩ := H
    go_enter Try.func21, Try.ntmps21
    go_wp2_with (first | ((with_reducible refine gate_callee (f := 47) rfl ?_); refine goesL_ (some 12) rfl rfl Try.func47 (by kernel_rfl) rfl #[.slice A0 l0.length c0] rfl (by first | rfl | (go_simp; first | done | rfl | ((try simp only [IntKind.wrap_u8, IntKind.wrap_u32, IntKind.wrap_u64]); omega))) ?_; (with_reducible refine (bignat_trim.calls k (fun k_ => k_ < w.heap.size) _ _ l0 t367 _ ?side1 A3.out).mono ?_); (case side1 => exact Kd.V_mk HC0.out (Kd.F_below (Kd.C_F (Kd.heap_int .u32) HR0.out) (zb HB rfl))); rintro e w30 ⟨v368, rfl, ho0, hb⟩; refine ⟨_, rfl, ?_⟩; have n0_ := Aside0.mk (Kd.V_lower (Kd.V_mono (ok' := fun k_ => True) ho0 (fun k_ hk_ => trivial)) (below_size (zb HB rfl))); have n1_ := Aside0.mk (below_step (zb HB rfl) hb); clear HB; have HO369 := n0_; have HB := n1_; clear n0_ n1_) | ((with_reducible refine gate_callee (f := 47) rfl ?_); refine goesL_ (some 14) rfl rfl Try.func47 (by kernel_rfl) rfl #[.slice A1 l1.length c1] rfl (by first | rfl | (go_simp; first | done | rfl | ((try simp only [IntKind.wrap_u8, IntKind.wrap_u32, IntKind.wrap_u64]); omega))) ?_; (with_reducible refine (bignat_trim.calls k (fun k_ => k_ < w.heap.size) _ _ l1 t370 _ ?side1 A4.out).mono ?_); (case side1 => exact Kd.V_mk HC1.out (Kd.F_below (Kd.C_F (Kd.heap_int .u32) HR1.out) (zb HB rfl))); rintro e w31 ⟨v371, rfl, ho0, hb⟩; refine ⟨_, rfl, ?_⟩; have n0_ := Aside0.mk (Kd.V_below (zv HO369 rfl) hb); have n1_ := Aside0.mk (Kd.V_lower (Kd.V_mono (ok' := fun k_ => True) ho0 (fun k_ hk_ => trivial)) (below_size (zb HB rfl))); have n2_ := Aside0.mk (below_step (zb HB rfl) hb); clear HO369; clear HB; have HO369 := n0_; have HO372 := n1_; have HB := n2_; clear n0_ n1_ n2_; obtain ⟨Ao32, co32, eo32⟩ := Kd.V_slice HO372.out; subst eo32; obtain ⟨Ao33, co33, eo33⟩ := Kd.V_slice HO369.out; subst eo33) | ((with_reducible refine gate_callee (f := 23) rfl ?_); refine goesL_ (some 22) rfl rfl Try.func23 (by kernel_rfl) rfl #[.slice Ao33 t367.length co33, .slice Ao32 t370.length co32] rfl (by first | rfl | (go_simp; first | done | rfl | ((try simp only [IntKind.wrap_u8, IntKind.wrap_u32, IntKind.wrap_u64]); omega))) ?_; (with_reducible refine (bignat_Cmp.calls k _ _ t367 _ _ t370 t373 _ ?side1 ?side2 ?side3 ?side4 A9.out).mono ?_); (case side1 => repeat first | exact (Kd.V_reads' HO369.out).2.2 | refine Kd.C_drewN ?_ _ | refine Kd.C_alloc ?_ _ | refine Kd.C_drew ?_); (case side2 => exact (Kd.V_reads' HO369.out).2.1); (case side3 => repeat first | exact (Kd.V_reads' HO372.out).2.2 | refine Kd.C_drewN ?_ _ | refine Kd.C_alloc ?_ _ | refine Kd.C_drew ?_); (case side4 => exact (Kd.V_reads' HO372.out).2.1); rintro e w34 ⟨rfl, hb⟩; refine ⟨_, rfl, ?_⟩; have n0_ := Aside0.mk (Kd.V_below (zv HO369 rfl) hb); have n1_ := Aside0.mk (Kd.V_below (zv HO372 rfl) hb); have n2_ := Aside0.mk (below_step (zb HB rfl) hb); clear HO369; clear HO372; clear HB; have HO369 := n0_; have HO372 := n1_; have HB := n2_; clear n0_ n1_ n2_) | ((with_reducible refine gate_callee (f := 48) rfl ?_); refine goesL_ (some 45) rfl rfl Try.func48 (by kernel_rfl) rfl #[.slice Ao33 t367.length co33, .slice Ao32 t370.length co32] rfl (by first | rfl | (go_simp; first | done | rfl | ((try simp only [IntKind.wrap_u8, IntKind.wrap_u32, IntKind.wrap_u64]); omega))) ?_; (with_reducible refine (bignat_divLong.calls k _ _ t367 _ _ t370 t385 t386 _ ?side1 ?side2 ?side3 ?side4 A29.out).mono ?_); (case side1 => repeat first | exact (Kd.V_reads' HO369.out).2.2 | refine Kd.C_drewN ?_ _ | refine Kd.C_alloc ?_ _ | refine Kd.C_drew ?_); (case side2 => exact (Kd.V_reads' HO369.out).2.1); (case side3 => repeat first | exact (Kd.V_reads' HO372.out).2.2 | refine Kd.C_drewN ?_ _ | refine Kd.C_alloc ?_ _ | refine Kd.C_drew ?_); (case side4 => exact (Kd.V_reads' HO372.out).2.1); rintro e w35 ⟨v387, v389, rfl, ho0, ho1, hb⟩; refine ⟨_, rfl, ?_⟩; have n0_ := Aside0.mk (Kd.V_mono (Kd.V_told (Kd.V_told (Kd.V_old (zv HO369 rfl) hb) (Kd.R_base ho0)) (Kd.R_base ho1)) (fun _ h_ => h_.1)); have n1_ := Aside0.mk (Kd.V_mono (Kd.V_told (Kd.V_told (Kd.V_old (zv HO372 rfl) hb) (Kd.R_base ho0)) (Kd.R_base ho1)) (fun _ h_ => h_.1)); have n2_ := Aside0.mk (Kd.R_lower ho0 (below_size (zb HB rfl))); have n3_ := Aside0.mk (Kd.R_lower ho1 (below_size (zb HB rfl))); have n4_ := Aside0.mk (below_step (zb HB rfl) hb); clear HO369; clear HO372; clear HB; have HO369 := n0_; have HO372 := n1_; have HO388 := n2_; have HO390 := n3_; have HB := n4_; clear n0_ n1_ n2_ n3_ n4_))
    go_ret3
    exact ⟨_, _, by first | rfl | (simp [*, errW_none, errW_some] <;> rfl), by (with_reducible repeat (first | apply Kd.R_alloc | apply Kd.R_drewN | apply Kd.R_drew)); exact HO388.out, by (with_reducible repeat (first | apply Kd.R_alloc | apply Kd.R_drewN | apply Kd.R_drew)); exact HO390.out, by repeat (first | (with_reducible first | exact HB.out | apply below_alloc | apply pw_below_drewN | apply below_drew1) | exact HB.out)⟩

def bignat_BitLen.f (k : Nat) (l0 : List Int) : Option (Int) := (bignat_trim.f k l0).bind fun t391 => (if (t391.length : Int) = 0 then (some 0) else (if 0 ≤ (wrap64 ((t391.length : Int) - 1)) then (if (wrap64 ((t391.length : Int) - 1)) < (t391.length : Int) then ((bits_Len32.f (rd t391 (wrap64 ((t391.length : Int) - 1)))).bind fun t395 => (some (wrap64 ((wrap64 (32 * (wrap64 ((t391.length : Int) - 1)))) + t395)))) else (none)) else (none)))
theorem bignat_BitLen.mono : ∀ a0 k, LeO (bignat_BitLen.f k a0) (bignat_BitLen.f (k + 1) a0) := by
 intro a0 k
 unfold bignat_BitLen.f
 repeat' first
   | (with_reducible exact bignat_trim.mono _ _)
   | (with_reducible exact LeO.refl _)
   | (with_reducible exact LeO.none _)
   | (with_reducible refine LeO.ite ?_ ?_)
   | (with_reducible refine LeO.bind ?_ (fun _ => ?_))
   | exact bignat_trim.mono _ _
   | exact LeO.none _
   | refine LeO.ite ?_ ?_
   | refine LeO.bind ?_ (fun _ => ?_)
set_option maxHeartbeats 8000000 in
set_option maxRecDepth 100000 in
theorem bignat_BitLen.calls (k : Nat) (A0 : Option Addr) (c0 : Nat) (l0 : List Int) (r : Int) (w : World) (hr0 : Kd.C (Kd.int .u32) w A0 l0.length l0) (hc0 : l0.length ≤ c0) (h : bignat_BitLen.f k l0 = some r) :
  Calls Try.prog 22 #[.slice A0 l0.length c0] w fun e w' => e = .returned (.int .i64 r) ∧ Below w.heap.size w w' := by
 have HR0 := Aside0.mk hr0
 have HC0 := Aside0.mk hc0
 clear hr0 hc0
 have HB := Aside0.mk (Below.refl w.heap.size w)
 have H : ((bignat_trim.f k l0).bind fun t391 => (if (t391.length : Int) = 0 then (some 0) else (if 0 ≤ (wrap64 ((t391.length : Int) - 1)) then (if (wrap64 ((t391.length : Int) - 1)) < (t391.length : Int) then ((bits_Len32.f (rd t391 (wrap64 ((t391.length : Int) - 1)))).bind fun t395 => (some (wrap64 ((wrap64 (32 * (wrap64 ((t391.length : Int) - 1)))) + t395)))) else (none)) else (none)))) = some r := h
 clear h
 replace H := Option.bind_eq_some_iff.mp H
 obtain ⟨t391, A20, H⟩ := H
 replace H : (if (t391.length : Int) = 0 then (some 0) else (if 0 ≤ (wrap64 ((t391.length : Int) - 1)) then (if (wrap64 ((t391.length : Int) - 1)) < (t391.length : Int) then ((bits_Len32.f (rd t391 (wrap64 ((t391.length : Int) - 1)))).bind fun t395 => (some (wrap64 ((wrap64 (32 * (wrap64 ((t391.length : Int) - 1)))) + t395)))) else (none)) else (none))) = some r := H
 have A2 := Aside0.mk A20
 clear A20
 by_cases c3 : (t391.length : Int) = 0
 ·
  rw [if_pos c3] at H
  have c3b0 : ((t391.length : Int) == 0) = true := beq_iff_eq.mpr c3
  have c3b1 : ((t391.length : Int) != 0) = false := bne_eq_false_iff_eq.mpr c3
  clear c3
  obtain rfl := Option.some.inj H
  go_enter Try.func22, Try.ntmps22
  go_wp2_with (first | ((with_reducible refine gate_callee (f := 47) rfl ?_); refine goesL_ (some 4) rfl rfl Try.func47 (by kernel_rfl) rfl #[.slice A0 l0.length c0] rfl (by first | rfl | (go_simp; first | done | rfl | ((try simp only [IntKind.wrap_u8, IntKind.wrap_u32, IntKind.wrap_u64]); omega))) ?_; (with_reducible refine (bignat_trim.calls k (fun k_ => k_ < w.heap.size) _ _ l0 t391 _ ?side1 A2.out).mono ?_); (case side1 => exact Kd.V_mk HC0.out (Kd.F_below (Kd.C_F (Kd.heap_int .u32) HR0.out) (zb HB rfl))); rintro e w4 ⟨v392, rfl, ho0, hb⟩; refine ⟨_, rfl, ?_⟩; have n0_ := Aside0.mk (Kd.V_lower (Kd.V_mono (ok' := fun k_ => True) ho0 (fun k_ hk_ => trivial)) (below_size (zb HB rfl))); have n1_ := Aside0.mk (below_step (zb HB rfl) hb); clear HB; have HO393 := n0_; have HB := n1_; clear n0_ n1_; obtain ⟨Ao5, co5, eo5⟩ := Kd.V_slice HO393.out; subst eo5))
  go_ret
  exact ⟨by first | rfl | (simp [*, errW_none, errW_some] <;> rfl), by repeat (first | (with_reducible first | exact HB.out | apply below_alloc | apply pw_below_drewN | apply below_drew1) | exact HB.out)⟩
 ·
  rw [if_neg c3] at H
  have c3b0 : ((t391.length : Int) == 0) = false := beq_eq_false_iff_ne.mpr c3
  have c3b1 : ((t391.length : Int) != 0) = true := bne_iff_ne.mpr c3
  have c3b2 : ¬ (t391 = []) := fun h_ => c3 (by rw [h_]; rfl)
  obtain ⟨ji6, hji6⟩ : ∃ j_ : Int, (wrap64 ((t391.length : Int) - 1)) = j_ := ⟨_, rfl⟩
  replace H : (if 0 ≤ (ji6) then (if (ji6) < (t391.length : Int) then ((bits_Len32.f (rd t391 (ji6))).bind fun t395 => (some (wrap64 ((wrap64 (32 * (ji6))) + t395)))) else (none)) else (none)) = some r := by first | (rw [hji6] at H; exact H) | (simp only [hji6] at H ⊢; exact H)
  (try rw [hji6] at A2)
  have hji6w : (IntKind.i64.wrap ((t391.length : Int) - 1)) = ji6 := (i64_w _).trans hji6
  by_cases c7 : 0 ≤ (ji6)
  ·
   rw [if_pos c7] at H
   have c7b0 : decide (0 ≤ (ji6)) = true := decide_eq_true c7
   clear c7
   by_cases c8 : (ji6) < (t391.length : Int)
   ·
    rw [if_pos c8] at H
    have c8b0 : decide ((ji6) < (t391.length : Int)) = true := decide_eq_true c8
    clear c8
    replace H := Option.bind_eq_some_iff.mp H
    obtain ⟨t395, A90, H⟩ := H
    replace H : (some (wrap64 ((wrap64 (32 * (ji6))) + t395))) = some r := H
    have A9 := Aside0.mk A90
    clear A90
    obtain rfl := Option.some.inj H
    go_enter Try.func22, Try.ntmps22
    go_wp2_with (first | ((with_reducible refine gate_callee (f := 47) rfl ?_); refine goesL_ (some 4) rfl rfl Try.func47 (by kernel_rfl) rfl #[.slice A0 l0.length c0] rfl (by first | rfl | (go_simp; first | done | rfl | ((try simp only [IntKind.wrap_u8, IntKind.wrap_u32, IntKind.wrap_u64]); omega))) ?_; (with_reducible refine (bignat_trim.calls k (fun k_ => k_ < w.heap.size) _ _ l0 t391 _ ?side1 A2.out).mono ?_); (case side1 => exact Kd.V_mk HC0.out (Kd.F_below (Kd.C_F (Kd.heap_int .u32) HR0.out) (zb HB rfl))); rintro e w10 ⟨v392, rfl, ho0, hb⟩; refine ⟨_, rfl, ?_⟩; have n0_ := Aside0.mk (Kd.V_lower (Kd.V_mono (ok' := fun k_ => True) ho0 (fun k_ hk_ => trivial)) (below_size (zb HB rfl))); have n1_ := Aside0.mk (below_step (zb HB rfl) hb); clear HB; have HO393 := n0_; have HB := n1_; clear n0_ n1_; obtain ⟨Ao11, co11, eo11⟩ := Kd.V_slice HO393.out; subst eo11; have p394 : 0 ≤ ((ji6) : Int) := of_decide_eq_true (by first | (with_reducible assumption) | assumption); have q394 : (ji6) < (t391.length : Int) := of_decide_eq_true (by first | (with_reducible assumption) | assumption); obtain ⟨ad394, e394, hx394_0⟩ := Kd.at_int (Kd.V_reads' HO393.out).2.2 (ji6) p394 q394; cases e394; replace p394 := eq_true p394; replace q394 := eq_true q394) | ((with_reducible refine gate_callee (f := 49) rfl ?_); refine goesL_ (some 18) rfl rfl Try.func49 (by kernel_rfl) rfl #[.int .u32 (rd t391 (ji6))] rfl (by (try simp only [List.map_toArray, List.map_cons, List.map_nil]); first | done | (simp only [hji6]; rfl) | rfl | (simp only [List.length_drop, List.length_take]; rfl) | (go_simp; done) | (go_simp; rfl) | (go_simp; (try simp only [IntKind.wrap_u8, IntKind.wrap_u32, IntKind.wrap_u64]); omega)) ?_; (with_reducible refine (bits_Len32.calls (rd t391 (ji6)) t395 _ A9.out).mono ?_); rintro e w' ⟨rfl, ⟨nd, rfl⟩⟩; refine ⟨_, rfl, ?_⟩))
    go_ret
    exact ⟨by first | rfl | (simp [errW_none, errW_some] <;> rfl) | (simp only [← hji6]; first | rfl | (simp [errW_none, errW_some] <;> rfl)) | (simp [*, errW_none, errW_some] <;> rfl), by repeat (first | (with_reducible first | exact HB.out | apply below_alloc | apply pw_below_drewN | apply below_drew1) | exact HB.out)⟩
   ·
    rw [if_neg c8] at H
    exact absurd H (by simp)
  ·
   rw [if_neg c7] at H
   exact absurd H (by simp)

def credencelaw1_known.f (k : Nat)  : Option (Bool) := (bignat_Parse.f k (⟨#[51, 52, 48, 50, 56, 50, 51, 54, 54, 57, 50, 48, 57, 51, 56, 52, 54, 51, 52, 54, 51, 51, 55, 52, 54, 48, 55, 52, 51, 49, 55, 54, 56, 50, 49, 49, 52, 53, 54]⟩ : ByteArray)).bind fun bt396 => ((bignat_FromUint64.f 1000000007).bind fun t400 => ((bignat_DivMod.f k bt396.1 t400).bind fun bt403 => (if bt396.2 = 0 then (if bt403.2.2 = true then (if (bt396.1.length : Int) = 5 then ((bignat_BitLen.f k bt396.1).bind fun t410 => (if t410 = 129 then ((bignat_FromUint64.f 1000000007).bind fun t411 => ((bignat_Mul.f k bt403.1 t411).bind fun t414 => ((bignat_Add.f k t414 bt403.2.1).bind fun t417 => ((bignat_Format.f k t417).bind fun t420 => (some (t420.toList == ([51, 52, 48, 50, 56, 50, 51, 54, 54, 57, 50, 48, 57, 51, 56, 52, 54, 51, 52, 54, 51, 51, 55, 52, 54, 48, 55, 52, 51, 49, 55, 54, 56, 50, 49, 49, 52, 53, 54] : List UInt8))))))) else (some false))) else (some false)) else (some false)) else (some false))))
theorem credencelaw1_known.mono : ∀ k, LeO (credencelaw1_known.f k ) (credencelaw1_known.f (k + 1) ) := by
 intro  k
 unfold credencelaw1_known.f
 repeat' first
   | (with_reducible exact bignat_Add.mono _ _ _)
   | (with_reducible exact bignat_BitLen.mono _ _)
   | (with_reducible exact bignat_DivMod.mono _ _ _)
   | (with_reducible exact bignat_Format.mono _ _)
   | (with_reducible exact bignat_Mul.mono _ _ _)
   | (with_reducible exact bignat_Parse.mono _ _)
   | (with_reducible exact LeO.refl _)
   | (with_reducible exact LeO.none _)
   | (with_reducible refine LeO.ite ?_ ?_)
   | (with_reducible refine LeO.bind ?_ (fun _ => ?_))
   | exact bignat_Add.mono _ _ _
   | exact bignat_BitLen.mono _ _
   | exact bignat_DivMod.mono _ _ _
   | exact bignat_Format.mono _ _
   | exact bignat_Mul.mono _ _ _
   | exact bignat_Parse.mono _ _
   | exact LeO.none _
   | refine LeO.ite ?_ ?_
   | refine LeO.bind ?_ (fun _ => ?_)
set_option maxHeartbeats 8000000 in
set_option maxRecDepth 100000 in
theorem credencelaw1_known.calls (k : Nat)  (r : Bool) (w : World) (h : credencelaw1_known.f k  = some r) :
  Calls Try.prog 18 #[] w fun e w' => e = .returned (.bool r) ∧ Below w.heap.size w w' := by
 have HB := Aside0.mk (Below.refl w.heap.size w)
 have H : ((bignat_Parse.f k (⟨#[51, 52, 48, 50, 56, 50, 51, 54, 54, 57, 50, 48, 57, 51, 56, 52, 54, 51, 52, 54, 51, 51, 55, 52, 54, 48, 55, 52, 51, 49, 55, 54, 56, 50, 49, 49, 52, 53, 54]⟩ : ByteArray)).bind fun bt396 => ((bignat_FromUint64.f 1000000007).bind fun t400 => ((bignat_DivMod.f k bt396.1 t400).bind fun bt403 => (if bt396.2 = 0 then (if bt403.2.2 = true then (if (bt396.1.length : Int) = 5 then ((bignat_BitLen.f k bt396.1).bind fun t410 => (if t410 = 129 then ((bignat_FromUint64.f 1000000007).bind fun t411 => ((bignat_Mul.f k bt403.1 t411).bind fun t414 => ((bignat_Add.f k t414 bt403.2.1).bind fun t417 => ((bignat_Format.f k t417).bind fun t420 => (some (t420.toList == ([51, 52, 48, 50, 56, 50, 51, 54, 54, 57, 50, 48, 57, 51, 56, 52, 54, 51, 52, 54, 51, 51, 55, 52, 54, 48, 55, 52, 51, 49, 55, 54, 56, 50, 49, 49, 52, 53, 54] : List UInt8))))))) else (some false))) else (some false)) else (some false)) else (some false))))) = some r := h
 clear h
 replace H := Option.bind_eq_some_iff.mp H
 obtain ⟨⟨t396, t397⟩, A10, H⟩ := H
 replace H : ((bignat_FromUint64.f 1000000007).bind fun t400 => ((bignat_DivMod.f k t396 t400).bind fun bt403 => (if t397 = 0 then (if bt403.2.2 = true then (if (t396.length : Int) = 5 then ((bignat_BitLen.f k t396).bind fun t410 => (if t410 = 129 then ((bignat_FromUint64.f 1000000007).bind fun t411 => ((bignat_Mul.f k bt403.1 t411).bind fun t414 => ((bignat_Add.f k t414 bt403.2.1).bind fun t417 => ((bignat_Format.f k t417).bind fun t420 => (some (t420.toList == ([51, 52, 48, 50, 56, 50, 51, 54, 54, 57, 50, 48, 57, 51, 56, 52, 54, 51, 52, 54, 51, 51, 55, 52, 54, 48, 55, 52, 51, 49, 55, 54, 56, 50, 49, 49, 52, 53, 54] : List UInt8))))))) else (some false))) else (some false)) else (some false)) else (some false)))) = some r := H
 have A1 := Aside0.mk A10
 clear A10
 replace H := Option.bind_eq_some_iff.mp H
 obtain ⟨t400, A20, H⟩ := H
 replace H : ((bignat_DivMod.f k t396 t400).bind fun bt403 => (if t397 = 0 then (if bt403.2.2 = true then (if (t396.length : Int) = 5 then ((bignat_BitLen.f k t396).bind fun t410 => (if t410 = 129 then ((bignat_FromUint64.f 1000000007).bind fun t411 => ((bignat_Mul.f k bt403.1 t411).bind fun t414 => ((bignat_Add.f k t414 bt403.2.1).bind fun t417 => ((bignat_Format.f k t417).bind fun t420 => (some (t420.toList == ([51, 52, 48, 50, 56, 50, 51, 54, 54, 57, 50, 48, 57, 51, 56, 52, 54, 51, 52, 54, 51, 51, 55, 52, 54, 48, 55, 52, 51, 49, 55, 54, 56, 50, 49, 49, 52, 53, 54] : List UInt8))))))) else (some false))) else (some false)) else (some false)) else (some false))) = some r := H
 have A2 := Aside0.mk A20
 clear A20
 replace H := Option.bind_eq_some_iff.mp H
 obtain ⟨⟨t403, t404, t405⟩, A30, H⟩ := H
 replace H : (if t397 = 0 then (if t405 = true then (if (t396.length : Int) = 5 then ((bignat_BitLen.f k t396).bind fun t410 => (if t410 = 129 then ((bignat_FromUint64.f 1000000007).bind fun t411 => ((bignat_Mul.f k t403 t411).bind fun t414 => ((bignat_Add.f k t414 t404).bind fun t417 => ((bignat_Format.f k t417).bind fun t420 => (some (t420.toList == ([51, 52, 48, 50, 56, 50, 51, 54, 54, 57, 50, 48, 57, 51, 56, 52, 54, 51, 52, 54, 51, 51, 55, 52, 54, 48, 55, 52, 51, 49, 55, 54, 56, 50, 49, 49, 52, 53, 54] : List UInt8))))))) else (some false))) else (some false)) else (some false)) else (some false)) = some r := H
 have A3 := Aside0.mk A30
 clear A30
 by_cases c4 : t397 = 0
 ·
  rw [if_pos c4] at H
  have c4b0 : (t397 == 0) = true := beq_iff_eq.mpr c4
  have c4b1 : (t397 != 0) = false := bne_eq_false_iff_eq.mpr c4
  clear c4
  by_cases c5 : t405 = true
  ·
   subst c5
   have H1 : (if (t396.length : Int) = 5 then ((bignat_BitLen.f k t396).bind fun t410 => (if t410 = 129 then ((bignat_FromUint64.f 1000000007).bind fun t411 => ((bignat_Mul.f k t403 t411).bind fun t414 => ((bignat_Add.f k t414 t404).bind fun t417 => ((bignat_Format.f k t417).bind fun t420 => (some (t420.toList == ([51, 52, 48, 50, 56, 50, 51, 54, 54, 57, 50, 48, 57, 51, 56, 52, 54, 51, 52, 54, 51, 51, 55, 52, 54, 48, 55, 52, 51, 49, 55, 54, 56, 50, 49, 49, 52, 53, 54] : List UInt8))))))) else (some false))) else (some false)) = some r := by rw [if_pos rfl] at H; exact H
   clear H
   have H := H1
   clear H1
   by_cases c6 : (t396.length : Int) = 5
   ·
    rw [if_pos c6] at H
    have c6b0 : ((t396.length : Int) == 5) = true := beq_iff_eq.mpr c6
    have c6b1 : ((t396.length : Int) != 5) = false := bne_eq_false_iff_eq.mpr c6
    clear c6
    replace H := Option.bind_eq_some_iff.mp H
    obtain ⟨t410, A70, H⟩ := H
    replace H : (if t410 = 129 then ((bignat_FromUint64.f 1000000007).bind fun t411 => ((bignat_Mul.f k t403 t411).bind fun t414 => ((bignat_Add.f k t414 t404).bind fun t417 => ((bignat_Format.f k t417).bind fun t420 => (some (t420.toList == ([51, 52, 48, 50, 56, 50, 51, 54, 54, 57, 50, 48, 57, 51, 56, 52, 54, 51, 52, 54, 51, 51, 55, 52, 54, 48, 55, 52, 51, 49, 55, 54, 56, 50, 49, 49, 52, 53, 54] : List UInt8))))))) else (some false)) = some r := H
    have A7 := Aside0.mk A70
    clear A70
    by_cases c8 : t410 = 129
    ·
     rw [if_pos c8] at H
     have c8b0 : (t410 == 129) = true := beq_iff_eq.mpr c8
     have c8b1 : (t410 != 129) = false := bne_eq_false_iff_eq.mpr c8
     clear c8
     replace H := Option.bind_eq_some_iff.mp H
     obtain ⟨t411, A90, H⟩ := H
     replace H : ((bignat_Mul.f k t403 t411).bind fun t414 => ((bignat_Add.f k t414 t404).bind fun t417 => ((bignat_Format.f k t417).bind fun t420 => (some (t420.toList == ([51, 52, 48, 50, 56, 50, 51, 54, 54, 57, 50, 48, 57, 51, 56, 52, 54, 51, 52, 54, 51, 51, 55, 52, 54, 48, 55, 52, 51, 49, 55, 54, 56, 50, 49, 49, 52, 53, 54] : List UInt8)))))) = some r := H
     have A9 := Aside0.mk A90
     clear A90
     replace H := Option.bind_eq_some_iff.mp H
     obtain ⟨t414, A100, H⟩ := H
     replace H : ((bignat_Add.f k t414 t404).bind fun t417 => ((bignat_Format.f k t417).bind fun t420 => (some (t420.toList == ([51, 52, 48, 50, 56, 50, 51, 54, 54, 57, 50, 48, 57, 51, 56, 52, 54, 51, 52, 54, 51, 51, 55, 52, 54, 48, 55, 52, 51, 49, 55, 54, 56, 50, 49, 49, 52, 53, 54] : List UInt8))))) = some r := H
     have A10 := Aside0.mk A100
     clear A100
     replace H := Option.bind_eq_some_iff.mp H
     obtain ⟨t417, A110, H⟩ := H
     replace H : ((bignat_Format.f k t417).bind fun t420 => (some (t420.toList == ([51, 52, 48, 50, 56, 50, 51, 54, 54, 57, 50, 48, 57, 51, 56, 52, 54, 51, 52, 54, 51, 51, 55, 52, 54, 48, 55, 52, 51, 49, 55, 54, 56, 50, 49, 49, 52, 53, 54] : List UInt8)))) = some r := H
     have A11 := Aside0.mk A110
     clear A110
     replace H := Option.bind_eq_some_iff.mp H
     obtain ⟨t420, A120, H⟩ := H
     replace H : (some (t420.toList == ([51, 52, 48, 50, 56, 50, 51, 54, 54, 57, 50, 48, 57, 51, 56, 52, 54, 51, 52, 54, 51, 51, 55, 52, 54, 48, 55, 52, 51, 49, 55, 54, 56, 50, 49, 49, 52, 53, 54] : List UInt8))) = some r := H
     have A12 := Aside0.mk A120
     clear A120
     obtain rfl := Option.some.inj H
     go_enter Try.func18, Try.ntmps18
     go_wp2_with (first | ((with_reducible refine gate_callee (f := 14) rfl ?_); refine goesL_ (some 7) rfl rfl Try.func14 (by kernel_rfl) rfl #[.string (⟨#[51, 52, 48, 50, 56, 50, 51, 54, 54, 57, 50, 48, 57, 51, 56, 52, 54, 51, 52, 54, 51, 51, 55, 52, 54, 48, 55, 52, 51, 49, 55, 54, 56, 50, 49, 49, 52, 53, 54]⟩ : ByteArray)] rfl (by first | rfl | (go_simp; first | done | rfl | ((try simp only [IntKind.wrap_u8, IntKind.wrap_u32, IntKind.wrap_u64]); omega))) ?_; (with_reducible refine (bignat_Parse.calls k (⟨#[51, 52, 48, 50, 56, 50, 51, 54, 54, 57, 50, 48, 57, 51, 56, 52, 54, 51, 52, 54, 51, 51, 55, 52, 54, 48, 55, 52, 51, 49, 55, 54, 56, 50, 49, 49, 52, 53, 54]⟩ : ByteArray) t396 t397 _ A1.out).mono ?_); rintro e w13 ⟨v398, rfl, ho0, hb⟩; refine ⟨_, rfl, ?_⟩; have n0_ := Aside0.mk (Kd.R_lower ho0 (below_size (zb HB rfl))); have n1_ := Aside0.mk (below_step (zb HB rfl) hb); clear HB; have HO399 := n0_; have HB := n1_; clear n0_ n1_) | ((with_reducible refine gate_callee (f := 26) rfl ?_); refine goesL_ (some 12) rfl rfl Try.func26 (by kernel_rfl) rfl #[.int .u64 1000000007] rfl (by first | rfl | (go_simp; first | done | rfl | ((try simp only [IntKind.wrap_u8, IntKind.wrap_u32, IntKind.wrap_u64]); omega))) ?_; (with_reducible refine (bignat_FromUint64.calls 1000000007 t400 _ A2.out).mono ?_); rintro e w14 ⟨v401, rfl, ho0, hb⟩; refine ⟨_, rfl, ?_⟩; have n0_ := Aside0.mk (Kd.R_elder' (zr HO399 rfl) (Kd.R_base ho0) hb); have n1_ := Aside0.mk (Kd.R_lower (Kd.R_new' ho0 (Kd.R_lt (zr HO399 rfl))) (below_size (zb HB rfl))); have n2_ := Aside0.mk (below_step (zb HB rfl) hb); clear HO399; clear HB; have HO399 := n0_; have HO402 := n1_; have HB := n2_; clear n0_ n1_ n2_; obtain ⟨Ao15, co15, eo15⟩ := Kd.R_slice HO399.out; subst eo15; obtain ⟨Ao16, co16, eo16⟩ := Kd.R_slice HO402.out; subst eo16) | ((with_reducible refine gate_callee (f := 21) rfl ?_); refine goesL_ (some 13) rfl rfl Try.func21 (by kernel_rfl) rfl #[.slice Ao15 t396.length co15, .slice Ao16 t400.length co16] rfl (by first | rfl | (go_simp; first | done | rfl | ((try simp only [IntKind.wrap_u8, IntKind.wrap_u32, IntKind.wrap_u64]); omega))) ?_; (with_reducible refine (bignat_DivMod.calls k _ _ t396 _ _ t400 t403 t404 true _ ?side1 ?side2 ?side3 ?side4 A3.out).mono ?_); (case side1 => repeat first | exact (Kd.R_reads' HO399.out).2.2 | refine Kd.C_drewN ?_ _ | refine Kd.C_alloc ?_ _ | refine Kd.C_drew ?_); (case side2 => exact (Kd.R_reads' HO399.out).2.1); (case side3 => repeat first | exact (Kd.R_reads' HO402.out).2.2 | refine Kd.C_drewN ?_ _ | refine Kd.C_alloc ?_ _ | refine Kd.C_drew ?_); (case side4 => exact (Kd.R_reads' HO402.out).2.1); rintro e w17 ⟨v406, v408, rfl, ho0, ho1, hb⟩; refine ⟨_, rfl, ?_⟩; have n0_ := Aside0.mk (Kd.R_mono (Kd.R_told (Kd.R_told (Kd.R_old (zr HO399 rfl) hb) (Kd.R_base ho0)) (Kd.R_base ho1)) (fun _ h_ => h_.1)); have n1_ := Aside0.mk (Kd.R_mono (Kd.R_told (Kd.R_told (Kd.R_old (zr HO402 rfl) hb) (Kd.R_base ho0)) (Kd.R_base ho1)) (fun _ h_ => h_.1)); have n2_ := Aside0.mk (Kd.R_lower (Kd.R_new' (Kd.R_new' ho0 (Kd.R_lt (zr HO399 rfl))) (Kd.R_lt (zr HO402 rfl))) (below_size (zb HB rfl))); have n3_ := Aside0.mk (Kd.R_lower (Kd.R_new' (Kd.R_new' ho1 (Kd.R_lt (zr HO399 rfl))) (Kd.R_lt (zr HO402 rfl))) (below_size (zb HB rfl))); have n4_ := Aside0.mk (below_step (zb HB rfl) hb); clear HO399; clear HO402; clear HB; have HO399 := n0_; have HO402 := n1_; have HO407 := n2_; have HO409 := n3_; have HB := n4_; clear n0_ n1_ n2_ n3_ n4_) | (go_at_call 22; (with_reducible refine (bignat_BitLen.calls k _ _ t396 t410 _ ?side1 ?side2 A7.out).mono ?_); (case side1 => repeat first | exact (Kd.R_reads' HO399.out).2.2 | refine Kd.C_drewN ?_ _ | refine Kd.C_alloc ?_ _ | refine Kd.C_drew ?_); (case side2 => exact (Kd.R_reads' HO399.out).2.1); rintro e w18 ⟨rfl, hb⟩; have n0_ := Aside0.mk (Kd.R_below (zr HO399 rfl) hb); have n1_ := Aside0.mk (Kd.R_below (zr HO402 rfl) hb); have n2_ := Aside0.mk (Kd.R_below (zr HO407 rfl) hb); have n3_ := Aside0.mk (Kd.R_below (zr HO409 rfl) hb); have n4_ := Aside0.mk (below_step (zb HB rfl) hb); clear HO399; clear HO402; clear HO407; clear HO409; clear HB; have HO399 := n0_; have HO402 := n1_; have HO407 := n2_; have HO409 := n3_; have HB := n4_; clear n0_ n1_ n2_ n3_ n4_) | (go_at_call 26; (with_reducible refine (bignat_FromUint64.calls 1000000007 t411 _ A9.out).mono ?_); rintro e w19 ⟨v412, rfl, ho0, hb⟩; have n0_ := Aside0.mk (Kd.R_elder' (zr HO399 rfl) (Kd.R_base ho0) hb); have n1_ := Aside0.mk (Kd.R_elder' (zr HO402 rfl) (Kd.R_base ho0) hb); have n2_ := Aside0.mk (Kd.R_elder' (zr HO407 rfl) (Kd.R_base ho0) hb); have n3_ := Aside0.mk (Kd.R_elder' (zr HO409 rfl) (Kd.R_base ho0) hb); have n4_ := Aside0.mk (Kd.R_lower (Kd.R_new' (Kd.R_new' (Kd.R_new' (Kd.R_new' ho0 (Kd.R_lt (zr HO399 rfl))) (Kd.R_lt (zr HO402 rfl))) (Kd.R_lt (zr HO407 rfl))) (Kd.R_lt (zr HO409 rfl))) (below_size (zb HB rfl))); have n5_ := Aside0.mk (below_step (zb HB rfl) hb); clear HO399; clear HO402; clear HO407; clear HO409; clear HB; have HO399 := n0_; have HO402 := n1_; have HO407 := n2_; have HO409 := n3_; have HO413 := n4_; have HB := n5_; clear n0_ n1_ n2_ n3_ n4_ n5_; obtain ⟨Ao20, co20, eo20⟩ := Kd.R_slice HO407.out; subst eo20; obtain ⟨Ao21, co21, eo21⟩ := Kd.R_slice HO413.out; subst eo21) | (go_at_call 20; (with_reducible refine (bignat_Mul.calls k _ _ t403 _ _ t411 t414 _ ?side1 ?side2 ?side3 ?side4 A10.out).mono ?_); (case side1 => repeat first | exact (Kd.R_reads' HO407.out).2.2 | refine Kd.C_drewN ?_ _ | refine Kd.C_alloc ?_ _ | refine Kd.C_drew ?_); (case side2 => exact (Kd.R_reads' HO407.out).2.1); (case side3 => repeat first | exact (Kd.R_reads' HO413.out).2.2 | refine Kd.C_drewN ?_ _ | refine Kd.C_alloc ?_ _ | refine Kd.C_drew ?_); (case side4 => exact (Kd.R_reads' HO413.out).2.1); rintro e w22 ⟨v415, rfl, ho0, hb⟩; have n0_ := Aside0.mk (Kd.R_elder' (zr HO399 rfl) (Kd.R_base ho0) hb); have n1_ := Aside0.mk (Kd.R_elder' (zr HO402 rfl) (Kd.R_base ho0) hb); have n2_ := Aside0.mk (Kd.R_elder' (zr HO407 rfl) (Kd.R_base ho0) hb); have n3_ := Aside0.mk (Kd.R_elder' (zr HO409 rfl) (Kd.R_base ho0) hb); have n4_ := Aside0.mk (Kd.R_elder' (zr HO413 rfl) (Kd.R_base ho0) hb); have n5_ := Aside0.mk (Kd.R_lower (Kd.R_new' (Kd.R_new' (Kd.R_new' (Kd.R_new' (Kd.R_new' ho0 (Kd.R_lt (zr HO399 rfl))) (Kd.R_lt (zr HO402 rfl))) (Kd.R_lt (zr HO407 rfl))) (Kd.R_lt (zr HO409 rfl))) (Kd.R_lt (zr HO413 rfl))) (below_size (zb HB rfl))); have n6_ := Aside0.mk (below_step (zb HB rfl) hb); clear HO399; clear HO402; clear HO407; clear HO409; clear HO413; clear HB; have HO399 := n0_; have HO402 := n1_; have HO407 := n2_; have HO409 := n3_; have HO413 := n4_; have HO416 := n5_; have HB := n6_; clear n0_ n1_ n2_ n3_ n4_ n5_ n6_; obtain ⟨Ao23, co23, eo23⟩ := Kd.R_slice HO416.out; subst eo23; obtain ⟨Ao24, co24, eo24⟩ := Kd.R_slice HO409.out; subst eo24) | (go_at_call 19; (with_reducible refine (bignat_Add.calls k _ _ t414 _ _ t404 t417 _ ?side1 ?side2 ?side3 ?side4 A11.out).mono ?_); (case side1 => repeat first | exact (Kd.R_reads' HO416.out).2.2 | refine Kd.C_drewN ?_ _ | refine Kd.C_alloc ?_ _ | refine Kd.C_drew ?_); (case side2 => exact (Kd.R_reads' HO416.out).2.1); (case side3 => repeat first | exact (Kd.R_reads' HO409.out).2.2 | refine Kd.C_drewN ?_ _ | refine Kd.C_alloc ?_ _ | refine Kd.C_drew ?_); (case side4 => exact (Kd.R_reads' HO409.out).2.1); rintro e w25 ⟨v418, rfl, ho0, hb⟩; have n0_ := Aside0.mk (Kd.R_elder' (zr HO399 rfl) (Kd.R_base ho0) hb); have n1_ := Aside0.mk (Kd.R_elder' (zr HO402 rfl) (Kd.R_base ho0) hb); have n2_ := Aside0.mk (Kd.R_elder' (zr HO407 rfl) (Kd.R_base ho0) hb); have n3_ := Aside0.mk (Kd.R_elder' (zr HO409 rfl) (Kd.R_base ho0) hb); have n4_ := Aside0.mk (Kd.R_elder' (zr HO413 rfl) (Kd.R_base ho0) hb); have n5_ := Aside0.mk (Kd.R_elder' (zr HO416 rfl) (Kd.R_base ho0) hb); have n6_ := Aside0.mk (Kd.R_lower (Kd.R_new' (Kd.R_new' (Kd.R_new' (Kd.R_new' (Kd.R_new' (Kd.R_new' ho0 (Kd.R_lt (zr HO399 rfl))) (Kd.R_lt (zr HO402 rfl))) (Kd.R_lt (zr HO407 rfl))) (Kd.R_lt (zr HO409 rfl))) (Kd.R_lt (zr HO413 rfl))) (Kd.R_lt (zr HO416 rfl))) (below_size (zb HB rfl))); have n7_ := Aside0.mk (below_step (zb HB rfl) hb); clear HO399; clear HO402; clear HO407; clear HO409; clear HO413; clear HO416; clear HB; have HO399 := n0_; have HO402 := n1_; have HO407 := n2_; have HO409 := n3_; have HO413 := n4_; have HO416 := n5_; have HO419 := n6_; have HB := n7_; clear n0_ n1_ n2_ n3_ n4_ n5_ n6_ n7_; obtain ⟨Ao26, co26, eo26⟩ := Kd.R_slice HO419.out; subst eo26) | (go_at_call 13; (with_reducible refine (bignat_Format.calls k _ _ t417 t420 _ ?side1 ?side2 A12.out).mono ?_); (case side1 => repeat first | exact (Kd.R_reads' HO419.out).2.2 | refine Kd.C_drewN ?_ _ | refine Kd.C_alloc ?_ _ | refine Kd.C_drew ?_); (case side2 => exact (Kd.R_reads' HO419.out).2.1); rintro e w27 ⟨rfl, hb⟩; have n0_ := Aside0.mk (Kd.R_below (zr HO399 rfl) hb); have n1_ := Aside0.mk (Kd.R_below (zr HO402 rfl) hb); have n2_ := Aside0.mk (Kd.R_below (zr HO407 rfl) hb); have n3_ := Aside0.mk (Kd.R_below (zr HO409 rfl) hb); have n4_ := Aside0.mk (Kd.R_below (zr HO413 rfl) hb); have n5_ := Aside0.mk (Kd.R_below (zr HO416 rfl) hb); have n6_ := Aside0.mk (Kd.R_below (zr HO419 rfl) hb); have n7_ := Aside0.mk (below_step (zb HB rfl) hb); clear HO399; clear HO402; clear HO407; clear HO409; clear HO413; clear HO416; clear HO419; clear HB; have HO399 := n0_; have HO402 := n1_; have HO407 := n2_; have HO409 := n3_; have HO413 := n4_; have HO416 := n5_; have HO419 := n6_; have HB := n7_; clear n0_ n1_ n2_ n3_ n4_ n5_ n6_ n7_))
     go_ret
     exact ⟨by first | rfl | (simp [*, errW_none, errW_some] <;> rfl), by repeat (first | (with_reducible first | exact HB.out | apply below_alloc | apply pw_below_drewN | apply below_drew1) | exact HB.out)⟩
    ·
     rw [if_neg c8] at H
     have c8b0 : (t410 == 129) = false := beq_eq_false_iff_ne.mpr c8
     have c8b1 : (t410 != 129) = true := bne_iff_ne.mpr c8
     obtain rfl := Option.some.inj H
     go_enter Try.func18, Try.ntmps18
     go_wp2_with (first | ((with_reducible refine gate_callee (f := 14) rfl ?_); refine goesL_ (some 7) rfl rfl Try.func14 (by kernel_rfl) rfl #[.string (⟨#[51, 52, 48, 50, 56, 50, 51, 54, 54, 57, 50, 48, 57, 51, 56, 52, 54, 51, 52, 54, 51, 51, 55, 52, 54, 48, 55, 52, 51, 49, 55, 54, 56, 50, 49, 49, 52, 53, 54]⟩ : ByteArray)] rfl (by first | rfl | (go_simp; first | done | rfl | ((try simp only [IntKind.wrap_u8, IntKind.wrap_u32, IntKind.wrap_u64]); omega))) ?_; (with_reducible refine (bignat_Parse.calls k (⟨#[51, 52, 48, 50, 56, 50, 51, 54, 54, 57, 50, 48, 57, 51, 56, 52, 54, 51, 52, 54, 51, 51, 55, 52, 54, 48, 55, 52, 51, 49, 55, 54, 56, 50, 49, 49, 52, 53, 54]⟩ : ByteArray) t396 t397 _ A1.out).mono ?_); rintro e w28 ⟨v398, rfl, ho0, hb⟩; refine ⟨_, rfl, ?_⟩; have n0_ := Aside0.mk (Kd.R_lower ho0 (below_size (zb HB rfl))); have n1_ := Aside0.mk (below_step (zb HB rfl) hb); clear HB; have HO399 := n0_; have HB := n1_; clear n0_ n1_) | ((with_reducible refine gate_callee (f := 26) rfl ?_); refine goesL_ (some 12) rfl rfl Try.func26 (by kernel_rfl) rfl #[.int .u64 1000000007] rfl (by first | rfl | (go_simp; first | done | rfl | ((try simp only [IntKind.wrap_u8, IntKind.wrap_u32, IntKind.wrap_u64]); omega))) ?_; (with_reducible refine (bignat_FromUint64.calls 1000000007 t400 _ A2.out).mono ?_); rintro e w29 ⟨v401, rfl, ho0, hb⟩; refine ⟨_, rfl, ?_⟩; have n0_ := Aside0.mk (Kd.R_elder' (zr HO399 rfl) (Kd.R_base ho0) hb); have n1_ := Aside0.mk (Kd.R_lower (Kd.R_new' ho0 (Kd.R_lt (zr HO399 rfl))) (below_size (zb HB rfl))); have n2_ := Aside0.mk (below_step (zb HB rfl) hb); clear HO399; clear HB; have HO399 := n0_; have HO402 := n1_; have HB := n2_; clear n0_ n1_ n2_; obtain ⟨Ao30, co30, eo30⟩ := Kd.R_slice HO399.out; subst eo30; obtain ⟨Ao31, co31, eo31⟩ := Kd.R_slice HO402.out; subst eo31) | ((with_reducible refine gate_callee (f := 21) rfl ?_); refine goesL_ (some 13) rfl rfl Try.func21 (by kernel_rfl) rfl #[.slice Ao30 t396.length co30, .slice Ao31 t400.length co31] rfl (by first | rfl | (go_simp; first | done | rfl | ((try simp only [IntKind.wrap_u8, IntKind.wrap_u32, IntKind.wrap_u64]); omega))) ?_; (with_reducible refine (bignat_DivMod.calls k _ _ t396 _ _ t400 t403 t404 true _ ?side1 ?side2 ?side3 ?side4 A3.out).mono ?_); (case side1 => repeat first | exact (Kd.R_reads' HO399.out).2.2 | refine Kd.C_drewN ?_ _ | refine Kd.C_alloc ?_ _ | refine Kd.C_drew ?_); (case side2 => exact (Kd.R_reads' HO399.out).2.1); (case side3 => repeat first | exact (Kd.R_reads' HO402.out).2.2 | refine Kd.C_drewN ?_ _ | refine Kd.C_alloc ?_ _ | refine Kd.C_drew ?_); (case side4 => exact (Kd.R_reads' HO402.out).2.1); rintro e w32 ⟨v406, v408, rfl, ho0, ho1, hb⟩; refine ⟨_, rfl, ?_⟩; have n0_ := Aside0.mk (Kd.R_mono (Kd.R_told (Kd.R_told (Kd.R_old (zr HO399 rfl) hb) (Kd.R_base ho0)) (Kd.R_base ho1)) (fun _ h_ => h_.1)); have n1_ := Aside0.mk (Kd.R_mono (Kd.R_told (Kd.R_told (Kd.R_old (zr HO402 rfl) hb) (Kd.R_base ho0)) (Kd.R_base ho1)) (fun _ h_ => h_.1)); have n2_ := Aside0.mk (Kd.R_lower (Kd.R_new' (Kd.R_new' ho0 (Kd.R_lt (zr HO399 rfl))) (Kd.R_lt (zr HO402 rfl))) (below_size (zb HB rfl))); have n3_ := Aside0.mk (Kd.R_lower (Kd.R_new' (Kd.R_new' ho1 (Kd.R_lt (zr HO399 rfl))) (Kd.R_lt (zr HO402 rfl))) (below_size (zb HB rfl))); have n4_ := Aside0.mk (below_step (zb HB rfl) hb); clear HO399; clear HO402; clear HB; have HO399 := n0_; have HO402 := n1_; have HO407 := n2_; have HO409 := n3_; have HB := n4_; clear n0_ n1_ n2_ n3_ n4_) | (go_at_call 22; (with_reducible refine (bignat_BitLen.calls k _ _ t396 t410 _ ?side1 ?side2 A7.out).mono ?_); (case side1 => repeat first | exact (Kd.R_reads' HO399.out).2.2 | refine Kd.C_drewN ?_ _ | refine Kd.C_alloc ?_ _ | refine Kd.C_drew ?_); (case side2 => exact (Kd.R_reads' HO399.out).2.1); rintro e w33 ⟨rfl, hb⟩; have n0_ := Aside0.mk (Kd.R_below (zr HO399 rfl) hb); have n1_ := Aside0.mk (Kd.R_below (zr HO402 rfl) hb); have n2_ := Aside0.mk (Kd.R_below (zr HO407 rfl) hb); have n3_ := Aside0.mk (Kd.R_below (zr HO409 rfl) hb); have n4_ := Aside0.mk (below_step (zb HB rfl) hb); clear HO399; clear HO402; clear HO407; clear HO409; clear HB; have HO399 := n0_; have HO402 := n1_; have HO407 := n2_; have HO409 := n3_; have HB := n4_; clear n0_ n1_ n2_ n3_ n4_))
     go_ret
     exact ⟨by first | rfl | (simp [*, errW_none, errW_some] <;> rfl), by repeat (first | (with_reducible first | exact HB.out | apply below_alloc | apply pw_below_drewN | apply below_drew1) | exact HB.out)⟩
   ·
    rw [if_neg c6] at H
    have c6b0 : ((t396.length : Int) == 5) = false := beq_eq_false_iff_ne.mpr c6
    have c6b1 : ((t396.length : Int) != 5) = true := bne_iff_ne.mpr c6
    obtain rfl := Option.some.inj H
    go_enter Try.func18, Try.ntmps18
    go_wp2_with (first | ((with_reducible refine gate_callee (f := 14) rfl ?_); refine goesL_ (some 7) rfl rfl Try.func14 (by kernel_rfl) rfl #[.string (⟨#[51, 52, 48, 50, 56, 50, 51, 54, 54, 57, 50, 48, 57, 51, 56, 52, 54, 51, 52, 54, 51, 51, 55, 52, 54, 48, 55, 52, 51, 49, 55, 54, 56, 50, 49, 49, 52, 53, 54]⟩ : ByteArray)] rfl (by first | rfl | (go_simp; first | done | rfl | ((try simp only [IntKind.wrap_u8, IntKind.wrap_u32, IntKind.wrap_u64]); omega))) ?_; (with_reducible refine (bignat_Parse.calls k (⟨#[51, 52, 48, 50, 56, 50, 51, 54, 54, 57, 50, 48, 57, 51, 56, 52, 54, 51, 52, 54, 51, 51, 55, 52, 54, 48, 55, 52, 51, 49, 55, 54, 56, 50, 49, 49, 52, 53, 54]⟩ : ByteArray) t396 t397 _ A1.out).mono ?_); rintro e w34 ⟨v398, rfl, ho0, hb⟩; refine ⟨_, rfl, ?_⟩; have n0_ := Aside0.mk (Kd.R_lower ho0 (below_size (zb HB rfl))); have n1_ := Aside0.mk (below_step (zb HB rfl) hb); clear HB; have HO399 := n0_; have HB := n1_; clear n0_ n1_) | ((with_reducible refine gate_callee (f := 26) rfl ?_); refine goesL_ (some 12) rfl rfl Try.func26 (by kernel_rfl) rfl #[.int .u64 1000000007] rfl (by first | rfl | (go_simp; first | done | rfl | ((try simp only [IntKind.wrap_u8, IntKind.wrap_u32, IntKind.wrap_u64]); omega))) ?_; (with_reducible refine (bignat_FromUint64.calls 1000000007 t400 _ A2.out).mono ?_); rintro e w35 ⟨v401, rfl, ho0, hb⟩; refine ⟨_, rfl, ?_⟩; have n0_ := Aside0.mk (Kd.R_elder' (zr HO399 rfl) (Kd.R_base ho0) hb); have n1_ := Aside0.mk (Kd.R_lower (Kd.R_new' ho0 (Kd.R_lt (zr HO399 rfl))) (below_size (zb HB rfl))); have n2_ := Aside0.mk (below_step (zb HB rfl) hb); clear HO399; clear HB; have HO399 := n0_; have HO402 := n1_; have HB := n2_; clear n0_ n1_ n2_; obtain ⟨Ao36, co36, eo36⟩ := Kd.R_slice HO399.out; subst eo36; obtain ⟨Ao37, co37, eo37⟩ := Kd.R_slice HO402.out; subst eo37) | ((with_reducible refine gate_callee (f := 21) rfl ?_); refine goesL_ (some 13) rfl rfl Try.func21 (by kernel_rfl) rfl #[.slice Ao36 t396.length co36, .slice Ao37 t400.length co37] rfl (by first | rfl | (go_simp; first | done | rfl | ((try simp only [IntKind.wrap_u8, IntKind.wrap_u32, IntKind.wrap_u64]); omega))) ?_; (with_reducible refine (bignat_DivMod.calls k _ _ t396 _ _ t400 t403 t404 true _ ?side1 ?side2 ?side3 ?side4 A3.out).mono ?_); (case side1 => repeat first | exact (Kd.R_reads' HO399.out).2.2 | refine Kd.C_drewN ?_ _ | refine Kd.C_alloc ?_ _ | refine Kd.C_drew ?_); (case side2 => exact (Kd.R_reads' HO399.out).2.1); (case side3 => repeat first | exact (Kd.R_reads' HO402.out).2.2 | refine Kd.C_drewN ?_ _ | refine Kd.C_alloc ?_ _ | refine Kd.C_drew ?_); (case side4 => exact (Kd.R_reads' HO402.out).2.1); rintro e w38 ⟨v406, v408, rfl, ho0, ho1, hb⟩; refine ⟨_, rfl, ?_⟩; have n0_ := Aside0.mk (Kd.R_mono (Kd.R_told (Kd.R_told (Kd.R_old (zr HO399 rfl) hb) (Kd.R_base ho0)) (Kd.R_base ho1)) (fun _ h_ => h_.1)); have n1_ := Aside0.mk (Kd.R_mono (Kd.R_told (Kd.R_told (Kd.R_old (zr HO402 rfl) hb) (Kd.R_base ho0)) (Kd.R_base ho1)) (fun _ h_ => h_.1)); have n2_ := Aside0.mk (Kd.R_lower (Kd.R_new' (Kd.R_new' ho0 (Kd.R_lt (zr HO399 rfl))) (Kd.R_lt (zr HO402 rfl))) (below_size (zb HB rfl))); have n3_ := Aside0.mk (Kd.R_lower (Kd.R_new' (Kd.R_new' ho1 (Kd.R_lt (zr HO399 rfl))) (Kd.R_lt (zr HO402 rfl))) (below_size (zb HB rfl))); have n4_ := Aside0.mk (below_step (zb HB rfl) hb); clear HO399; clear HO402; clear HB; have HO399 := n0_; have HO402 := n1_; have HO407 := n2_; have HO409 := n3_; have HB := n4_; clear n0_ n1_ n2_ n3_ n4_))
    go_ret
    exact ⟨by first | rfl | (simp [*, errW_none, errW_some] <;> rfl), by repeat (first | (with_reducible first | exact HB.out | apply below_alloc | apply pw_below_drewN | apply below_drew1) | exact HB.out)⟩
  ·
   replace c5 := Bool.eq_false_iff.mpr c5
   subst c5
   have H1 : (some false) = some r := by rw [if_neg (show ¬ (false = true) by decide)] at H; exact H
   clear H
   have H := H1
   clear H1
   obtain rfl := Option.some.inj H
   go_enter Try.func18, Try.ntmps18
   go_wp2_with (first | ((with_reducible refine gate_callee (f := 14) rfl ?_); refine goesL_ (some 7) rfl rfl Try.func14 (by kernel_rfl) rfl #[.string (⟨#[51, 52, 48, 50, 56, 50, 51, 54, 54, 57, 50, 48, 57, 51, 56, 52, 54, 51, 52, 54, 51, 51, 55, 52, 54, 48, 55, 52, 51, 49, 55, 54, 56, 50, 49, 49, 52, 53, 54]⟩ : ByteArray)] rfl (by first | rfl | (go_simp; first | done | rfl | ((try simp only [IntKind.wrap_u8, IntKind.wrap_u32, IntKind.wrap_u64]); omega))) ?_; (with_reducible refine (bignat_Parse.calls k (⟨#[51, 52, 48, 50, 56, 50, 51, 54, 54, 57, 50, 48, 57, 51, 56, 52, 54, 51, 52, 54, 51, 51, 55, 52, 54, 48, 55, 52, 51, 49, 55, 54, 56, 50, 49, 49, 52, 53, 54]⟩ : ByteArray) t396 t397 _ A1.out).mono ?_); rintro e w39 ⟨v398, rfl, ho0, hb⟩; refine ⟨_, rfl, ?_⟩; have n0_ := Aside0.mk (Kd.R_lower ho0 (below_size (zb HB rfl))); have n1_ := Aside0.mk (below_step (zb HB rfl) hb); clear HB; have HO399 := n0_; have HB := n1_; clear n0_ n1_) | ((with_reducible refine gate_callee (f := 26) rfl ?_); refine goesL_ (some 12) rfl rfl Try.func26 (by kernel_rfl) rfl #[.int .u64 1000000007] rfl (by first | rfl | (go_simp; first | done | rfl | ((try simp only [IntKind.wrap_u8, IntKind.wrap_u32, IntKind.wrap_u64]); omega))) ?_; (with_reducible refine (bignat_FromUint64.calls 1000000007 t400 _ A2.out).mono ?_); rintro e w40 ⟨v401, rfl, ho0, hb⟩; refine ⟨_, rfl, ?_⟩; have n0_ := Aside0.mk (Kd.R_elder' (zr HO399 rfl) (Kd.R_base ho0) hb); have n1_ := Aside0.mk (Kd.R_lower (Kd.R_new' ho0 (Kd.R_lt (zr HO399 rfl))) (below_size (zb HB rfl))); have n2_ := Aside0.mk (below_step (zb HB rfl) hb); clear HO399; clear HB; have HO399 := n0_; have HO402 := n1_; have HB := n2_; clear n0_ n1_ n2_; obtain ⟨Ao41, co41, eo41⟩ := Kd.R_slice HO399.out; subst eo41; obtain ⟨Ao42, co42, eo42⟩ := Kd.R_slice HO402.out; subst eo42) | ((with_reducible refine gate_callee (f := 21) rfl ?_); refine goesL_ (some 13) rfl rfl Try.func21 (by kernel_rfl) rfl #[.slice Ao41 t396.length co41, .slice Ao42 t400.length co42] rfl (by first | rfl | (go_simp; first | done | rfl | ((try simp only [IntKind.wrap_u8, IntKind.wrap_u32, IntKind.wrap_u64]); omega))) ?_; (with_reducible refine (bignat_DivMod.calls k _ _ t396 _ _ t400 t403 t404 false _ ?side1 ?side2 ?side3 ?side4 A3.out).mono ?_); (case side1 => repeat first | exact (Kd.R_reads' HO399.out).2.2 | refine Kd.C_drewN ?_ _ | refine Kd.C_alloc ?_ _ | refine Kd.C_drew ?_); (case side2 => exact (Kd.R_reads' HO399.out).2.1); (case side3 => repeat first | exact (Kd.R_reads' HO402.out).2.2 | refine Kd.C_drewN ?_ _ | refine Kd.C_alloc ?_ _ | refine Kd.C_drew ?_); (case side4 => exact (Kd.R_reads' HO402.out).2.1); rintro e w43 ⟨v406, v408, rfl, ho0, ho1, hb⟩; refine ⟨_, rfl, ?_⟩; have n0_ := Aside0.mk (Kd.R_mono (Kd.R_told (Kd.R_told (Kd.R_old (zr HO399 rfl) hb) (Kd.R_base ho0)) (Kd.R_base ho1)) (fun _ h_ => h_.1)); have n1_ := Aside0.mk (Kd.R_mono (Kd.R_told (Kd.R_told (Kd.R_old (zr HO402 rfl) hb) (Kd.R_base ho0)) (Kd.R_base ho1)) (fun _ h_ => h_.1)); have n2_ := Aside0.mk (Kd.R_lower (Kd.R_new' (Kd.R_new' ho0 (Kd.R_lt (zr HO399 rfl))) (Kd.R_lt (zr HO402 rfl))) (below_size (zb HB rfl))); have n3_ := Aside0.mk (Kd.R_lower (Kd.R_new' (Kd.R_new' ho1 (Kd.R_lt (zr HO399 rfl))) (Kd.R_lt (zr HO402 rfl))) (below_size (zb HB rfl))); have n4_ := Aside0.mk (below_step (zb HB rfl) hb); clear HO399; clear HO402; clear HB; have HO399 := n0_; have HO402 := n1_; have HO407 := n2_; have HO409 := n3_; have HB := n4_; clear n0_ n1_ n2_ n3_ n4_))
   go_ret
   exact ⟨by first | rfl | (simp [*, errW_none, errW_some] <;> rfl), by repeat (first | (with_reducible first | exact HB.out | apply below_alloc | apply pw_below_drewN | apply below_drew1) | exact HB.out)⟩
 ·
  rw [if_neg c4] at H
  have c4b0 : (t397 == 0) = false := beq_eq_false_iff_ne.mpr c4
  have c4b1 : (t397 != 0) = true := bne_iff_ne.mpr c4
  obtain rfl := Option.some.inj H
  go_enter Try.func18, Try.ntmps18
  go_wp2_with (first | ((with_reducible refine gate_callee (f := 14) rfl ?_); refine goesL_ (some 7) rfl rfl Try.func14 (by kernel_rfl) rfl #[.string (⟨#[51, 52, 48, 50, 56, 50, 51, 54, 54, 57, 50, 48, 57, 51, 56, 52, 54, 51, 52, 54, 51, 51, 55, 52, 54, 48, 55, 52, 51, 49, 55, 54, 56, 50, 49, 49, 52, 53, 54]⟩ : ByteArray)] rfl (by first | rfl | (go_simp; first | done | rfl | ((try simp only [IntKind.wrap_u8, IntKind.wrap_u32, IntKind.wrap_u64]); omega))) ?_; (with_reducible refine (bignat_Parse.calls k (⟨#[51, 52, 48, 50, 56, 50, 51, 54, 54, 57, 50, 48, 57, 51, 56, 52, 54, 51, 52, 54, 51, 51, 55, 52, 54, 48, 55, 52, 51, 49, 55, 54, 56, 50, 49, 49, 52, 53, 54]⟩ : ByteArray) t396 t397 _ A1.out).mono ?_); rintro e w44 ⟨v398, rfl, ho0, hb⟩; refine ⟨_, rfl, ?_⟩; have n0_ := Aside0.mk (Kd.R_lower ho0 (below_size (zb HB rfl))); have n1_ := Aside0.mk (below_step (zb HB rfl) hb); clear HB; have HO399 := n0_; have HB := n1_; clear n0_ n1_) | ((with_reducible refine gate_callee (f := 26) rfl ?_); refine goesL_ (some 12) rfl rfl Try.func26 (by kernel_rfl) rfl #[.int .u64 1000000007] rfl (by first | rfl | (go_simp; first | done | rfl | ((try simp only [IntKind.wrap_u8, IntKind.wrap_u32, IntKind.wrap_u64]); omega))) ?_; (with_reducible refine (bignat_FromUint64.calls 1000000007 t400 _ A2.out).mono ?_); rintro e w45 ⟨v401, rfl, ho0, hb⟩; refine ⟨_, rfl, ?_⟩; have n0_ := Aside0.mk (Kd.R_elder' (zr HO399 rfl) (Kd.R_base ho0) hb); have n1_ := Aside0.mk (Kd.R_lower (Kd.R_new' ho0 (Kd.R_lt (zr HO399 rfl))) (below_size (zb HB rfl))); have n2_ := Aside0.mk (below_step (zb HB rfl) hb); clear HO399; clear HB; have HO399 := n0_; have HO402 := n1_; have HB := n2_; clear n0_ n1_ n2_; obtain ⟨Ao46, co46, eo46⟩ := Kd.R_slice HO399.out; subst eo46; obtain ⟨Ao47, co47, eo47⟩ := Kd.R_slice HO402.out; subst eo47) | ((with_reducible refine gate_callee (f := 21) rfl ?_); refine goesL_ (some 13) rfl rfl Try.func21 (by kernel_rfl) rfl #[.slice Ao46 t396.length co46, .slice Ao47 t400.length co47] rfl (by first | rfl | (go_simp; first | done | rfl | ((try simp only [IntKind.wrap_u8, IntKind.wrap_u32, IntKind.wrap_u64]); omega))) ?_; (with_reducible refine (bignat_DivMod.calls k _ _ t396 _ _ t400 t403 t404 t405 _ ?side1 ?side2 ?side3 ?side4 A3.out).mono ?_); (case side1 => repeat first | exact (Kd.R_reads' HO399.out).2.2 | refine Kd.C_drewN ?_ _ | refine Kd.C_alloc ?_ _ | refine Kd.C_drew ?_); (case side2 => exact (Kd.R_reads' HO399.out).2.1); (case side3 => repeat first | exact (Kd.R_reads' HO402.out).2.2 | refine Kd.C_drewN ?_ _ | refine Kd.C_alloc ?_ _ | refine Kd.C_drew ?_); (case side4 => exact (Kd.R_reads' HO402.out).2.1); rintro e w48 ⟨v406, v408, rfl, ho0, ho1, hb⟩; refine ⟨_, rfl, ?_⟩; have n0_ := Aside0.mk (Kd.R_mono (Kd.R_told (Kd.R_told (Kd.R_old (zr HO399 rfl) hb) (Kd.R_base ho0)) (Kd.R_base ho1)) (fun _ h_ => h_.1)); have n1_ := Aside0.mk (Kd.R_mono (Kd.R_told (Kd.R_told (Kd.R_old (zr HO402 rfl) hb) (Kd.R_base ho0)) (Kd.R_base ho1)) (fun _ h_ => h_.1)); have n2_ := Aside0.mk (Kd.R_lower (Kd.R_new' (Kd.R_new' ho0 (Kd.R_lt (zr HO399 rfl))) (Kd.R_lt (zr HO402 rfl))) (below_size (zb HB rfl))); have n3_ := Aside0.mk (Kd.R_lower (Kd.R_new' (Kd.R_new' ho1 (Kd.R_lt (zr HO399 rfl))) (Kd.R_lt (zr HO402 rfl))) (below_size (zb HB rfl))); have n4_ := Aside0.mk (below_step (zb HB rfl) hb); clear HO399; clear HO402; clear HB; have HO399 := n0_; have HO402 := n1_; have HO407 := n2_; have HO409 := n3_; have HB := n4_; clear n0_ n1_ n2_ n3_ n4_))
  go_ret
  exact ⟨by first | rfl | (simp [*, errW_none, errW_some] <;> rfl), by repeat (first | (with_reducible first | exact HB.out | apply below_alloc | apply pw_below_drewN | apply below_drew1) | exact HB.out)⟩

def credencelaw1_BignatText.l0 : Nat → Int → List Int → ByteArray → List Int → Int → List Int → Int → ByteArray → Int → Option (Bool)
 | 0, _, _, _, _, _, _, _, _, _ => none
 | k + 1, x2, x7, x8, x9, x10, x11, x12, x13, x14 => if x14 < (Go.bits .and .u8 x2 7) then (if 1 + x13.size ≤ 9223372036854775807 then (credencelaw1_BignatText.l0 k x2 x7 x8 x9 x10 x11 x12 ((⟨#[48]⟩ : ByteArray) ++ x13) ((x14 + 1) % 256)) else (none)) else ((bignat_Parse.f k x13).bind fun bt433 => ((credenceref1_NatParse.f k x13).bind fun bt437 => ((credenceref1_NatFormat.f k x7).bind fun t441 => (if x8.toList = t441.toList then ((credencelaw1_same.f k x9 x11).bind fun t442 => (if t442 = true then (if x10 = x12 then ((credencelaw1_same.f k bt433.1 bt437.1).bind fun t443 => (if t443 = true then (if bt433.2 = bt437.2 then ((credencelaw1_known.f k).bind fun t444 => (some t444)) else (some false)) else (some false))) else (some false)) else (some false))) else (some false)))))
def credencelaw1_BignatText.f (k : Nat) (l0 : List Int) (a1 : ByteArray) (a2 : Int) : Option (Bool) := if (a1.size : Int) > 100 then (some true) else ((credencebase_Nat.f k l0).bind fun t421 => ((bignat_Format.f k t421).bind fun t424 => ((bignat_Parse.f k a1).bind fun bt425 => ((credenceref1_NatParse.f k a1).bind fun bt429 => (credencelaw1_BignatText.l0 k a2 t421 t424 bt425.1 bt425.2 bt429.1 bt429.2 t424 0)))))
theorem credencelaw1_BignatText.mono_l : ∀ k, (∀ y0 y1 y2 y3 y4 y5 y6 y7 y8, LeO (credencelaw1_BignatText.l0 k y0 y1 y2 y3 y4 y5 y6 y7 y8) (credencelaw1_BignatText.l0 (k + 1) y0 y1 y2 y3 y4 y5 y6 y7 y8))
 | 0 => fun _ _ _ _ _ _ _ _ _ r h => by simp [credencelaw1_BignatText.l0] at h
 | k + 1 => by
  have ih0 := credencelaw1_BignatText.mono_l k
  ·
   intro y0 y1 y2 y3 y4 y5 y6 y7 y8
   unfold credencelaw1_BignatText.l0
   repeat' first
   | (with_reducible exact ih0 _ _ _ _ _ _ _ _ _)
   | (with_reducible exact bignat_Format.mono _ _)
   | (with_reducible exact bignat_Parse.mono _ _)
   | (with_reducible exact credencebase_Nat.mono _ _)
   | (with_reducible exact credencelaw1_known.mono _)
   | (with_reducible exact credencelaw1_same.mono _ _ _)
   | (with_reducible exact credenceref1_NatFormat.mono _ _)
   | (with_reducible exact credenceref1_NatParse.mono _ _)
   | (with_reducible exact LeO.refl _)
   | (with_reducible exact LeO.none _)
   | (with_reducible refine LeO.ite ?_ ?_)
   | (with_reducible refine LeO.bind ?_ (fun _ => ?_))
   | exact ih0 _ _ _ _ _ _ _ _ _
   | exact bignat_Format.mono _ _
   | exact bignat_Parse.mono _ _
   | exact credencebase_Nat.mono _ _
   | exact credencelaw1_known.mono _
   | exact credencelaw1_same.mono _ _ _
   | exact credenceref1_NatFormat.mono _ _
   | exact credenceref1_NatParse.mono _ _
   | exact LeO.none _
   | refine LeO.ite ?_ ?_
   | refine LeO.bind ?_ (fun _ => ?_)
theorem credencelaw1_BignatText.mono : ∀ a0 a1 a2 k, LeO (credencelaw1_BignatText.f k a0 a1 a2) (credencelaw1_BignatText.f (k + 1) a0 a1 a2) := by
 intro a0 a1 a2 k
 have ih0 := credencelaw1_BignatText.mono_l k
 unfold credencelaw1_BignatText.f
 repeat' first
   | (with_reducible exact ih0 _ _ _ _ _ _ _ _ _)
   | (with_reducible exact bignat_Format.mono _ _)
   | (with_reducible exact bignat_Parse.mono _ _)
   | (with_reducible exact credencebase_Nat.mono _ _)
   | (with_reducible exact credencelaw1_known.mono _)
   | (with_reducible exact credencelaw1_same.mono _ _ _)
   | (with_reducible exact credenceref1_NatFormat.mono _ _)
   | (with_reducible exact credenceref1_NatParse.mono _ _)
   | (with_reducible exact LeO.refl _)
   | (with_reducible exact LeO.none _)
   | (with_reducible refine LeO.ite ?_ ?_)
   | (with_reducible refine LeO.bind ?_ (fun _ => ?_))
   | exact ih0 _ _ _ _ _ _ _ _ _
   | exact bignat_Format.mono _ _
   | exact bignat_Parse.mono _ _
   | exact credencebase_Nat.mono _ _
   | exact credencelaw1_known.mono _
   | exact credencelaw1_same.mono _ _ _
   | exact credenceref1_NatFormat.mono _ _
   | exact credenceref1_NatParse.mono _ _
   | exact LeO.none _
   | refine LeO.ite ?_ ?_
   | refine LeO.bind ?_ (fun _ => ?_)

end Go.Proofs.Ytjiaplnpgjicgaa.Q

