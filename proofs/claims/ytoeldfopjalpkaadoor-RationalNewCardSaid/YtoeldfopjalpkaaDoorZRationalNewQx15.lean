/- Lemmas for the proof of one law of this seat (Qx15). -/
import Derived.Test.YtoeldfopjalpkaaDoorZRationalNewQx0
import Derived.Test.YtoeldfopjalpkaaDoorZRationalNewQx1
import Derived.Test.YtoeldfopjalpkaaDoorZRationalNewQx5
import Derived.Test.YtoeldfopjalpkaaDoorZRationalNewQx12
import Derived.Test.YtoeldfopjalpkaaDoorZRationalNewQx14
namespace Go.Proofs.YtoeldfopjalpkaaDoor.Q
open Go.RowKit Go.Proofs.YtoeldfopjalpkaaDoorW.PrintWords Go.Proofs.YtoeldfopjalpkaaDoorW.PrintLast Go.Proofs.YtoeldfopjalpkaaDoorW.PrintMore
attribute [local go_sem] max2_int min2_int max_two min_two max_three min_three max_four min_four   -- for this text's walks alone
set_option linter.unusedVariables false
set_option linter.unusedSimpArgs false

mutual
def bignat_Add.j0 : Nat → List Int → List Int → Option (List Int)
 | 0, _, _ => none
 | k + 1, x0, x1 => if 0 ≤ (wrap64 ((x0.length : Int) + 1)) then (if (wrap64 ((x0.length : Int) + 1) : Int).toNat ≤ 70368744177664 then (bignat_Add.l0 k x0 x1 (List.replicate (wrap64 ((x0.length : Int) + 1) : Int).toNat 0) 0 (x0.length : Int) 0) else (none)) else (none)
def bignat_Add.l0 : Nat → List Int → List Int → List Int → Int → Int → Int → Option (List Int)
 | 0, _, _, _, _, _, _ => none
 | k + 1, x0, x1, x5, x6, x24, x25 => if x25 < x24 then (if 0 ≤ x25 then (if x25 < (x0.length : Int) then (if x25 < (x1.length : Int) then (if x25 < (x5.length : Int) then (bignat_Add.l0 k x0 x1 (x5.set (x25 : Int).toNat ((IntKind.u64.wrap ((IntKind.u64.wrap (x6 + (IntKind.u64.wrap (rd x0 x25)))) + (IntKind.u64.wrap (rd x1 x25)))) % 4294967296)) ((IntKind.u64.wrap ((IntKind.u64.wrap (x6 + (IntKind.u64.wrap (rd x0 x25)))) + (IntKind.u64.wrap (rd x1 x25)))) / 4294967296) x24 (wrap64 (x25 + 1))) else (none)) else (if x25 < (x5.length : Int) then (bignat_Add.l0 k x0 x1 (x5.set (x25 : Int).toNat ((IntKind.u64.wrap (x6 + (IntKind.u64.wrap (rd x0 x25)))) % 4294967296)) ((IntKind.u64.wrap (x6 + (IntKind.u64.wrap (rd x0 x25)))) / 4294967296) x24 (wrap64 (x25 + 1))) else (none))) else (none)) else (none)) else (if 0 ≤ (x0.length : Int) then (if (x0.length : Int) < (x5.length : Int) then ((bignat_trim.f k (x5.set ((x0.length : Int) : Int).toNat ((x6) % 4294967296))).bind fun t644 => (some t644)) else (none)) else (none))
end
theorem bignat_Add.mono_l : ∀ k, (∀ y0 y1, LeO (bignat_Add.j0 k y0 y1) (bignat_Add.j0 (k + 1) y0 y1)) ∧ (∀ y0 y1 y2 y3 y4 y5, LeO (bignat_Add.l0 k y0 y1 y2 y3 y4 y5) (bignat_Add.l0 (k + 1) y0 y1 y2 y3 y4 y5))
 | 0 => ⟨fun _ _ r h => by simp [bignat_Add.j0] at h, fun _ _ _ _ _ _ r h => by simp [bignat_Add.l0] at h⟩
 | k + 1 => by
  obtain ⟨ih0, ih1⟩ := bignat_Add.mono_l k
  refine ⟨?_, ?_⟩
  ·
   intro y0 y1
   unfold bignat_Add.j0
   repeat' first
   | (with_reducible exact ih0 _ _)
   | (with_reducible exact ih1 _ _ _ _ _ _)
   | (with_reducible exact bignat_trim.mono _ _)
   | (with_reducible exact bignat_trim.mono _ _)
   | (with_reducible exact LeO.refl _)
   | (with_reducible exact LeO.none _)
   | (with_reducible refine LeO.ite ?_ ?_)
   | (with_reducible refine LeO.bind ?_ (fun _ => ?_))
   | exact LeO.none _
   | refine LeO.ite ?_ ?_
   | refine LeO.bind ?_ (fun _ => ?_)
  ·
   intro y0 y1 y2 y3 y4 y5
   unfold bignat_Add.l0
   repeat' first
   | (with_reducible exact ih0 _ _)
   | (with_reducible exact ih1 _ _ _ _ _ _)
   | (with_reducible exact bignat_trim.mono _ _)
   | (with_reducible exact bignat_trim.mono _ _)
   | (with_reducible exact LeO.refl _)
   | (with_reducible exact LeO.none _)
   | (with_reducible refine LeO.ite ?_ ?_)
   | (with_reducible refine LeO.bind ?_ (fun _ => ?_))
   | exact LeO.none _
   | refine LeO.ite ?_ ?_
   | refine LeO.bind ?_ (fun _ => ?_)

def bignat_Sub.l0 : Nat → List Int → List Int → List Int → Int → Int → Int → Option (List Int × Bool)
 | 0, _, _, _, _, _, _ => none
 | k + 1, x0, x1, x6, x7, x22, x23 => if x23 < x22 then (if 0 ≤ x23 then (if x23 < (x0.length : Int) then (if x23 < (x1.length : Int) then (if x23 < (x6.length : Int) then (bignat_Sub.l0 k x0 x1 (x6.set (x23 : Int).toNat ((IntKind.u64.wrap ((IntKind.u64.wrap ((IntKind.u64.wrap (rd x0 x23)) - x7)) - (IntKind.u64.wrap (rd x1 x23)))) % 4294967296)) ((IntKind.u64.wrap ((IntKind.u64.wrap ((IntKind.u64.wrap (rd x0 x23)) - x7)) - (IntKind.u64.wrap (rd x1 x23)))) / 9223372036854775808) x22 (wrap64 (x23 + 1))) else (none)) else (if x23 < (x6.length : Int) then (bignat_Sub.l0 k x0 x1 (x6.set (x23 : Int).toNat ((IntKind.u64.wrap ((IntKind.u64.wrap (rd x0 x23)) - x7)) % 4294967296)) ((IntKind.u64.wrap ((IntKind.u64.wrap (rd x0 x23)) - x7)) / 9223372036854775808) x22 (wrap64 (x23 + 1))) else (none))) else (none)) else (none)) else ((bignat_trim.f k x6).bind fun t661 => (some (t661, true)))
def bignat_Sub.f (k : Nat) (l0 : List Int) (l1 : List Int) : Option (List Int × Bool) := (bignat_trim.f k l0).bind fun t647 => ((bignat_trim.f k l1).bind fun t650 => ((bignat_Cmp.f k t647 t650).bind fun t653 => (if t653 < 0 then (none) else (if 0 ≤ (t647.length : Int) then (if ((t647.length : Int) : Int).toNat ≤ 70368744177664 then (bignat_Sub.l0 k t647 t650 (List.replicate ((t647.length : Int) : Int).toNat 0) 0 (t647.length : Int) 0) else (none)) else (none)))))
theorem bignat_Sub.mono_l : ∀ k, (∀ y0 y1 y2 y3 y4 y5, LeO (bignat_Sub.l0 k y0 y1 y2 y3 y4 y5) (bignat_Sub.l0 (k + 1) y0 y1 y2 y3 y4 y5))
 | 0 => fun _ _ _ _ _ _ r h => by simp [bignat_Sub.l0] at h
 | k + 1 => by
  have ih0 := bignat_Sub.mono_l k
  ·
   intro y0 y1 y2 y3 y4 y5
   unfold bignat_Sub.l0
   repeat' first
   | (with_reducible exact ih0 _ _ _ _ _ _)
   | (with_reducible exact bignat_Cmp.mono _ _ _)
   | (with_reducible exact bignat_trim.mono _ _)
   | (with_reducible exact bignat_trim.mono _ _)
   | (with_reducible exact LeO.refl _)
   | (with_reducible exact LeO.none _)
   | (with_reducible refine LeO.ite ?_ ?_)
   | (with_reducible refine LeO.bind ?_ (fun _ => ?_))
   | exact LeO.none _
   | refine LeO.ite ?_ ?_
   | refine LeO.bind ?_ (fun _ => ?_)
theorem bignat_Sub.mono : ∀ a0 a1 k, LeO (bignat_Sub.f k a0 a1) (bignat_Sub.f (k + 1) a0 a1) := by
 intro a0 a1 k
 have ih0 := bignat_Sub.mono_l k
 unfold bignat_Sub.f
 repeat' first
   | (with_reducible exact ih0 _ _ _ _ _ _)
   | (with_reducible exact bignat_Cmp.mono _ _ _)
   | (with_reducible exact bignat_trim.mono _ _)
   | (with_reducible exact bignat_trim.mono _ _)
   | (with_reducible exact LeO.refl _)
   | (with_reducible exact LeO.none _)
   | (with_reducible refine LeO.ite ?_ ?_)
   | (with_reducible refine LeO.bind ?_ (fun _ => ?_))
   | exact LeO.none _
   | refine LeO.ite ?_ ?_
   | refine LeO.bind ?_ (fun _ => ?_)
set_option maxHeartbeats 8000000 in
set_option maxRecDepth 100000 in
theorem bignat_Sub.calls (k : Nat) (A0 : Option Addr) (c0 : Nat) (l0 : List Int) (A1 : Option Addr) (c1 : Nat) (l1 : List Int) (r1 : List Int) (r2 : Bool) (w : World) (hr0 : Kd.C (Kd.int .u32) w A0 l0.length l0) (hc0 : l0.length ≤ c0) (hr1 : Kd.C (Kd.int .u32) w A1 l1.length l1) (hc1 : l1.length ≤ c1) (h : bignat_Sub.f k l0 l1 = some (r1, r2)) :
  Calls Tryd.prog 69 #[.slice A0 l0.length c0, .slice A1 l1.length c1] w fun e w' => ∃ v0_ : Value, e = .returned (.tuple #[v0_, .bool r2]) ∧ Kd.R (Kd.int .u32) 37 w' w.heap.size (fun _ => True) v0_ r1 ∧ Below w.heap.size w w' := by
 have HR0 := Aside0.mk hr0
 have HC0 := Aside0.mk hc0
 clear hr0 hc0
 have HR1 := Aside0.mk hr1
 have HC1 := Aside0.mk hc1
 clear hr1 hc1
 have HB := Aside0.mk (Below.refl w.heap.size w)
 have H : ((bignat_trim.f k l0).bind fun t647 => ((bignat_trim.f k l1).bind fun t650 => ((bignat_Cmp.f k t647 t650).bind fun t653 => (if t653 < 0 then (none) else (if 0 ≤ (t647.length : Int) then (if ((t647.length : Int) : Int).toNat ≤ 70368744177664 then (bignat_Sub.l0 k t647 t650 (List.replicate ((t647.length : Int) : Int).toNat 0) 0 (t647.length : Int) 0) else (none)) else (none)))))) = some (r1, r2) := h
 clear h
 replace H := Option.bind_eq_some_iff.mp H
 obtain ⟨t647, A30, H⟩ := H
 replace H : ((bignat_trim.f k l1).bind fun t650 => ((bignat_Cmp.f k t647 t650).bind fun t653 => (if t653 < 0 then (none) else (if 0 ≤ (t647.length : Int) then (if ((t647.length : Int) : Int).toNat ≤ 70368744177664 then (bignat_Sub.l0 k t647 t650 (List.replicate ((t647.length : Int) : Int).toNat 0) 0 (t647.length : Int) 0) else (none)) else (none))))) = some (r1, r2) := H
 have A3 := Aside0.mk A30
 clear A30
 replace H := Option.bind_eq_some_iff.mp H
 obtain ⟨t650, A40, H⟩ := H
 replace H : ((bignat_Cmp.f k t647 t650).bind fun t653 => (if t653 < 0 then (none) else (if 0 ≤ (t647.length : Int) then (if ((t647.length : Int) : Int).toNat ≤ 70368744177664 then (bignat_Sub.l0 k t647 t650 (List.replicate ((t647.length : Int) : Int).toNat 0) 0 (t647.length : Int) 0) else (none)) else (none)))) = some (r1, r2) := H
 have A4 := Aside0.mk A40
 clear A40
 replace H := Option.bind_eq_some_iff.mp H
 obtain ⟨t653, A50, H⟩ := H
 replace H : (if t653 < 0 then (none) else (if 0 ≤ (t647.length : Int) then (if ((t647.length : Int) : Int).toNat ≤ 70368744177664 then (bignat_Sub.l0 k t647 t650 (List.replicate ((t647.length : Int) : Int).toNat 0) 0 (t647.length : Int) 0) else (none)) else (none))) = some (r1, r2) := H
 have A5 := Aside0.mk A50
 clear A50
 by_cases c6 : t653 < 0
 ·
  rw [if_pos c6] at H
  exact absurd H (by simp)
 ·
  rw [if_neg c6] at H
  have c6b0 : decide (t653 < 0) = false := decide_eq_false c6
  clear c6
  by_cases c7 : 0 ≤ (t647.length : Int)
  ·
   rw [if_pos c7] at H
   have c7b0 := eq_true c7
   have c7b1 : decide (0 ≤ (t647.length : Int)) = true := decide_eq_true c7
   clear c7
   by_cases c8 : ((t647.length : Int) : Int).toNat ≤ 70368744177664
   ·
    rw [if_pos c8] at H
    have c8b0 := eq_true c8
    have c8b1 : decide (((t647.length : Int) : Int).toNat ≤ 70368744177664) = true := decide_eq_true c8
    clear c8
    obtain ⟨y654, hy654⟩ : ∃ y_ : List Int, y_ = (List.replicate ((t647.length : Int) : Int).toNat 0) := ⟨_, rfl⟩
    replace H : (bignat_Sub.l0 k t647 t650 y654 0 (t647.length : Int) 0) = some (r1, r2) := by first | (rw [hy654]; with_reducible exact H) | (have H2_ := (Option.bind_some _ _).symm.trans H; rw [hy654]; with_reducible exact H2_) | (have H2_ := (Option.bind_some _ _).symm.trans H; with_reducible exact H2_) | with_reducible exact H | (rw [hy654]; exact H) | exact H
    have Ny654 := Aside0.mk hy654
    clear hy654
    have H' := Aside0.mk H
    clear H
    go_enter Tryd.func69, Tryd.ntmps69
    go_wp2_with (first | ((with_reducible refine gate_callee (f := 71) rfl ?_); refine goesL_ (some 11) rfl rfl Tryd.func71 (by kernel_rfl) rfl #[.slice A0 l0.length c0] rfl (by first | rfl | (go_simp; first | done | rfl | omega)) ?_; (with_reducible refine (bignat_trim.calls k (fun k_ => k_ < w.heap.size) _ _ l0 t647 _ ?side1 A3.out).mono ?_); (case side1 => exact Kd.V_mk HC0.out (Kd.F_below (Kd.C_F (Kd.heap_int .u32) HR0.out) (zb HB rfl))); rintro e w9 ⟨v648, rfl, ho0, hb⟩; refine ⟨_, rfl, ?_⟩; have n0_ := Aside0.mk (Kd.V_lower (Kd.V_mono (ok' := fun k_ => True) ho0 (fun k_ hk_ => trivial)) (below_size (zb HB rfl))); have n1_ := Aside0.mk (below_step (zb HB rfl) hb); clear HB; have HO649 := n0_; have HB := n1_; clear n0_ n1_) | ((with_reducible refine gate_callee (f := 71) rfl ?_); refine goesL_ (some 13) rfl rfl Tryd.func71 (by kernel_rfl) rfl #[.slice A1 l1.length c1] rfl (by first | rfl | (go_simp; first | done | rfl | omega)) ?_; (with_reducible refine (bignat_trim.calls k (fun k_ => k_ < w.heap.size) _ _ l1 t650 _ ?side1 A4.out).mono ?_); (case side1 => exact Kd.V_mk HC1.out (Kd.F_below (Kd.C_F (Kd.heap_int .u32) HR1.out) (zb HB rfl))); rintro e w10 ⟨v651, rfl, ho0, hb⟩; refine ⟨_, rfl, ?_⟩; have n0_ := Aside0.mk (Kd.V_below (zv HO649 rfl) hb); have n1_ := Aside0.mk (Kd.V_lower (Kd.V_mono (ok' := fun k_ => True) ho0 (fun k_ hk_ => trivial)) (below_size (zb HB rfl))); have n2_ := Aside0.mk (below_step (zb HB rfl) hb); clear HO649; clear HB; have HO649 := n0_; have HO652 := n1_; have HB := n2_; clear n0_ n1_ n2_; obtain ⟨Ao11, co11, eo11⟩ := Kd.V_slice HO649.out; subst eo11; obtain ⟨Ao12, co12, eo12⟩ := Kd.V_slice HO652.out; subst eo12) | ((with_reducible refine gate_callee (f := 67) rfl ?_); refine goesL_ (some 16) rfl rfl Tryd.func67 (by kernel_rfl) rfl #[.slice Ao11 t647.length co11, .slice Ao12 t650.length co12] rfl (by first | rfl | (go_simp; first | done | rfl | omega)) ?_; (with_reducible refine (bignat_Cmp.calls k _ _ t647 _ _ t650 t653 _ ?side1 ?side2 ?side3 ?side4 A5.out).mono ?_); (case side1 => repeat first | exact (Kd.V_reads' HO649.out).2.2 | refine Kd.C_drewN ?_ _ | refine Kd.C_alloc ?_ _ | refine Kd.C_drew ?_); (case side2 => exact (Kd.V_reads' HO649.out).2.1); (case side3 => repeat first | exact (Kd.V_reads' HO652.out).2.2 | refine Kd.C_drewN ?_ _ | refine Kd.C_alloc ?_ _ | refine Kd.C_drew ?_); (case side4 => exact (Kd.V_reads' HO652.out).2.1); rintro e w13 ⟨rfl, hb⟩; refine ⟨_, rfl, ?_⟩; have n0_ := Aside0.mk (Kd.V_below (zv HO649 rfl) hb); have n1_ := Aside0.mk (Kd.V_below (zv HO652 rfl) hb); have n2_ := Aside0.mk (below_step (zb HB rfl) hb); clear HO649; clear HO652; clear HB; have HO649 := n0_; have HO652 := n1_; have HB := n2_; clear n0_ n1_ n2_) | ((with_reducible refine gate_dst (N := 20) rfl ?_); refine Kd.R_make (Kd.int .u32) _ 37 rfl (N := 20) rfl 23 _ _ rfl (t647.length : Int) rfl rfl Tryd.underlying23 (.int .u32 0) 4 info37 rfl (by decide) (by omega) 0 (ok := fun _ => True) (okp := fun _ => True) rfl (fun _ hk => hk) trivial (of_decide_eq_true (by first | (with_reducible assumption) | assumption)) (Nat.le_trans (Nat.mul_le_mul_right _ (of_decide_eq_true (by first | (with_reducible assumption) | assumption) : (t647.length : Int).toNat ≤ 70368744177664)) (by omega)) (Below.refl _ _) (Nat.le_refl _) ?_; intro v655 w14 ho15 hb hg_ hnew_; clear hg_ hnew_; (first | rw [← Ny654.out] at ho15 | (simp only [Int.reduceToNat] at ho15; rw [← Ny654.out] at ho15)); have n0_ := Aside0.mk (Kd.V_elder' (zv HO649 rfl) (Kd.R_base ho15) hb); have n1_ := Aside0.mk (Kd.V_elder' (zv HO652 rfl) (Kd.R_base ho15) hb); have n2_ := Aside0.mk (Kd.R_lower ho15 (below_size (zb HB rfl))); have n3_ := Aside0.mk (below_step (zb HB rfl) hb); clear HO649; clear HO652; clear HB; have HO649 := n0_; have HO652 := n1_; have HO656 := n2_; have HB := n3_; clear n0_ n1_ n2_ n3_; clear hb ho15))
    go_loopg [7, 23] k (fun kq v7 v23 w' => ∃ (x6_1 : List Int) (x7_1 : Int) (x23_1 : Int), v7 = .int .u64 x7_1 ∧ v23 = .int .i64 x23_1 ∧ Aside0 (bignat_Sub.l0 kq t647 t650 x6_1 x7_1 (t647.length : Int) x23_1 = some (r1, r2)) ∧ Aside0 (kq ≤ k) ∧ Aside0 (Kd.V (Kd.int .u32) 37 w' w.heap.size (fun k_ => some k_ ≠ (v655 : Value).ownBlock) (.slice Ao11 t647.length co11) t647) ∧ Aside0 (Kd.V (Kd.int .u32) 37 w' w.heap.size (fun k_ => some k_ ≠ (v655 : Value).ownBlock) (.slice Ao12 t650.length co12) t650) ∧ Aside0 (Kd.R (Kd.int .u32) 37 w' w.heap.size (fun _ => True) v655 x6_1) ∧ Aside0 (Below w.heap.size w w'))
    case atStart => exact ⟨(y654), (0), (0), (by first | rfl | (simp [*]; done)), (by first | rfl | (simp [*]; done)), H', ⟨Nat.le_refl _⟩, ⟨by (with_reducible repeat (first | apply Kd.V_alloc | apply Kd.V_drewN | apply Kd.V_drew)); exact Kd.V_mono HO649.out (fun _ hk => hk.2)⟩, ⟨by (with_reducible repeat (first | apply Kd.V_alloc | apply Kd.V_drewN | apply Kd.V_drew)); exact Kd.V_mono HO652.out (fun _ hk => hk.2)⟩, ⟨by (with_reducible repeat (first | apply Kd.R_alloc | apply Kd.R_drewN | apply Kd.R_drew)); exact HO656.out⟩, ⟨by repeat (first | (with_reducible first | exact HB.out | apply below_alloc | apply pw_below_drewN | apply below_drew1) | exact HB.out)⟩⟩
    case round =>
     clear H'
     try clear c1
     try clear p2
     try clear c6
     try clear c6b0
     try clear c7
     try clear c7b0
     try clear c7b1
     try clear c8
     try clear c8b0
     try clear c8b1
     obtain ⟨x6_1, x7_1, x23_1, rfl, rfl, HA, HK1, HO_0, HO_1, HO_6, HB⟩ := hrel
     cases gk with
     | zero => exact absurd HA.out (by simp [bignat_Sub.l0])
     | succ k1 =>
      have H := HA.out
      clear HA
      simp only [bignat_Sub.l0] at H
      by_cases c16 : x23_1 < (t647.length : Int)
      ·
       rw [if_pos c16] at H
       have c16b0 : decide (x23_1 < (t647.length : Int)) = true := decide_eq_true c16
       clear c16
       by_cases c17 : 0 ≤ x23_1
       ·
        rw [if_pos c17] at H
        have c17b0 : decide (0 ≤ x23_1) = true := decide_eq_true c17
        clear c17
        by_cases c18 : x23_1 < (t647.length : Int)
        ·
         rw [if_pos c18] at H
         have c18b0 : decide (x23_1 < (t647.length : Int)) = true := decide_eq_true c18
         clear c18
         by_cases c19 : x23_1 < (t650.length : Int)
         ·
          rw [if_pos c19] at H
          have c19b0 : decide (x23_1 < (t650.length : Int)) = true := decide_eq_true c19
          clear c19
          by_cases c20 : x23_1 < (x6_1.length : Int)
          ·
           rw [if_pos c20] at H
           have c20b0 : decide (x23_1 < (x6_1.length : Int)) = true := decide_eq_true c20
           clear c20
           obtain ⟨y659, hy659⟩ : ∃ y_ : List Int, y_ = (x6_1.set (x23_1 : Int).toNat ((IntKind.u64.wrap ((IntKind.u64.wrap ((IntKind.u64.wrap (rd t647 x23_1)) - x7_1)) - (IntKind.u64.wrap (rd t650 x23_1)))) % 4294967296)) := ⟨_, rfl⟩
           replace H : (bignat_Sub.l0 k1 t647 t650 y659 ((IntKind.u64.wrap ((IntKind.u64.wrap ((IntKind.u64.wrap (rd t647 x23_1)) - x7_1)) - (IntKind.u64.wrap (rd t650 x23_1)))) / 9223372036854775808) (t647.length : Int) (wrap64 (x23_1 + 1))) = some (r1, r2) := by first | (rw [hy659]; with_reducible exact H) | (have H2_ := (Option.bind_some _ _).symm.trans H; rw [hy659]; with_reducible exact H2_) | (have H2_ := (Option.bind_some _ _).symm.trans H; with_reducible exact H2_) | with_reducible exact H | (rw [hy659]; exact H) | exact H
           have Ny659 := Aside0.mk hy659
           clear hy659
           have H' := Aside0.mk H
           clear H
           have p657 : 0 ≤ (x23_1 : Int) := of_decide_eq_true (by first | (with_reducible assumption) | assumption)
           have q657 : x23_1 < (t647.length : Int) := of_decide_eq_true (by first | (with_reducible assumption) | assumption)
           obtain ⟨ad657, e657, hx657_0⟩ := Kd.at_int (Kd.V_reads' HO_0.out).2.2 x23_1 p657 q657
           cases e657
           replace p657 := eq_true p657
           replace q657 := eq_true q657
           have p658 : 0 ≤ (x23_1 : Int) := of_decide_eq_true (by first | (with_reducible assumption) | assumption)
           have q658 : x23_1 < (t650.length : Int) := of_decide_eq_true (by first | (with_reducible assumption) | assumption)
           obtain ⟨ad658, e658, hx658_0⟩ := Kd.at_int (Kd.V_reads' HO_1.out).2.2 x23_1 p658 q658
           cases e658
           replace p658 := eq_true p658
           replace q658 := eq_true q658
           have p21 : 0 ≤ (x23_1 : Int) := of_decide_eq_true (by first | (with_reducible assumption) | assumption)
           have q21 : (x23_1 : Int) < ((x6_1.length : Int) : Int) := of_decide_eq_true (by first | (with_reducible assumption) | assumption)
           obtain ⟨go21, co21, eo21, gb21, gl21, cl21, HG21⟩ := Kd.R_form HO_6.out (by omega)
           (first | cases eo21 | (injection eo21 with ea_ en_ ec_; (first | subst ea_ | (injection ea_ with ea_; subst ea_)); subst ec_; clear en_))
           have GB21 := Aside0.mk gb21
           have GG21 := Aside0.mk HG21
           clear gb21 gl21 HG21
           obtain ⟨hx21_0, hf21_0⟩ := Kd.R_celln 0 HO_6.out (x23_1 : Int) p21 q21
           replace p21 := eq_true p21
           replace q21 := eq_true q21
           obtain ⟨hy22_, hz22_⟩ := Kd.R_celln 0 HO_6.out (x23_1 : Int) (of_decide_eq_true (by first | (with_reducible assumption) | assumption)) (of_decide_eq_true (by first | (with_reducible assumption) | assumption))
           have HP22 := Kd.R_putg HO_6.out (x23_1 : Int) ((IntKind.u64.wrap ((IntKind.u64.wrap ((IntKind.u64.wrap (rd t647 x23_1)) - x7_1)) - (IntKind.u64.wrap (rd t650 x23_1)))) % 4294967296)
           go_wp2_with (first | ((with_reducible refine gate_store (t := 37) (p := 48) rfl ?_); refine store_event (t := 37) (p := 48) (v := ?vo_w23) (w1 := (wr.setCell ⟨go21, (x23_1 : Int).toNat, none⟩ (.int .u32 ((IntKind.u64.wrap ((IntKind.u64.wrap ((IntKind.u64.wrap (rd t647 x23_1)) - x7_1)) - (IntKind.u64.wrap (rd t650 x23_1)))) % 4294967296)))) ?hg ?ho ?hn ?hr ?_; (case ho => rfl); (case hg => rfl); (case hn => rfl); (case hr => first | (go_simp; done) | (go_simp; rfl)); intro w23 hw; have hg : wr.grownBy w23 (some go21) := (by rw [hw]; exact HP22.2); have hp_ : Kd.R (Kd.int .u32) 37 w23 w.heap.size (fun _ => True) (.slice (some ⟨go21, 0, none⟩) x6_1.length co21) y659 := (by rw [hw, Ny659.out]; exact HP22.1); clear HP22; have n0_ := Aside0.mk (Kd.V_afterv (v := (.slice (some ⟨go21, 0, none⟩) x6_1.length co21)) (v1 := (.slice (some ⟨go21, 0, none⟩) x6_1.length co21)) (ok := (fun _ => True)) (by (with_reducible repeat (first | apply Kd.V_alloc | apply Kd.V_drewN | apply Kd.V_drew)); exact Kd.V_mono HO_0.out (fun _ hk => ⟨trivial, hk⟩)) hg (.inl rfl)); have n1_ := Aside0.mk (Kd.V_afterv (v := (.slice (some ⟨go21, 0, none⟩) x6_1.length co21)) (v1 := (.slice (some ⟨go21, 0, none⟩) x6_1.length co21)) (ok := (fun _ => True)) (by (with_reducible repeat (first | apply Kd.V_alloc | apply Kd.V_drewN | apply Kd.V_drew)); exact Kd.V_mono HO_1.out (fun _ hk => ⟨trivial, hk⟩)) hg (.inl rfl)); have n2_ := Aside0.mk (hp_); have n3_ := Aside0.mk ((by rw [hw]; exact below_set (HB.out) GB21.out : Below w.heap.size w w23)); clear HO_0; clear HO_1; clear HO_6; clear HB; have HO_0 := n0_; have HO_1 := n1_; have HO_6 := n2_; have HB := n3_; clear n0_ n1_ n2_ n3_; clear hg hw hp_))
           go_roundg k1
           case measure => have := HK1.out; omega
           case rel => exact ⟨(y659), ((IntKind.u64.wrap ((IntKind.u64.wrap ((IntKind.u64.wrap (rd t647 x23_1)) - x7_1)) - (IntKind.u64.wrap (rd t650 x23_1)))) / 9223372036854775808), (wrap64 (x23_1 + 1)), (by first | rfl | (simp [*]; done)), (by first | rfl | (simp [*]; done)), H', ⟨by have := HK1.out; omega⟩, ⟨by (with_reducible repeat (first | apply Kd.V_alloc | apply Kd.V_drewN | apply Kd.V_drew)); exact Kd.V_mono HO_0.out (fun _ hk => hk.2)⟩, ⟨by (with_reducible repeat (first | apply Kd.V_alloc | apply Kd.V_drewN | apply Kd.V_drew)); exact Kd.V_mono HO_1.out (fun _ hk => hk.2)⟩, ⟨by (with_reducible repeat (first | apply Kd.R_alloc | apply Kd.R_drewN | apply Kd.R_drew)); exact HO_6.out⟩, ⟨by repeat (first | (with_reducible first | exact HB.out | apply below_alloc | apply pw_below_drewN | apply below_drew1) | exact HB.out)⟩⟩
          ·
           rw [if_neg c20] at H
           exact absurd H (by simp)
         ·
          rw [if_neg c19] at H
          have c19b0 : decide (x23_1 < (t650.length : Int)) = false := decide_eq_false c19
          clear c19
          by_cases c24 : x23_1 < (x6_1.length : Int)
          ·
           rw [if_pos c24] at H
           have c24b0 : decide (x23_1 < (x6_1.length : Int)) = true := decide_eq_true c24
           clear c24
           obtain ⟨y660, hy660⟩ : ∃ y_ : List Int, y_ = (x6_1.set (x23_1 : Int).toNat ((IntKind.u64.wrap ((IntKind.u64.wrap (rd t647 x23_1)) - x7_1)) % 4294967296)) := ⟨_, rfl⟩
           replace H : (bignat_Sub.l0 k1 t647 t650 y660 ((IntKind.u64.wrap ((IntKind.u64.wrap (rd t647 x23_1)) - x7_1)) / 9223372036854775808) (t647.length : Int) (wrap64 (x23_1 + 1))) = some (r1, r2) := by first | (rw [hy660]; with_reducible exact H) | (have H2_ := (Option.bind_some _ _).symm.trans H; rw [hy660]; with_reducible exact H2_) | (have H2_ := (Option.bind_some _ _).symm.trans H; with_reducible exact H2_) | with_reducible exact H | (rw [hy660]; exact H) | exact H
           have Ny660 := Aside0.mk hy660
           clear hy660
           have H' := Aside0.mk H
           clear H
           have p657 : 0 ≤ (x23_1 : Int) := of_decide_eq_true (by first | (with_reducible assumption) | assumption)
           have q657 : x23_1 < (t647.length : Int) := of_decide_eq_true (by first | (with_reducible assumption) | assumption)
           obtain ⟨ad657, e657, hx657_0⟩ := Kd.at_int (Kd.V_reads' HO_0.out).2.2 x23_1 p657 q657
           cases e657
           replace p657 := eq_true p657
           replace q657 := eq_true q657
           have p25 : 0 ≤ (x23_1 : Int) := of_decide_eq_true (by first | (with_reducible assumption) | assumption)
           have q25 : (x23_1 : Int) < ((x6_1.length : Int) : Int) := of_decide_eq_true (by first | (with_reducible assumption) | assumption)
           obtain ⟨go25, co25, eo25, gb25, gl25, cl25, HG25⟩ := Kd.R_form HO_6.out (by omega)
           (first | cases eo25 | (injection eo25 with ea_ en_ ec_; (first | subst ea_ | (injection ea_ with ea_; subst ea_)); subst ec_; clear en_))
           have GB25 := Aside0.mk gb25
           have GG25 := Aside0.mk HG25
           clear gb25 gl25 HG25
           obtain ⟨hx25_0, hf25_0⟩ := Kd.R_celln 0 HO_6.out (x23_1 : Int) p25 q25
           replace p25 := eq_true p25
           replace q25 := eq_true q25
           obtain ⟨hy26_, hz26_⟩ := Kd.R_celln 0 HO_6.out (x23_1 : Int) (of_decide_eq_true (by first | (with_reducible assumption) | assumption)) (of_decide_eq_true (by first | (with_reducible assumption) | assumption))
           have HP26 := Kd.R_putg HO_6.out (x23_1 : Int) ((IntKind.u64.wrap ((IntKind.u64.wrap (rd t647 x23_1)) - x7_1)) % 4294967296)
           go_wp2_with (first | ((with_reducible refine gate_store (t := 37) (p := 48) rfl ?_); refine store_event (t := 37) (p := 48) (v := ?vo_w27) (w1 := (wr.setCell ⟨go25, (x23_1 : Int).toNat, none⟩ (.int .u32 ((IntKind.u64.wrap ((IntKind.u64.wrap (rd t647 x23_1)) - x7_1)) % 4294967296)))) ?hg ?ho ?hn ?hr ?_; (case ho => rfl); (case hg => rfl); (case hn => rfl); (case hr => first | (go_simp; done) | (go_simp; rfl)); intro w27 hw; have hg : wr.grownBy w27 (some go25) := (by rw [hw]; exact HP26.2); have hp_ : Kd.R (Kd.int .u32) 37 w27 w.heap.size (fun _ => True) (.slice (some ⟨go25, 0, none⟩) x6_1.length co25) y660 := (by rw [hw, Ny660.out]; exact HP26.1); clear HP26; have n0_ := Aside0.mk (Kd.V_afterv (v := (.slice (some ⟨go25, 0, none⟩) x6_1.length co25)) (v1 := (.slice (some ⟨go25, 0, none⟩) x6_1.length co25)) (ok := (fun _ => True)) (by (with_reducible repeat (first | apply Kd.V_alloc | apply Kd.V_drewN | apply Kd.V_drew)); exact Kd.V_mono HO_0.out (fun _ hk => ⟨trivial, hk⟩)) hg (.inl rfl)); have n1_ := Aside0.mk (Kd.V_afterv (v := (.slice (some ⟨go25, 0, none⟩) x6_1.length co25)) (v1 := (.slice (some ⟨go25, 0, none⟩) x6_1.length co25)) (ok := (fun _ => True)) (by (with_reducible repeat (first | apply Kd.V_alloc | apply Kd.V_drewN | apply Kd.V_drew)); exact Kd.V_mono HO_1.out (fun _ hk => ⟨trivial, hk⟩)) hg (.inl rfl)); have n2_ := Aside0.mk (hp_); have n3_ := Aside0.mk ((by rw [hw]; exact below_set (HB.out) GB25.out : Below w.heap.size w w27)); clear HO_0; clear HO_1; clear HO_6; clear HB; have HO_0 := n0_; have HO_1 := n1_; have HO_6 := n2_; have HB := n3_; clear n0_ n1_ n2_ n3_; clear hg hw hp_))
           go_roundg k1
           case measure => have := HK1.out; omega
           case rel => exact ⟨(y660), ((IntKind.u64.wrap ((IntKind.u64.wrap (rd t647 x23_1)) - x7_1)) / 9223372036854775808), (wrap64 (x23_1 + 1)), (by first | rfl | (simp [*]; done)), (by first | rfl | (simp [*]; done)), H', ⟨by have := HK1.out; omega⟩, ⟨by (with_reducible repeat (first | apply Kd.V_alloc | apply Kd.V_drewN | apply Kd.V_drew)); exact Kd.V_mono HO_0.out (fun _ hk => hk.2)⟩, ⟨by (with_reducible repeat (first | apply Kd.V_alloc | apply Kd.V_drewN | apply Kd.V_drew)); exact Kd.V_mono HO_1.out (fun _ hk => hk.2)⟩, ⟨by (with_reducible repeat (first | apply Kd.R_alloc | apply Kd.R_drewN | apply Kd.R_drew)); exact HO_6.out⟩, ⟨by repeat (first | (with_reducible first | exact HB.out | apply below_alloc | apply pw_below_drewN | apply below_drew1) | exact HB.out)⟩⟩
          ·
           rw [if_neg c24] at H
           exact absurd H (by simp)
        ·
         rw [if_neg c18] at H
         exact absurd H (by simp)
       ·
        rw [if_neg c17] at H
        exact absurd H (by simp)
      ·
       rw [if_neg c16] at H
       have c16b0 : decide (x23_1 < (t647.length : Int)) = false := decide_eq_false c16
       clear c16
       replace H := Option.bind_eq_some_iff.mp H
       obtain ⟨t661, A280, H⟩ := H
       replace H : (some (t661, true)) = some (r1, r2) := H
       have A28 := Aside0.mk A280
       clear A280
       simp only [Option.some.injEq, Prod.mk.injEq] at H
       obtain ⟨rfl, rfl⟩ := H
       obtain ⟨Ao29, co29, eo29⟩ := Kd.R_slice HO_6.out
       subst eo29
       go_wp2_with (first | ((with_reducible refine gate_callee (f := 71) rfl ?_); refine goesL_ (some 53) rfl rfl Tryd.func71 (by kernel_rfl) rfl #[.slice Ao29 x6_1.length co29] rfl (by first | rfl | (go_simp; first | done | rfl | omega)) ?_; (with_reducible refine (bignat_trimO.calls k1 (fun k_ => some k_ = (.slice Ao29 x6_1.length co29 : Value).ownBlock) (.slice Ao29 x6_1.length co29) x6_1 t661 w _ ?side1 ?side2 A28.out).mono ?_); (case side1 => repeat (first | (with_reducible first | exact HB.out | apply below_alloc | apply pw_below_drewN | apply below_drew1) | exact HB.out)); (case side2 => exact Kd.R_tight rfl HO_6.out); rintro e w30 ⟨v662, rfl, ho0, hb, hkp⟩; refine ⟨_, rfl, ?_⟩; have n0_ := Aside0.mk (Kd.V_mono (ok' := fun k_ => some k_ ≠ (v662 : Value).ownBlock) (Kd.V_keptB (HO_0.out) hkp (fun k_ hk_ hs_ => (hk_) hs_)) (fun k_ hk_ => fun e_ => Or.elim (ho0.1 k_ e_.symm) (fun hs_ => hk_.2.1 hs_) (fun hn_ => Nat.not_le.2 hk_.2.2 hn_))); have n1_ := Aside0.mk (Kd.V_mono (ok' := fun k_ => some k_ ≠ (v662 : Value).ownBlock) (Kd.V_keptB (HO_1.out) hkp (fun k_ hk_ hs_ => (hk_) hs_)) (fun k_ hk_ => fun e_ => Or.elim (ho0.1 k_ e_.symm) (fun hs_ => hk_.2.1 hs_) (fun hn_ => Nat.not_le.2 hk_.2.2 hn_))); have n2_ := Aside0.mk (Kd.R_mono (ok' := fun k_ => True) ho0 (fun k_ hk_ => trivial)); have n3_ := Aside0.mk (hb); clear HO_0; clear HO_1; clear HB; clear HO_6; have HO_0 := n0_; have HO_1 := n1_; have HO663 := n2_; have HB := n3_; clear n0_ n1_ n2_ n3_; (try clear hkp)))
       go_ret2
       exact ⟨_, by first | rfl | (simp [*, errW_none, errW_some] <;> rfl), by (with_reducible repeat (first | apply Kd.R_alloc | apply Kd.R_drewN | apply Kd.R_drew)); exact HO663.out, by repeat (first | (with_reducible first | exact HB.out | apply below_alloc | apply pw_below_drewN | apply below_drew1) | exact HB.out)⟩
   ·
    rw [if_neg c8] at H
    exact absurd H (by simp)
  ·
   rw [if_neg c7] at H
   exact absurd H (by simp)

def rational_Add.f (k : Nat) (a0_0 : Bool) (l0_1 : List Int) (l0_2 : List Int) (a1_0 : Bool) (l1_1 : List Int) (l1_2 : List Int) : Option (Bool × List Int × List Int) := (rational_parts.f k a0_0 l0_1 l0_2).bind fun bt667 => ((rational_parts.f k a1_0 l1_1 l1_2).bind fun bt674 => ((bignat_Cmp.f k bt667.2.2 bt674.2.2).bind fun t681 => (if t681 = 0 then (none) else ((bignat_Mul.f k bt667.2.1 bt674.2.2).bind fun t682 => ((bignat_Mul.f k bt674.2.1 bt667.2.2).bind fun t685 => ((bignat_Mul.f k bt667.2.2 bt674.2.2).bind fun t688 => (if (bt667.1 == bt674.1) = true then (none) else ((bignat_Sub.f k t682 t685).bind fun bt691 => (if bt691.2 = true then ((rational_reduce.f k bt667.1 bt691.1 t688).bind fun bt695 => (some (bt695.1, bt695.2.1, bt695.2.2))) else (none))))))))))
theorem rational_Add.mono : ∀ a0 a1 a2 a3 a4 a5 k, LeO (rational_Add.f k a0 a1 a2 a3 a4 a5) (rational_Add.f (k + 1) a0 a1 a2 a3 a4 a5) := by
 intro a0 a1 a2 a3 a4 a5 k
 unfold rational_Add.f
 repeat' first
   | (with_reducible exact bignat_Cmp.mono _ _ _)
   | (with_reducible exact bignat_Mul.mono _ _ _)
   | (with_reducible exact bignat_Sub.mono _ _ _)
   | (with_reducible exact rational_parts.mono _ _ _ _)
   | (with_reducible exact rational_reduce.mono _ _ _ _)
   | (with_reducible exact LeO.refl _)
   | (with_reducible exact LeO.none _)
   | (with_reducible refine LeO.ite ?_ ?_)
   | (with_reducible refine LeO.bind ?_ (fun _ => ?_))
   | exact LeO.none _
   | refine LeO.ite ?_ ?_
   | refine LeO.bind ?_ (fun _ => ?_)
set_option maxHeartbeats 8000000 in
set_option maxRecDepth 100000 in
theorem rational_Add.calls (k : Nat) (a0_0 : Bool) (A0_1 : Option Addr) (c0_1 : Nat) (l0_1 : List Int) (A0_2 : Option Addr) (c0_2 : Nat) (l0_2 : List Int) (a1_0 : Bool) (A1_1 : Option Addr) (c1_1 : Nat) (l1_1 : List Int) (A1_2 : Option Addr) (c1_2 : Nat) (l1_2 : List Int) (r1 : Bool) (r2 : List Int) (r3 : List Int) (w : World) (hr0_1 : Kd.C (Kd.int .u32) w A0_1 l0_1.length l0_1) (hc0_1 : l0_1.length ≤ c0_1) (hr0_2 : Kd.C (Kd.int .u32) w A0_2 l0_2.length l0_2) (hc0_2 : l0_2.length ≤ c0_2) (hr1_1 : Kd.C (Kd.int .u32) w A1_1 l1_1.length l1_1) (hc1_1 : l1_1.length ≤ c1_1) (hr1_2 : Kd.C (Kd.int .u32) w A1_2 l1_2.length l1_2) (hc1_2 : l1_2.length ≤ c1_2) (h : rational_Add.f k a0_0 l0_1 l0_2 a1_0 l1_1 l1_2 = some (r1, r2, r3)) :
  Calls Tryd.prog 23 #[.agg #[.bool a0_0, .slice A0_1 l0_1.length c0_1, .slice A0_2 l0_2.length c0_2], .agg #[.bool a1_0, .slice A1_1 l1_1.length c1_1, .slice A1_2 l1_2.length c1_2]] w fun e w' => ∃ v1_ v2_ : Value, e = .returned (.agg #[.bool r1, v1_, v2_]) ∧ Kd.R (Kd.int .u32) 37 w' w.heap.size (fun k_ => some k_ ≠ (v2_ : Value).ownBlock) v1_ r2 ∧ Kd.R (Kd.int .u32) 37 w' w.heap.size (fun k_ => some k_ ≠ (v1_ : Value).ownBlock) v2_ r3 ∧ Below w.heap.size w w' := by
 have hu25 := Tryd.underlying25
 have HR0_1 := Aside0.mk hr0_1
 have HC0_1 := Aside0.mk hc0_1
 clear hr0_1 hc0_1
 have HR0_2 := Aside0.mk hr0_2
 have HC0_2 := Aside0.mk hc0_2
 clear hr0_2 hc0_2
 have HR1_1 := Aside0.mk hr1_1
 have HC1_1 := Aside0.mk hc1_1
 clear hr1_1 hc1_1
 have HR1_2 := Aside0.mk hr1_2
 have HC1_2 := Aside0.mk hc1_2
 clear hr1_2 hc1_2
 have HB := Aside0.mk (Below.refl w.heap.size w)
 have H : ((rational_parts.f k a0_0 l0_1 l0_2).bind fun bt667 => ((rational_parts.f k a1_0 l1_1 l1_2).bind fun bt674 => ((bignat_Cmp.f k bt667.2.2 bt674.2.2).bind fun t681 => (if t681 = 0 then (none) else ((bignat_Mul.f k bt667.2.1 bt674.2.2).bind fun t682 => ((bignat_Mul.f k bt674.2.1 bt667.2.2).bind fun t685 => ((bignat_Mul.f k bt667.2.2 bt674.2.2).bind fun t688 => (if (bt667.1 == bt674.1) = true then (none) else ((bignat_Sub.f k t682 t685).bind fun bt691 => (if bt691.2 = true then ((rational_reduce.f k bt667.1 bt691.1 t688).bind fun bt695 => (some (bt695.1, bt695.2.1, bt695.2.2))) else (none))))))))))) = some (r1, r2, r3) := h
 clear h
 replace H := Option.bind_eq_some_iff.mp H
 obtain ⟨⟨t667, t668, t671⟩, A30, H⟩ := H
 replace H : ((rational_parts.f k a1_0 l1_1 l1_2).bind fun bt674 => ((bignat_Cmp.f k t671 bt674.2.2).bind fun t681 => (if t681 = 0 then (none) else ((bignat_Mul.f k t668 bt674.2.2).bind fun t682 => ((bignat_Mul.f k bt674.2.1 t671).bind fun t685 => ((bignat_Mul.f k t671 bt674.2.2).bind fun t688 => (if (t667 == bt674.1) = true then (none) else ((bignat_Sub.f k t682 t685).bind fun bt691 => (if bt691.2 = true then ((rational_reduce.f k t667 bt691.1 t688).bind fun bt695 => (some (bt695.1, bt695.2.1, bt695.2.2))) else (none)))))))))) = some (r1, r2, r3) := H
 have A3 := Aside0.mk A30
 clear A30
 replace H := Option.bind_eq_some_iff.mp H
 obtain ⟨⟨t674, t675, t678⟩, A40, H⟩ := H
 replace H : ((bignat_Cmp.f k t671 t678).bind fun t681 => (if t681 = 0 then (none) else ((bignat_Mul.f k t668 t678).bind fun t682 => ((bignat_Mul.f k t675 t671).bind fun t685 => ((bignat_Mul.f k t671 t678).bind fun t688 => (if (t667 == t674) = true then (none) else ((bignat_Sub.f k t682 t685).bind fun bt691 => (if bt691.2 = true then ((rational_reduce.f k t667 bt691.1 t688).bind fun bt695 => (some (bt695.1, bt695.2.1, bt695.2.2))) else (none))))))))) = some (r1, r2, r3) := H
 have A4 := Aside0.mk A40
 clear A40
 replace H := Option.bind_eq_some_iff.mp H
 obtain ⟨t681, A50, H⟩ := H
 replace H : (if t681 = 0 then (none) else ((bignat_Mul.f k t668 t678).bind fun t682 => ((bignat_Mul.f k t675 t671).bind fun t685 => ((bignat_Mul.f k t671 t678).bind fun t688 => (if (t667 == t674) = true then (none) else ((bignat_Sub.f k t682 t685).bind fun bt691 => (if bt691.2 = true then ((rational_reduce.f k t667 bt691.1 t688).bind fun bt695 => (some (bt695.1, bt695.2.1, bt695.2.2))) else (none)))))))) = some (r1, r2, r3) := H
 have A5 := Aside0.mk A50
 clear A50
 by_cases c6 : t681 = 0
 ·
  rw [if_pos c6] at H
  exact absurd H (by simp)
 ·
  rw [if_neg c6] at H
  have c6b0 : (t681 == 0) = false := beq_eq_false_iff_ne.mpr c6
  have c6b1 : (t681 != 0) = true := bne_iff_ne.mpr c6
  replace H := Option.bind_eq_some_iff.mp H
  obtain ⟨t682, A70, H⟩ := H
  replace H : ((bignat_Mul.f k t675 t671).bind fun t685 => ((bignat_Mul.f k t671 t678).bind fun t688 => (if (t667 == t674) = true then (none) else ((bignat_Sub.f k t682 t685).bind fun bt691 => (if bt691.2 = true then ((rational_reduce.f k t667 bt691.1 t688).bind fun bt695 => (some (bt695.1, bt695.2.1, bt695.2.2))) else (none)))))) = some (r1, r2, r3) := H
  have A7 := Aside0.mk A70
  clear A70
  replace H := Option.bind_eq_some_iff.mp H
  obtain ⟨t685, A80, H⟩ := H
  replace H : ((bignat_Mul.f k t671 t678).bind fun t688 => (if (t667 == t674) = true then (none) else ((bignat_Sub.f k t682 t685).bind fun bt691 => (if bt691.2 = true then ((rational_reduce.f k t667 bt691.1 t688).bind fun bt695 => (some (bt695.1, bt695.2.1, bt695.2.2))) else (none))))) = some (r1, r2, r3) := H
  have A8 := Aside0.mk A80
  clear A80
  replace H := Option.bind_eq_some_iff.mp H
  obtain ⟨t688, A90, H⟩ := H
  replace H : (if (t667 == t674) = true then (none) else ((bignat_Sub.f k t682 t685).bind fun bt691 => (if bt691.2 = true then ((rational_reduce.f k t667 bt691.1 t688).bind fun bt695 => (some (bt695.1, bt695.2.1, bt695.2.2))) else (none)))) = some (r1, r2, r3) := H
  have A9 := Aside0.mk A90
  clear A90
  by_cases c10 : (t667 == t674) = true
  ·
   rw [if_pos c10] at H
   exact absurd H (by simp)
  ·
   rw [if_neg c10] at H
   have c10b0 : (t667 == t674) = false := by simpa using c10
   (try (have c10b1 : decide (t667 = t674) = false := by simpa using c10))
   (try (have c10b2 : (t667 == t674) = false := by simpa using c10))
   (try (have c10b3 : ¬ (t667 = t674) := by simpa using c10))
   clear c10
   replace H := Option.bind_eq_some_iff.mp H
   obtain ⟨⟨t691, t692⟩, A110, H⟩ := H
   replace H : (if t692 = true then ((rational_reduce.f k t667 t691 t688).bind fun bt695 => (some (bt695.1, bt695.2.1, bt695.2.2))) else (none)) = some (r1, r2, r3) := H
   have A11 := Aside0.mk A110
   clear A110
   by_cases c12 : t692 = true
   ·
    subst c12
    have H1 : ((rational_reduce.f k t667 t691 t688).bind fun bt695 => (some (bt695.1, bt695.2.1, bt695.2.2))) = some (r1, r2, r3) := by rw [if_pos rfl] at H; exact H
    clear H
    have H := H1
    clear H1
    replace H := Option.bind_eq_some_iff.mp H
    obtain ⟨⟨t695, t696, t699⟩, A130, H⟩ := H
    replace H : (some (t695, t696, t699)) = some (r1, r2, r3) := H
    have A13 := Aside0.mk A130
    clear A130
    simp only [Option.some.injEq, Prod.mk.injEq] at H
    obtain ⟨rfl, rfl, rfl⟩ := H
    go_enter Tryd.func23, Tryd.ntmps23
    go_wp2_with (first | ((with_reducible refine gate_dst (N := 2) rfl ?_); refine box_event ?hg (N := 2) ?hd (cs := #[.bool a0_0, .slice A0_1 l0_1.length c0_1, .slice A0_2 l0_2.length c0_2]) (t := 25) ?hr ?_; (case hd => rfl); (case hg => rfl); (case hr => first | (go_simp; done) | (go_simp; rfl)); intro gb664 hg w14 hbox hb; have n0_ := Aside0.mk (below_step (zb HB rfl) hb); have n1_ := Aside0.mk (hbox); have n2_ := Aside0.mk ((by rw [hg]; exact (below_size (zb HB rfl)) : w.heap.size ≤ gb664)); have n3_ := Aside0.mk ((by rw [hg]; exact (below_size (zb HB rfl)) : w.heap.size ≤ gb664)); clear HB; have HB := n0_; have BK664 := n1_; have GW664 := n2_; have GE664 := n3_; clear n0_ n1_ n2_ n3_; clear hb hbox hg) | ((with_reducible refine gate_dst (N := 3) rfl ?_); refine box_event ?hg (N := 3) ?hd (cs := #[.bool a1_0, .slice A1_1 l1_1.length c1_1, .slice A1_2 l1_2.length c1_2]) (t := 25) ?hr ?_; (case hd => rfl); (case hg => rfl); (case hr => first | (go_simp; done) | (go_simp; rfl)); intro gb665 hg w15 hbox hb; have n0_ := Aside0.mk (blk_below BK664.out hb); have n1_ := Aside0.mk (below_step (zb HB rfl) hb); have n2_ := Aside0.mk (hbox); have n3_ := Aside0.mk ((by rw [hg]; exact (below_size (zb HB rfl)) : w.heap.size ≤ gb665)); have n4_ := Aside0.mk ((by rw [hg]; exact (below_size (zb HB rfl)) : w.heap.size ≤ gb665)); have n5_ := Aside0.mk ((by rw [hg]; exact Nat.ne_of_lt (blk_lt BK664.out) : gb664 ≠ gb665)); have n6_ := Aside0.mk ((by rw [hg]; exact Nat.ne_of_gt (blk_lt BK664.out) : gb665 ≠ gb664)); clear BK664; clear HB; have BK664 := n0_; have HB := n1_; have BK665 := n2_; have GW665 := n3_; have GE665 := n4_; have NB664_665 := n5_; have NB665_664 := n6_; clear n0_ n1_ n2_ n3_ n4_ n5_ n6_; clear hb hbox hg) | ((with_reducible refine gate_dst (N := 4) rfl ?_); refine box_event ?hg (N := 4) ?hd (cs := #[.bool false, .slice none 0 0, .slice none 0 0]) (t := 25) ?hr ?_; (case hd => rfl); (case hg => rfl); (case hr => first | (go_simp; done) | (go_simp; rfl)); intro gb666 hg w16 hbox hb; have n0_ := Aside0.mk (blk_below BK664.out hb); have n1_ := Aside0.mk (blk_below BK665.out hb); have n2_ := Aside0.mk (below_step (zb HB rfl) hb); have n3_ := Aside0.mk (hbox); have n4_ := Aside0.mk ((by rw [hg]; exact (below_size (zb HB rfl)) : w.heap.size ≤ gb666)); have n5_ := Aside0.mk ((by rw [hg]; exact (below_size (zb HB rfl)) : w.heap.size ≤ gb666)); have n6_ := Aside0.mk ((by rw [hg]; exact Nat.ne_of_lt (blk_lt BK664.out) : gb664 ≠ gb666)); have n7_ := Aside0.mk ((by rw [hg]; exact Nat.ne_of_gt (blk_lt BK664.out) : gb666 ≠ gb664)); have n8_ := Aside0.mk ((by rw [hg]; exact Nat.ne_of_lt (blk_lt BK665.out) : gb665 ≠ gb666)); have n9_ := Aside0.mk ((by rw [hg]; exact Nat.ne_of_gt (blk_lt BK665.out) : gb666 ≠ gb665)); clear BK664; clear BK665; clear HB; have BK664 := n0_; have BK665 := n1_; have HB := n2_; have BK666 := n3_; have GW666 := n4_; have GE666 := n5_; have NB664_666 := n6_; have NB666_664 := n7_; have NB665_666 := n8_; have NB666_665 := n9_; clear n0_ n1_ n2_ n3_ n4_ n5_ n6_ n7_ n8_ n9_; clear hb hbox hg; have hnb17 := NB664_665.out; have hnc17 := NB665_664.out; have hnb18 := NB664_666.out; have hnc18 := NB666_664.out; have hcz19_0 : w16.cell? ⟨gb664, 0, none⟩ = some (.bool a0_0) := (blk_cell BK664.out 0).trans rfl; have hcz19_1 : w16.cell? ⟨gb664, 1, none⟩ = some (.slice A0_1 l0_1.length c0_1) := (blk_cell BK664.out 1).trans rfl; have hcz19_2 : w16.cell? ⟨gb664, 2, none⟩ = some (.slice A0_2 l0_2.length c0_2) := (blk_cell BK664.out 2).trans rfl; have hfz19_0 := blk_frozen BK664.out 0; have hfz19_1 := blk_frozen BK664.out 1; have hfz19_2 := blk_frozen BK664.out 2) | ((with_reducible refine gate_callee (f := 66) rfl ?_); refine goesL_ (some 20) rfl rfl Tryd.func66 (by kernel_rfl) rfl #[.agg #[.bool a0_0, .slice A0_1 l0_1.length c0_1, .slice A0_2 l0_2.length c0_2]] rfl (by first | rfl | (go_simp; first | done | rfl | omega)) ?_; (with_reducible refine (rational_parts.calls k a0_0 (fun k_ => k_ < w.heap.size) _ _ l0_1 (fun k_ => k_ < w.heap.size) _ _ l0_2 t667 t668 t671 _ ?side1 ?side2 A3.out).mono ?_); (case side1 => exact Kd.V_mk HC0_1.out (Kd.F_below (Kd.C_F (Kd.heap_int .u32) HR0_1.out) (zb HB rfl))); (case side2 => exact Kd.V_mk HC0_2.out (Kd.F_below (Kd.C_F (Kd.heap_int .u32) HR0_2.out) (zb HB rfl))); rintro e w20 ⟨v669, v672, rfl, ho0, ho1, hb⟩; refine ⟨_, rfl, ?_⟩; have n0_ := Aside0.mk (Kd.V_lower (Kd.V_mono (ok' := fun k_ => k_ ≠ gb664 ∧ k_ ≠ gb665 ∧ k_ ≠ gb666) ho0 (fun k_ hk_ => ⟨Or.elim hk_ (fun hs_ => Or.elim hs_ (fun hs_ => fun e_ => Nat.not_le.2 hs_ (by rw [e_]; exact GW664.out)) (fun hs_ => fun e_ => Nat.not_le.2 hs_ (by rw [e_]; exact GW664.out))) (fun hn_ => (Kd.freshB BK664.out k_ hn_)), Or.elim hk_ (fun hs_ => Or.elim hs_ (fun hs_ => fun e_ => Nat.not_le.2 hs_ (by rw [e_]; exact GW665.out)) (fun hs_ => fun e_ => Nat.not_le.2 hs_ (by rw [e_]; exact GW665.out))) (fun hn_ => (Kd.freshB BK665.out k_ hn_)), Or.elim hk_ (fun hs_ => Or.elim hs_ (fun hs_ => fun e_ => Nat.not_le.2 hs_ (by rw [e_]; exact GW666.out)) (fun hs_ => fun e_ => Nat.not_le.2 hs_ (by rw [e_]; exact GW666.out))) (fun hn_ => (Kd.freshB BK666.out k_ hn_))⟩)) (below_size (zb HB rfl))); have n1_ := Aside0.mk (Kd.V_lower (Kd.V_mono (ok' := fun k_ => k_ ≠ gb664 ∧ k_ ≠ gb665 ∧ k_ ≠ gb666) ho1 (fun k_ hk_ => ⟨Or.elim hk_ (fun hs_ => Or.elim hs_ (fun hs_ => fun e_ => Nat.not_le.2 hs_ (by rw [e_]; exact GW664.out)) (fun hs_ => fun e_ => Nat.not_le.2 hs_ (by rw [e_]; exact GW664.out))) (fun hn_ => (Kd.freshB BK664.out k_ hn_)), Or.elim hk_ (fun hs_ => Or.elim hs_ (fun hs_ => fun e_ => Nat.not_le.2 hs_ (by rw [e_]; exact GW665.out)) (fun hs_ => fun e_ => Nat.not_le.2 hs_ (by rw [e_]; exact GW665.out))) (fun hn_ => (Kd.freshB BK665.out k_ hn_)), Or.elim hk_ (fun hs_ => Or.elim hs_ (fun hs_ => fun e_ => Nat.not_le.2 hs_ (by rw [e_]; exact GW666.out)) (fun hs_ => fun e_ => Nat.not_le.2 hs_ (by rw [e_]; exact GW666.out))) (fun hn_ => (Kd.freshB BK666.out k_ hn_))⟩)) (below_size (zb HB rfl))); have n2_ := Aside0.mk (blk_below BK664.out hb); have n3_ := Aside0.mk (blk_below BK665.out hb); have n4_ := Aside0.mk (blk_below BK666.out hb); have n5_ := Aside0.mk (below_step (zb HB rfl) hb); clear BK664; clear BK665; clear BK666; clear HB; have HO670 := n0_; have HO673 := n1_; have BK664 := n2_; have BK665 := n3_; have BK666 := n4_; have HB := n5_; clear n0_ n1_ n2_ n3_ n4_ n5_; have hnb21 := NB665_666.out; have hnc21 := NB666_665.out; have hcz22_0 : w20.cell? ⟨gb665, 0, none⟩ = some (.bool a1_0) := (blk_cell BK665.out 0).trans rfl; have hcz22_1 : w20.cell? ⟨gb665, 1, none⟩ = some (.slice A1_1 l1_1.length c1_1) := (blk_cell BK665.out 1).trans rfl; have hcz22_2 : w20.cell? ⟨gb665, 2, none⟩ = some (.slice A1_2 l1_2.length c1_2) := (blk_cell BK665.out 2).trans rfl; have hfz22_0 := blk_frozen BK665.out 0; have hfz22_1 := blk_frozen BK665.out 1; have hfz22_2 := blk_frozen BK665.out 2) | ((with_reducible refine gate_callee (f := 66) rfl ?_); refine goesL_ (some 26) rfl rfl Tryd.func66 (by kernel_rfl) rfl #[.agg #[.bool a1_0, .slice A1_1 l1_1.length c1_1, .slice A1_2 l1_2.length c1_2]] rfl (by first | rfl | (go_simp; first | done | rfl | omega)) ?_; (with_reducible refine (rational_parts.calls k a1_0 (fun k_ => k_ < w.heap.size) _ _ l1_1 (fun k_ => k_ < w.heap.size) _ _ l1_2 t674 t675 t678 _ ?side1 ?side2 A4.out).mono ?_); (case side1 => exact Kd.V_mk HC1_1.out (Kd.F_below (Kd.C_F (Kd.heap_int .u32) HR1_1.out) (zb HB rfl))); (case side2 => exact Kd.V_mk HC1_2.out (Kd.F_below (Kd.C_F (Kd.heap_int .u32) HR1_2.out) (zb HB rfl))); rintro e w23 ⟨v676, v679, rfl, ho0, ho1, hb⟩; refine ⟨_, rfl, ?_⟩; have n0_ := Aside0.mk (Kd.V_below (zv HO670 rfl) hb); have n1_ := Aside0.mk (Kd.V_below (zv HO673 rfl) hb); have n2_ := Aside0.mk (Kd.V_lower (Kd.V_mono (ok' := fun k_ => k_ ≠ gb664 ∧ k_ ≠ gb665 ∧ k_ ≠ gb666) ho0 (fun k_ hk_ => ⟨Or.elim hk_ (fun hs_ => Or.elim hs_ (fun hs_ => fun e_ => Nat.not_le.2 hs_ (by rw [e_]; exact GW664.out)) (fun hs_ => fun e_ => Nat.not_le.2 hs_ (by rw [e_]; exact GW664.out))) (fun hn_ => (Kd.freshB BK664.out k_ hn_)), Or.elim hk_ (fun hs_ => Or.elim hs_ (fun hs_ => fun e_ => Nat.not_le.2 hs_ (by rw [e_]; exact GW665.out)) (fun hs_ => fun e_ => Nat.not_le.2 hs_ (by rw [e_]; exact GW665.out))) (fun hn_ => (Kd.freshB BK665.out k_ hn_)), Or.elim hk_ (fun hs_ => Or.elim hs_ (fun hs_ => fun e_ => Nat.not_le.2 hs_ (by rw [e_]; exact GW666.out)) (fun hs_ => fun e_ => Nat.not_le.2 hs_ (by rw [e_]; exact GW666.out))) (fun hn_ => (Kd.freshB BK666.out k_ hn_))⟩)) (below_size (zb HB rfl))); have n3_ := Aside0.mk (Kd.V_lower (Kd.V_mono (ok' := fun k_ => k_ ≠ gb664 ∧ k_ ≠ gb665 ∧ k_ ≠ gb666) ho1 (fun k_ hk_ => ⟨Or.elim hk_ (fun hs_ => Or.elim hs_ (fun hs_ => fun e_ => Nat.not_le.2 hs_ (by rw [e_]; exact GW664.out)) (fun hs_ => fun e_ => Nat.not_le.2 hs_ (by rw [e_]; exact GW664.out))) (fun hn_ => (Kd.freshB BK664.out k_ hn_)), Or.elim hk_ (fun hs_ => Or.elim hs_ (fun hs_ => fun e_ => Nat.not_le.2 hs_ (by rw [e_]; exact GW665.out)) (fun hs_ => fun e_ => Nat.not_le.2 hs_ (by rw [e_]; exact GW665.out))) (fun hn_ => (Kd.freshB BK665.out k_ hn_)), Or.elim hk_ (fun hs_ => Or.elim hs_ (fun hs_ => fun e_ => Nat.not_le.2 hs_ (by rw [e_]; exact GW666.out)) (fun hs_ => fun e_ => Nat.not_le.2 hs_ (by rw [e_]; exact GW666.out))) (fun hn_ => (Kd.freshB BK666.out k_ hn_))⟩)) (below_size (zb HB rfl))); have n4_ := Aside0.mk (blk_below BK664.out hb); have n5_ := Aside0.mk (blk_below BK665.out hb); have n6_ := Aside0.mk (blk_below BK666.out hb); have n7_ := Aside0.mk (below_step (zb HB rfl) hb); clear HO670; clear HO673; clear BK664; clear BK665; clear BK666; clear HB; have HO670 := n0_; have HO673 := n1_; have HO677 := n2_; have HO680 := n3_; have BK664 := n4_; have BK665 := n5_; have BK666 := n6_; have HB := n7_; clear n0_ n1_ n2_ n3_ n4_ n5_ n6_ n7_; obtain ⟨Ao24, co24, eo24⟩ := Kd.V_slice HO673.out; subst eo24; obtain ⟨Ao25, co25, eo25⟩ := Kd.V_slice HO680.out; subst eo25) | ((with_reducible refine gate_callee (f := 67) rfl ?_); refine goesL_ (some 35) rfl rfl Tryd.func67 (by kernel_rfl) rfl #[.slice Ao24 t671.length co24, .slice Ao25 t678.length co25] rfl (by first | rfl | (go_simp; first | done | rfl | omega)) ?_; (with_reducible refine (bignat_Cmp.calls k _ _ t671 _ _ t678 t681 _ ?side1 ?side2 ?side3 ?side4 A5.out).mono ?_); (case side1 => repeat first | exact (Kd.V_reads' HO673.out).2.2 | refine Kd.C_drewN ?_ _ | refine Kd.C_alloc ?_ _ | refine Kd.C_drew ?_); (case side2 => exact (Kd.V_reads' HO673.out).2.1); (case side3 => repeat first | exact (Kd.V_reads' HO680.out).2.2 | refine Kd.C_drewN ?_ _ | refine Kd.C_alloc ?_ _ | refine Kd.C_drew ?_); (case side4 => exact (Kd.V_reads' HO680.out).2.1); rintro e w26 ⟨rfl, hb⟩; refine ⟨_, rfl, ?_⟩; have n0_ := Aside0.mk (Kd.V_below (zv HO670 rfl) hb); have n1_ := Aside0.mk (Kd.V_below (zv HO673 rfl) hb); have n2_ := Aside0.mk (Kd.V_below (zv HO677 rfl) hb); have n3_ := Aside0.mk (Kd.V_below (zv HO680 rfl) hb); have n4_ := Aside0.mk (blk_below BK664.out hb); have n5_ := Aside0.mk (blk_below BK665.out hb); have n6_ := Aside0.mk (blk_below BK666.out hb); have n7_ := Aside0.mk (below_step (zb HB rfl) hb); clear HO670; clear HO673; clear HO677; clear HO680; clear BK664; clear BK665; clear BK666; clear HB; have HO670 := n0_; have HO673 := n1_; have HO677 := n2_; have HO680 := n3_; have BK664 := n4_; have BK665 := n5_; have BK666 := n6_; have HB := n7_; clear n0_ n1_ n2_ n3_ n4_ n5_ n6_ n7_; obtain ⟨Ao27, co27, eo27⟩ := Kd.V_slice HO670.out; subst eo27) | ((with_reducible refine gate_callee (f := 33) rfl ?_); refine goesL_ (some 39) rfl rfl Tryd.func33 (by kernel_rfl) rfl #[.slice Ao27 t668.length co27, .slice Ao25 t678.length co25] rfl (by first | rfl | (go_simp; first | done | rfl | omega)) ?_; (with_reducible refine (bignat_Mul.calls k _ _ t668 _ _ t678 t682 _ ?side1 ?side2 ?side3 ?side4 A7.out).mono ?_); (case side1 => repeat first | exact (Kd.V_reads' HO670.out).2.2 | refine Kd.C_drewN ?_ _ | refine Kd.C_alloc ?_ _ | refine Kd.C_drew ?_); (case side2 => exact (Kd.V_reads' HO670.out).2.1); (case side3 => repeat first | exact (Kd.V_reads' HO680.out).2.2 | refine Kd.C_drewN ?_ _ | refine Kd.C_alloc ?_ _ | refine Kd.C_drew ?_); (case side4 => exact (Kd.V_reads' HO680.out).2.1); rintro e w28 ⟨v683, rfl, ho0, hb⟩; refine ⟨_, rfl, ?_⟩; have n0_ := Aside0.mk (Kd.V_elder' (zv HO670 rfl) (Kd.R_base ho0) hb); have n1_ := Aside0.mk (Kd.V_elder' (zv HO673 rfl) (Kd.R_base ho0) hb); have n2_ := Aside0.mk (Kd.V_elder' (zv HO677 rfl) (Kd.R_base ho0) hb); have n3_ := Aside0.mk (Kd.V_elder' (zv HO680 rfl) (Kd.R_base ho0) hb); have n4_ := Aside0.mk (Kd.R_lower ho0 (below_size (zb HB rfl))); have n5_ := Aside0.mk (blk_below BK664.out hb); have n6_ := Aside0.mk (blk_below BK665.out hb); have n7_ := Aside0.mk (blk_below BK666.out hb); have n8_ := Aside0.mk (below_step (zb HB rfl) hb); clear HO670; clear HO673; clear HO677; clear HO680; clear BK664; clear BK665; clear BK666; clear HB; have HO670 := n0_; have HO673 := n1_; have HO677 := n2_; have HO680 := n3_; have HO684 := n4_; have BK664 := n5_; have BK665 := n6_; have BK666 := n7_; have HB := n8_; clear n0_ n1_ n2_ n3_ n4_ n5_ n6_ n7_ n8_; obtain ⟨Ao29, co29, eo29⟩ := Kd.V_slice HO677.out; subst eo29) | ((with_reducible refine gate_callee (f := 33) rfl ?_); refine goesL_ (some 42) rfl rfl Tryd.func33 (by kernel_rfl) rfl #[.slice Ao29 t675.length co29, .slice Ao24 t671.length co24] rfl (by first | rfl | (go_simp; first | done | rfl | omega)) ?_; (with_reducible refine (bignat_Mul.calls k _ _ t675 _ _ t671 t685 _ ?side1 ?side2 ?side3 ?side4 A8.out).mono ?_); (case side1 => repeat first | exact (Kd.V_reads' HO677.out).2.2 | refine Kd.C_drewN ?_ _ | refine Kd.C_alloc ?_ _ | refine Kd.C_drew ?_); (case side2 => exact (Kd.V_reads' HO677.out).2.1); (case side3 => repeat first | exact (Kd.V_reads' HO673.out).2.2 | refine Kd.C_drewN ?_ _ | refine Kd.C_alloc ?_ _ | refine Kd.C_drew ?_); (case side4 => exact (Kd.V_reads' HO673.out).2.1); rintro e w30 ⟨v686, rfl, ho0, hb⟩; refine ⟨_, rfl, ?_⟩; have n0_ := Aside0.mk (Kd.V_elder' (zv HO670 rfl) (Kd.R_base ho0) hb); have n1_ := Aside0.mk (Kd.V_elder' (zv HO673 rfl) (Kd.R_base ho0) hb); have n2_ := Aside0.mk (Kd.V_elder' (zv HO677 rfl) (Kd.R_base ho0) hb); have n3_ := Aside0.mk (Kd.V_elder' (zv HO680 rfl) (Kd.R_base ho0) hb); have n4_ := Aside0.mk (Kd.R_elder' (zr HO684 rfl) (Kd.R_base ho0) hb); have n5_ := Aside0.mk (Kd.R_lower (Kd.R_new' ho0 (Kd.R_lt (zr HO684 rfl))) (below_size (zb HB rfl))); have n6_ := Aside0.mk (blk_below BK664.out hb); have n7_ := Aside0.mk (blk_below BK665.out hb); have n8_ := Aside0.mk (blk_below BK666.out hb); have n9_ := Aside0.mk (below_step (zb HB rfl) hb); clear HO670; clear HO673; clear HO677; clear HO680; clear HO684; clear BK664; clear BK665; clear BK666; clear HB; have HO670 := n0_; have HO673 := n1_; have HO677 := n2_; have HO680 := n3_; have HO684 := n4_; have HO687 := n5_; have BK664 := n6_; have BK665 := n7_; have BK666 := n8_; have HB := n9_; clear n0_ n1_ n2_ n3_ n4_ n5_ n6_ n7_ n8_ n9_) | ((with_reducible refine gate_callee (f := 33) rfl ?_); refine goesL_ (some 45) rfl rfl Tryd.func33 (by kernel_rfl) rfl #[.slice Ao24 t671.length co24, .slice Ao25 t678.length co25] rfl (by first | rfl | (go_simp; first | done | rfl | omega)) ?_; (with_reducible refine (bignat_Mul.calls k _ _ t671 _ _ t678 t688 _ ?side1 ?side2 ?side3 ?side4 A9.out).mono ?_); (case side1 => repeat first | exact (Kd.V_reads' HO673.out).2.2 | refine Kd.C_drewN ?_ _ | refine Kd.C_alloc ?_ _ | refine Kd.C_drew ?_); (case side2 => exact (Kd.V_reads' HO673.out).2.1); (case side3 => repeat first | exact (Kd.V_reads' HO680.out).2.2 | refine Kd.C_drewN ?_ _ | refine Kd.C_alloc ?_ _ | refine Kd.C_drew ?_); (case side4 => exact (Kd.V_reads' HO680.out).2.1); rintro e w31 ⟨v689, rfl, ho0, hb⟩; refine ⟨_, rfl, ?_⟩; have n0_ := Aside0.mk (Kd.V_elder' (zv HO670 rfl) (Kd.R_base ho0) hb); have n1_ := Aside0.mk (Kd.V_elder' (zv HO673 rfl) (Kd.R_base ho0) hb); have n2_ := Aside0.mk (Kd.V_elder' (zv HO677 rfl) (Kd.R_base ho0) hb); have n3_ := Aside0.mk (Kd.V_elder' (zv HO680 rfl) (Kd.R_base ho0) hb); have n4_ := Aside0.mk (Kd.R_elder' (zr HO684 rfl) (Kd.R_base ho0) hb); have n5_ := Aside0.mk (Kd.R_elder' (zr HO687 rfl) (Kd.R_base ho0) hb); have n6_ := Aside0.mk (Kd.R_lower (Kd.R_new' (Kd.R_new' ho0 (Kd.R_lt (zr HO684 rfl))) (Kd.R_lt (zr HO687 rfl))) (below_size (zb HB rfl))); have n7_ := Aside0.mk (blk_below BK664.out hb); have n8_ := Aside0.mk (blk_below BK665.out hb); have n9_ := Aside0.mk (blk_below BK666.out hb); have n10_ := Aside0.mk (below_step (zb HB rfl) hb); clear HO670; clear HO673; clear HO677; clear HO680; clear HO684; clear HO687; clear BK664; clear BK665; clear BK666; clear HB; have HO670 := n0_; have HO673 := n1_; have HO677 := n2_; have HO680 := n3_; have HO684 := n4_; have HO687 := n5_; have HO690 := n6_; have BK664 := n7_; have BK665 := n8_; have BK666 := n9_; have HB := n10_; clear n0_ n1_ n2_ n3_ n4_ n5_ n6_ n7_ n8_ n9_ n10_; obtain ⟨Ao32, co32, eo32⟩ := Kd.R_slice HO684.out; subst eo32; obtain ⟨Ao33, co33, eo33⟩ := Kd.R_slice HO687.out; subst eo33) | ((with_reducible refine gate_callee (f := 69) rfl ?_); refine goesL_ (some 58) rfl rfl Tryd.func69 (by kernel_rfl) rfl #[.slice Ao32 t682.length co32, .slice Ao33 t685.length co33] rfl (by first | rfl | (go_simp; first | done | rfl | omega)) ?_; (with_reducible refine (bignat_Sub.calls k _ _ t682 _ _ t685 t691 true _ ?side1 ?side2 ?side3 ?side4 A11.out).mono ?_); (case side1 => repeat first | exact (Kd.R_reads' HO684.out).2.2 | refine Kd.C_drewN ?_ _ | refine Kd.C_alloc ?_ _ | refine Kd.C_drew ?_); (case side2 => exact (Kd.R_reads' HO684.out).2.1); (case side3 => repeat first | exact (Kd.R_reads' HO687.out).2.2 | refine Kd.C_drewN ?_ _ | refine Kd.C_alloc ?_ _ | refine Kd.C_drew ?_); (case side4 => exact (Kd.R_reads' HO687.out).2.1); rintro e w34 ⟨v693, rfl, ho0, hb⟩; refine ⟨_, rfl, ?_⟩; have n0_ := Aside0.mk (Kd.V_elder' (zv HO670 rfl) (Kd.R_base ho0) hb); have n1_ := Aside0.mk (Kd.V_elder' (zv HO673 rfl) (Kd.R_base ho0) hb); have n2_ := Aside0.mk (Kd.V_elder' (zv HO677 rfl) (Kd.R_base ho0) hb); have n3_ := Aside0.mk (Kd.V_elder' (zv HO680 rfl) (Kd.R_base ho0) hb); have n4_ := Aside0.mk (Kd.R_elder' (zr HO684 rfl) (Kd.R_base ho0) hb); have n5_ := Aside0.mk (Kd.R_elder' (zr HO687 rfl) (Kd.R_base ho0) hb); have n6_ := Aside0.mk (Kd.R_elder' (zr HO690 rfl) (Kd.R_base ho0) hb); have n7_ := Aside0.mk (Kd.R_lower (Kd.R_new' (Kd.R_new' (Kd.R_new' ho0 (Kd.R_lt (zr HO684 rfl))) (Kd.R_lt (zr HO687 rfl))) (Kd.R_lt (zr HO690 rfl))) (below_size (zb HB rfl))); have n8_ := Aside0.mk (blk_below BK664.out hb); have n9_ := Aside0.mk (blk_below BK665.out hb); have n10_ := Aside0.mk (blk_below BK666.out hb); have n11_ := Aside0.mk (below_step (zb HB rfl) hb); clear HO670; clear HO673; clear HO677; clear HO680; clear HO684; clear HO687; clear HO690; clear BK664; clear BK665; clear BK666; clear HB; have HO670 := n0_; have HO673 := n1_; have HO677 := n2_; have HO680 := n3_; have HO684 := n4_; have HO687 := n5_; have HO690 := n6_; have HO694 := n7_; have BK664 := n8_; have BK665 := n9_; have BK666 := n10_; have HB := n11_; clear n0_ n1_ n2_ n3_ n4_ n5_ n6_ n7_ n8_ n9_ n10_ n11_; obtain ⟨Ao35, co35, eo35⟩ := Kd.R_slice HO694.out; subst eo35; obtain ⟨Ao36, co36, eo36⟩ := Kd.R_slice HO690.out; subst eo36) | ((with_reducible refine gate_callee (f := 46) rfl ?_); refine goesL_ (some 65) rfl rfl Tryd.func46 (by kernel_rfl) rfl #[.bool t667, .slice Ao35 t691.length co35, .slice Ao36 t688.length co36] rfl (by first | rfl | (go_simp; first | done | rfl | omega)) ?_; (with_reducible refine (rational_reduce.calls k t667 _ _ t691 _ _ t688 t695 t696 t699 _ ?side1 ?side2 ?side3 ?side4 A13.out).mono ?_); (case side1 => repeat first | exact (Kd.R_reads' HO694.out).2.2 | refine Kd.C_drewN ?_ _ | refine Kd.C_alloc ?_ _ | refine Kd.C_drew ?_); (case side2 => exact (Kd.R_reads' HO694.out).2.1); (case side3 => repeat first | exact (Kd.R_reads' HO690.out).2.2 | refine Kd.C_drewN ?_ _ | refine Kd.C_alloc ?_ _ | refine Kd.C_drew ?_); (case side4 => exact (Kd.R_reads' HO690.out).2.1); rintro e w37 ⟨v697, v700, rfl, ho0, ho1, hb⟩; refine ⟨_, rfl, ?_⟩; have n0_ := Aside0.mk (Kd.V_mono (Kd.V_told (Kd.V_told (Kd.V_old (zv HO670 rfl) hb) (Kd.R_base ho0)) (Kd.R_base ho1)) (fun _ h_ => h_.1)); have n1_ := Aside0.mk (Kd.V_mono (Kd.V_told (Kd.V_told (Kd.V_old (zv HO673 rfl) hb) (Kd.R_base ho0)) (Kd.R_base ho1)) (fun _ h_ => h_.1)); have n2_ := Aside0.mk (Kd.V_mono (Kd.V_told (Kd.V_told (Kd.V_old (zv HO677 rfl) hb) (Kd.R_base ho0)) (Kd.R_base ho1)) (fun _ h_ => h_.1)); have n3_ := Aside0.mk (Kd.V_mono (Kd.V_told (Kd.V_told (Kd.V_old (zv HO680 rfl) hb) (Kd.R_base ho0)) (Kd.R_base ho1)) (fun _ h_ => h_.1)); have n4_ := Aside0.mk (Kd.R_mono (Kd.R_told (Kd.R_told (Kd.R_old (zr HO684 rfl) hb) (Kd.R_base ho0)) (Kd.R_base ho1)) (fun _ h_ => h_.1)); have n5_ := Aside0.mk (Kd.R_mono (Kd.R_told (Kd.R_told (Kd.R_old (zr HO687 rfl) hb) (Kd.R_base ho0)) (Kd.R_base ho1)) (fun _ h_ => h_.1)); have n6_ := Aside0.mk (Kd.R_mono (Kd.R_told (Kd.R_told (Kd.R_old (zr HO690 rfl) hb) (Kd.R_base ho0)) (Kd.R_base ho1)) (fun _ h_ => h_.1)); have n7_ := Aside0.mk (Kd.R_mono (Kd.R_told (Kd.R_told (Kd.R_old (zr HO694 rfl) hb) (Kd.R_base ho0)) (Kd.R_base ho1)) (fun _ h_ => h_.1)); have n8_ := Aside0.mk (Kd.R_lower (Kd.R_new' (Kd.R_new' (Kd.R_new' (Kd.R_new' ho0 (Kd.R_lt (zr HO684 rfl))) (Kd.R_lt (zr HO687 rfl))) (Kd.R_lt (zr HO690 rfl))) (Kd.R_lt (zr HO694 rfl))) (below_size (zb HB rfl))); have n9_ := Aside0.mk (Kd.R_lower (Kd.R_new' (Kd.R_new' (Kd.R_new' (Kd.R_new' ho1 (Kd.R_lt (zr HO684 rfl))) (Kd.R_lt (zr HO687 rfl))) (Kd.R_lt (zr HO690 rfl))) (Kd.R_lt (zr HO694 rfl))) (below_size (zb HB rfl))); have n10_ := Aside0.mk (blk_below BK664.out hb); have n11_ := Aside0.mk (blk_below BK665.out hb); have n12_ := Aside0.mk (blk_below BK666.out hb); have n13_ := Aside0.mk (below_step (zb HB rfl) hb); clear HO670; clear HO673; clear HO677; clear HO680; clear HO684; clear HO687; clear HO690; clear HO694; clear BK664; clear BK665; clear BK666; clear HB; have HO670 := n0_; have HO673 := n1_; have HO677 := n2_; have HO680 := n3_; have HO684 := n4_; have HO687 := n5_; have HO690 := n6_; have HO694 := n7_; have HO698 := n8_; have HO701 := n9_; have BK664 := n10_; have BK665 := n11_; have BK666 := n12_; have HB := n13_; clear n0_ n1_ n2_ n3_ n4_ n5_ n6_ n7_ n8_ n9_ n10_ n11_ n12_ n13_; have hcz38_0 : w37.cell? ⟨gb666, 0, none⟩ = some (.bool false) := (blk_cell BK666.out 0).trans rfl; have hcz38_1 : w37.cell? ⟨gb666, 1, none⟩ = some (.slice none 0 0) := (blk_cell BK666.out 1).trans rfl; have hcz38_2 : w37.cell? ⟨gb666, 2, none⟩ = some (.slice none 0 0) := (blk_cell BK666.out 2).trans rfl; have hfz38_0 := blk_frozen BK666.out 0; have hfz38_1 := blk_frozen BK666.out 1; have hfz38_2 := blk_frozen BK666.out 2; obtain ⟨Ao39, co39, eo39⟩ := Kd.R_slice HO698.out; subst eo39; obtain ⟨Ao40, co40, eo40⟩ := Kd.R_slice HO701.out; subst eo40))
    refine bodyPost_ret (results_cell_row rfl _ _ gb666 25 #[.bool t695, .slice Ao39 t696.length co39, .slice Ao40 t699.length co40] (0, 0) _ rfl (by (with_reducible repeat (first | refine blk_drewN ?_ _ | refine blk_drew ?_ | refine blk_alloc ?_ _)); refine blk_put (cs := #[.bool t695, .slice Ao39 t696.length co39, .slice none 0 0]) ?_ 2 _ rfl; (with_reducible repeat (first | refine blk_drewN ?_ _ | refine blk_drew ?_ | refine blk_alloc ?_ _)); refine blk_put (cs := #[.bool t695, .slice none 0 0, .slice none 0 0]) ?_ 1 _ rfl; (with_reducible repeat (first | refine blk_drewN ?_ _ | refine blk_drew ?_ | refine blk_alloc ?_ _)); refine blk_put (cs := #[.bool false, .slice none 0 0, .slice none 0 0]) ?_ 0 _ rfl; (with_reducible repeat (first | refine blk_drewN ?_ _ | refine blk_drew ?_ | refine blk_alloc ?_ _)); exact BK666.out) Tryd.underlying25 rfl (by kernel_rfl)) rfl ?_
    exact ⟨_, _, by first | rfl | (simp [*, errW_none, errW_some] <;> rfl), by (with_reducible repeat (first | apply Kd.R_alloc | apply Kd.R_drewN | apply Kd.R_drew)); exact Kd.R_mono (Kd.R_far (p := ⟨gb666, 2, none⟩) (Kd.R_far (p := ⟨gb666, 1, none⟩) (Kd.R_far (p := ⟨gb666, 0, none⟩) (Kd.R_types HO698.out BK666.out (by decide)) (fun _ hk => hk.2) (.bool t695)) (fun _ hk => hk.2) (.slice Ao39 t696.length co39)) (fun _ hk => hk.2) (.slice Ao40 t699.length co40)) (fun _ hk => hk.1.1.1.1.1), by (with_reducible repeat (first | apply Kd.R_alloc | apply Kd.R_drewN | apply Kd.R_drew)); exact Kd.R_mono (Kd.R_far (p := ⟨gb666, 2, none⟩) (Kd.R_far (p := ⟨gb666, 1, none⟩) (Kd.R_far (p := ⟨gb666, 0, none⟩) (Kd.R_types HO701.out BK666.out (by decide)) (fun _ hk => hk.2) (.bool t695)) (fun _ hk => hk.2) (.slice Ao39 t696.length co39)) (fun _ hk => hk.2) (.slice Ao40 t699.length co40)) (fun _ hk => hk.1.1.1.1.1), by repeat (first | (with_reducible first | exact HB.out | apply below_alloc | apply pw_below_drewN | apply below_drew1 | refine below_set ?_ GE664.out | refine below_set ?_ GE665.out | refine below_set ?_ GE666.out) | exact HB.out)⟩
   ·
    replace c12 := Bool.eq_false_iff.mpr c12
    subst c12
    have H1 : (none) = some (r1, r2, r3) := by rw [if_neg (show ¬ (false = true) by decide)] at H; exact H
    clear H
    have H := H1
    clear H1
    exact absurd H (by simp)

def rational_Sign.f (k : Nat) (a0_0 : Bool) (l0_1 : List Int) (l0_2 : List Int) : Option (Int) := (rational_parts.f k a0_0 l0_1 l0_2).bind fun bt703 => ((bignat_BitLen.f k bt703.2.1).bind fun t710 => (if t710 = 0 then (none) else (if bt703.1 = true then (some (-1)) else (some 1))))
theorem rational_Sign.mono : ∀ a0 a1 a2 k, LeO (rational_Sign.f k a0 a1 a2) (rational_Sign.f (k + 1) a0 a1 a2) := by
 intro a0 a1 a2 k
 unfold rational_Sign.f
 repeat' first
   | (with_reducible exact bignat_BitLen.mono _ _)
   | (with_reducible exact rational_parts.mono _ _ _ _)
   | (with_reducible exact LeO.refl _)
   | (with_reducible exact LeO.none _)
   | (with_reducible refine LeO.ite ?_ ?_)
   | (with_reducible refine LeO.bind ?_ (fun _ => ?_))
   | exact LeO.none _
   | refine LeO.ite ?_ ?_
   | refine LeO.bind ?_ (fun _ => ?_)
set_option maxHeartbeats 8000000 in
set_option maxRecDepth 100000 in
theorem rational_Sign.calls (k : Nat) (a0_0 : Bool) (A0_1 : Option Addr) (c0_1 : Nat) (l0_1 : List Int) (A0_2 : Option Addr) (c0_2 : Nat) (l0_2 : List Int) (r : Int) (w : World) (hr0_1 : Kd.C (Kd.int .u32) w A0_1 l0_1.length l0_1) (hc0_1 : l0_1.length ≤ c0_1) (hr0_2 : Kd.C (Kd.int .u32) w A0_2 l0_2.length l0_2) (hc0_2 : l0_2.length ≤ c0_2) (h : rational_Sign.f k a0_0 l0_1 l0_2 = some r) :
  Calls Tryd.prog 27 #[.agg #[.bool a0_0, .slice A0_1 l0_1.length c0_1, .slice A0_2 l0_2.length c0_2]] w fun e w' => e = .returned (.int .i64 r) ∧ Below w.heap.size w w' := by
 have hu25 := Tryd.underlying25
 have HR0_1 := Aside0.mk hr0_1
 have HC0_1 := Aside0.mk hc0_1
 clear hr0_1 hc0_1
 have HR0_2 := Aside0.mk hr0_2
 have HC0_2 := Aside0.mk hc0_2
 clear hr0_2 hc0_2
 have HB := Aside0.mk (Below.refl w.heap.size w)
 have H : ((rational_parts.f k a0_0 l0_1 l0_2).bind fun bt703 => ((bignat_BitLen.f k bt703.2.1).bind fun t710 => (if t710 = 0 then (none) else (if bt703.1 = true then (some (-1)) else (some 1))))) = some r := h
 clear h
 replace H := Option.bind_eq_some_iff.mp H
 obtain ⟨⟨t703, t704, t707⟩, A20, H⟩ := H
 replace H : ((bignat_BitLen.f k t704).bind fun t710 => (if t710 = 0 then (none) else (if t703 = true then (some (-1)) else (some 1)))) = some r := H
 have A2 := Aside0.mk A20
 clear A20
 replace H := Option.bind_eq_some_iff.mp H
 obtain ⟨t710, A30, H⟩ := H
 replace H : (if t710 = 0 then (none) else (if t703 = true then (some (-1)) else (some 1))) = some r := H
 have A3 := Aside0.mk A30
 clear A30
 by_cases c4 : t710 = 0
 ·
  rw [if_pos c4] at H
  exact absurd H (by simp)
 ·
  rw [if_neg c4] at H
  have c4b0 : (t710 == 0) = false := beq_eq_false_iff_ne.mpr c4
  have c4b1 : (t710 != 0) = true := bne_iff_ne.mpr c4
  by_cases c5 : t703 = true
  ·
   subst c5
   have H1 : (some (-1)) = some r := by rw [if_pos rfl] at H; exact H
   clear H
   have H := H1
   clear H1
   obtain rfl := Option.some.inj H
   go_enter Tryd.func27, Tryd.ntmps27
   go_wp2_with (first | ((with_reducible refine gate_dst (N := 1) rfl ?_); refine box_event ?hg (N := 1) ?hd (cs := #[.bool a0_0, .slice A0_1 l0_1.length c0_1, .slice A0_2 l0_2.length c0_2]) (t := 25) ?hr ?_; (case hd => rfl); (case hg => rfl); (case hr => first | (go_simp; done) | (go_simp; rfl)); intro gb702 hg w6 hbox hb; have n0_ := Aside0.mk (below_step (zb HB rfl) hb); have n1_ := Aside0.mk (hbox); have n2_ := Aside0.mk ((by rw [hg]; exact (below_size (zb HB rfl)) : w.heap.size ≤ gb702)); have n3_ := Aside0.mk ((by rw [hg]; exact (below_size (zb HB rfl)) : w.heap.size ≤ gb702)); clear HB; have HB := n0_; have BK702 := n1_; have GW702 := n2_; have GE702 := n3_; clear n0_ n1_ n2_ n3_; clear hb hbox hg; have hcz7_0 : w6.cell? ⟨gb702, 0, none⟩ = some (.bool a0_0) := (blk_cell BK702.out 0).trans rfl; have hcz7_1 : w6.cell? ⟨gb702, 1, none⟩ = some (.slice A0_1 l0_1.length c0_1) := (blk_cell BK702.out 1).trans rfl; have hcz7_2 : w6.cell? ⟨gb702, 2, none⟩ = some (.slice A0_2 l0_2.length c0_2) := (blk_cell BK702.out 2).trans rfl; have hfz7_0 := blk_frozen BK702.out 0; have hfz7_1 := blk_frozen BK702.out 1; have hfz7_2 := blk_frozen BK702.out 2) | ((with_reducible refine gate_callee (f := 66) rfl ?_); refine goesL_ (some 8) rfl rfl Tryd.func66 (by kernel_rfl) rfl #[.agg #[.bool a0_0, .slice A0_1 l0_1.length c0_1, .slice A0_2 l0_2.length c0_2]] rfl (by first | rfl | (go_simp; first | done | rfl | omega)) ?_; (with_reducible refine (rational_parts.calls k a0_0 (fun k_ => k_ < w.heap.size) _ _ l0_1 (fun k_ => k_ < w.heap.size) _ _ l0_2 true t704 t707 _ ?side1 ?side2 A2.out).mono ?_); (case side1 => exact Kd.V_mk HC0_1.out (Kd.F_below (Kd.C_F (Kd.heap_int .u32) HR0_1.out) (zb HB rfl))); (case side2 => exact Kd.V_mk HC0_2.out (Kd.F_below (Kd.C_F (Kd.heap_int .u32) HR0_2.out) (zb HB rfl))); rintro e w8 ⟨v705, v708, rfl, ho0, ho1, hb⟩; refine ⟨_, rfl, ?_⟩; have n0_ := Aside0.mk (Kd.V_lower (Kd.V_mono (ok' := fun k_ => k_ ≠ gb702) ho0 (fun k_ hk_ => Or.elim hk_ (fun hs_ => Or.elim hs_ (fun hs_ => fun e_ => Nat.not_le.2 hs_ (by rw [e_]; exact GW702.out)) (fun hs_ => fun e_ => Nat.not_le.2 hs_ (by rw [e_]; exact GW702.out))) (fun hn_ => (Kd.freshB BK702.out k_ hn_)))) (below_size (zb HB rfl))); have n1_ := Aside0.mk (Kd.V_lower (Kd.V_mono (ok' := fun k_ => k_ ≠ gb702) ho1 (fun k_ hk_ => Or.elim hk_ (fun hs_ => Or.elim hs_ (fun hs_ => fun e_ => Nat.not_le.2 hs_ (by rw [e_]; exact GW702.out)) (fun hs_ => fun e_ => Nat.not_le.2 hs_ (by rw [e_]; exact GW702.out))) (fun hn_ => (Kd.freshB BK702.out k_ hn_)))) (below_size (zb HB rfl))); have n2_ := Aside0.mk (blk_below BK702.out hb); have n3_ := Aside0.mk (below_step (zb HB rfl) hb); clear BK702; clear HB; have HO706 := n0_; have HO709 := n1_; have BK702 := n2_; have HB := n3_; clear n0_ n1_ n2_ n3_; obtain ⟨Ao9, co9, eo9⟩ := Kd.V_slice HO706.out; subst eo9) | ((with_reducible refine gate_callee (f := 70) rfl ?_); refine goesL_ (some 14) rfl rfl Tryd.func70 (by kernel_rfl) rfl #[.slice Ao9 t704.length co9] rfl (by first | rfl | (go_simp; first | done | rfl | omega)) ?_; (with_reducible refine (bignat_BitLen.calls k _ _ t704 t710 _ ?side1 ?side2 A3.out).mono ?_); (case side1 => repeat first | exact (Kd.V_reads' HO706.out).2.2 | refine Kd.C_drewN ?_ _ | refine Kd.C_alloc ?_ _ | refine Kd.C_drew ?_); (case side2 => exact (Kd.V_reads' HO706.out).2.1); rintro e w10 ⟨rfl, hb⟩; refine ⟨_, rfl, ?_⟩; have n0_ := Aside0.mk (Kd.V_below (zv HO706 rfl) hb); have n1_ := Aside0.mk (Kd.V_below (zv HO709 rfl) hb); have n2_ := Aside0.mk (blk_below BK702.out hb); have n3_ := Aside0.mk (below_step (zb HB rfl) hb); clear HO706; clear HO709; clear BK702; clear HB; have HO706 := n0_; have HO709 := n1_; have BK702 := n2_; have HB := n3_; clear n0_ n1_ n2_ n3_))
   go_ret
   exact ⟨by first | rfl | (simp [*, errW_none, errW_some] <;> rfl), by repeat (first | (with_reducible first | exact HB.out | apply below_alloc | apply pw_below_drewN | apply below_drew1 | refine below_set ?_ GE702.out) | exact HB.out)⟩
  ·
   replace c5 := Bool.eq_false_iff.mpr c5
   subst c5
   have H1 : (some 1) = some r := by rw [if_neg (show ¬ (false = true) by decide)] at H; exact H
   clear H
   have H := H1
   clear H1
   obtain rfl := Option.some.inj H
   go_enter Tryd.func27, Tryd.ntmps27
   go_wp2_with (first | ((with_reducible refine gate_dst (N := 1) rfl ?_); refine box_event ?hg (N := 1) ?hd (cs := #[.bool a0_0, .slice A0_1 l0_1.length c0_1, .slice A0_2 l0_2.length c0_2]) (t := 25) ?hr ?_; (case hd => rfl); (case hg => rfl); (case hr => first | (go_simp; done) | (go_simp; rfl)); intro gb702 hg w11 hbox hb; have n0_ := Aside0.mk (below_step (zb HB rfl) hb); have n1_ := Aside0.mk (hbox); have n2_ := Aside0.mk ((by rw [hg]; exact (below_size (zb HB rfl)) : w.heap.size ≤ gb702)); have n3_ := Aside0.mk ((by rw [hg]; exact (below_size (zb HB rfl)) : w.heap.size ≤ gb702)); clear HB; have HB := n0_; have BK702 := n1_; have GW702 := n2_; have GE702 := n3_; clear n0_ n1_ n2_ n3_; clear hb hbox hg; have hcz12_0 : w11.cell? ⟨gb702, 0, none⟩ = some (.bool a0_0) := (blk_cell BK702.out 0).trans rfl; have hcz12_1 : w11.cell? ⟨gb702, 1, none⟩ = some (.slice A0_1 l0_1.length c0_1) := (blk_cell BK702.out 1).trans rfl; have hcz12_2 : w11.cell? ⟨gb702, 2, none⟩ = some (.slice A0_2 l0_2.length c0_2) := (blk_cell BK702.out 2).trans rfl; have hfz12_0 := blk_frozen BK702.out 0; have hfz12_1 := blk_frozen BK702.out 1; have hfz12_2 := blk_frozen BK702.out 2) | ((with_reducible refine gate_callee (f := 66) rfl ?_); refine goesL_ (some 8) rfl rfl Tryd.func66 (by kernel_rfl) rfl #[.agg #[.bool a0_0, .slice A0_1 l0_1.length c0_1, .slice A0_2 l0_2.length c0_2]] rfl (by first | rfl | (go_simp; first | done | rfl | omega)) ?_; (with_reducible refine (rational_parts.calls k a0_0 (fun k_ => k_ < w.heap.size) _ _ l0_1 (fun k_ => k_ < w.heap.size) _ _ l0_2 false t704 t707 _ ?side1 ?side2 A2.out).mono ?_); (case side1 => exact Kd.V_mk HC0_1.out (Kd.F_below (Kd.C_F (Kd.heap_int .u32) HR0_1.out) (zb HB rfl))); (case side2 => exact Kd.V_mk HC0_2.out (Kd.F_below (Kd.C_F (Kd.heap_int .u32) HR0_2.out) (zb HB rfl))); rintro e w13 ⟨v705, v708, rfl, ho0, ho1, hb⟩; refine ⟨_, rfl, ?_⟩; have n0_ := Aside0.mk (Kd.V_lower (Kd.V_mono (ok' := fun k_ => k_ ≠ gb702) ho0 (fun k_ hk_ => Or.elim hk_ (fun hs_ => Or.elim hs_ (fun hs_ => fun e_ => Nat.not_le.2 hs_ (by rw [e_]; exact GW702.out)) (fun hs_ => fun e_ => Nat.not_le.2 hs_ (by rw [e_]; exact GW702.out))) (fun hn_ => (Kd.freshB BK702.out k_ hn_)))) (below_size (zb HB rfl))); have n1_ := Aside0.mk (Kd.V_lower (Kd.V_mono (ok' := fun k_ => k_ ≠ gb702) ho1 (fun k_ hk_ => Or.elim hk_ (fun hs_ => Or.elim hs_ (fun hs_ => fun e_ => Nat.not_le.2 hs_ (by rw [e_]; exact GW702.out)) (fun hs_ => fun e_ => Nat.not_le.2 hs_ (by rw [e_]; exact GW702.out))) (fun hn_ => (Kd.freshB BK702.out k_ hn_)))) (below_size (zb HB rfl))); have n2_ := Aside0.mk (blk_below BK702.out hb); have n3_ := Aside0.mk (below_step (zb HB rfl) hb); clear BK702; clear HB; have HO706 := n0_; have HO709 := n1_; have BK702 := n2_; have HB := n3_; clear n0_ n1_ n2_ n3_; obtain ⟨Ao14, co14, eo14⟩ := Kd.V_slice HO706.out; subst eo14) | ((with_reducible refine gate_callee (f := 70) rfl ?_); refine goesL_ (some 14) rfl rfl Tryd.func70 (by kernel_rfl) rfl #[.slice Ao14 t704.length co14] rfl (by first | rfl | (go_simp; first | done | rfl | omega)) ?_; (with_reducible refine (bignat_BitLen.calls k _ _ t704 t710 _ ?side1 ?side2 A3.out).mono ?_); (case side1 => repeat first | exact (Kd.V_reads' HO706.out).2.2 | refine Kd.C_drewN ?_ _ | refine Kd.C_alloc ?_ _ | refine Kd.C_drew ?_); (case side2 => exact (Kd.V_reads' HO706.out).2.1); rintro e w15 ⟨rfl, hb⟩; refine ⟨_, rfl, ?_⟩; have n0_ := Aside0.mk (Kd.V_below (zv HO706 rfl) hb); have n1_ := Aside0.mk (Kd.V_below (zv HO709 rfl) hb); have n2_ := Aside0.mk (blk_below BK702.out hb); have n3_ := Aside0.mk (below_step (zb HB rfl) hb); clear HO706; clear HO709; clear BK702; clear HB; have HO706 := n0_; have HO709 := n1_; have BK702 := n2_; have HB := n3_; clear n0_ n1_ n2_ n3_))
   go_ret
   exact ⟨by first | rfl | (simp [*, errW_none, errW_some] <;> rfl), by repeat (first | (with_reducible first | exact HB.out | apply below_alloc | apply pw_below_drewN | apply below_drew1 | refine below_set ?_ GE702.out) | exact HB.out)⟩

end Go.Proofs.YtoeldfopjalpkaaDoor.Q

