/- Lemmas for the proof of one law of this seat (Qx17). -/
import Derived.Test.YtjiaplnpgjicgaaZBignatArithQx0
import Derived.Test.YtjiaplnpgjicgaaZBignatArithQx1
import Derived.Test.YtjiaplnpgjicgaaZBignatArithQx3
import Derived.Test.YtjiaplnpgjicgaaZBignatArithQx6
import Derived.Test.YtjiaplnpgjicgaaZBignatArithQx7
import Derived.Test.YtjiaplnpgjicgaaZBignatArithQx10
import Derived.Test.YtjiaplnpgjicgaaZBignatArithQx15
import Derived.Test.YtjiaplnpgjicgaaZBignatArithSq
namespace Go.Proofs.Ytjiaplnpgjicgaa.Q
open Go.RowKit Go.Proofs.YtjiaplnpgjicgaaW.PrintWords Go.Proofs.YtjiaplnpgjicgaaW.PrintLast Go.Proofs.YtjiaplnpgjicgaaW.PrintMore
attribute [local go_sem] max2_int min2_int max_two min_two max_three min_three max_four min_four   -- for this text's walks alone
set_option linter.unusedVariables false
set_option linter.unusedSimpArgs false

def credencelaw1_BignatLimits.f (k : Nat)  : Option (Bool) := (bignat_FromUint64.f 2).bind fun t791 => ((bignat_Pow.f k t791 65535).bind fun bt794 => ((bignat_Pow.f k t791 65536).bind fun bt798 => ((bignat_FromUint64.f 1).bind fun t802 => ((bignat_Pow.f k t802 1099511627776).bind fun bt805 => ((bignat_Pow.f k ([] : List Int) 1099511627776).bind fun bt809 => ((bignat_Pow.f k ([] : List Int) 0).bind fun bt813 => (if bt794.2 = 0 then ((bignat_BitLen.f k bt794.1).bind fun t817 => (if t817 = 65536 then (if bt798.2 = 4 then (if bt805.2 = 0 then ((bignat_FromUint64.f 1).bind fun t818 => ((credencelaw1_same.f k bt805.1 t818).bind fun t821 => (if t821 = true then (if bt809.2 = 0 then (if (bt809.1.length : Int) = 0 then (if bt813.2 = 0 then ((bignat_FromUint64.f 1).bind fun t822 => ((credencelaw1_same.f k bt813.1 t822).bind fun t825 => (if t825 = true then ((credencelaw1_known.f k).bind fun t826 => (some t826)) else (some false)))) else (some false)) else (some false)) else (some false)) else (some false)))) else (some false)) else (some false)) else (some false))) else (some false))))))))
theorem credencelaw1_BignatLimits.mono : ∀ k, LeO (credencelaw1_BignatLimits.f k ) (credencelaw1_BignatLimits.f (k + 1) ) := by
 intro  k
 unfold credencelaw1_BignatLimits.f
 repeat' first
   | (with_reducible exact bignat_BitLen.mono _ _)
   | (with_reducible exact bignat_Pow.mono _ _ _)
   | (with_reducible exact credencelaw1_known.mono _)
   | (with_reducible exact credencelaw1_same.mono _ _ _)
   | (with_reducible exact LeO.refl _)
   | (with_reducible exact LeO.none _)
   | (with_reducible refine LeO.ite ?_ ?_)
   | (with_reducible refine LeO.bind ?_ (fun _ => ?_))
   | exact bignat_BitLen.mono _ _
   | exact bignat_Pow.mono _ _ _
   | exact credencelaw1_known.mono _
   | exact credencelaw1_same.mono _ _ _
   | exact LeO.none _
   | refine LeO.ite ?_ ?_
   | refine LeO.bind ?_ (fun _ => ?_)

def credenceref1_NatUint64.l0 : Nat → List Int → Int → Int → Option (Int × Bool)
 | 0, _, _, _ => none
 | k + 1, x4, x5, x6 => if x6 ≥ 0 then (if 0 ≤ x6 then (if x6 < (x4.length : Int) then (credenceref1_NatUint64.l0 k x4 (IntKind.u64.wrap ((IntKind.u64.wrap (x5 * 4294967296)) + (IntKind.u64.wrap (rd x4 x6)))) (wrap64 (x6 - 1))) else (none)) else (none)) else (some (x5, true))
def credenceref1_NatUint64.f (k : Nat) (l0 : List Int) : Option (Int × Bool) := (credenceref1_NatNorm.f k l0).bind fun t827 => (if (t827.length : Int) > 2 then (some (0, false)) else (credenceref1_NatUint64.l0 k t827 0 (wrap64 ((t827.length : Int) - 1))))
theorem credenceref1_NatUint64.mono_l : ∀ k, (∀ y0 y1 y2, LeO (credenceref1_NatUint64.l0 k y0 y1 y2) (credenceref1_NatUint64.l0 (k + 1) y0 y1 y2))
 | 0 => fun _ _ _ r h => by simp [credenceref1_NatUint64.l0] at h
 | k + 1 => by
  have ih0 := credenceref1_NatUint64.mono_l k
  ·
   intro y0 y1 y2
   unfold credenceref1_NatUint64.l0
   repeat' first
   | (with_reducible exact ih0 _ _ _)
   | (with_reducible exact credenceref1_NatNorm.mono _ _)
   | (with_reducible exact LeO.refl _)
   | (with_reducible exact LeO.none _)
   | (with_reducible refine LeO.ite ?_ ?_)
   | (with_reducible refine LeO.bind ?_ (fun _ => ?_))
   | exact ih0 _ _ _
   | exact credenceref1_NatNorm.mono _ _
   | exact LeO.none _
   | refine LeO.ite ?_ ?_
   | refine LeO.bind ?_ (fun _ => ?_)
theorem credenceref1_NatUint64.mono : ∀ a0 k, LeO (credenceref1_NatUint64.f k a0) (credenceref1_NatUint64.f (k + 1) a0) := by
 intro a0 k
 have ih0 := credenceref1_NatUint64.mono_l k
 unfold credenceref1_NatUint64.f
 repeat' first
   | (with_reducible exact ih0 _ _ _)
   | (with_reducible exact credenceref1_NatNorm.mono _ _)
   | (with_reducible exact LeO.refl _)
   | (with_reducible exact LeO.none _)
   | (with_reducible refine LeO.ite ?_ ?_)
   | (with_reducible refine LeO.bind ?_ (fun _ => ?_))
   | exact ih0 _ _ _
   | exact credenceref1_NatNorm.mono _ _
   | exact LeO.none _
   | refine LeO.ite ?_ ?_
   | refine LeO.bind ?_ (fun _ => ?_)
set_option maxHeartbeats 8000000 in
set_option maxRecDepth 100000 in
theorem credenceref1_NatUint64.calls (k : Nat) (A0 : Option Addr) (c0 : Nat) (l0 : List Int) (r1 : Int) (r2 : Bool) (w : World) (hr0 : Kd.C (Kd.int .u32) w A0 l0.length l0) (hc0 : l0.length ≤ c0) (h : credenceref1_NatUint64.f k l0 = some (r1, r2)) :
  Calls Try.prog 31 #[.slice A0 l0.length c0] w fun e w' => e = .returned (.tuple #[.int .u64 r1, .bool r2]) ∧ Below w.heap.size w w' := by
 have HR0 := Aside0.mk hr0
 have HC0 := Aside0.mk hc0
 clear hr0 hc0
 have HB := Aside0.mk (Below.refl w.heap.size w)
 have H : ((credenceref1_NatNorm.f k l0).bind fun t827 => (if (t827.length : Int) > 2 then (some (0, false)) else (credenceref1_NatUint64.l0 k t827 0 (wrap64 ((t827.length : Int) - 1))))) = some (r1, r2) := h
 clear h
 replace H := Option.bind_eq_some_iff.mp H
 obtain ⟨t827, A20, H⟩ := H
 replace H : (if (t827.length : Int) > 2 then (some (0, false)) else (credenceref1_NatUint64.l0 k t827 0 (wrap64 ((t827.length : Int) - 1)))) = some (r1, r2) := H
 have A2 := Aside0.mk A20
 clear A20
 by_cases c3 : (t827.length : Int) > 2
 ·
  rw [if_pos c3] at H
  have c3b0 : decide (2 < (t827.length : Int)) = true := decide_eq_true c3
  have c3b1 : decide (2 < t827.length) = true := decide_eq_true (by omega)
  clear c3
  simp only [Option.some.injEq, Prod.mk.injEq] at H
  obtain ⟨rfl, rfl⟩ := H
  go_enter Try.func31, Try.ntmps31
  go_wp2_with (first | ((with_reducible refine gate_callee (f := 35) rfl ?_); refine goesL_ (some 8) rfl rfl Try.func35 (by kernel_rfl) rfl #[.slice A0 l0.length c0] rfl (by first | rfl | (go_simp; first | done | rfl | ((try simp only [IntKind.wrap_u8, IntKind.wrap_u32, IntKind.wrap_u64]); omega))) ?_; (with_reducible refine (credenceref1_NatNorm.calls k _ _ l0 t827 _ ?side1 ?side2 A2.out).mono ?_); (case side1 => repeat first | exact HR0.out | refine Kd.C_drewN ?_ _ | refine Kd.C_alloc ?_ _ | refine Kd.C_drew ?_); (case side2 => exact HC0.out); rintro e w4 ⟨v828, rfl, ho0, hb⟩; refine ⟨_, rfl, ?_⟩; have n0_ := Aside0.mk (Kd.R_lower ho0 (below_size (zb HB rfl))); have n1_ := Aside0.mk (below_step (zb HB rfl) hb); clear HB; have HO829 := n0_; have HB := n1_; clear n0_ n1_; obtain ⟨Ao5, co5, eo5⟩ := Kd.R_slice HO829.out; subst eo5))
  go_ret2
  exact ⟨by first | rfl | (simp [*, errW_none, errW_some] <;> rfl), by repeat (first | (with_reducible first | exact HB.out | apply below_alloc | apply pw_below_drewN | apply below_drew1) | exact HB.out)⟩
 ·
  rw [if_neg c3] at H
  have c3b0 : decide (2 < (t827.length : Int)) = false := decide_eq_false c3
  have c3b1 : decide (2 < t827.length) = false := decide_eq_false (by omega)
  clear c3
  have H' := Aside0.mk H
  clear H
  go_enter Try.func31, Try.ntmps31
  go_wp2_with (first | ((with_reducible refine gate_callee (f := 35) rfl ?_); refine goesL_ (some 8) rfl rfl Try.func35 (by kernel_rfl) rfl #[.slice A0 l0.length c0] rfl (by first | rfl | (go_simp; first | done | rfl | ((try simp only [IntKind.wrap_u8, IntKind.wrap_u32, IntKind.wrap_u64]); omega))) ?_; (with_reducible refine (credenceref1_NatNorm.calls k _ _ l0 t827 _ ?side1 ?side2 A2.out).mono ?_); (case side1 => repeat first | exact HR0.out | refine Kd.C_drewN ?_ _ | refine Kd.C_alloc ?_ _ | refine Kd.C_drew ?_); (case side2 => exact HC0.out); rintro e w6 ⟨v828, rfl, ho0, hb⟩; refine ⟨_, rfl, ?_⟩; have n0_ := Aside0.mk (Kd.R_lower ho0 (below_size (zb HB rfl))); have n1_ := Aside0.mk (below_step (zb HB rfl) hb); clear HB; have HO829 := n0_; have HB := n1_; clear n0_ n1_; obtain ⟨Ao7, co7, eo7⟩ := Kd.R_slice HO829.out; subst eo7))
  go_loopg [5, 6] k (fun kq v5 v6 w' => ∃ (x5_1 : Int) (x6_1 : Int), v5 = .int .u64 x5_1 ∧ v6 = .int .i64 x6_1 ∧ Aside0 (credenceref1_NatUint64.l0 kq t827 x5_1 x6_1 = some (r1, r2)) ∧ Aside0 (kq ≤ k) ∧ Aside0 (Kd.R (Kd.int .u32) 43 w' w.heap.size (fun _ => True) (.slice Ao7 t827.length co7) t827) ∧ Aside0 (Below w.heap.size w w'))
  case atStart => exact ⟨(0), (wrap64 ((t827.length : Int) - 1)), (by first | rfl | (simp [*]; done)), (by first | rfl | (simp [*]; done)), H', ⟨Nat.le_refl _⟩, ⟨by (with_reducible repeat (first | apply Kd.R_alloc | apply Kd.R_drewN | apply Kd.R_drew)); exact HO829.out⟩, ⟨by repeat (first | (with_reducible first | exact HB.out | apply below_alloc | apply pw_below_drewN | apply below_drew1) | exact HB.out)⟩⟩
  case round =>
   clear H'
   try clear p2
   try clear c3
   try clear c3b0
   try clear c3b1
   try clear p6
   obtain ⟨x5_1, x6_1, rfl, rfl, HA, HK1, HO_4, HB⟩ := hrel
   cases gk with
   | zero => exact absurd HA.out (by simp [credenceref1_NatUint64.l0])
   | succ k1 =>
    have H := HA.out
    clear HA
    simp only [credenceref1_NatUint64.l0] at H
    by_cases c8 : x6_1 ≥ 0
    ·
     rw [if_pos c8] at H
     have c8b0 : decide (0 ≤ x6_1) = true := decide_eq_true c8
     clear c8
     by_cases c9 : 0 ≤ x6_1
     ·
      rw [if_pos c9] at H
      have c9b0 : decide (0 ≤ x6_1) = true := decide_eq_true c9
      clear c9
      by_cases c10 : x6_1 < (t827.length : Int)
      ·
       rw [if_pos c10] at H
       have c10b0 : decide (x6_1 < (t827.length : Int)) = true := decide_eq_true c10
       clear c10
       have H' := Aside0.mk H
       clear H
       have p830 : 0 ≤ (x6_1 : Int) := of_decide_eq_true (by first | (with_reducible assumption) | assumption)
       have q830 : x6_1 < (t827.length : Int) := of_decide_eq_true (by first | (with_reducible assumption) | assumption)
       obtain ⟨ad830, e830, hx830_0⟩ := Kd.at_int (Kd.R_reads' HO_4.out).2.2 x6_1 p830 q830
       cases e830
       replace p830 := eq_true p830
       replace q830 := eq_true q830
       go_wp2
       go_roundg k1
       case measure => have := HK1.out; omega
       case rel => exact ⟨(IntKind.u64.wrap ((IntKind.u64.wrap (x5_1 * 4294967296)) + (IntKind.u64.wrap (rd t827 x6_1)))), (wrap64 (x6_1 - 1)), (by first | rfl | (simp [*]; done)), (by first | rfl | (simp [*]; done)), H', ⟨by have := HK1.out; omega⟩, ⟨by (with_reducible repeat (first | apply Kd.R_alloc | apply Kd.R_drewN | apply Kd.R_drew)); exact HO_4.out⟩, ⟨by repeat (first | (with_reducible first | exact HB.out | apply below_alloc | apply pw_below_drewN | apply below_drew1) | exact HB.out)⟩⟩
      ·
       rw [if_neg c10] at H
       exact absurd H (by simp)
     ·
      rw [if_neg c9] at H
      exact absurd H (by simp)
    ·
     rw [if_neg c8] at H
     have c8b0 : decide (0 ≤ x6_1) = false := decide_eq_false c8
     clear c8
     simp only [Option.some.injEq, Prod.mk.injEq] at H
     obtain ⟨rfl, rfl⟩ := H
     go_wp2
     go_ret2
     exact ⟨by first | rfl | (simp [*, errW_none, errW_some] <;> rfl), by repeat (first | (with_reducible first | exact HB.out | apply below_alloc | apply pw_below_drewN | apply below_drew1) | exact HB.out)⟩

def bignat_Sub.l0 : Nat → List Int → List Int → List Int → Int → Int → Int → Option (List Int × Bool)
 | 0, _, _, _, _, _, _ => none
 | k + 1, x0, x1, x6, x7, x22, x23 => if x23 < x22 then (if 0 ≤ x23 then (if x23 < (x0.length : Int) then (if x23 < (x1.length : Int) then (if x23 < (x6.length : Int) then (bignat_Sub.l0 k x0 x1 (x6.set (x23 : Int).toNat ((IntKind.u64.wrap ((IntKind.u64.wrap ((IntKind.u64.wrap (rd x0 x23)) - x7)) - (IntKind.u64.wrap (rd x1 x23)))) % 4294967296)) ((IntKind.u64.wrap ((IntKind.u64.wrap ((IntKind.u64.wrap (rd x0 x23)) - x7)) - (IntKind.u64.wrap (rd x1 x23)))) / 9223372036854775808) x22 (wrap64 (x23 + 1))) else (none)) else (if x23 < (x6.length : Int) then (bignat_Sub.l0 k x0 x1 (x6.set (x23 : Int).toNat ((IntKind.u64.wrap ((IntKind.u64.wrap (rd x0 x23)) - x7)) % 4294967296)) ((IntKind.u64.wrap ((IntKind.u64.wrap (rd x0 x23)) - x7)) / 9223372036854775808) x22 (wrap64 (x23 + 1))) else (none))) else (none)) else (none)) else ((bignat_trim.f k x6).bind fun t845 => (some (t845, true)))
def bignat_Sub.f (k : Nat) (l0 : List Int) (l1 : List Int) : Option (List Int × Bool) := (bignat_trim.f k l0).bind fun t831 => ((bignat_trim.f k l1).bind fun t834 => ((bignat_Cmp.f k t831 t834).bind fun t837 => (if t837 < 0 then (some (([] : List Int), false)) else (if 0 ≤ (t831.length : Int) then (if ((t831.length : Int) : Int).toNat ≤ 70368744177664 then (bignat_Sub.l0 k t831 t834 (List.replicate ((t831.length : Int) : Int).toNat 0) 0 (t831.length : Int) 0) else (none)) else (none)))))
theorem bignat_Sub.mono_l : ∀ k, (∀ y0 y1 y2 y3 y4 y5, LeO (bignat_Sub.l0 k y0 y1 y2 y3 y4 y5) (bignat_Sub.l0 (k + 1) y0 y1 y2 y3 y4 y5))
 | 0 => fun _ _ _ _ _ _ r h => by simp [bignat_Sub.l0] at h
 | k + 1 => by
  have ih0 := bignat_Sub.mono_l k
  ·
   intro y0 y1 y2 y3 y4 y5
   unfold bignat_Sub.l0
   repeat' first
   | (with_reducible exact ih0 _ _ _ _ _ _)
   | (with_reducible exact bignat_Cmp.mono _ _ _)
   | (with_reducible exact bignat_trim.mono _ _)
   | (with_reducible exact bignat_trim.mono _ _)
   | (with_reducible exact LeO.refl _)
   | (with_reducible exact LeO.none _)
   | (with_reducible refine LeO.ite ?_ ?_)
   | (with_reducible refine LeO.bind ?_ (fun _ => ?_))
   | exact ih0 _ _ _ _ _ _
   | exact bignat_Cmp.mono _ _ _
   | exact bignat_trim.mono _ _
   | exact bignat_trim.mono _ _
   | exact LeO.none _
   | refine LeO.ite ?_ ?_
   | refine LeO.bind ?_ (fun _ => ?_)
theorem bignat_Sub.mono : ∀ a0 a1 k, LeO (bignat_Sub.f k a0 a1) (bignat_Sub.f (k + 1) a0 a1) := by
 intro a0 a1 k
 have ih0 := bignat_Sub.mono_l k
 unfold bignat_Sub.f
 repeat' first
   | (with_reducible exact ih0 _ _ _ _ _ _)
   | (with_reducible exact bignat_Cmp.mono _ _ _)
   | (with_reducible exact bignat_trim.mono _ _)
   | (with_reducible exact bignat_trim.mono _ _)
   | (with_reducible exact LeO.refl _)
   | (with_reducible exact LeO.none _)
   | (with_reducible refine LeO.ite ?_ ?_)
   | (with_reducible refine LeO.bind ?_ (fun _ => ?_))
   | exact ih0 _ _ _ _ _ _
   | exact bignat_Cmp.mono _ _ _
   | exact bignat_trim.mono _ _
   | exact bignat_trim.mono _ _
   | exact LeO.none _
   | refine LeO.ite ?_ ?_
   | refine LeO.bind ?_ (fun _ => ?_)
set_option maxHeartbeats 8000000 in
set_option maxRecDepth 100000 in
theorem bignat_Sub.calls (k : Nat) (A0 : Option Addr) (c0 : Nat) (l0 : List Int) (A1 : Option Addr) (c1 : Nat) (l1 : List Int) (r1 : List Int) (r2 : Bool) (w : World) (hr0 : Kd.C (Kd.int .u32) w A0 l0.length l0) (hc0 : l0.length ≤ c0) (hr1 : Kd.C (Kd.int .u32) w A1 l1.length l1) (hc1 : l1.length ≤ c1) (h : bignat_Sub.f k l0 l1 = some (r1, r2)) :
  Calls Try.prog 32 #[.slice A0 l0.length c0, .slice A1 l1.length c1] w fun e w' => ∃ v0_ : Value, e = .returned (.tuple #[v0_, .bool r2]) ∧ Kd.R (Kd.int .u32) 43 w' w.heap.size (fun _ => True) v0_ r1 ∧ Below w.heap.size w w' := by
 have HR0 := Aside0.mk hr0
 have HC0 := Aside0.mk hc0
 clear hr0 hc0
 have HR1 := Aside0.mk hr1
 have HC1 := Aside0.mk hc1
 clear hr1 hc1
 have HB := Aside0.mk (Below.refl w.heap.size w)
 have H : ((bignat_trim.f k l0).bind fun t831 => ((bignat_trim.f k l1).bind fun t834 => ((bignat_Cmp.f k t831 t834).bind fun t837 => (if t837 < 0 then (some (([] : List Int), false)) else (if 0 ≤ (t831.length : Int) then (if ((t831.length : Int) : Int).toNat ≤ 70368744177664 then (bignat_Sub.l0 k t831 t834 (List.replicate ((t831.length : Int) : Int).toNat 0) 0 (t831.length : Int) 0) else (none)) else (none)))))) = some (r1, r2) := h
 clear h
 replace H := Option.bind_eq_some_iff.mp H
 obtain ⟨t831, A30, H⟩ := H
 replace H : ((bignat_trim.f k l1).bind fun t834 => ((bignat_Cmp.f k t831 t834).bind fun t837 => (if t837 < 0 then (some (([] : List Int), false)) else (if 0 ≤ (t831.length : Int) then (if ((t831.length : Int) : Int).toNat ≤ 70368744177664 then (bignat_Sub.l0 k t831 t834 (List.replicate ((t831.length : Int) : Int).toNat 0) 0 (t831.length : Int) 0) else (none)) else (none))))) = some (r1, r2) := H
 have A3 := Aside0.mk A30
 clear A30
 replace H := Option.bind_eq_some_iff.mp H
 obtain ⟨t834, A40, H⟩ := H
 replace H : ((bignat_Cmp.f k t831 t834).bind fun t837 => (if t837 < 0 then (some (([] : List Int), false)) else (if 0 ≤ (t831.length : Int) then (if ((t831.length : Int) : Int).toNat ≤ 70368744177664 then (bignat_Sub.l0 k t831 t834 (List.replicate ((t831.length : Int) : Int).toNat 0) 0 (t831.length : Int) 0) else (none)) else (none)))) = some (r1, r2) := H
 have A4 := Aside0.mk A40
 clear A40
 replace H := Option.bind_eq_some_iff.mp H
 obtain ⟨t837, A50, H⟩ := H
 replace H : (if t837 < 0 then (some (([] : List Int), false)) else (if 0 ≤ (t831.length : Int) then (if ((t831.length : Int) : Int).toNat ≤ 70368744177664 then (bignat_Sub.l0 k t831 t834 (List.replicate ((t831.length : Int) : Int).toNat 0) 0 (t831.length : Int) 0) else (none)) else (none))) = some (r1, r2) := H
 have A5 := Aside0.mk A50
 clear A50
 by_cases c6 : t837 < 0
 ·
  rw [if_pos c6] at H
  have c6b0 : decide (t837 < 0) = true := decide_eq_true c6
  clear c6
  simp only [Option.some.injEq, Prod.mk.injEq] at H
  obtain ⟨rfl, rfl⟩ := H
  go_enter Try.func32, Try.ntmps32
  go_wp2_with (first | ((with_reducible refine gate_callee (f := 47) rfl ?_); refine goesL_ (some 11) rfl rfl Try.func47 (by kernel_rfl) rfl #[.slice A0 l0.length c0] rfl (by first | rfl | (go_simp; first | done | rfl | ((try simp only [IntKind.wrap_u8, IntKind.wrap_u32, IntKind.wrap_u64]); omega))) ?_; (with_reducible refine (bignat_trim.calls k (fun k_ => k_ < w.heap.size) _ _ l0 t831 _ ?side1 A3.out).mono ?_); (case side1 => exact Kd.V_mk HC0.out (Kd.F_below (Kd.C_F (Kd.heap_int .u32) HR0.out) (zb HB rfl))); rintro e w7 ⟨v832, rfl, ho0, hb⟩; refine ⟨_, rfl, ?_⟩; have n0_ := Aside0.mk (Kd.V_lower (Kd.V_mono (ok' := fun k_ => True) ho0 (fun k_ hk_ => trivial)) (below_size (zb HB rfl))); have n1_ := Aside0.mk (below_step (zb HB rfl) hb); clear HB; have HO833 := n0_; have HB := n1_; clear n0_ n1_) | ((with_reducible refine gate_callee (f := 47) rfl ?_); refine goesL_ (some 13) rfl rfl Try.func47 (by kernel_rfl) rfl #[.slice A1 l1.length c1] rfl (by first | rfl | (go_simp; first | done | rfl | ((try simp only [IntKind.wrap_u8, IntKind.wrap_u32, IntKind.wrap_u64]); omega))) ?_; (with_reducible refine (bignat_trim.calls k (fun k_ => k_ < w.heap.size) _ _ l1 t834 _ ?side1 A4.out).mono ?_); (case side1 => exact Kd.V_mk HC1.out (Kd.F_below (Kd.C_F (Kd.heap_int .u32) HR1.out) (zb HB rfl))); rintro e w8 ⟨v835, rfl, ho0, hb⟩; refine ⟨_, rfl, ?_⟩; have n0_ := Aside0.mk (Kd.V_below (zv HO833 rfl) hb); have n1_ := Aside0.mk (Kd.V_lower (Kd.V_mono (ok' := fun k_ => True) ho0 (fun k_ hk_ => trivial)) (below_size (zb HB rfl))); have n2_ := Aside0.mk (below_step (zb HB rfl) hb); clear HO833; clear HB; have HO833 := n0_; have HO836 := n1_; have HB := n2_; clear n0_ n1_ n2_; obtain ⟨Ao9, co9, eo9⟩ := Kd.V_slice HO833.out; subst eo9; obtain ⟨Ao10, co10, eo10⟩ := Kd.V_slice HO836.out; subst eo10) | ((with_reducible refine gate_callee (f := 23) rfl ?_); refine goesL_ (some 16) rfl rfl Try.func23 (by kernel_rfl) rfl #[.slice Ao9 t831.length co9, .slice Ao10 t834.length co10] rfl (by first | rfl | (go_simp; first | done | rfl | ((try simp only [IntKind.wrap_u8, IntKind.wrap_u32, IntKind.wrap_u64]); omega))) ?_; (with_reducible refine (bignat_Cmp.calls k _ _ t831 _ _ t834 t837 _ ?side1 ?side2 ?side3 ?side4 A5.out).mono ?_); (case side1 => repeat first | exact (Kd.V_reads' HO833.out).2.2 | refine Kd.C_drewN ?_ _ | refine Kd.C_alloc ?_ _ | refine Kd.C_drew ?_); (case side2 => exact (Kd.V_reads' HO833.out).2.1); (case side3 => repeat first | exact (Kd.V_reads' HO836.out).2.2 | refine Kd.C_drewN ?_ _ | refine Kd.C_alloc ?_ _ | refine Kd.C_drew ?_); (case side4 => exact (Kd.V_reads' HO836.out).2.1); rintro e w11 ⟨rfl, hb⟩; refine ⟨_, rfl, ?_⟩; have n0_ := Aside0.mk (Kd.V_below (zv HO833 rfl) hb); have n1_ := Aside0.mk (Kd.V_below (zv HO836 rfl) hb); have n2_ := Aside0.mk (below_step (zb HB rfl) hb); clear HO833; clear HO836; clear HB; have HO833 := n0_; have HO836 := n1_; have HB := n2_; clear n0_ n1_ n2_))
  go_ret2
  exact ⟨_, by first | rfl | (simp [*, errW_none, errW_some] <;> rfl), by first | exact Kd.R_nil _ _ _ _ _ | exact Kd.V_nil _ _ _ _ _, by repeat (first | (with_reducible first | exact HB.out | apply below_alloc | apply pw_below_drewN | apply below_drew1) | exact HB.out)⟩
 ·
  rw [if_neg c6] at H
  have c6b0 : decide (t837 < 0) = false := decide_eq_false c6
  clear c6
  by_cases c12 : 0 ≤ (t831.length : Int)
  ·
   rw [if_pos c12] at H
   have c12b0 := eq_true c12
   have c12b1 : decide (0 ≤ (t831.length : Int)) = true := decide_eq_true c12
   clear c12
   by_cases c13 : ((t831.length : Int) : Int).toNat ≤ 70368744177664
   ·
    rw [if_pos c13] at H
    have c13b0 := eq_true c13
    have c13b1 : decide (((t831.length : Int) : Int).toNat ≤ 70368744177664) = true := decide_eq_true c13
    clear c13
    obtain ⟨y838, hy838⟩ : ∃ y_ : List Int, y_ = (List.replicate ((t831.length : Int) : Int).toNat 0) := ⟨_, rfl⟩
    replace H : (bignat_Sub.l0 k t831 t834 y838 0 (t831.length : Int) 0) = some (r1, r2) := by first | (rw [hy838]; with_reducible exact H) | (have H2_ := (Option.bind_some _ _).symm.trans H; rw [hy838]; with_reducible exact H2_) | (have H2_ := (Option.bind_some _ _).symm.trans H; with_reducible exact H2_) | with_reducible exact H | (rw [hy838]; exact H) | exact H
    have Ny838 := Aside0.mk hy838
    clear hy838
    have H' := Aside0.mk H
    clear H
    go_enter Try.func32, Try.ntmps32
    go_wp2_with (first | ((with_reducible refine gate_callee (f := 47) rfl ?_); refine goesL_ (some 11) rfl rfl Try.func47 (by kernel_rfl) rfl #[.slice A0 l0.length c0] rfl (by first | rfl | (go_simp; first | done | rfl | ((try simp only [IntKind.wrap_u8, IntKind.wrap_u32, IntKind.wrap_u64]); omega))) ?_; (with_reducible refine (bignat_trim.calls k (fun k_ => k_ < w.heap.size) _ _ l0 t831 _ ?side1 A3.out).mono ?_); (case side1 => exact Kd.V_mk HC0.out (Kd.F_below (Kd.C_F (Kd.heap_int .u32) HR0.out) (zb HB rfl))); rintro e w14 ⟨v832, rfl, ho0, hb⟩; refine ⟨_, rfl, ?_⟩; have n0_ := Aside0.mk (Kd.V_lower (Kd.V_mono (ok' := fun k_ => True) ho0 (fun k_ hk_ => trivial)) (below_size (zb HB rfl))); have n1_ := Aside0.mk (below_step (zb HB rfl) hb); clear HB; have HO833 := n0_; have HB := n1_; clear n0_ n1_) | ((with_reducible refine gate_callee (f := 47) rfl ?_); refine goesL_ (some 13) rfl rfl Try.func47 (by kernel_rfl) rfl #[.slice A1 l1.length c1] rfl (by first | rfl | (go_simp; first | done | rfl | ((try simp only [IntKind.wrap_u8, IntKind.wrap_u32, IntKind.wrap_u64]); omega))) ?_; (with_reducible refine (bignat_trim.calls k (fun k_ => k_ < w.heap.size) _ _ l1 t834 _ ?side1 A4.out).mono ?_); (case side1 => exact Kd.V_mk HC1.out (Kd.F_below (Kd.C_F (Kd.heap_int .u32) HR1.out) (zb HB rfl))); rintro e w15 ⟨v835, rfl, ho0, hb⟩; refine ⟨_, rfl, ?_⟩; have n0_ := Aside0.mk (Kd.V_below (zv HO833 rfl) hb); have n1_ := Aside0.mk (Kd.V_lower (Kd.V_mono (ok' := fun k_ => True) ho0 (fun k_ hk_ => trivial)) (below_size (zb HB rfl))); have n2_ := Aside0.mk (below_step (zb HB rfl) hb); clear HO833; clear HB; have HO833 := n0_; have HO836 := n1_; have HB := n2_; clear n0_ n1_ n2_; obtain ⟨Ao16, co16, eo16⟩ := Kd.V_slice HO833.out; subst eo16; obtain ⟨Ao17, co17, eo17⟩ := Kd.V_slice HO836.out; subst eo17) | ((with_reducible refine gate_callee (f := 23) rfl ?_); refine goesL_ (some 16) rfl rfl Try.func23 (by kernel_rfl) rfl #[.slice Ao16 t831.length co16, .slice Ao17 t834.length co17] rfl (by first | rfl | (go_simp; first | done | rfl | ((try simp only [IntKind.wrap_u8, IntKind.wrap_u32, IntKind.wrap_u64]); omega))) ?_; (with_reducible refine (bignat_Cmp.calls k _ _ t831 _ _ t834 t837 _ ?side1 ?side2 ?side3 ?side4 A5.out).mono ?_); (case side1 => repeat first | exact (Kd.V_reads' HO833.out).2.2 | refine Kd.C_drewN ?_ _ | refine Kd.C_alloc ?_ _ | refine Kd.C_drew ?_); (case side2 => exact (Kd.V_reads' HO833.out).2.1); (case side3 => repeat first | exact (Kd.V_reads' HO836.out).2.2 | refine Kd.C_drewN ?_ _ | refine Kd.C_alloc ?_ _ | refine Kd.C_drew ?_); (case side4 => exact (Kd.V_reads' HO836.out).2.1); rintro e w18 ⟨rfl, hb⟩; refine ⟨_, rfl, ?_⟩; have n0_ := Aside0.mk (Kd.V_below (zv HO833 rfl) hb); have n1_ := Aside0.mk (Kd.V_below (zv HO836 rfl) hb); have n2_ := Aside0.mk (below_step (zb HB rfl) hb); clear HO833; clear HO836; clear HB; have HO833 := n0_; have HO836 := n1_; have HB := n2_; clear n0_ n1_ n2_) | ((with_reducible refine gate_dst (N := 20) rfl ?_); refine Kd.R_make (Kd.int .u32) _ 43 rfl (N := 20) rfl 23 _ _ rfl (t831.length : Int) rfl rfl Try.underlying23 (.int .u32 0) 4 info43 rfl (by decide) (by omega) 0 (ok := fun _ => True) (okp := fun _ => True) rfl (fun _ hk => hk) trivial (of_decide_eq_true (by first | (with_reducible assumption) | assumption)) (Nat.le_trans (Nat.mul_le_mul_right _ (of_decide_eq_true (by first | (with_reducible assumption) | assumption) : (t831.length : Int).toNat ≤ 70368744177664)) (by omega)) (Below.refl _ _) (Nat.le_refl _) ?_; intro v839 w19 ho20 hb hg_ hnew_; clear hg_ hnew_; (first | rw [← Ny838.out] at ho20 | (simp only [Int.reduceToNat] at ho20; rw [← Ny838.out] at ho20)); have n0_ := Aside0.mk (Kd.V_elder' (zv HO833 rfl) (Kd.R_base ho20) hb); have n1_ := Aside0.mk (Kd.V_elder' (zv HO836 rfl) (Kd.R_base ho20) hb); have n2_ := Aside0.mk (Kd.R_lower ho20 (below_size (zb HB rfl))); have n3_ := Aside0.mk (below_step (zb HB rfl) hb); clear HO833; clear HO836; clear HB; have HO833 := n0_; have HO836 := n1_; have HO840 := n2_; have HB := n3_; clear n0_ n1_ n2_ n3_; clear hb ho20))
    go_loopg [7, 23] k (fun kq v7 v23 w' => ∃ (x6_1 : List Int) (x7_1 : Int) (x23_1 : Int), v7 = .int .u64 x7_1 ∧ v23 = .int .i64 x23_1 ∧ Aside0 (bignat_Sub.l0 kq t831 t834 x6_1 x7_1 (t831.length : Int) x23_1 = some (r1, r2)) ∧ Aside0 (kq ≤ k) ∧ Aside0 (Kd.V (Kd.int .u32) 43 w' w.heap.size (fun k_ => some k_ ≠ (v839 : Value).ownBlock) (.slice Ao16 t831.length co16) t831) ∧ Aside0 (Kd.V (Kd.int .u32) 43 w' w.heap.size (fun k_ => some k_ ≠ (v839 : Value).ownBlock) (.slice Ao17 t834.length co17) t834) ∧ Aside0 (Kd.R (Kd.int .u32) 43 w' w.heap.size (fun _ => True) v839 x6_1) ∧ Aside0 (Below w.heap.size w w'))
    case atStart => exact ⟨(y838), (0), (0), (by first | rfl | (simp [*]; done)), (by first | rfl | (simp [*]; done)), H', ⟨Nat.le_refl _⟩, ⟨by (with_reducible repeat (first | apply Kd.V_alloc | apply Kd.V_drewN | apply Kd.V_drew)); exact Kd.V_mono HO833.out (fun _ hk => hk.2)⟩, ⟨by (with_reducible repeat (first | apply Kd.V_alloc | apply Kd.V_drewN | apply Kd.V_drew)); exact Kd.V_mono HO836.out (fun _ hk => hk.2)⟩, ⟨by (with_reducible repeat (first | apply Kd.R_alloc | apply Kd.R_drewN | apply Kd.R_drew)); exact HO840.out⟩, ⟨by repeat (first | (with_reducible first | exact HB.out | apply below_alloc | apply pw_below_drewN | apply below_drew1) | exact HB.out)⟩⟩
    case round =>
     clear H'
     try clear c1
     try clear c2
     try clear p2
     try clear c3
     try clear c4
     try clear c6
     try clear c6b0
     try clear c12
     try clear c12b0
     try clear c12b1
     try clear c13
     try clear c13b0
     try clear c13b1
     obtain ⟨x6_1, x7_1, x23_1, rfl, rfl, HA, HK1, HO_0, HO_1, HO_6, HB⟩ := hrel
     cases gk with
     | zero => exact absurd HA.out (by simp [bignat_Sub.l0])
     | succ k1 =>
      have H := HA.out
      clear HA
      simp only [bignat_Sub.l0] at H
      by_cases c21 : x23_1 < (t831.length : Int)
      ·
       rw [if_pos c21] at H
       have c21b0 : decide (x23_1 < (t831.length : Int)) = true := decide_eq_true c21
       clear c21
       by_cases c22 : 0 ≤ x23_1
       ·
        rw [if_pos c22] at H
        have c22b0 : decide (0 ≤ x23_1) = true := decide_eq_true c22
        clear c22
        by_cases c23 : x23_1 < (t831.length : Int)
        ·
         rw [if_pos c23] at H
         have c23b0 : decide (x23_1 < (t831.length : Int)) = true := decide_eq_true c23
         clear c23
         by_cases c24 : x23_1 < (t834.length : Int)
         ·
          rw [if_pos c24] at H
          have c24b0 : decide (x23_1 < (t834.length : Int)) = true := decide_eq_true c24
          clear c24
          by_cases c25 : x23_1 < (x6_1.length : Int)
          ·
           rw [if_pos c25] at H
           have c25b0 : decide (x23_1 < (x6_1.length : Int)) = true := decide_eq_true c25
           clear c25
           obtain ⟨y843, hy843⟩ : ∃ y_ : List Int, y_ = (x6_1.set (x23_1 : Int).toNat ((IntKind.u64.wrap ((IntKind.u64.wrap ((IntKind.u64.wrap (rd t831 x23_1)) - x7_1)) - (IntKind.u64.wrap (rd t834 x23_1)))) % 4294967296)) := ⟨_, rfl⟩
           replace H : (bignat_Sub.l0 k1 t831 t834 y843 ((IntKind.u64.wrap ((IntKind.u64.wrap ((IntKind.u64.wrap (rd t831 x23_1)) - x7_1)) - (IntKind.u64.wrap (rd t834 x23_1)))) / 9223372036854775808) (t831.length : Int) (wrap64 (x23_1 + 1))) = some (r1, r2) := by first | (rw [hy843]; with_reducible exact H) | (have H2_ := (Option.bind_some _ _).symm.trans H; rw [hy843]; with_reducible exact H2_) | (have H2_ := (Option.bind_some _ _).symm.trans H; with_reducible exact H2_) | with_reducible exact H | (rw [hy843]; exact H) | exact H
           have Ny843 := Aside0.mk hy843
           clear hy843
           have H' := Aside0.mk H
           clear H
           have p841 : 0 ≤ (x23_1 : Int) := of_decide_eq_true (by first | (with_reducible assumption) | assumption)
           have q841 : x23_1 < (t831.length : Int) := of_decide_eq_true (by first | (with_reducible assumption) | assumption)
           obtain ⟨ad841, e841, hx841_0⟩ := Kd.at_int (Kd.V_reads' HO_0.out).2.2 x23_1 p841 q841
           cases e841
           replace p841 := eq_true p841
           replace q841 := eq_true q841
           have p842 : 0 ≤ (x23_1 : Int) := of_decide_eq_true (by first | (with_reducible assumption) | assumption)
           have q842 : x23_1 < (t834.length : Int) := of_decide_eq_true (by first | (with_reducible assumption) | assumption)
           obtain ⟨ad842, e842, hx842_0⟩ := Kd.at_int (Kd.V_reads' HO_1.out).2.2 x23_1 p842 q842
           cases e842
           replace p842 := eq_true p842
           replace q842 := eq_true q842
           have p26 : 0 ≤ (x23_1 : Int) := of_decide_eq_true (by first | (with_reducible assumption) | assumption)
           have q26 : (x23_1 : Int) < ((x6_1.length : Int) : Int) := of_decide_eq_true (by first | (with_reducible assumption) | assumption)
           obtain ⟨go26, co26, eo26, gb26, gl26, cl26, HG26⟩ := Kd.R_form HO_6.out (by omega)
           (first | cases eo26 | (injection eo26 with ea_ en_ ec_; (first | subst ea_ | (injection ea_ with ea_; subst ea_)); subst ec_; clear en_))
           have GB26 := Aside0.mk gb26
           have GG26 := Aside0.mk HG26
           clear gb26 gl26 HG26
           obtain ⟨hx26_0, hf26_0⟩ := Kd.R_celln 0 HO_6.out (x23_1 : Int) p26 q26
           replace p26 := eq_true p26
           replace q26 := eq_true q26
           obtain ⟨hy27_, hz27_⟩ := Kd.R_celln 0 HO_6.out (x23_1 : Int) (of_decide_eq_true (by first | (with_reducible assumption) | assumption)) (of_decide_eq_true (by first | (with_reducible assumption) | assumption))
           have HP27 := Kd.R_putg HO_6.out (x23_1 : Int) ((IntKind.u64.wrap ((IntKind.u64.wrap ((IntKind.u64.wrap (rd t831 x23_1)) - x7_1)) - (IntKind.u64.wrap (rd t834 x23_1)))) % 4294967296)
           go_wp2_with (first | ((with_reducible refine gate_store (t := 43) (p := 48) rfl ?_); refine store_event (t := 43) (p := 48) (v := ?vo_w28) (w1 := (wr.setCell ⟨go26, (x23_1 : Int).toNat, none⟩ (.int .u32 ((IntKind.u64.wrap ((IntKind.u64.wrap ((IntKind.u64.wrap (rd t831 x23_1)) - x7_1)) - (IntKind.u64.wrap (rd t834 x23_1)))) % 4294967296)))) ?hg ?ho ?hn ?hr ?_; (case ho => rfl); (case hg => rfl); (case hn => rfl); (case hr => first | (go_simp; done) | (go_simp; rfl)); intro w28 hw; have hg : wr.grownBy w28 (some go26) := (by rw [hw]; exact HP27.2); have hp_ : Kd.R (Kd.int .u32) 43 w28 w.heap.size (fun _ => True) (.slice (some ⟨go26, 0, none⟩) x6_1.length co26) y843 := (by rw [hw, Ny843.out]; exact HP27.1); clear HP27; have n0_ := Aside0.mk (Kd.V_afterv (v := (.slice (some ⟨go26, 0, none⟩) x6_1.length co26)) (v1 := (.slice (some ⟨go26, 0, none⟩) x6_1.length co26)) (ok := (fun _ => True)) (by (with_reducible repeat (first | apply Kd.V_alloc | apply Kd.V_drewN | apply Kd.V_drew)); exact Kd.V_mono HO_0.out (fun _ hk => ⟨trivial, hk⟩)) hg (.inl rfl)); have n1_ := Aside0.mk (Kd.V_afterv (v := (.slice (some ⟨go26, 0, none⟩) x6_1.length co26)) (v1 := (.slice (some ⟨go26, 0, none⟩) x6_1.length co26)) (ok := (fun _ => True)) (by (with_reducible repeat (first | apply Kd.V_alloc | apply Kd.V_drewN | apply Kd.V_drew)); exact Kd.V_mono HO_1.out (fun _ hk => ⟨trivial, hk⟩)) hg (.inl rfl)); have n2_ := Aside0.mk (hp_); have n3_ := Aside0.mk ((by rw [hw]; exact below_set (HB.out) GB26.out : Below w.heap.size w w28)); clear HO_0; clear HO_1; clear HO_6; clear HB; have HO_0 := n0_; have HO_1 := n1_; have HO_6 := n2_; have HB := n3_; clear n0_ n1_ n2_ n3_; clear hg hw hp_))
           go_roundg k1
           case measure => have := HK1.out; omega
           case rel => exact ⟨(y843), ((IntKind.u64.wrap ((IntKind.u64.wrap ((IntKind.u64.wrap (rd t831 x23_1)) - x7_1)) - (IntKind.u64.wrap (rd t834 x23_1)))) / 9223372036854775808), (wrap64 (x23_1 + 1)), (by first | rfl | (simp [*]; done)), (by first | rfl | (simp [*]; done)), H', ⟨by have := HK1.out; omega⟩, ⟨by (with_reducible repeat (first | apply Kd.V_alloc | apply Kd.V_drewN | apply Kd.V_drew)); exact Kd.V_mono HO_0.out (fun _ hk => hk.2)⟩, ⟨by (with_reducible repeat (first | apply Kd.V_alloc | apply Kd.V_drewN | apply Kd.V_drew)); exact Kd.V_mono HO_1.out (fun _ hk => hk.2)⟩, ⟨by (with_reducible repeat (first | apply Kd.R_alloc | apply Kd.R_drewN | apply Kd.R_drew)); exact HO_6.out⟩, ⟨by repeat (first | (with_reducible first | exact HB.out | apply below_alloc | apply pw_below_drewN | apply below_drew1) | exact HB.out)⟩⟩
          ·
           rw [if_neg c25] at H
           exact absurd H (by simp)
         ·
          rw [if_neg c24] at H
          have c24b0 : decide (x23_1 < (t834.length : Int)) = false := decide_eq_false c24
          clear c24
          by_cases c29 : x23_1 < (x6_1.length : Int)
          ·
           rw [if_pos c29] at H
           have c29b0 : decide (x23_1 < (x6_1.length : Int)) = true := decide_eq_true c29
           clear c29
           obtain ⟨y844, hy844⟩ : ∃ y_ : List Int, y_ = (x6_1.set (x23_1 : Int).toNat ((IntKind.u64.wrap ((IntKind.u64.wrap (rd t831 x23_1)) - x7_1)) % 4294967296)) := ⟨_, rfl⟩
           replace H : (bignat_Sub.l0 k1 t831 t834 y844 ((IntKind.u64.wrap ((IntKind.u64.wrap (rd t831 x23_1)) - x7_1)) / 9223372036854775808) (t831.length : Int) (wrap64 (x23_1 + 1))) = some (r1, r2) := by first | (rw [hy844]; with_reducible exact H) | (have H2_ := (Option.bind_some _ _).symm.trans H; rw [hy844]; with_reducible exact H2_) | (have H2_ := (Option.bind_some _ _).symm.trans H; with_reducible exact H2_) | with_reducible exact H | (rw [hy844]; exact H) | exact H
           have Ny844 := Aside0.mk hy844
           clear hy844
           have H' := Aside0.mk H
           clear H
           have p841 : 0 ≤ (x23_1 : Int) := of_decide_eq_true (by first | (with_reducible assumption) | assumption)
           have q841 : x23_1 < (t831.length : Int) := of_decide_eq_true (by first | (with_reducible assumption) | assumption)
           obtain ⟨ad841, e841, hx841_0⟩ := Kd.at_int (Kd.V_reads' HO_0.out).2.2 x23_1 p841 q841
           cases e841
           replace p841 := eq_true p841
           replace q841 := eq_true q841
           have p30 : 0 ≤ (x23_1 : Int) := of_decide_eq_true (by first | (with_reducible assumption) | assumption)
           have q30 : (x23_1 : Int) < ((x6_1.length : Int) : Int) := of_decide_eq_true (by first | (with_reducible assumption) | assumption)
           obtain ⟨go30, co30, eo30, gb30, gl30, cl30, HG30⟩ := Kd.R_form HO_6.out (by omega)
           (first | cases eo30 | (injection eo30 with ea_ en_ ec_; (first | subst ea_ | (injection ea_ with ea_; subst ea_)); subst ec_; clear en_))
           have GB30 := Aside0.mk gb30
           have GG30 := Aside0.mk HG30
           clear gb30 gl30 HG30
           obtain ⟨hx30_0, hf30_0⟩ := Kd.R_celln 0 HO_6.out (x23_1 : Int) p30 q30
           replace p30 := eq_true p30
           replace q30 := eq_true q30
           obtain ⟨hy31_, hz31_⟩ := Kd.R_celln 0 HO_6.out (x23_1 : Int) (of_decide_eq_true (by first | (with_reducible assumption) | assumption)) (of_decide_eq_true (by first | (with_reducible assumption) | assumption))
           have HP31 := Kd.R_putg HO_6.out (x23_1 : Int) ((IntKind.u64.wrap ((IntKind.u64.wrap (rd t831 x23_1)) - x7_1)) % 4294967296)
           go_wp2_with (first | ((with_reducible refine gate_store (t := 43) (p := 48) rfl ?_); refine store_event (t := 43) (p := 48) (v := ?vo_w32) (w1 := (wr.setCell ⟨go30, (x23_1 : Int).toNat, none⟩ (.int .u32 ((IntKind.u64.wrap ((IntKind.u64.wrap (rd t831 x23_1)) - x7_1)) % 4294967296)))) ?hg ?ho ?hn ?hr ?_; (case ho => rfl); (case hg => rfl); (case hn => rfl); (case hr => first | (go_simp; done) | (go_simp; rfl)); intro w32 hw; have hg : wr.grownBy w32 (some go30) := (by rw [hw]; exact HP31.2); have hp_ : Kd.R (Kd.int .u32) 43 w32 w.heap.size (fun _ => True) (.slice (some ⟨go30, 0, none⟩) x6_1.length co30) y844 := (by rw [hw, Ny844.out]; exact HP31.1); clear HP31; have n0_ := Aside0.mk (Kd.V_afterv (v := (.slice (some ⟨go30, 0, none⟩) x6_1.length co30)) (v1 := (.slice (some ⟨go30, 0, none⟩) x6_1.length co30)) (ok := (fun _ => True)) (by (with_reducible repeat (first | apply Kd.V_alloc | apply Kd.V_drewN | apply Kd.V_drew)); exact Kd.V_mono HO_0.out (fun _ hk => ⟨trivial, hk⟩)) hg (.inl rfl)); have n1_ := Aside0.mk (Kd.V_afterv (v := (.slice (some ⟨go30, 0, none⟩) x6_1.length co30)) (v1 := (.slice (some ⟨go30, 0, none⟩) x6_1.length co30)) (ok := (fun _ => True)) (by (with_reducible repeat (first | apply Kd.V_alloc | apply Kd.V_drewN | apply Kd.V_drew)); exact Kd.V_mono HO_1.out (fun _ hk => ⟨trivial, hk⟩)) hg (.inl rfl)); have n2_ := Aside0.mk (hp_); have n3_ := Aside0.mk ((by rw [hw]; exact below_set (HB.out) GB30.out : Below w.heap.size w w32)); clear HO_0; clear HO_1; clear HO_6; clear HB; have HO_0 := n0_; have HO_1 := n1_; have HO_6 := n2_; have HB := n3_; clear n0_ n1_ n2_ n3_; clear hg hw hp_))
           go_roundg k1
           case measure => have := HK1.out; omega
           case rel => exact ⟨(y844), ((IntKind.u64.wrap ((IntKind.u64.wrap (rd t831 x23_1)) - x7_1)) / 9223372036854775808), (wrap64 (x23_1 + 1)), (by first | rfl | (simp [*]; done)), (by first | rfl | (simp [*]; done)), H', ⟨by have := HK1.out; omega⟩, ⟨by (with_reducible repeat (first | apply Kd.V_alloc | apply Kd.V_drewN | apply Kd.V_drew)); exact Kd.V_mono HO_0.out (fun _ hk => hk.2)⟩, ⟨by (with_reducible repeat (first | apply Kd.V_alloc | apply Kd.V_drewN | apply Kd.V_drew)); exact Kd.V_mono HO_1.out (fun _ hk => hk.2)⟩, ⟨by (with_reducible repeat (first | apply Kd.R_alloc | apply Kd.R_drewN | apply Kd.R_drew)); exact HO_6.out⟩, ⟨by repeat (first | (with_reducible first | exact HB.out | apply below_alloc | apply pw_below_drewN | apply below_drew1) | exact HB.out)⟩⟩
          ·
           rw [if_neg c29] at H
           exact absurd H (by simp)
        ·
         rw [if_neg c23] at H
         exact absurd H (by simp)
       ·
        rw [if_neg c22] at H
        exact absurd H (by simp)
      ·
       rw [if_neg c21] at H
       have c21b0 : decide (x23_1 < (t831.length : Int)) = false := decide_eq_false c21
       clear c21
       replace H := Option.bind_eq_some_iff.mp H
       obtain ⟨t845, A330, H⟩ := H
       replace H : (some (t845, true)) = some (r1, r2) := H
       have A33 := Aside0.mk A330
       clear A330
       simp only [Option.some.injEq, Prod.mk.injEq] at H
       obtain ⟨rfl, rfl⟩ := H
       obtain ⟨Ao34, co34, eo34⟩ := Kd.R_slice HO_6.out
       subst eo34
       go_wp2_with (first | ((with_reducible refine gate_callee (f := 47) rfl ?_); refine goesL_ (some 53) rfl rfl Try.func47 (by kernel_rfl) rfl #[.slice Ao34 x6_1.length co34] rfl (by first | rfl | (go_simp; first | done | rfl | ((try simp only [IntKind.wrap_u8, IntKind.wrap_u32, IntKind.wrap_u64]); omega))) ?_; (with_reducible refine (bignat_trimO.calls k1 (fun k_ => some k_ = (.slice Ao34 x6_1.length co34 : Value).ownBlock) (.slice Ao34 x6_1.length co34) x6_1 t845 w _ ?side1 ?side2 A33.out).mono ?_); (case side1 => repeat (first | (with_reducible first | exact HB.out | apply below_alloc | apply pw_below_drewN | apply below_drew1) | exact HB.out)); (case side2 => exact Kd.R_tight rfl HO_6.out); rintro e w35 ⟨v846, rfl, ho0, hb, hkp⟩; refine ⟨_, rfl, ?_⟩; have n0_ := Aside0.mk (Kd.V_mono (ok' := fun k_ => some k_ ≠ (v846 : Value).ownBlock) (Kd.V_keptB (HO_0.out) hkp (fun k_ hk_ hs_ => (hk_) hs_)) (fun k_ hk_ => fun e_ => Or.elim (ho0.1 k_ e_.symm) (fun hs_ => hk_.2.1 hs_) (fun hn_ => Nat.not_le.2 hk_.2.2 hn_))); have n1_ := Aside0.mk (Kd.V_mono (ok' := fun k_ => some k_ ≠ (v846 : Value).ownBlock) (Kd.V_keptB (HO_1.out) hkp (fun k_ hk_ hs_ => (hk_) hs_)) (fun k_ hk_ => fun e_ => Or.elim (ho0.1 k_ e_.symm) (fun hs_ => hk_.2.1 hs_) (fun hn_ => Nat.not_le.2 hk_.2.2 hn_))); have n2_ := Aside0.mk (Kd.R_mono (ok' := fun k_ => True) ho0 (fun k_ hk_ => trivial)); have n3_ := Aside0.mk (hb); clear HO_0; clear HO_1; clear HB; clear HO_6; have HO_0 := n0_; have HO_1 := n1_; have HO847 := n2_; have HB := n3_; clear n0_ n1_ n2_ n3_; (try clear hkp)))
       go_ret2
       exact ⟨_, by first | rfl | (simp [*, errW_none, errW_some] <;> rfl), by (with_reducible repeat (first | apply Kd.R_alloc | apply Kd.R_drewN | apply Kd.R_drew)); exact HO847.out, by repeat (first | (with_reducible first | exact HB.out | apply below_alloc | apply pw_below_drewN | apply below_drew1) | exact HB.out)⟩
   ·
    rw [if_neg c13] at H
    exact absurd H (by simp)
  ·
   rw [if_neg c12] at H
   exact absurd H (by simp)

end Go.Proofs.Ytjiaplnpgjicgaa.Q

