/- Lemmas for the proof of one law of this seat (Qx16). -/
import Derived.Test.YtoeldfopjalpkaaDoorZRationalNewQx0
import Derived.Test.YtoeldfopjalpkaaDoorZRationalNewQx5
import Derived.Test.YtoeldfopjalpkaaDoorZRationalNewQx8
import Derived.Test.YtoeldfopjalpkaaDoorZRationalNewQx13
import Derived.Test.YtoeldfopjalpkaaDoorZRationalNewQx14
import Derived.Test.YtoeldfopjalpkaaDoorZRationalNewQx15
namespace Go.Proofs.YtoeldfopjalpkaaDoor.Q
open Go.RowKit Go.Proofs.YtoeldfopjalpkaaDoorW.PrintWords Go.Proofs.YtoeldfopjalpkaaDoorW.PrintLast Go.Proofs.YtoeldfopjalpkaaDoorW.PrintMore
attribute [local go_sem] max2_int min2_int max_two min_two max_three min_three max_four min_four   -- for this text's walks alone
set_option linter.unusedVariables false
set_option linter.unusedSimpArgs false

def rational_Cmp.f (k : Nat) (a0_0 : Bool) (l0_1 : List Int) (l0_2 : List Int) (a1_0 : Bool) (l1_1 : List Int) (l1_2 : List Int) : Option (Int) := (rational_Sign.f k a0_0 l0_1 l0_2).bind fun t713 => ((rational_Sign.f k a1_0 l1_1 l1_2).bind fun t714 => (if t713 < t714 then (some (-1)) else (none)))
theorem rational_Cmp.mono : ∀ a0 a1 a2 a3 a4 a5 k, LeO (rational_Cmp.f k a0 a1 a2 a3 a4 a5) (rational_Cmp.f (k + 1) a0 a1 a2 a3 a4 a5) := by
 intro a0 a1 a2 a3 a4 a5 k
 unfold rational_Cmp.f
 repeat' first
   | (with_reducible exact rational_Sign.mono _ _ _ _)
   | (with_reducible exact LeO.refl _)
   | (with_reducible exact LeO.none _)
   | (with_reducible refine LeO.ite ?_ ?_)
   | (with_reducible refine LeO.bind ?_ (fun _ => ?_))
   | exact LeO.none _
   | refine LeO.ite ?_ ?_
   | refine LeO.bind ?_ (fun _ => ?_)
set_option maxHeartbeats 8000000 in
set_option maxRecDepth 100000 in
theorem rational_Cmp.calls (k : Nat) (a0_0 : Bool) (A0_1 : Option Addr) (c0_1 : Nat) (l0_1 : List Int) (A0_2 : Option Addr) (c0_2 : Nat) (l0_2 : List Int) (a1_0 : Bool) (A1_1 : Option Addr) (c1_1 : Nat) (l1_1 : List Int) (A1_2 : Option Addr) (c1_2 : Nat) (l1_2 : List Int) (r : Int) (w : World) (hr0_1 : Kd.C (Kd.int .u32) w A0_1 l0_1.length l0_1) (hc0_1 : l0_1.length ≤ c0_1) (hr0_2 : Kd.C (Kd.int .u32) w A0_2 l0_2.length l0_2) (hc0_2 : l0_2.length ≤ c0_2) (hr1_1 : Kd.C (Kd.int .u32) w A1_1 l1_1.length l1_1) (hc1_1 : l1_1.length ≤ c1_1) (hr1_2 : Kd.C (Kd.int .u32) w A1_2 l1_2.length l1_2) (hc1_2 : l1_2.length ≤ c1_2) (h : rational_Cmp.f k a0_0 l0_1 l0_2 a1_0 l1_1 l1_2 = some r) :
  Calls Tryd.prog 26 #[.agg #[.bool a0_0, .slice A0_1 l0_1.length c0_1, .slice A0_2 l0_2.length c0_2], .agg #[.bool a1_0, .slice A1_1 l1_1.length c1_1, .slice A1_2 l1_2.length c1_2]] w fun e w' => e = .returned (.int .i64 r) ∧ Below w.heap.size w w' := by
 have hu25 := Tryd.underlying25
 have HR0_1 := Aside0.mk hr0_1
 have HC0_1 := Aside0.mk hc0_1
 clear hr0_1 hc0_1
 have HR0_2 := Aside0.mk hr0_2
 have HC0_2 := Aside0.mk hc0_2
 clear hr0_2 hc0_2
 have HR1_1 := Aside0.mk hr1_1
 have HC1_1 := Aside0.mk hc1_1
 clear hr1_1 hc1_1
 have HR1_2 := Aside0.mk hr1_2
 have HC1_2 := Aside0.mk hc1_2
 clear hr1_2 hc1_2
 have HB := Aside0.mk (Below.refl w.heap.size w)
 have H : ((rational_Sign.f k a0_0 l0_1 l0_2).bind fun t713 => ((rational_Sign.f k a1_0 l1_1 l1_2).bind fun t714 => (if t713 < t714 then (some (-1)) else (none)))) = some r := h
 clear h
 replace H := Option.bind_eq_some_iff.mp H
 obtain ⟨t713, A30, H⟩ := H
 replace H : ((rational_Sign.f k a1_0 l1_1 l1_2).bind fun t714 => (if t713 < t714 then (some (-1)) else (none))) = some r := H
 have A3 := Aside0.mk A30
 clear A30
 replace H := Option.bind_eq_some_iff.mp H
 obtain ⟨t714, A40, H⟩ := H
 replace H : (if t713 < t714 then (some (-1)) else (none)) = some r := H
 have A4 := Aside0.mk A40
 clear A40
 by_cases c5 : t713 < t714
 ·
  rw [if_pos c5] at H
  have c5b0 : decide (t713 < t714) = true := decide_eq_true c5
  clear c5
  obtain rfl := Option.some.inj H
  go_enter Tryd.func26, Tryd.ntmps26
  try go_wp2_with (first | ((with_reducible refine gate_dst (N := 2) rfl ?_); refine box_event ?hg (N := 2) ?hd (cs := #[.bool a0_0, .slice A0_1 l0_1.length c0_1, .slice A0_2 l0_2.length c0_2]) (t := 25) ?hr ?_; (case hd => rfl); (case hg => rfl); (case hr => first | (go_simp; done) | (go_simp; rfl)); intro gb711 hg w6 hbox hb; have n0_ := Aside0.mk (below_step (zb HB rfl) hb); have n1_ := Aside0.mk (hbox); have n2_ := Aside0.mk ((by rw [hg]; exact (below_size (zb HB rfl)) : w.heap.size ≤ gb711)); have n3_ := Aside0.mk ((by rw [hg]; exact (below_size (zb HB rfl)) : w.heap.size ≤ gb711)); clear HB; have HB := n0_; have BK711 := n1_; have GW711 := n2_; have GE711 := n3_; clear n0_ n1_ n2_ n3_; clear hb hbox hg) | ((with_reducible refine gate_dst (N := 3) rfl ?_); refine box_event ?hg (N := 3) ?hd (cs := #[.bool a1_0, .slice A1_1 l1_1.length c1_1, .slice A1_2 l1_2.length c1_2]) (t := 25) ?hr ?_; (case hd => rfl); (case hg => rfl); (case hr => first | (go_simp; done) | (go_simp; rfl)); intro gb712 hg w7 hbox hb; have n0_ := Aside0.mk (blk_below BK711.out hb); have n1_ := Aside0.mk (below_step (zb HB rfl) hb); have n2_ := Aside0.mk (hbox); have n3_ := Aside0.mk ((by rw [hg]; exact (below_size (zb HB rfl)) : w.heap.size ≤ gb712)); have n4_ := Aside0.mk ((by rw [hg]; exact (below_size (zb HB rfl)) : w.heap.size ≤ gb712)); have n5_ := Aside0.mk ((by rw [hg]; exact Nat.ne_of_lt (blk_lt BK711.out) : gb711 ≠ gb712)); have n6_ := Aside0.mk ((by rw [hg]; exact Nat.ne_of_gt (blk_lt BK711.out) : gb712 ≠ gb711)); clear BK711; clear HB; have BK711 := n0_; have HB := n1_; have BK712 := n2_; have GW712 := n3_; have GE712 := n4_; have NB711_712 := n5_; have NB712_711 := n6_; clear n0_ n1_ n2_ n3_ n4_ n5_ n6_; clear hb hbox hg))
  have n0_ := Aside0.mk (blk_drew BK711.out)
  have n1_ := Aside0.mk (blk_drew BK712.out)
  have n2_ := Aside0.mk (below_drew1 HB.out)
  clear BK711
  clear BK712
  clear HB
  have BK711 := n0_
  have BK712 := n1_
  have HB := n2_
  clear n0_ n1_ n2_
  refine start_ (n := 6) (S := fun w' => w'.cell? ⟨gb711, 0, none⟩ = some (.bool a0_0) ∧ w'.cell? ⟨gb711, 1, none⟩ = some (.slice A0_1 l0_1.length c0_1) ∧ w'.cell? ⟨gb711, 2, none⟩ = some (.slice A0_2 l0_2.length c0_2) ∧ w'.cell? ⟨gb712, 0, none⟩ = some (.bool a1_0) ∧ w'.cell? ⟨gb712, 1, none⟩ = some (.slice A1_1 l1_1.length c1_1) ∧ w'.cell? ⟨gb712, 2, none⟩ = some (.slice A1_2 l1_2.length c1_2)) (ds := []) #[false, false, false, false, false, false] (by kernel_rfl) rfl rfl ⟨(blk_cell BK711.out 0).trans rfl, (blk_cell BK711.out 1).trans rfl, (blk_cell BK711.out 2).trans rfl, (blk_cell BK712.out 0).trans rfl, (blk_cell BK712.out 1).trans rfl, (blk_cell BK712.out 2).trans rfl⟩ (fun hHeld => ?_)
  generalize w7.drew = w8 at BK711 BK712 HB hHeld ⊢
  refine take_ (i := 0) (N := some 7) (v := ?_) (a' := ?_) #[true, false, false, false, false, false] rfl rfl (by kernel_rfl) (fun _ _ _ h => h) (Or.inl ⟨by rfl, ?_⟩) hHeld ?_ ?_
  rotate_left
  ·
   rintro w' ⟨s0, s1, s2, s3, s4, s5⟩
   go_simp
   with_reducible rfl
  rotate_left
  ·
   simp only [Act.put, List.setIfInBounds_toArray, List.set_cons_zero, List.set_cons_succ, i64_w, i32_w]
   rfl
  refine take_ (i := 2) (N := some 9) (v := ?_) (a' := ?_) #[true, false, true, false, false, false] rfl rfl (by kernel_rfl) (fun _ _ _ h => h) (Or.inl ⟨by rfl, ?_⟩) hHeld ?_ ?_
  rotate_left
  ·
   rintro w' ⟨s0, s1, s2, s3, s4, s5⟩
   go_simp
   with_reducible rfl
  rotate_left
  ·
   simp only [Act.put, List.setIfInBounds_toArray, List.set_cons_zero, List.set_cons_succ, i64_w, i32_w]
   rfl
  refine one_ (i := 1) (N := some 8) #[true, true, true, false, false, false] rfl rfl (by kernel_rfl) (by decide) (fun K hK => ?_)
  refine goes_ Tryd.func27 (by kernel_rfl) rfl #[.agg #[.bool a0_0, .slice A0_1 l0_1.length c0_1, .slice A0_2 l0_2.length c0_2]] (by rfl) rfl rfl (by first | rfl | (go_simp; first | done | rfl | omega)) ?_
  with_reducible refine (rational_Sign.calls k a0_0 _ _ l0_1 _ _ l0_2 t713 _ ?side1 ?side2 ?side3 ?side4 A3.out).mono ?_
  (case side1 => repeat first | exact (Kd.C_below HR0_1.out HB.out) | refine Kd.C_drewN ?_ _ | refine Kd.C_alloc ?_ _ | refine Kd.C_drew ?_)
  (case side2 => exact HC0_1.out)
  (case side3 => repeat first | exact (Kd.C_below HR0_2.out HB.out) | refine Kd.C_drewN ?_ _ | refine Kd.C_alloc ?_ _ | refine Kd.C_drew ?_)
  (case side4 => exact HC0_2.out)
  rintro e w9 ⟨rfl, hb⟩
  refine ⟨_, rfl, ?_⟩
  have n0_ := Aside0.mk (blk_below BK711.out hb)
  have n1_ := Aside0.mk (blk_below BK712.out hb)
  have n2_ := Aside0.mk (below_step (zb HB rfl) hb)
  clear BK711
  clear BK712
  clear HB
  have BK711 := n0_
  have BK712 := n1_
  have HB := n2_
  clear n0_ n1_ n2_
  refine hK.out _ _ ⟨(blk_cell BK711.out 0).trans rfl, (blk_cell BK711.out 1).trans rfl, (blk_cell BK711.out 2).trans rfl, (blk_cell BK712.out 0).trans rfl, (blk_cell BK712.out 1).trans rfl, (blk_cell BK712.out 2).trans rfl⟩ (fun hHeld => ?_)
  clear hK K
  refine norm_ (a' := ?_) ?_ ?_
  rotate_left
  ·
   show Act.put _ (some 8) _ = _
   simp only [Act.put, List.setIfInBounds_toArray, List.set_cons_zero, List.set_cons_succ, i64_w, i32_w]
   rfl
  refine one_ (i := 3) (N := some 10) #[true, true, true, true, false, false] rfl rfl (by kernel_rfl) (by decide) (fun K hK => ?_)
  refine goes_ Tryd.func27 (by kernel_rfl) rfl #[.agg #[.bool a1_0, .slice A1_1 l1_1.length c1_1, .slice A1_2 l1_2.length c1_2]] (by rfl) rfl rfl (by first | rfl | (go_simp; first | done | rfl | omega)) ?_
  with_reducible refine (rational_Sign.calls k a1_0 _ _ l1_1 _ _ l1_2 t714 _ ?side1 ?side2 ?side3 ?side4 A4.out).mono ?_
  (case side1 => repeat first | exact (Kd.C_below HR1_1.out HB.out) | refine Kd.C_drewN ?_ _ | refine Kd.C_alloc ?_ _ | refine Kd.C_drew ?_)
  (case side2 => exact HC1_1.out)
  (case side3 => repeat first | exact (Kd.C_below HR1_2.out HB.out) | refine Kd.C_drewN ?_ _ | refine Kd.C_alloc ?_ _ | refine Kd.C_drew ?_)
  (case side4 => exact HC1_2.out)
  rintro e w10 ⟨rfl, hb⟩
  refine ⟨_, rfl, ?_⟩
  have n0_ := Aside0.mk (blk_below BK711.out hb)
  have n1_ := Aside0.mk (blk_below BK712.out hb)
  have n2_ := Aside0.mk (below_step (zb HB rfl) hb)
  clear BK711
  clear BK712
  clear HB
  have BK711 := n0_
  have BK712 := n1_
  have HB := n2_
  clear n0_ n1_ n2_
  refine hK.out _ _ ⟨(blk_cell BK711.out 0).trans rfl, (blk_cell BK711.out 1).trans rfl, (blk_cell BK711.out 2).trans rfl, (blk_cell BK712.out 0).trans rfl, (blk_cell BK712.out 1).trans rfl, (blk_cell BK712.out 2).trans rfl⟩ (fun hHeld => ?_)
  clear hK K
  refine norm_ (a' := ?_) ?_ ?_
  rotate_left
  ·
   show Act.put _ (some 10) _ = _
   simp only [Act.put, List.setIfInBounds_toArray, List.set_cons_zero, List.set_cons_succ, i64_w, i32_w]
   rfl
  refine pure_ (i := 4) (N := some 5) (v := ?_) (a' := ?_) #[true, true, true, true, true, false] rfl rfl (by kernel_rfl) (fun _ _ _ h => h) (Or.inl ⟨by rfl, ?_⟩) ?_ ?_
  rotate_left
  ·
   intro w'
   go_simp
   with_reducible rfl
  rotate_left
  ·
   simp only [Act.put, List.setIfInBounds_toArray, List.set_cons_zero, List.set_cons_succ, i64_w, i32_w]
   rfl
  refine pure_ (i := 5) (N := some 6) (v := ?_) (a' := ?_) #[true, true, true, true, true, true] rfl rfl (by kernel_rfl) (fun _ _ _ h => h) (Or.inl ⟨by rfl, ?_⟩) ?_ ?_
  rotate_left
  ·
   intro w'
   go_simp
   with_reducible rfl
  rotate_left
  ·
   simp only [Act.put, List.setIfInBounds_toArray, List.set_cons_zero, List.set_cons_succ, i64_w, i32_w]
   rfl
  refine done_ (by kernel_rfl) ?_
  try go_wp2
  go_ret
  exact ⟨by first | rfl | (simp [*, errW_none, errW_some] <;> rfl), by repeat (first | (with_reducible first | exact HB.out | apply below_alloc | apply pw_below_drewN | apply below_drew1 | refine below_set ?_ GE711.out | refine below_set ?_ GE712.out) | exact HB.out)⟩
 ·
  rw [if_neg c5] at H
  exact absurd H (by simp)

def credencelaw2_known.f (k : Nat)  : Option (Bool) := (rational_New.f k (-6) 8).bind fun bt715 => ((rational_Parse.f k (⟨#[48, 46, 49, 50, 53]⟩ : ByteArray)).bind fun bt724 => (if bt715.2.2.2 = 0 then (if bt724.2.2.2 = 0 then ((rational_Format.f k bt715.1 bt715.2.1 bt715.2.2.1).bind fun t733 => (if t733.toList = ([45, 51, 47, 52] : List UInt8) then ((rational_Add.f k bt715.1 bt715.2.1 bt715.2.2.1 bt724.1 bt724.2.1 bt724.2.2.1).bind fun bt734 => ((rational_Format.f k bt734.1 bt734.2.1 bt734.2.2).bind fun t741 => (if t741.toList = ([45, 53, 47, 56] : List UInt8) then ((rational_Cmp.f k bt715.1 bt715.2.1 bt715.2.2.1 bt724.1 bt724.2.1 bt724.2.2.1).bind fun t742 => (some (t742 == (-1)))) else (none)))) else (none))) else (none)) else (none)))
theorem credencelaw2_known.mono : ∀ k, LeO (credencelaw2_known.f k ) (credencelaw2_known.f (k + 1) ) := by
 intro  k
 unfold credencelaw2_known.f
 repeat' first
   | (with_reducible exact rational_Add.mono _ _ _ _ _ _ _)
   | (with_reducible exact rational_Cmp.mono _ _ _ _ _ _ _)
   | (with_reducible exact rational_Format.mono _ _ _ _)
   | (with_reducible exact rational_New.mono _ _ _)
   | (with_reducible exact rational_Parse.mono _ _)
   | (with_reducible exact LeO.refl _)
   | (with_reducible exact LeO.none _)
   | (with_reducible refine LeO.ite ?_ ?_)
   | (with_reducible refine LeO.bind ?_ (fun _ => ?_))
   | exact LeO.none _
   | refine LeO.ite ?_ ?_
   | refine LeO.bind ?_ (fun _ => ?_)
set_option maxHeartbeats 8000000 in
set_option maxRecDepth 100000 in
theorem credencelaw2_known.calls (k : Nat)  (r : Bool) (w : World) (h : credencelaw2_known.f k  = some r) :
  Calls Tryd.prog 14 #[] w fun e w' => e = .returned (.bool r) ∧ Below w.heap.size w w' := by
 have hu25 := Tryd.underlying25
 have HB := Aside0.mk (Below.refl w.heap.size w)
 have H : ((rational_New.f k (-6) 8).bind fun bt715 => ((rational_Parse.f k (⟨#[48, 46, 49, 50, 53]⟩ : ByteArray)).bind fun bt724 => (if bt715.2.2.2 = 0 then (if bt724.2.2.2 = 0 then ((rational_Format.f k bt715.1 bt715.2.1 bt715.2.2.1).bind fun t733 => (if t733.toList = ([45, 51, 47, 52] : List UInt8) then ((rational_Add.f k bt715.1 bt715.2.1 bt715.2.2.1 bt724.1 bt724.2.1 bt724.2.2.1).bind fun bt734 => ((rational_Format.f k bt734.1 bt734.2.1 bt734.2.2).bind fun t741 => (if t741.toList = ([45, 53, 47, 56] : List UInt8) then ((rational_Cmp.f k bt715.1 bt715.2.1 bt715.2.2.1 bt724.1 bt724.2.1 bt724.2.2.1).bind fun t742 => (some (t742 == (-1)))) else (none)))) else (none))) else (none)) else (none)))) = some r := h
 clear h
 replace H := Option.bind_eq_some_iff.mp H
 obtain ⟨⟨t715, t716, t719, t722⟩, A10, H⟩ := H
 replace H : ((rational_Parse.f k (⟨#[48, 46, 49, 50, 53]⟩ : ByteArray)).bind fun bt724 => (if t722 = 0 then (if bt724.2.2.2 = 0 then ((rational_Format.f k t715 t716 t719).bind fun t733 => (if t733.toList = ([45, 51, 47, 52] : List UInt8) then ((rational_Add.f k t715 t716 t719 bt724.1 bt724.2.1 bt724.2.2.1).bind fun bt734 => ((rational_Format.f k bt734.1 bt734.2.1 bt734.2.2).bind fun t741 => (if t741.toList = ([45, 53, 47, 56] : List UInt8) then ((rational_Cmp.f k t715 t716 t719 bt724.1 bt724.2.1 bt724.2.2.1).bind fun t742 => (some (t742 == (-1)))) else (none)))) else (none))) else (none)) else (none))) = some r := H
 have A1 := Aside0.mk A10
 clear A10
 replace H := Option.bind_eq_some_iff.mp H
 obtain ⟨⟨t724, t725, t728, t731⟩, A20, H⟩ := H
 replace H : (if t722 = 0 then (if t731 = 0 then ((rational_Format.f k t715 t716 t719).bind fun t733 => (if t733.toList = ([45, 51, 47, 52] : List UInt8) then ((rational_Add.f k t715 t716 t719 t724 t725 t728).bind fun bt734 => ((rational_Format.f k bt734.1 bt734.2.1 bt734.2.2).bind fun t741 => (if t741.toList = ([45, 53, 47, 56] : List UInt8) then ((rational_Cmp.f k t715 t716 t719 t724 t725 t728).bind fun t742 => (some (t742 == (-1)))) else (none)))) else (none))) else (none)) else (none)) = some r := H
 have A2 := Aside0.mk A20
 clear A20
 by_cases c3 : t722 = 0
 ·
  rw [if_pos c3] at H
  have c3b0 : (t722 == 0) = true := beq_iff_eq.mpr c3
  have c3b1 : (t722 != 0) = false := bne_eq_false_iff_eq.mpr c3
  clear c3
  by_cases c4 : t731 = 0
  ·
   rw [if_pos c4] at H
   have c4b0 : (t731 == 0) = true := beq_iff_eq.mpr c4
   have c4b1 : (t731 != 0) = false := bne_eq_false_iff_eq.mpr c4
   clear c4
   replace H := Option.bind_eq_some_iff.mp H
   obtain ⟨t733, A50, H⟩ := H
   replace H : (if t733.toList = ([45, 51, 47, 52] : List UInt8) then ((rational_Add.f k t715 t716 t719 t724 t725 t728).bind fun bt734 => ((rational_Format.f k bt734.1 bt734.2.1 bt734.2.2).bind fun t741 => (if t741.toList = ([45, 53, 47, 56] : List UInt8) then ((rational_Cmp.f k t715 t716 t719 t724 t725 t728).bind fun t742 => (some (t742 == (-1)))) else (none)))) else (none)) = some r := H
   have A5 := Aside0.mk A50
   clear A50
   by_cases c6 : t733.toList = ([45, 51, 47, 52] : List UInt8)
   ·
    rw [if_pos c6] at H
    have c6b0 : (t733.toList == ([45, 51, 47, 52] : List UInt8)) = true := beq_iff_eq.mpr c6
    have c6b1 : (t733.toList != ([45, 51, 47, 52] : List UInt8)) = false := bne_eq_false_iff_eq.mpr c6
    clear c6
    replace H := Option.bind_eq_some_iff.mp H
    obtain ⟨⟨t734, t735, t738⟩, A70, H⟩ := H
    replace H : ((rational_Format.f k t734 t735 t738).bind fun t741 => (if t741.toList = ([45, 53, 47, 56] : List UInt8) then ((rational_Cmp.f k t715 t716 t719 t724 t725 t728).bind fun t742 => (some (t742 == (-1)))) else (none))) = some r := H
    have A7 := Aside0.mk A70
    clear A70
    replace H := Option.bind_eq_some_iff.mp H
    obtain ⟨t741, A80, H⟩ := H
    replace H : (if t741.toList = ([45, 53, 47, 56] : List UInt8) then ((rational_Cmp.f k t715 t716 t719 t724 t725 t728).bind fun t742 => (some (t742 == (-1)))) else (none)) = some r := H
    have A8 := Aside0.mk A80
    clear A80
    by_cases c9 : t741.toList = ([45, 53, 47, 56] : List UInt8)
    ·
     rw [if_pos c9] at H
     have c9b0 : (t741.toList == ([45, 53, 47, 56] : List UInt8)) = true := beq_iff_eq.mpr c9
     have c9b1 : (t741.toList != ([45, 53, 47, 56] : List UInt8)) = false := bne_eq_false_iff_eq.mpr c9
     clear c9
     replace H := Option.bind_eq_some_iff.mp H
     obtain ⟨t742, A100, H⟩ := H
     replace H : (some (t742 == (-1))) = some r := H
     have A10 := Aside0.mk A100
     clear A100
     obtain rfl := Option.some.inj H
     go_enter Tryd.func14, Tryd.ntmps14
     have M259_0 : Aside0 True := ⟨trivial⟩
     have M259_1 : Aside0 True := ⟨trivial⟩
     go_wp2_with (first | ((with_reducible refine gate_callee (f := 11) rfl ?_); refine goesL_ (some 6) rfl rfl Tryd.func11 (by kernel_rfl) rfl #[.int .i64 (-6), .int .i64 8] rfl (by first | rfl | (go_simp; first | done | rfl | omega)) ?_; (with_reducible refine (rational_New.calls k (-6) 8 t715 t716 t719 t722 _ A1.out).mono ?_); rintro e w11 ⟨v717, v720, rfl, ho0, ho1, hb⟩; refine ⟨_, rfl, ?_⟩; have n0_ := Aside0.mk (Kd.R_lower ho0 (below_size (zb HB rfl))); have n1_ := Aside0.mk (Kd.R_lower ho1 (below_size (zb HB rfl))); have n2_ := Aside0.mk (below_step (zb HB rfl) hb); clear HB; have HO718 := n0_; have HO721 := n1_; have HB := n2_; clear n0_ n1_ n2_) | ((with_reducible refine gate_dst (N := 1) rfl ?_); refine box_event ?hg (N := 1) ?hd (cs := #[.bool false, .slice none 0 0, .slice none 0 0]) (t := 25) ?hr ?_; (case hd => rfl); (case hg => rfl); (case hr => first | (go_simp; done) | (go_simp; rfl)); intro gb723 hg w12 hbox hb; have n0_ := Aside0.mk (Kd.R_below (zr HO718 rfl) hb); have n1_ := Aside0.mk (Kd.R_below (zr HO721 rfl) hb); have n2_ := Aside0.mk (below_step (zb HB rfl) hb); have n3_ := Aside0.mk (hbox); have n4_ := Aside0.mk ((by rw [hg]; exact (below_size (zb HB rfl)) : w.heap.size ≤ gb723)); have n5_ := Aside0.mk ((by rw [hg]; exact (below_size (zb HB rfl)) : w.heap.size ≤ gb723)); clear HO718; clear HO721; clear HB; have HO718 := n0_; have HO721 := n1_; have HB := n2_; have BK723 := n3_; have GW723 := n4_; have GE723 := n5_; clear n0_ n1_ n2_ n3_ n4_ n5_; clear hb hbox hg; have hcz13_0 : w12.cell? ⟨gb723, 0, none⟩ = some (.bool false) := (blk_cell BK723.out 0).trans rfl; have hcz13_1 : w12.cell? ⟨gb723, 1, none⟩ = some (.slice none 0 0) := (blk_cell BK723.out 1).trans rfl; have hcz13_2 : w12.cell? ⟨gb723, 2, none⟩ = some (.slice none 0 0) := (blk_cell BK723.out 2).trans rfl; have hfz13_0 := blk_frozen BK723.out 0; have hfz13_1 := blk_frozen BK723.out 1; have hfz13_2 := blk_frozen BK723.out 2; obtain ⟨Ao14, co14, eo14⟩ := Kd.R_slice HO718.out; subst eo14; obtain ⟨Ao15, co15, eo15⟩ := Kd.R_slice HO721.out; subst eo15) | ((with_reducible refine gate_callee (f := 16) rfl ?_); refine goesL_ (some 10) rfl rfl Tryd.func16 (by kernel_rfl) rfl #[.string (⟨#[48, 46, 49, 50, 53]⟩ : ByteArray)] rfl (by first | rfl | (go_simp; first | done | rfl | omega)) ?_; (with_reducible refine (rational_Parse.calls k (⟨#[48, 46, 49, 50, 53]⟩ : ByteArray) t724 t725 t728 t731 _ A2.out).mono ?_); rintro e w16 ⟨v726, v729, rfl, ho0, ho1, hb⟩; refine ⟨_, rfl, ?_⟩; have n0_ := Aside0.mk (Kd.R_mono (Kd.R_told (Kd.R_told (Kd.R_old (by (with_reducible repeat (first | apply Kd.R_alloc | apply Kd.R_drewN | apply Kd.R_drew)); exact (Kd.R_mono (Kd.R_far (p := ⟨gb723, 2, none⟩) (Kd.R_far (p := ⟨gb723, 1, none⟩) (Kd.R_far (p := ⟨gb723, 0, none⟩) (Kd.R_types HO718.out BK723.out (by decide)) (fun _ hk => hk.2) (.bool t715)) (fun _ hk => hk.2) (.slice Ao14 t716.length co14)) (fun _ hk => hk.2) (.slice Ao15 t719.length co15)) (fun _ h_ => h_.1))) hb) (Kd.R_base ho0)) (Kd.R_base ho1)) (fun _ h_ => h_.1)); have n1_ := Aside0.mk (Kd.R_mono (Kd.R_told (Kd.R_told (Kd.R_old (by (with_reducible repeat (first | apply Kd.R_alloc | apply Kd.R_drewN | apply Kd.R_drew)); exact (Kd.R_mono (Kd.R_far (p := ⟨gb723, 2, none⟩) (Kd.R_far (p := ⟨gb723, 1, none⟩) (Kd.R_far (p := ⟨gb723, 0, none⟩) (Kd.R_types HO721.out BK723.out (by decide)) (fun _ hk => hk.2) (.bool t715)) (fun _ hk => hk.2) (.slice Ao14 t716.length co14)) (fun _ hk => hk.2) (.slice Ao15 t719.length co15)) (fun _ h_ => h_.1))) hb) (Kd.R_base ho0)) (Kd.R_base ho1)) (fun _ h_ => h_.1)); have n2_ := Aside0.mk (Kd.R_lower (Kd.R_new' (Kd.R_new' ho0 (Kd.R_lt (by (with_reducible repeat (first | apply Kd.R_alloc | apply Kd.R_drewN | apply Kd.R_drew)); exact (Kd.R_mono (Kd.R_far (p := ⟨gb723, 2, none⟩) (Kd.R_far (p := ⟨gb723, 1, none⟩) (Kd.R_far (p := ⟨gb723, 0, none⟩) (Kd.R_types HO718.out BK723.out (by decide)) (fun _ hk => hk.2) (.bool t715)) (fun _ hk => hk.2) (.slice Ao14 t716.length co14)) (fun _ hk => hk.2) (.slice Ao15 t719.length co15)) (fun _ h_ => h_.1))))) (Kd.R_lt (by (with_reducible repeat (first | apply Kd.R_alloc | apply Kd.R_drewN | apply Kd.R_drew)); exact (Kd.R_mono (Kd.R_far (p := ⟨gb723, 2, none⟩) (Kd.R_far (p := ⟨gb723, 1, none⟩) (Kd.R_far (p := ⟨gb723, 0, none⟩) (Kd.R_types HO721.out BK723.out (by decide)) (fun _ hk => hk.2) (.bool t715)) (fun _ hk => hk.2) (.slice Ao14 t716.length co14)) (fun _ hk => hk.2) (.slice Ao15 t719.length co15)) (fun _ h_ => h_.1))))) (below_size (by repeat (first | (with_reducible first | exact HB.out | apply below_alloc | apply pw_below_drewN | apply below_drew1 | refine below_set ?_ GE723.out) | exact HB.out)))); have n3_ := Aside0.mk (Kd.R_lower (Kd.R_new' (Kd.R_new' ho1 (Kd.R_lt (by (with_reducible repeat (first | apply Kd.R_alloc | apply Kd.R_drewN | apply Kd.R_drew)); exact (Kd.R_mono (Kd.R_far (p := ⟨gb723, 2, none⟩) (Kd.R_far (p := ⟨gb723, 1, none⟩) (Kd.R_far (p := ⟨gb723, 0, none⟩) (Kd.R_types HO718.out BK723.out (by decide)) (fun _ hk => hk.2) (.bool t715)) (fun _ hk => hk.2) (.slice Ao14 t716.length co14)) (fun _ hk => hk.2) (.slice Ao15 t719.length co15)) (fun _ h_ => h_.1))))) (Kd.R_lt (by (with_reducible repeat (first | apply Kd.R_alloc | apply Kd.R_drewN | apply Kd.R_drew)); exact (Kd.R_mono (Kd.R_far (p := ⟨gb723, 2, none⟩) (Kd.R_far (p := ⟨gb723, 1, none⟩) (Kd.R_far (p := ⟨gb723, 0, none⟩) (Kd.R_types HO721.out BK723.out (by decide)) (fun _ hk => hk.2) (.bool t715)) (fun _ hk => hk.2) (.slice Ao14 t716.length co14)) (fun _ hk => hk.2) (.slice Ao15 t719.length co15)) (fun _ h_ => h_.1))))) (below_size (by repeat (first | (with_reducible first | exact HB.out | apply below_alloc | apply pw_below_drewN | apply below_drew1 | refine below_set ?_ GE723.out) | exact HB.out)))); have n4_ := Aside0.mk (blk_below (g := gb723) (o := .cells #[.bool t715, .slice Ao14 t716.length co14, .slice Ao15 t719.length co15] 25 (0, 0)) (by (with_reducible repeat (first | refine blk_drewN ?_ _ | refine blk_drew ?_ | refine blk_alloc ?_ _)); refine blk_put (cs := #[.bool t715, .slice Ao14 t716.length co14, .slice none 0 0]) ?_ 2 _ rfl; (with_reducible repeat (first | refine blk_drewN ?_ _ | refine blk_drew ?_ | refine blk_alloc ?_ _)); refine blk_put (cs := #[.bool t715, .slice none 0 0, .slice none 0 0]) ?_ 1 _ rfl; (with_reducible repeat (first | refine blk_drewN ?_ _ | refine blk_drew ?_ | refine blk_alloc ?_ _)); refine blk_put (cs := #[.bool false, .slice none 0 0, .slice none 0 0]) ?_ 0 _ rfl; (with_reducible repeat (first | refine blk_drewN ?_ _ | refine blk_drew ?_ | refine blk_alloc ?_ _)); exact BK723.out) hb); have n5_ := Aside0.mk (below_step (by repeat (first | (with_reducible first | exact HB.out | apply below_alloc | apply pw_below_drewN | apply below_drew1 | refine below_set ?_ GE723.out) | exact HB.out)) hb); clear HO718; clear HO721; clear BK723; clear HB; have HO718 := n0_; have HO721 := n1_; have HO727 := n2_; have HO730 := n3_; have BK723 := n4_; have HB := n5_; clear n0_ n1_ n2_ n3_ n4_ n5_) | ((with_reducible refine gate_dst (N := 3) rfl ?_); refine box_event ?hg (N := 3) ?hd (cs := #[.bool false, .slice none 0 0, .slice none 0 0]) (t := 25) ?hr ?_; (case hd => rfl); (case hg => rfl); (case hr => first | (go_simp; done) | (go_simp; rfl)); intro gb732 hg w17 hbox hb; have n0_ := Aside0.mk (Kd.R_below (zr HO718 rfl) hb); have n1_ := Aside0.mk (Kd.R_below (zr HO721 rfl) hb); have n2_ := Aside0.mk (Kd.R_below (zr HO727 rfl) hb); have n3_ := Aside0.mk (Kd.R_below (zr HO730 rfl) hb); have n4_ := Aside0.mk (blk_below BK723.out hb); have n5_ := Aside0.mk (below_step (zb HB rfl) hb); have n6_ := Aside0.mk (hbox); have n7_ := Aside0.mk ((by rw [hg]; exact (below_size (zb HB rfl)) : w.heap.size ≤ gb732)); have n8_ := Aside0.mk ((by rw [hg]; exact (below_size (zb HB rfl)) : w.heap.size ≤ gb732)); have n9_ := Aside0.mk ((by rw [hg]; exact Nat.ne_of_lt (blk_lt BK723.out) : gb723 ≠ gb732)); have n10_ := Aside0.mk ((by rw [hg]; exact Nat.ne_of_gt (blk_lt BK723.out) : gb732 ≠ gb723)); clear HO718; clear HO721; clear HO727; clear HO730; clear BK723; clear HB; have HO718 := n0_; have HO721 := n1_; have HO727 := n2_; have HO730 := n3_; have BK723 := n4_; have HB := n5_; have BK732 := n6_; have GW732 := n7_; have GE732 := n8_; have NB723_732 := n9_; have NB732_723 := n10_; clear n0_ n1_ n2_ n3_ n4_ n5_ n6_ n7_ n8_ n9_ n10_; clear hb hbox hg; have hnb18 := NB732_723.out; have hnc18 := NB723_732.out; have hcz19_0 : w17.cell? ⟨gb732, 0, none⟩ = some (.bool false) := (blk_cell BK732.out 0).trans rfl; have hcz19_1 : w17.cell? ⟨gb732, 1, none⟩ = some (.slice none 0 0) := (blk_cell BK732.out 1).trans rfl; have hcz19_2 : w17.cell? ⟨gb732, 2, none⟩ = some (.slice none 0 0) := (blk_cell BK732.out 2).trans rfl; have hfz19_0 := blk_frozen BK732.out 0; have hfz19_1 := blk_frozen BK732.out 1; have hfz19_2 := blk_frozen BK732.out 2; obtain ⟨Ao20, co20, eo20⟩ := Kd.R_slice HO727.out; subst eo20; obtain ⟨Ao21, co21, eo21⟩ := Kd.R_slice HO730.out; subst eo21; have hcz22_0 : w17.cell? ⟨gb723, 0, none⟩ = some (.bool t715) := (blk_cell BK723.out 0).trans rfl; have hcz22_1 : w17.cell? ⟨gb723, 1, none⟩ = some (.slice Ao14 t716.length co14) := (blk_cell BK723.out 1).trans rfl; have hcz22_2 : w17.cell? ⟨gb723, 2, none⟩ = some (.slice Ao15 t719.length co15) := (blk_cell BK723.out 2).trans rfl; have hfz22_0 := blk_frozen BK723.out 0; have hfz22_1 := blk_frozen BK723.out 1; have hfz22_2 := blk_frozen BK723.out 2) | (go_at_call 18; clear M259_0; (with_reducible refine (rational_Format.calls k t715 _ _ t716 _ _ t719 t733 _ ?side1 ?side2 ?side3 ?side4 A5.out).mono ?_); (case side1 => refine (Kd.R_reads' (e := 37) (base := w.heap.size) (ok := fun k_ => ((some k_ ≠ (.slice Ao15 t719.length co15 : Value).ownBlock ∧ some k_ ≠ (.slice Ao20 t725.length co20 : Value).ownBlock) ∧ some k_ ≠ (.slice Ao21 t728.length co21 : Value).ownBlock)) (n := t716.length) (c := co14) ?_).2.2; exact (by (with_reducible repeat (first | apply Kd.R_alloc | apply Kd.R_drewN | apply Kd.R_drew)); exact (Kd.R_mono (Kd.R_far (p := ⟨gb732, 2, none⟩) (Kd.R_far (p := ⟨gb732, 1, none⟩) (Kd.R_far (p := ⟨gb732, 0, none⟩) (Kd.R_types HO718.out BK732.out (by decide)) (fun _ hk => hk.2) (.bool t724)) (fun _ hk => hk.2) (.slice Ao20 t725.length co20)) (fun _ hk => hk.2) (.slice Ao21 t728.length co21)) (fun _ h_ => h_.1)))); (case side2 => exact (Kd.R_reads' HO718.out).2.1); (case side3 => refine (Kd.R_reads' (e := 37) (base := w.heap.size) (ok := fun k_ => ((some k_ ≠ (.slice Ao14 t716.length co14 : Value).ownBlock ∧ some k_ ≠ (.slice Ao20 t725.length co20 : Value).ownBlock) ∧ some k_ ≠ (.slice Ao21 t728.length co21 : Value).ownBlock)) (n := t719.length) (c := co15) ?_).2.2; exact (by (with_reducible repeat (first | apply Kd.R_alloc | apply Kd.R_drewN | apply Kd.R_drew)); exact (Kd.R_mono (Kd.R_far (p := ⟨gb732, 2, none⟩) (Kd.R_far (p := ⟨gb732, 1, none⟩) (Kd.R_far (p := ⟨gb732, 0, none⟩) (Kd.R_types HO721.out BK732.out (by decide)) (fun _ hk => hk.2) (.bool t724)) (fun _ hk => hk.2) (.slice Ao20 t725.length co20)) (fun _ hk => hk.2) (.slice Ao21 t728.length co21)) (fun _ h_ => h_.1)))); (case side4 => exact (Kd.R_reads' HO721.out).2.1); rintro e w23 ⟨rfl, hb⟩; have n0_ := Aside0.mk (Kd.R_below (by (with_reducible repeat (first | apply Kd.R_alloc | apply Kd.R_drewN | apply Kd.R_drew)); exact (Kd.R_mono (Kd.R_far (p := ⟨gb732, 2, none⟩) (Kd.R_far (p := ⟨gb732, 1, none⟩) (Kd.R_far (p := ⟨gb732, 0, none⟩) (Kd.R_types HO718.out BK732.out (by decide)) (fun _ hk => hk.2) (.bool t724)) (fun _ hk => hk.2) (.slice Ao20 t725.length co20)) (fun _ hk => hk.2) (.slice Ao21 t728.length co21)) (fun _ h_ => h_.1))) hb); have n1_ := Aside0.mk (Kd.R_below (by (with_reducible repeat (first | apply Kd.R_alloc | apply Kd.R_drewN | apply Kd.R_drew)); exact (Kd.R_mono (Kd.R_far (p := ⟨gb732, 2, none⟩) (Kd.R_far (p := ⟨gb732, 1, none⟩) (Kd.R_far (p := ⟨gb732, 0, none⟩) (Kd.R_types HO721.out BK732.out (by decide)) (fun _ hk => hk.2) (.bool t724)) (fun _ hk => hk.2) (.slice Ao20 t725.length co20)) (fun _ hk => hk.2) (.slice Ao21 t728.length co21)) (fun _ h_ => h_.1))) hb); have n2_ := Aside0.mk (Kd.R_below (by (with_reducible repeat (first | apply Kd.R_alloc | apply Kd.R_drewN | apply Kd.R_drew)); exact (Kd.R_mono (Kd.R_far (p := ⟨gb732, 2, none⟩) (Kd.R_far (p := ⟨gb732, 1, none⟩) (Kd.R_far (p := ⟨gb732, 0, none⟩) (Kd.R_types HO727.out BK732.out (by decide)) (fun _ hk => hk.2) (.bool t724)) (fun _ hk => hk.2) (.slice Ao20 t725.length co20)) (fun _ hk => hk.2) (.slice Ao21 t728.length co21)) (fun _ h_ => h_.1))) hb); have n3_ := Aside0.mk (Kd.R_below (by (with_reducible repeat (first | apply Kd.R_alloc | apply Kd.R_drewN | apply Kd.R_drew)); exact (Kd.R_mono (Kd.R_far (p := ⟨gb732, 2, none⟩) (Kd.R_far (p := ⟨gb732, 1, none⟩) (Kd.R_far (p := ⟨gb732, 0, none⟩) (Kd.R_types HO730.out BK732.out (by decide)) (fun _ hk => hk.2) (.bool t724)) (fun _ hk => hk.2) (.slice Ao20 t725.length co20)) (fun _ hk => hk.2) (.slice Ao21 t728.length co21)) (fun _ h_ => h_.1))) hb); have n4_ := Aside0.mk (blk_below (g := gb723) (o := .cells #[.bool t715, .slice Ao14 t716.length co14, .slice Ao15 t719.length co15] 25 (0, 0)) (by (with_reducible repeat (first | refine blk_drewN ?_ _ | refine blk_drew ?_ | refine blk_alloc ?_ _)); refine blk_far ?_ NB723_732.out _; (with_reducible repeat (first | refine blk_drewN ?_ _ | refine blk_drew ?_ | refine blk_alloc ?_ _)); refine blk_far ?_ NB723_732.out _; (with_reducible repeat (first | refine blk_drewN ?_ _ | refine blk_drew ?_ | refine blk_alloc ?_ _)); refine blk_far ?_ NB723_732.out _; (with_reducible repeat (first | refine blk_drewN ?_ _ | refine blk_drew ?_ | refine blk_alloc ?_ _)); exact BK723.out) hb); have n5_ := Aside0.mk (blk_below (g := gb732) (o := .cells #[.bool t724, .slice Ao20 t725.length co20, .slice Ao21 t728.length co21] 25 (0, 0)) (by (with_reducible repeat (first | refine blk_drewN ?_ _ | refine blk_drew ?_ | refine blk_alloc ?_ _)); refine blk_put (cs := #[.bool t724, .slice Ao20 t725.length co20, .slice none 0 0]) ?_ 2 _ rfl; (with_reducible repeat (first | refine blk_drewN ?_ _ | refine blk_drew ?_ | refine blk_alloc ?_ _)); refine blk_put (cs := #[.bool t724, .slice none 0 0, .slice none 0 0]) ?_ 1 _ rfl; (with_reducible repeat (first | refine blk_drewN ?_ _ | refine blk_drew ?_ | refine blk_alloc ?_ _)); refine blk_put (cs := #[.bool false, .slice none 0 0, .slice none 0 0]) ?_ 0 _ rfl; (with_reducible repeat (first | refine blk_drewN ?_ _ | refine blk_drew ?_ | refine blk_alloc ?_ _)); exact BK732.out) hb); have n6_ := Aside0.mk (below_step (by repeat (first | (with_reducible first | exact HB.out | apply below_alloc | apply pw_below_drewN | apply below_drew1 | refine below_set ?_ GE723.out | refine below_set ?_ GE732.out) | exact HB.out)) hb); clear HO718; clear HO721; clear HO727; clear HO730; clear BK723; clear BK732; clear HB; have HO718 := n0_; have HO721 := n1_; have HO727 := n2_; have HO730 := n3_; have BK723 := n4_; have BK732 := n5_; have HB := n6_; clear n0_ n1_ n2_ n3_ n4_ n5_ n6_; have hcz24_0 : w23.cell? ⟨gb723, 0, none⟩ = some (.bool t715) := (blk_cell BK723.out 0).trans rfl; have hcz24_1 : w23.cell? ⟨gb723, 1, none⟩ = some (.slice Ao14 t716.length co14) := (blk_cell BK723.out 1).trans rfl; have hcz24_2 : w23.cell? ⟨gb723, 2, none⟩ = some (.slice Ao15 t719.length co15) := (blk_cell BK723.out 2).trans rfl; have hfz24_0 := blk_frozen BK723.out 0; have hfz24_1 := blk_frozen BK723.out 1; have hfz24_2 := blk_frozen BK723.out 2; have hcz25_0 : w23.cell? ⟨gb732, 0, none⟩ = some (.bool t724) := (blk_cell BK732.out 0).trans rfl; have hcz25_1 : w23.cell? ⟨gb732, 1, none⟩ = some (.slice Ao20 t725.length co20) := (blk_cell BK732.out 1).trans rfl; have hcz25_2 : w23.cell? ⟨gb732, 2, none⟩ = some (.slice Ao21 t728.length co21) := (blk_cell BK732.out 2).trans rfl; have hfz25_0 := blk_frozen BK732.out 0; have hfz25_1 := blk_frozen BK732.out 1; have hfz25_2 := blk_frozen BK732.out 2) | (go_at_call 23; (with_reducible refine (rational_Add.calls k t715 _ _ t716 _ _ t719 t724 _ _ t725 _ _ t728 t734 t735 t738 _ ?side1 ?side2 ?side3 ?side4 ?side5 ?side6 ?side7 ?side8 A7.out).mono ?_); (case side1 => repeat first | exact (Kd.R_reads' HO718.out).2.2 | refine Kd.C_drewN ?_ _ | refine Kd.C_alloc ?_ _ | refine Kd.C_drew ?_); (case side2 => exact (Kd.R_reads' HO718.out).2.1); (case side3 => repeat first | exact (Kd.R_reads' HO721.out).2.2 | refine Kd.C_drewN ?_ _ | refine Kd.C_alloc ?_ _ | refine Kd.C_drew ?_); (case side4 => exact (Kd.R_reads' HO721.out).2.1); (case side5 => repeat first | exact (Kd.R_reads' HO727.out).2.2 | refine Kd.C_drewN ?_ _ | refine Kd.C_alloc ?_ _ | refine Kd.C_drew ?_); (case side6 => exact (Kd.R_reads' HO727.out).2.1); (case side7 => repeat first | exact (Kd.R_reads' HO730.out).2.2 | refine Kd.C_drewN ?_ _ | refine Kd.C_alloc ?_ _ | refine Kd.C_drew ?_); (case side8 => exact (Kd.R_reads' HO730.out).2.1); rintro e w26 ⟨v736, v739, rfl, ho0, ho1, hb⟩; have n0_ := Aside0.mk (Kd.R_mono (Kd.R_told (Kd.R_told (Kd.R_old (zr HO718 rfl) hb) (Kd.R_base ho0)) (Kd.R_base ho1)) (fun _ h_ => h_.1)); have n1_ := Aside0.mk (Kd.R_mono (Kd.R_told (Kd.R_told (Kd.R_old (zr HO721 rfl) hb) (Kd.R_base ho0)) (Kd.R_base ho1)) (fun _ h_ => h_.1)); have n2_ := Aside0.mk (Kd.R_mono (Kd.R_told (Kd.R_told (Kd.R_old (zr HO727 rfl) hb) (Kd.R_base ho0)) (Kd.R_base ho1)) (fun _ h_ => h_.1)); have n3_ := Aside0.mk (Kd.R_mono (Kd.R_told (Kd.R_told (Kd.R_old (zr HO730 rfl) hb) (Kd.R_base ho0)) (Kd.R_base ho1)) (fun _ h_ => h_.1)); have n4_ := Aside0.mk (Kd.R_lower (Kd.R_new' (Kd.R_new' (Kd.R_new' (Kd.R_new' ho0 (Kd.R_lt (zr HO718 rfl))) (Kd.R_lt (zr HO721 rfl))) (Kd.R_lt (zr HO727 rfl))) (Kd.R_lt (zr HO730 rfl))) (below_size (zb HB rfl))); have n5_ := Aside0.mk (Kd.R_lower (Kd.R_new' (Kd.R_new' (Kd.R_new' (Kd.R_new' ho1 (Kd.R_lt (zr HO718 rfl))) (Kd.R_lt (zr HO721 rfl))) (Kd.R_lt (zr HO727 rfl))) (Kd.R_lt (zr HO730 rfl))) (below_size (zb HB rfl))); have n6_ := Aside0.mk (blk_below BK723.out hb); have n7_ := Aside0.mk (blk_below BK732.out hb); have n8_ := Aside0.mk (below_step (zb HB rfl) hb); clear HO718; clear HO721; clear HO727; clear HO730; clear BK723; clear BK732; clear HB; have HO718 := n0_; have HO721 := n1_; have HO727 := n2_; have HO730 := n3_; have HO737 := n4_; have HO740 := n5_; have BK723 := n6_; have BK732 := n7_; have HB := n8_; clear n0_ n1_ n2_ n3_ n4_ n5_ n6_ n7_ n8_; obtain ⟨Ao27, co27, eo27⟩ := Kd.R_slice HO737.out; subst eo27; obtain ⟨Ao28, co28, eo28⟩ := Kd.R_slice HO740.out; subst eo28) | (go_at_call 18; clear M259_1; (with_reducible refine (rational_Format.calls k t734 _ _ t735 _ _ t738 t741 _ ?side1 ?side2 ?side3 ?side4 A8.out).mono ?_); (case side1 => repeat first | exact (Kd.R_reads' HO737.out).2.2 | refine Kd.C_drewN ?_ _ | refine Kd.C_alloc ?_ _ | refine Kd.C_drew ?_); (case side2 => exact (Kd.R_reads' HO737.out).2.1); (case side3 => repeat first | exact (Kd.R_reads' HO740.out).2.2 | refine Kd.C_drewN ?_ _ | refine Kd.C_alloc ?_ _ | refine Kd.C_drew ?_); (case side4 => exact (Kd.R_reads' HO740.out).2.1); rintro e w29 ⟨rfl, hb⟩; have n0_ := Aside0.mk (Kd.R_below (zr HO718 rfl) hb); have n1_ := Aside0.mk (Kd.R_below (zr HO721 rfl) hb); have n2_ := Aside0.mk (Kd.R_below (zr HO727 rfl) hb); have n3_ := Aside0.mk (Kd.R_below (zr HO730 rfl) hb); have n4_ := Aside0.mk (Kd.R_below (zr HO737 rfl) hb); have n5_ := Aside0.mk (Kd.R_below (zr HO740 rfl) hb); have n6_ := Aside0.mk (blk_below BK723.out hb); have n7_ := Aside0.mk (blk_below BK732.out hb); have n8_ := Aside0.mk (below_step (zb HB rfl) hb); clear HO718; clear HO721; clear HO727; clear HO730; clear HO737; clear HO740; clear BK723; clear BK732; clear HB; have HO718 := n0_; have HO721 := n1_; have HO727 := n2_; have HO730 := n3_; have HO737 := n4_; have HO740 := n5_; have BK723 := n6_; have BK732 := n7_; have HB := n8_; clear n0_ n1_ n2_ n3_ n4_ n5_ n6_ n7_ n8_; have hcz30_0 : w29.cell? ⟨gb723, 0, none⟩ = some (.bool t715) := (blk_cell BK723.out 0).trans rfl; have hcz30_1 : w29.cell? ⟨gb723, 1, none⟩ = some (.slice Ao14 t716.length co14) := (blk_cell BK723.out 1).trans rfl; have hcz30_2 : w29.cell? ⟨gb723, 2, none⟩ = some (.slice Ao15 t719.length co15) := (blk_cell BK723.out 2).trans rfl; have hfz30_0 := blk_frozen BK723.out 0; have hfz30_1 := blk_frozen BK723.out 1; have hfz30_2 := blk_frozen BK723.out 2; have hcz31_0 : w29.cell? ⟨gb732, 0, none⟩ = some (.bool t724) := (blk_cell BK732.out 0).trans rfl; have hcz31_1 : w29.cell? ⟨gb732, 1, none⟩ = some (.slice Ao20 t725.length co20) := (blk_cell BK732.out 1).trans rfl; have hcz31_2 : w29.cell? ⟨gb732, 2, none⟩ = some (.slice Ao21 t728.length co21) := (blk_cell BK732.out 2).trans rfl; have hfz31_0 := blk_frozen BK732.out 0; have hfz31_1 := blk_frozen BK732.out 1; have hfz31_2 := blk_frozen BK732.out 2) | (go_at_call 26; (with_reducible refine (rational_Cmp.calls k t715 _ _ t716 _ _ t719 t724 _ _ t725 _ _ t728 t742 _ ?side1 ?side2 ?side3 ?side4 ?side5 ?side6 ?side7 ?side8 A10.out).mono ?_); (case side1 => repeat first | exact (Kd.R_reads' HO718.out).2.2 | refine Kd.C_drewN ?_ _ | refine Kd.C_alloc ?_ _ | refine Kd.C_drew ?_); (case side2 => exact (Kd.R_reads' HO718.out).2.1); (case side3 => repeat first | exact (Kd.R_reads' HO721.out).2.2 | refine Kd.C_drewN ?_ _ | refine Kd.C_alloc ?_ _ | refine Kd.C_drew ?_); (case side4 => exact (Kd.R_reads' HO721.out).2.1); (case side5 => repeat first | exact (Kd.R_reads' HO727.out).2.2 | refine Kd.C_drewN ?_ _ | refine Kd.C_alloc ?_ _ | refine Kd.C_drew ?_); (case side6 => exact (Kd.R_reads' HO727.out).2.1); (case side7 => repeat first | exact (Kd.R_reads' HO730.out).2.2 | refine Kd.C_drewN ?_ _ | refine Kd.C_alloc ?_ _ | refine Kd.C_drew ?_); (case side8 => exact (Kd.R_reads' HO730.out).2.1); rintro e w32 ⟨rfl, hb⟩; have n0_ := Aside0.mk (Kd.R_below (zr HO718 rfl) hb); have n1_ := Aside0.mk (Kd.R_below (zr HO721 rfl) hb); have n2_ := Aside0.mk (Kd.R_below (zr HO727 rfl) hb); have n3_ := Aside0.mk (Kd.R_below (zr HO730 rfl) hb); have n4_ := Aside0.mk (Kd.R_below (zr HO737 rfl) hb); have n5_ := Aside0.mk (Kd.R_below (zr HO740 rfl) hb); have n6_ := Aside0.mk (blk_below BK723.out hb); have n7_ := Aside0.mk (blk_below BK732.out hb); have n8_ := Aside0.mk (below_step (zb HB rfl) hb); clear HO718; clear HO721; clear HO727; clear HO730; clear HO737; clear HO740; clear BK723; clear BK732; clear HB; have HO718 := n0_; have HO721 := n1_; have HO727 := n2_; have HO730 := n3_; have HO737 := n4_; have HO740 := n5_; have BK723 := n6_; have BK732 := n7_; have HB := n8_; clear n0_ n1_ n2_ n3_ n4_ n5_ n6_ n7_ n8_))
     go_ret
     exact ⟨by first | rfl | (simp [*, errW_none, errW_some] <;> rfl), by repeat (first | (with_reducible first | exact HB.out | apply below_alloc | apply pw_below_drewN | apply below_drew1 | refine below_set ?_ GE723.out | refine below_set ?_ GE732.out) | exact HB.out)⟩
    ·
     rw [if_neg c9] at H
     exact absurd H (by simp)
   ·
    rw [if_neg c6] at H
    exact absurd H (by simp)
  ·
   rw [if_neg c4] at H
   exact absurd H (by simp)
 ·
  rw [if_neg c3] at H
  exact absurd H (by simp)

def credencelaw2_RationalNew.f (k : Nat) (a0 : Int) (a1 : Int) : Option (Bool) := (rational_New.f k a0 a1).bind fun bt743 => ((credenceref1_FracNew.f k a0 a1).bind fun bt752 => ((credencelaw2_same.f k bt743.1 bt743.2.1 bt743.2.2.1 bt752.1 bt752.2.1 bt752.2.2.1).bind fun t761 => (if t761 = true then (if bt743.2.2.2 = bt752.2.2.2 then ((credencelaw2_known.f k).bind fun t762 => (some t762)) else (none)) else (none))))
set_option maxHeartbeats 8000000 in
set_option maxRecDepth 100000 in
theorem credencelaw2_RationalNew.calls (k : Nat) (a0 : Int) (a1 : Int) (r : Bool) (w : World) (h : credencelaw2_RationalNew.f k a0 a1 = some r) :
  Calls Tryd.prog 3 #[.int .i64 a0, .int .i64 a1] w fun e w' => e = .returned (.bool r) ∧ Below w.heap.size w w' := by
 have hu25 := Tryd.underlying25
 have HB := Aside0.mk (Below.refl w.heap.size w)
 have H : ((rational_New.f k a0 a1).bind fun bt743 => ((credenceref1_FracNew.f k a0 a1).bind fun bt752 => ((credencelaw2_same.f k bt743.1 bt743.2.1 bt743.2.2.1 bt752.1 bt752.2.1 bt752.2.2.1).bind fun t761 => (if t761 = true then (if bt743.2.2.2 = bt752.2.2.2 then ((credencelaw2_known.f k).bind fun t762 => (some t762)) else (none)) else (none))))) = some r := h
 clear h
 replace H := Option.bind_eq_some_iff.mp H
 obtain ⟨⟨t743, t744, t747, t750⟩, A30, H⟩ := H
 replace H : ((credenceref1_FracNew.f k a0 a1).bind fun bt752 => ((credencelaw2_same.f k t743 t744 t747 bt752.1 bt752.2.1 bt752.2.2.1).bind fun t761 => (if t761 = true then (if t750 = bt752.2.2.2 then ((credencelaw2_known.f k).bind fun t762 => (some t762)) else (none)) else (none)))) = some r := H
 have A3 := Aside0.mk A30
 clear A30
 replace H := Option.bind_eq_some_iff.mp H
 obtain ⟨⟨t752, t753, t756, t759⟩, A40, H⟩ := H
 replace H : ((credencelaw2_same.f k t743 t744 t747 t752 t753 t756).bind fun t761 => (if t761 = true then (if t750 = t759 then ((credencelaw2_known.f k).bind fun t762 => (some t762)) else (none)) else (none))) = some r := H
 have A4 := Aside0.mk A40
 clear A40
 replace H := Option.bind_eq_some_iff.mp H
 obtain ⟨t761, A50, H⟩ := H
 replace H : (if t761 = true then (if t750 = t759 then ((credencelaw2_known.f k).bind fun t762 => (some t762)) else (none)) else (none)) = some r := H
 have A5 := Aside0.mk A50
 clear A50
 by_cases c6 : t761 = true
 ·
  subst c6
  have H1 : (if t750 = t759 then ((credencelaw2_known.f k).bind fun t762 => (some t762)) else (none)) = some r := by rw [if_pos rfl] at H; exact H
  clear H
  have H := H1
  clear H1
  by_cases c7 : t750 = t759
  ·
   rw [if_pos c7] at H
   have c7b0 : (t750 == t759) = true := beq_iff_eq.mpr c7
   have c7b1 : (t750 != t759) = false := bne_eq_false_iff_eq.mpr c7
   clear c7
   replace H := Option.bind_eq_some_iff.mp H
   obtain ⟨t762, A80, H⟩ := H
   replace H : (some t762) = some r := H
   have A8 := Aside0.mk A80
   clear A80
   obtain rfl := Option.some.inj H
   go_enter Tryd.func3, Tryd.ntmps3
   go_wp2_with (first | ((with_reducible refine gate_callee (f := 11) rfl ?_); refine goesL_ (some 12) rfl rfl Tryd.func11 (by kernel_rfl) rfl #[.int .i64 a0, .int .i64 a1] rfl (by first | rfl | (go_simp; first | done | rfl | omega)) ?_; (with_reducible refine (rational_New.calls k a0 a1 t743 t744 t747 t750 _ A3.out).mono ?_); rintro e w9 ⟨v745, v748, rfl, ho0, ho1, hb⟩; refine ⟨_, rfl, ?_⟩; have n0_ := Aside0.mk (Kd.R_lower ho0 (below_size (zb HB rfl))); have n1_ := Aside0.mk (Kd.R_lower ho1 (below_size (zb HB rfl))); have n2_ := Aside0.mk (below_step (zb HB rfl) hb); clear HB; have HO746 := n0_; have HO749 := n1_; have HB := n2_; clear n0_ n1_ n2_) | ((with_reducible refine gate_dst (N := 5) rfl ?_); refine box_event ?hg (N := 5) ?hd (cs := #[.bool false, .slice none 0 0, .slice none 0 0]) (t := 25) ?hr ?_; (case hd => rfl); (case hg => rfl); (case hr => first | (go_simp; done) | (go_simp; rfl)); intro gb751 hg w10 hbox hb; have n0_ := Aside0.mk (Kd.R_below (zr HO746 rfl) hb); have n1_ := Aside0.mk (Kd.R_below (zr HO749 rfl) hb); have n2_ := Aside0.mk (below_step (zb HB rfl) hb); have n3_ := Aside0.mk (hbox); have n4_ := Aside0.mk ((by rw [hg]; exact (below_size (zb HB rfl)) : w.heap.size ≤ gb751)); have n5_ := Aside0.mk ((by rw [hg]; exact (below_size (zb HB rfl)) : w.heap.size ≤ gb751)); clear HO746; clear HO749; clear HB; have HO746 := n0_; have HO749 := n1_; have HB := n2_; have BK751 := n3_; have GW751 := n4_; have GE751 := n5_; clear n0_ n1_ n2_ n3_ n4_ n5_; clear hb hbox hg; have hcz11_0 : w10.cell? ⟨gb751, 0, none⟩ = some (.bool false) := (blk_cell BK751.out 0).trans rfl; have hcz11_1 : w10.cell? ⟨gb751, 1, none⟩ = some (.slice none 0 0) := (blk_cell BK751.out 1).trans rfl; have hcz11_2 : w10.cell? ⟨gb751, 2, none⟩ = some (.slice none 0 0) := (blk_cell BK751.out 2).trans rfl; have hfz11_0 := blk_frozen BK751.out 0; have hfz11_1 := blk_frozen BK751.out 1; have hfz11_2 := blk_frozen BK751.out 2; obtain ⟨Ao12, co12, eo12⟩ := Kd.R_slice HO746.out; subst eo12; obtain ⟨Ao13, co13, eo13⟩ := Kd.R_slice HO749.out; subst eo13) | ((with_reducible refine gate_callee (f := 12) rfl ?_); refine goesL_ (some 18) rfl rfl Tryd.func12 (by kernel_rfl) rfl #[.int .i64 a0, .int .i64 a1] rfl (by first | rfl | (go_simp; first | done | rfl | omega)) ?_; (with_reducible refine (credenceref1_FracNew.calls k a0 a1 t752 t753 t756 t759 _ A4.out).mono ?_); rintro e w14 ⟨v754, v757, rfl, ho0, ho1, hb⟩; refine ⟨_, rfl, ?_⟩; have n0_ := Aside0.mk (Kd.R_mono (Kd.R_told (Kd.R_told (Kd.R_old (by (with_reducible repeat (first | apply Kd.R_alloc | apply Kd.R_drewN | apply Kd.R_drew)); exact (Kd.R_mono (Kd.R_far (p := ⟨gb751, 2, none⟩) (Kd.R_far (p := ⟨gb751, 1, none⟩) (Kd.R_far (p := ⟨gb751, 0, none⟩) (Kd.R_types HO746.out BK751.out (by decide)) (fun _ hk => hk.2) (.bool t743)) (fun _ hk => hk.2) (.slice Ao12 t744.length co12)) (fun _ hk => hk.2) (.slice Ao13 t747.length co13)) (fun _ h_ => h_.1))) hb) (Kd.R_base ho0)) (Kd.R_base ho1)) (fun _ h_ => h_.1)); have n1_ := Aside0.mk (Kd.R_mono (Kd.R_told (Kd.R_told (Kd.R_old (by (with_reducible repeat (first | apply Kd.R_alloc | apply Kd.R_drewN | apply Kd.R_drew)); exact (Kd.R_mono (Kd.R_far (p := ⟨gb751, 2, none⟩) (Kd.R_far (p := ⟨gb751, 1, none⟩) (Kd.R_far (p := ⟨gb751, 0, none⟩) (Kd.R_types HO749.out BK751.out (by decide)) (fun _ hk => hk.2) (.bool t743)) (fun _ hk => hk.2) (.slice Ao12 t744.length co12)) (fun _ hk => hk.2) (.slice Ao13 t747.length co13)) (fun _ h_ => h_.1))) hb) (Kd.R_base ho0)) (Kd.R_base ho1)) (fun _ h_ => h_.1)); have n2_ := Aside0.mk (Kd.R_lower (Kd.R_new' (Kd.R_new' ho0 (Kd.R_lt (by (with_reducible repeat (first | apply Kd.R_alloc | apply Kd.R_drewN | apply Kd.R_drew)); exact (Kd.R_mono (Kd.R_far (p := ⟨gb751, 2, none⟩) (Kd.R_far (p := ⟨gb751, 1, none⟩) (Kd.R_far (p := ⟨gb751, 0, none⟩) (Kd.R_types HO746.out BK751.out (by decide)) (fun _ hk => hk.2) (.bool t743)) (fun _ hk => hk.2) (.slice Ao12 t744.length co12)) (fun _ hk => hk.2) (.slice Ao13 t747.length co13)) (fun _ h_ => h_.1))))) (Kd.R_lt (by (with_reducible repeat (first | apply Kd.R_alloc | apply Kd.R_drewN | apply Kd.R_drew)); exact (Kd.R_mono (Kd.R_far (p := ⟨gb751, 2, none⟩) (Kd.R_far (p := ⟨gb751, 1, none⟩) (Kd.R_far (p := ⟨gb751, 0, none⟩) (Kd.R_types HO749.out BK751.out (by decide)) (fun _ hk => hk.2) (.bool t743)) (fun _ hk => hk.2) (.slice Ao12 t744.length co12)) (fun _ hk => hk.2) (.slice Ao13 t747.length co13)) (fun _ h_ => h_.1))))) (below_size (by repeat (first | (with_reducible first | exact HB.out | apply below_alloc | apply pw_below_drewN | apply below_drew1 | refine below_set ?_ GE751.out) | exact HB.out)))); have n3_ := Aside0.mk (Kd.R_lower (Kd.R_new' (Kd.R_new' ho1 (Kd.R_lt (by (with_reducible repeat (first | apply Kd.R_alloc | apply Kd.R_drewN | apply Kd.R_drew)); exact (Kd.R_mono (Kd.R_far (p := ⟨gb751, 2, none⟩) (Kd.R_far (p := ⟨gb751, 1, none⟩) (Kd.R_far (p := ⟨gb751, 0, none⟩) (Kd.R_types HO746.out BK751.out (by decide)) (fun _ hk => hk.2) (.bool t743)) (fun _ hk => hk.2) (.slice Ao12 t744.length co12)) (fun _ hk => hk.2) (.slice Ao13 t747.length co13)) (fun _ h_ => h_.1))))) (Kd.R_lt (by (with_reducible repeat (first | apply Kd.R_alloc | apply Kd.R_drewN | apply Kd.R_drew)); exact (Kd.R_mono (Kd.R_far (p := ⟨gb751, 2, none⟩) (Kd.R_far (p := ⟨gb751, 1, none⟩) (Kd.R_far (p := ⟨gb751, 0, none⟩) (Kd.R_types HO749.out BK751.out (by decide)) (fun _ hk => hk.2) (.bool t743)) (fun _ hk => hk.2) (.slice Ao12 t744.length co12)) (fun _ hk => hk.2) (.slice Ao13 t747.length co13)) (fun _ h_ => h_.1))))) (below_size (by repeat (first | (with_reducible first | exact HB.out | apply below_alloc | apply pw_below_drewN | apply below_drew1 | refine below_set ?_ GE751.out) | exact HB.out)))); have n4_ := Aside0.mk (blk_below (g := gb751) (o := .cells #[.bool t743, .slice Ao12 t744.length co12, .slice Ao13 t747.length co13] 25 (0, 0)) (by (with_reducible repeat (first | refine blk_drewN ?_ _ | refine blk_drew ?_ | refine blk_alloc ?_ _)); refine blk_put (cs := #[.bool t743, .slice Ao12 t744.length co12, .slice none 0 0]) ?_ 2 _ rfl; (with_reducible repeat (first | refine blk_drewN ?_ _ | refine blk_drew ?_ | refine blk_alloc ?_ _)); refine blk_put (cs := #[.bool t743, .slice none 0 0, .slice none 0 0]) ?_ 1 _ rfl; (with_reducible repeat (first | refine blk_drewN ?_ _ | refine blk_drew ?_ | refine blk_alloc ?_ _)); refine blk_put (cs := #[.bool false, .slice none 0 0, .slice none 0 0]) ?_ 0 _ rfl; (with_reducible repeat (first | refine blk_drewN ?_ _ | refine blk_drew ?_ | refine blk_alloc ?_ _)); exact BK751.out) hb); have n5_ := Aside0.mk (below_step (by repeat (first | (with_reducible first | exact HB.out | apply below_alloc | apply pw_below_drewN | apply below_drew1 | refine below_set ?_ GE751.out) | exact HB.out)) hb); clear HO746; clear HO749; clear BK751; clear HB; have HO746 := n0_; have HO749 := n1_; have HO755 := n2_; have HO758 := n3_; have BK751 := n4_; have HB := n5_; clear n0_ n1_ n2_ n3_ n4_ n5_) | ((with_reducible refine gate_dst (N := 7) rfl ?_); refine box_event ?hg (N := 7) ?hd (cs := #[.bool false, .slice none 0 0, .slice none 0 0]) (t := 25) ?hr ?_; (case hd => rfl); (case hg => rfl); (case hr => first | (go_simp; done) | (go_simp; rfl)); intro gb760 hg w15 hbox hb; have n0_ := Aside0.mk (Kd.R_below (zr HO746 rfl) hb); have n1_ := Aside0.mk (Kd.R_below (zr HO749 rfl) hb); have n2_ := Aside0.mk (Kd.R_below (zr HO755 rfl) hb); have n3_ := Aside0.mk (Kd.R_below (zr HO758 rfl) hb); have n4_ := Aside0.mk (blk_below BK751.out hb); have n5_ := Aside0.mk (below_step (zb HB rfl) hb); have n6_ := Aside0.mk (hbox); have n7_ := Aside0.mk ((by rw [hg]; exact (below_size (zb HB rfl)) : w.heap.size ≤ gb760)); have n8_ := Aside0.mk ((by rw [hg]; exact (below_size (zb HB rfl)) : w.heap.size ≤ gb760)); have n9_ := Aside0.mk ((by rw [hg]; exact Nat.ne_of_lt (blk_lt BK751.out) : gb751 ≠ gb760)); have n10_ := Aside0.mk ((by rw [hg]; exact Nat.ne_of_gt (blk_lt BK751.out) : gb760 ≠ gb751)); clear HO746; clear HO749; clear HO755; clear HO758; clear BK751; clear HB; have HO746 := n0_; have HO749 := n1_; have HO755 := n2_; have HO758 := n3_; have BK751 := n4_; have HB := n5_; have BK760 := n6_; have GW760 := n7_; have GE760 := n8_; have NB751_760 := n9_; have NB760_751 := n10_; clear n0_ n1_ n2_ n3_ n4_ n5_ n6_ n7_ n8_ n9_ n10_; clear hb hbox hg; have hnb16 := NB760_751.out; have hnc16 := NB751_760.out; have hcz17_0 : w15.cell? ⟨gb760, 0, none⟩ = some (.bool false) := (blk_cell BK760.out 0).trans rfl; have hcz17_1 : w15.cell? ⟨gb760, 1, none⟩ = some (.slice none 0 0) := (blk_cell BK760.out 1).trans rfl; have hcz17_2 : w15.cell? ⟨gb760, 2, none⟩ = some (.slice none 0 0) := (blk_cell BK760.out 2).trans rfl; have hfz17_0 := blk_frozen BK760.out 0; have hfz17_1 := blk_frozen BK760.out 1; have hfz17_2 := blk_frozen BK760.out 2; obtain ⟨Ao18, co18, eo18⟩ := Kd.R_slice HO755.out; subst eo18; obtain ⟨Ao19, co19, eo19⟩ := Kd.R_slice HO758.out; subst eo19; have hcz20_0 : w15.cell? ⟨gb751, 0, none⟩ = some (.bool t743) := (blk_cell BK751.out 0).trans rfl; have hcz20_1 : w15.cell? ⟨gb751, 1, none⟩ = some (.slice Ao12 t744.length co12) := (blk_cell BK751.out 1).trans rfl; have hcz20_2 : w15.cell? ⟨gb751, 2, none⟩ = some (.slice Ao13 t747.length co13) := (blk_cell BK751.out 2).trans rfl; have hfz20_0 := blk_frozen BK751.out 0; have hfz20_1 := blk_frozen BK751.out 1; have hfz20_2 := blk_frozen BK751.out 2) | ((with_reducible refine gate_callee (f := 13) rfl ?_); refine goesL_ (some 23) rfl rfl Tryd.func13 (by kernel_rfl) rfl #[.agg #[.bool t743, .slice Ao12 t744.length co12, .slice Ao13 t747.length co13], .agg #[.bool t752, .slice Ao18 t753.length co18, .slice Ao19 t756.length co19]] rfl (by first | rfl | (go_simp; first | done | rfl | omega)) ?_; (with_reducible refine (credencelaw2_same.calls k t743 _ _ t744 _ _ t747 t752 _ _ t753 _ _ t756 true _ ?side1 ?side2 ?side3 ?side4 ?side5 ?side6 ?side7 ?side8 A5.out).mono ?_); (case side1 => refine (Kd.R_reads' (e := 37) (base := w.heap.size) (ok := fun k_ => ((some k_ ≠ (.slice Ao13 t747.length co13 : Value).ownBlock ∧ some k_ ≠ (.slice Ao18 t753.length co18 : Value).ownBlock) ∧ some k_ ≠ (.slice Ao19 t756.length co19 : Value).ownBlock)) (n := t744.length) (c := co12) ?_).2.2; exact (by (with_reducible repeat (first | apply Kd.R_alloc | apply Kd.R_drewN | apply Kd.R_drew)); exact (Kd.R_mono (Kd.R_far (p := ⟨gb760, 2, none⟩) (Kd.R_far (p := ⟨gb760, 1, none⟩) (Kd.R_far (p := ⟨gb760, 0, none⟩) (Kd.R_types HO746.out BK760.out (by decide)) (fun _ hk => hk.2) (.bool t752)) (fun _ hk => hk.2) (.slice Ao18 t753.length co18)) (fun _ hk => hk.2) (.slice Ao19 t756.length co19)) (fun _ h_ => h_.1)))); (case side2 => exact (Kd.R_reads' HO746.out).2.1); (case side3 => refine (Kd.R_reads' (e := 37) (base := w.heap.size) (ok := fun k_ => ((some k_ ≠ (.slice Ao12 t744.length co12 : Value).ownBlock ∧ some k_ ≠ (.slice Ao18 t753.length co18 : Value).ownBlock) ∧ some k_ ≠ (.slice Ao19 t756.length co19 : Value).ownBlock)) (n := t747.length) (c := co13) ?_).2.2; exact (by (with_reducible repeat (first | apply Kd.R_alloc | apply Kd.R_drewN | apply Kd.R_drew)); exact (Kd.R_mono (Kd.R_far (p := ⟨gb760, 2, none⟩) (Kd.R_far (p := ⟨gb760, 1, none⟩) (Kd.R_far (p := ⟨gb760, 0, none⟩) (Kd.R_types HO749.out BK760.out (by decide)) (fun _ hk => hk.2) (.bool t752)) (fun _ hk => hk.2) (.slice Ao18 t753.length co18)) (fun _ hk => hk.2) (.slice Ao19 t756.length co19)) (fun _ h_ => h_.1)))); (case side4 => exact (Kd.R_reads' HO749.out).2.1); (case side5 => refine (Kd.R_reads' (e := 37) (base := w.heap.size) (ok := fun k_ => ((some k_ ≠ (.slice Ao19 t756.length co19 : Value).ownBlock ∧ some k_ ≠ (.slice Ao12 t744.length co12 : Value).ownBlock) ∧ some k_ ≠ (.slice Ao13 t747.length co13 : Value).ownBlock)) (n := t753.length) (c := co18) ?_).2.2; exact (by (with_reducible repeat (first | apply Kd.R_alloc | apply Kd.R_drewN | apply Kd.R_drew)); exact (Kd.R_mono (Kd.R_far (p := ⟨gb760, 2, none⟩) (Kd.R_far (p := ⟨gb760, 1, none⟩) (Kd.R_far (p := ⟨gb760, 0, none⟩) (Kd.R_types HO755.out BK760.out (by decide)) (fun _ hk => hk.2) (.bool t752)) (fun _ hk => hk.2) (.slice Ao18 t753.length co18)) (fun _ hk => hk.2) (.slice Ao19 t756.length co19)) (fun _ h_ => h_.1)))); (case side6 => exact (Kd.R_reads' HO755.out).2.1); (case side7 => refine (Kd.R_reads' (e := 37) (base := w.heap.size) (ok := fun k_ => ((some k_ ≠ (.slice Ao18 t753.length co18 : Value).ownBlock ∧ some k_ ≠ (.slice Ao12 t744.length co12 : Value).ownBlock) ∧ some k_ ≠ (.slice Ao13 t747.length co13 : Value).ownBlock)) (n := t756.length) (c := co19) ?_).2.2; exact (by (with_reducible repeat (first | apply Kd.R_alloc | apply Kd.R_drewN | apply Kd.R_drew)); exact (Kd.R_mono (Kd.R_far (p := ⟨gb760, 2, none⟩) (Kd.R_far (p := ⟨gb760, 1, none⟩) (Kd.R_far (p := ⟨gb760, 0, none⟩) (Kd.R_types HO758.out BK760.out (by decide)) (fun _ hk => hk.2) (.bool t752)) (fun _ hk => hk.2) (.slice Ao18 t753.length co18)) (fun _ hk => hk.2) (.slice Ao19 t756.length co19)) (fun _ h_ => h_.1)))); (case side8 => exact (Kd.R_reads' HO758.out).2.1); rintro e w21 ⟨rfl, hb⟩; refine ⟨_, rfl, ?_⟩; have n0_ := Aside0.mk (Kd.R_below (by (with_reducible repeat (first | apply Kd.R_alloc | apply Kd.R_drewN | apply Kd.R_drew)); exact (Kd.R_mono (Kd.R_far (p := ⟨gb760, 2, none⟩) (Kd.R_far (p := ⟨gb760, 1, none⟩) (Kd.R_far (p := ⟨gb760, 0, none⟩) (Kd.R_types HO746.out BK760.out (by decide)) (fun _ hk => hk.2) (.bool t752)) (fun _ hk => hk.2) (.slice Ao18 t753.length co18)) (fun _ hk => hk.2) (.slice Ao19 t756.length co19)) (fun _ h_ => h_.1))) hb); have n1_ := Aside0.mk (Kd.R_below (by (with_reducible repeat (first | apply Kd.R_alloc | apply Kd.R_drewN | apply Kd.R_drew)); exact (Kd.R_mono (Kd.R_far (p := ⟨gb760, 2, none⟩) (Kd.R_far (p := ⟨gb760, 1, none⟩) (Kd.R_far (p := ⟨gb760, 0, none⟩) (Kd.R_types HO749.out BK760.out (by decide)) (fun _ hk => hk.2) (.bool t752)) (fun _ hk => hk.2) (.slice Ao18 t753.length co18)) (fun _ hk => hk.2) (.slice Ao19 t756.length co19)) (fun _ h_ => h_.1))) hb); have n2_ := Aside0.mk (Kd.R_below (by (with_reducible repeat (first | apply Kd.R_alloc | apply Kd.R_drewN | apply Kd.R_drew)); exact (Kd.R_mono (Kd.R_far (p := ⟨gb760, 2, none⟩) (Kd.R_far (p := ⟨gb760, 1, none⟩) (Kd.R_far (p := ⟨gb760, 0, none⟩) (Kd.R_types HO755.out BK760.out (by decide)) (fun _ hk => hk.2) (.bool t752)) (fun _ hk => hk.2) (.slice Ao18 t753.length co18)) (fun _ hk => hk.2) (.slice Ao19 t756.length co19)) (fun _ h_ => h_.1))) hb); have n3_ := Aside0.mk (Kd.R_below (by (with_reducible repeat (first | apply Kd.R_alloc | apply Kd.R_drewN | apply Kd.R_drew)); exact (Kd.R_mono (Kd.R_far (p := ⟨gb760, 2, none⟩) (Kd.R_far (p := ⟨gb760, 1, none⟩) (Kd.R_far (p := ⟨gb760, 0, none⟩) (Kd.R_types HO758.out BK760.out (by decide)) (fun _ hk => hk.2) (.bool t752)) (fun _ hk => hk.2) (.slice Ao18 t753.length co18)) (fun _ hk => hk.2) (.slice Ao19 t756.length co19)) (fun _ h_ => h_.1))) hb); have n4_ := Aside0.mk (blk_below (g := gb751) (o := .cells #[.bool t743, .slice Ao12 t744.length co12, .slice Ao13 t747.length co13] 25 (0, 0)) (by (with_reducible repeat (first | refine blk_drewN ?_ _ | refine blk_drew ?_ | refine blk_alloc ?_ _)); refine blk_far ?_ NB751_760.out _; (with_reducible repeat (first | refine blk_drewN ?_ _ | refine blk_drew ?_ | refine blk_alloc ?_ _)); refine blk_far ?_ NB751_760.out _; (with_reducible repeat (first | refine blk_drewN ?_ _ | refine blk_drew ?_ | refine blk_alloc ?_ _)); refine blk_far ?_ NB751_760.out _; (with_reducible repeat (first | refine blk_drewN ?_ _ | refine blk_drew ?_ | refine blk_alloc ?_ _)); exact BK751.out) hb); have n5_ := Aside0.mk (blk_below (g := gb760) (o := .cells #[.bool t752, .slice Ao18 t753.length co18, .slice Ao19 t756.length co19] 25 (0, 0)) (by (with_reducible repeat (first | refine blk_drewN ?_ _ | refine blk_drew ?_ | refine blk_alloc ?_ _)); refine blk_put (cs := #[.bool t752, .slice Ao18 t753.length co18, .slice none 0 0]) ?_ 2 _ rfl; (with_reducible repeat (first | refine blk_drewN ?_ _ | refine blk_drew ?_ | refine blk_alloc ?_ _)); refine blk_put (cs := #[.bool t752, .slice none 0 0, .slice none 0 0]) ?_ 1 _ rfl; (with_reducible repeat (first | refine blk_drewN ?_ _ | refine blk_drew ?_ | refine blk_alloc ?_ _)); refine blk_put (cs := #[.bool false, .slice none 0 0, .slice none 0 0]) ?_ 0 _ rfl; (with_reducible repeat (first | refine blk_drewN ?_ _ | refine blk_drew ?_ | refine blk_alloc ?_ _)); exact BK760.out) hb); have n6_ := Aside0.mk (below_step (by repeat (first | (with_reducible first | exact HB.out | apply below_alloc | apply pw_below_drewN | apply below_drew1 | refine below_set ?_ GE751.out | refine below_set ?_ GE760.out) | exact HB.out)) hb); clear HO746; clear HO749; clear HO755; clear HO758; clear BK751; clear BK760; clear HB; have HO746 := n0_; have HO749 := n1_; have HO755 := n2_; have HO758 := n3_; have BK751 := n4_; have BK760 := n5_; have HB := n6_; clear n0_ n1_ n2_ n3_ n4_ n5_ n6_) | (go_at_call 14; (with_reducible refine (credencelaw2_known.calls k  t762 _ A8.out).mono ?_); rintro e w22 ⟨rfl, hb⟩; have n0_ := Aside0.mk (Kd.R_below (zr HO746 rfl) hb); have n1_ := Aside0.mk (Kd.R_below (zr HO749 rfl) hb); have n2_ := Aside0.mk (Kd.R_below (zr HO755 rfl) hb); have n3_ := Aside0.mk (Kd.R_below (zr HO758 rfl) hb); have n4_ := Aside0.mk (blk_below BK751.out hb); have n5_ := Aside0.mk (blk_below BK760.out hb); have n6_ := Aside0.mk (below_step (zb HB rfl) hb); clear HO746; clear HO749; clear HO755; clear HO758; clear BK751; clear BK760; clear HB; have HO746 := n0_; have HO749 := n1_; have HO755 := n2_; have HO758 := n3_; have BK751 := n4_; have BK760 := n5_; have HB := n6_; clear n0_ n1_ n2_ n3_ n4_ n5_ n6_))
   go_ret
   exact ⟨by first | rfl | (simp [*, errW_none, errW_some] <;> rfl), by repeat (first | (with_reducible first | exact HB.out | apply below_alloc | apply pw_below_drewN | apply below_drew1 | refine below_set ?_ GE751.out | refine below_set ?_ GE760.out) | exact HB.out)⟩
  ·
   rw [if_neg c7] at H
   exact absurd H (by simp)
 ·
  replace c6 := Bool.eq_false_iff.mpr c6
  subst c6
  have H1 : (none) = some r := by rw [if_neg (show ¬ (false = true) by decide)] at H; exact H
  clear H
  have H := H1
  clear H1
  exact absurd H (by simp)

/-- THE ONE PURE STATEMENT of credencelaw2_RationalNew: yours. -/
def credencelaw2_RationalNew.Pure : Prop := ∀ (a0 : Int) (a1 : Int), (Lit.int .i64 a0).wf = true → (Lit.int .i64 a1).wf = true → ∃ k, credencelaw2_RationalNew.f k a0 a1 = some true
theorem credencelaw2_RationalNew.walk (P : credencelaw2_RationalNew.Pure) (a0 : Int) (a1 : Int) (w : World) (w0 : (Lit.int .i64 a0).wf = true) (w1 : (Lit.int .i64 a1).wf = true) :
  Calls Tryd.prog 3 #[.int .i64 a0, .int .i64 a1] w fun e w' => e = .returned (.bool true) ∧ Below w.heap.size w w' := by
 obtain ⟨k, h⟩ := P a0 a1 w0 w1
 refine (credencelaw2_RationalNew.calls k a0 a1 true w h).mono ?_
 rintro e w' ⟨rfl, hd⟩
 exact ⟨rfl, hd⟩

end Go.Proofs.YtoeldfopjalpkaaDoor.Q

