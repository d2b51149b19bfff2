/- Lemmas for the proof of one law of this seat (Qx14). -/
import Derived.Test.YtoeldfopjalpkaaDoorZRationalNewQx0
import Derived.Test.YtoeldfopjalpkaaDoorZRationalNewQx1
import Derived.Test.YtoeldfopjalpkaaDoorZRationalNewQx12
import Derived.Test.YtoeldfopjalpkaaDoorZRationalNewQx13
namespace Go.Proofs.YtoeldfopjalpkaaDoor.Q
open Go.RowKit Go.Proofs.YtoeldfopjalpkaaDoorW.PrintWords Go.Proofs.YtoeldfopjalpkaaDoorW.PrintLast Go.Proofs.YtoeldfopjalpkaaDoorW.PrintMore
attribute [local go_sem] max2_int min2_int max_two min_two max_three min_three max_four min_four   -- for this text's walks alone
set_option linter.unusedVariables false
set_option linter.unusedSimpArgs false

mutual
def bignat_Format.l0 : Nat → List Int → List Int → Option (ByteArray)
 | 0, _, _ => none
 | k + 1, x0, x3 => if (x0.length : Int) > 0 then ((bignat_divSmall.f k x0 1000000000).bind fun bt602 => (bignat_Format.l1 k bt602.1 x3 bt602.2 0)) else (bignat_Format.l2 k x3 0 (wrap64 ((x3.length : Int) - 1)))
def bignat_Format.l1 : Nat → List Int → List Int → Int → Int → Option (ByteArray)
 | 0, _, _, _, _ => none
 | k + 1, x0, x3, x4, x5 => if x5 < 9 then (if (x0.length : Int) > 0 then (if x3.length < 140737488355328 then (bignat_Format.l1 k x0 (x3 ++ [(48 + (Int.tmod x4 10)) % 256]) ((Int.tdiv x4 10) % 4294967296) (wrap64 (x5 + 1))) else (none)) else (if x4 > 0 then (if x3.length < 140737488355328 then (bignat_Format.l1 k x0 (x3 ++ [(48 + (Int.tmod x4 10)) % 256]) ((Int.tdiv x4 10) % 4294967296) (wrap64 (x5 + 1))) else (none)) else (bignat_Format.l0 k x0 x3))) else (bignat_Format.l0 k x0 x3)
def bignat_Format.l2 : Nat → List Int → Int → Int → Option (ByteArray)
 | 0, _, _, _ => none
 | k + 1, x3, x6, x7 => if x6 < x7 then (if 0 ≤ x7 then (if x7 < (x3.length : Int) then (if 0 ≤ x6 then (if x6 < (x3.length : Int) then (bignat_Format.l2 k ((x3.set (x6 : Int).toNat (rd x3 x7)).set (x7 : Int).toNat (rd x3 x6)) (wrap64 (x6 + 1)) (wrap64 (x7 - 1))) else (none)) else (none)) else (none)) else (none)) else (some (strOfNums x3))
end
def bignat_Format.f (k : Nat) (l0 : List Int) : Option (ByteArray) := (bignat_clone.f k l0).bind fun t599 => (if (t599.length : Int) = 0 then (none) else (bignat_Format.l0 k t599 ([] : List Int)))
theorem bignat_Format.mono_l : ∀ k, (∀ y0 y1, LeO (bignat_Format.l0 k y0 y1) (bignat_Format.l0 (k + 1) y0 y1)) ∧ (∀ y0 y1 y2 y3, LeO (bignat_Format.l1 k y0 y1 y2 y3) (bignat_Format.l1 (k + 1) y0 y1 y2 y3)) ∧ (∀ y0 y1 y2, LeO (bignat_Format.l2 k y0 y1 y2) (bignat_Format.l2 (k + 1) y0 y1 y2))
 | 0 => ⟨fun _ _ r h => by simp [bignat_Format.l0] at h, fun _ _ _ _ r h => by simp [bignat_Format.l1] at h, fun _ _ _ r h => by simp [bignat_Format.l2] at h⟩
 | k + 1 => by
  obtain ⟨ih0, ih1, ih2⟩ := bignat_Format.mono_l k
  refine ⟨?_, ?_, ?_⟩
  ·
   intro y0 y1
   unfold bignat_Format.l0
   repeat' first
   | (with_reducible exact ih0 _ _)
   | (with_reducible exact ih1 _ _ _ _)
   | (with_reducible exact ih2 _ _ _)
   | (with_reducible exact bignat_clone.mono _ _)
   | (with_reducible exact bignat_divSmall.mono _ _ _)
   | (with_reducible exact LeO.refl _)
   | (with_reducible exact LeO.none _)
   | (with_reducible refine LeO.ite ?_ ?_)
   | (with_reducible refine LeO.bind ?_ (fun _ => ?_))
   | exact LeO.none _
   | refine LeO.ite ?_ ?_
   | refine LeO.bind ?_ (fun _ => ?_)
  ·
   intro y0 y1 y2 y3
   unfold bignat_Format.l1
   repeat' first
   | (with_reducible exact ih0 _ _)
   | (with_reducible exact ih1 _ _ _ _)
   | (with_reducible exact ih2 _ _ _)
   | (with_reducible exact bignat_clone.mono _ _)
   | (with_reducible exact bignat_divSmall.mono _ _ _)
   | (with_reducible exact LeO.refl _)
   | (with_reducible exact LeO.none _)
   | (with_reducible refine LeO.ite ?_ ?_)
   | (with_reducible refine LeO.bind ?_ (fun _ => ?_))
   | exact LeO.none _
   | refine LeO.ite ?_ ?_
   | refine LeO.bind ?_ (fun _ => ?_)
  ·
   intro y0 y1 y2
   unfold bignat_Format.l2
   repeat' first
   | (with_reducible exact ih0 _ _)
   | (with_reducible exact ih1 _ _ _ _)
   | (with_reducible exact ih2 _ _ _)
   | (with_reducible exact bignat_clone.mono _ _)
   | (with_reducible exact bignat_divSmall.mono _ _ _)
   | (with_reducible exact LeO.refl _)
   | (with_reducible exact LeO.none _)
   | (with_reducible refine LeO.ite ?_ ?_)
   | (with_reducible refine LeO.bind ?_ (fun _ => ?_))
   | exact LeO.none _
   | refine LeO.ite ?_ ?_
   | refine LeO.bind ?_ (fun _ => ?_)
theorem bignat_Format.mono : ∀ a0 k, LeO (bignat_Format.f k a0) (bignat_Format.f (k + 1) a0) := by
 intro a0 k
 obtain ⟨ih0, ih1, ih2⟩ := bignat_Format.mono_l k
 unfold bignat_Format.f
 repeat' first
   | (with_reducible exact ih0 _ _)
   | (with_reducible exact ih1 _ _ _ _)
   | (with_reducible exact ih2 _ _ _)
   | (with_reducible exact bignat_clone.mono _ _)
   | (with_reducible exact bignat_divSmall.mono _ _ _)
   | (with_reducible exact LeO.refl _)
   | (with_reducible exact LeO.none _)
   | (with_reducible refine LeO.ite ?_ ?_)
   | (with_reducible refine LeO.bind ?_ (fun _ => ?_))
   | exact LeO.none _
   | refine LeO.ite ?_ ?_
   | refine LeO.bind ?_ (fun _ => ?_)
def bignat_Format.T16 : Bool × List (List Nat × List Nat) := (true, [([], []), ([], []), ([], []), ([], []), ([], []), ([], []), ([4, 5], [4, 5]), ([6], [6]), ([], []), ([], []), ([8, 9], [8, 9]), ([10], [10]), ([0, 1, 0, 1, 4, 5, 6, 7, 11], [0, 1]), ([12, 7, 0, 1, 4, 5, 6, 7, 11], [7, 12]), ([2, 3, 0, 1, 2, 3, 4, 5, 6, 7, 8, 9, 10, 11, 12, 13], [2, 3]), ([14, 11, 13, 0, 1, 2, 3, 4, 5, 6, 7, 8, 9, 10, 11, 12, 13], [11, 14])])
def bignat_Format.B16 : List Nat := [0, 0, 0, 0, 0, 0, 48, 112, 0, 0, 768, 1792, 4083, 8179, 16383, 32767]
theorem bignat_Format.tab16 : rtab .any (opsOf Tryd.f21 16) = bignat_Format.T16 := by kernel_rfl
theorem bignat_Format.bits16 : waitsOk bignat_Format.T16.2 bignat_Format.B16 = true := by kernel_rfl
set_option maxHeartbeats 8000000 in
set_option maxRecDepth 100000 in
theorem bignat_Format.calls (k : Nat) (A0 : Option Addr) (c0 : Nat) (l0 : List Int) (r : ByteArray) (w : World) (hr0 : Kd.C (Kd.int .u32) w A0 l0.length l0) (hc0 : l0.length ≤ c0) (h : bignat_Format.f k l0 = some r) :
  Calls Tryd.prog 21 #[.slice A0 l0.length c0] w fun e w' => e = .returned (.string r) ∧ Below w.heap.size w w' := by
 have HR0 := Aside0.mk hr0
 have HC0 := Aside0.mk hc0
 clear hr0 hc0
 have HB := Aside0.mk (Below.refl w.heap.size w)
 have H : ((bignat_clone.f k l0).bind fun t599 => (if (t599.length : Int) = 0 then (none) else (bignat_Format.l0 k t599 ([] : List Int)))) = some r := h
 clear h
 replace H := Option.bind_eq_some_iff.mp H
 obtain ⟨t599, A20, H⟩ := H
 replace H : (if (t599.length : Int) = 0 then (none) else (bignat_Format.l0 k t599 ([] : List Int))) = some r := H
 have A2 := Aside0.mk A20
 clear A20
 by_cases c3 : (t599.length : Int) = 0
 ·
  rw [if_pos c3] at H
  exact absurd H (by simp)
 ·
  rw [if_neg c3] at H
  have c3b0 : ((t599.length : Int) == 0) = false := beq_eq_false_iff_ne.mpr c3
  have c3b1 : ((t599.length : Int) != 0) = true := bne_iff_ne.mpr c3
  have c3b2 : ¬ (t599 = []) := fun h_ => c3 (by rw [h_]; rfl)
  have H' := Aside0.mk H
  clear H
  go_enter Tryd.func21, Tryd.ntmps21
  go_wp2_with (first | ((with_reducible refine gate_callee (f := 64) rfl ?_); refine goesL_ (some 9) rfl rfl Tryd.func64 (by kernel_rfl) rfl #[.slice A0 l0.length c0] rfl (by first | rfl | (go_simp; first | done | rfl | omega)) ?_; (with_reducible refine (bignat_clone.calls k _ _ l0 t599 _ ?side1 ?side2 A2.out).mono ?_); (case side1 => repeat first | exact HR0.out | refine Kd.C_drewN ?_ _ | refine Kd.C_alloc ?_ _ | refine Kd.C_drew ?_); (case side2 => exact HC0.out); rintro e w4 ⟨v600, rfl, ho0, hb⟩; refine ⟨_, rfl, ?_⟩; have n0_ := Aside0.mk (Kd.R_lower ho0 (below_size (zb HB rfl))); have n1_ := Aside0.mk (below_step (zb HB rfl) hb); clear HB; have HO601 := n0_; have HB := n1_; clear n0_ n1_; obtain ⟨Ao5, co5, eo5⟩ := Kd.R_slice HO601.out; subst eo5))
  go_loopg [0, 3] k (fun kq v0 v3 w' => ∃ (x0_1 : List Int) (x3_1 : List Int), Aside0 (bignat_Format.l0 kq x0_1 x3_1 = some r) ∧ Aside0 (kq ≤ k) ∧ Aside0 (Kd.R (Kd.int .u32) 37 w' w.heap.size (fun _ => True) v0 x0_1) ∧ Aside0 (Kd.R (Kd.int .u8) 5 w' w.heap.size (fun _ => True) v3 x3_1) ∧ Aside0 (Below w.heap.size w w'))
  case atStart => exact ⟨(t599), (([] : List Int)), H', ⟨Nat.le_refl _⟩, ⟨by (with_reducible repeat (first | apply Kd.R_alloc | apply Kd.R_drewN | apply Kd.R_drew)); exact HO601.out⟩, ⟨by first | exact Kd.R_nil _ _ _ _ _ | exact Kd.V_nil _ _ _ _ _⟩, ⟨by repeat (first | (with_reducible first | exact HB.out | apply below_alloc | apply pw_below_drewN | apply below_drew1) | exact HB.out)⟩⟩
  case round =>
   clear H'
   try clear c2
   try clear p2
   try clear c3
   try clear c3b0
   try clear c3b1
   try clear c3b2
   obtain ⟨x0_1, x3_1, HA, HK1, HO_0, HO_3, HB⟩ := hrel
   cases gk with
   | zero => exact absurd HA.out (by simp [bignat_Format.l0])
   | succ k1 =>
    have H := HA.out
    clear HA
    simp only [bignat_Format.l0] at H
    by_cases c6 : (x0_1.length : Int) > 0
    ·
     rw [if_pos c6] at H
     have c6b0 : decide (0 < (x0_1.length : Int)) = true := decide_eq_true c6
     have c6b1 : decide (0 < x0_1.length) = true := decide_eq_true (by omega)
     clear c6
     replace H := Option.bind_eq_some_iff.mp H
     obtain ⟨⟨t602, t603⟩, A70, H⟩ := H
     replace H : (bignat_Format.l1 k1 t602 x3_1 t603 0) = some r := H
     have A7 := Aside0.mk A70
     clear A70
     have H' := Aside0.mk H
     clear H
     obtain ⟨Ao8, co8, eo8⟩ := Kd.R_slice HO_0.out
     subst eo8
     go_wp2_with (first | ((with_reducible refine gate_callee (f := 65) rfl ?_); refine goesL_ (some 18) rfl rfl Tryd.func65 (by kernel_rfl) rfl #[.slice Ao8 x0_1.length co8, .int .u32 1000000000] rfl (by first | rfl | (go_simp; first | done | rfl | omega)) ?_; (with_reducible refine (bignat_divSmall.calls k1 _ _ x0_1 1000000000 t602 t603 _ ?side1 ?side2 A7.out).mono ?_); (case side1 => repeat first | exact (Kd.R_reads' HO_0.out).2.2 | refine Kd.C_drewN ?_ _ | refine Kd.C_alloc ?_ _ | refine Kd.C_drew ?_); (case side2 => exact (Kd.R_reads' HO_0.out).2.1); rintro e w9 ⟨v604, rfl, ho0, hb⟩; refine ⟨_, rfl, ?_⟩; have n0_ := Aside0.mk (Kd.R_elder' (zr HO_0 rfl) (Kd.R_base ho0) hb); have n1_ := Aside0.mk (Kd.R_below (zr HO_3 rfl) hb); have n2_ := Aside0.mk (Kd.R_lower (Kd.R_new' ho0 (Kd.R_lt (zr HO_0 rfl))) (below_size (zb HB rfl))); have n3_ := Aside0.mk (below_step (zb HB rfl) hb); clear HO_0; clear HO_3; clear HB; have HO_0 := n0_; have HO_3 := n1_; have HO605 := n2_; have HB := n3_; clear n0_ n1_ n2_ n3_))
     go_loopg [3, 4, 5] k1 (fun kq v3 v4 v5 w' => ∃ (x3_2 : List Int) (x4_2 : Int) (x5_2 : Int), v4 = .int .u32 x4_2 ∧ v5 = .int .i64 x5_2 ∧ Aside0 (bignat_Format.l1 kq t602 x3_2 x4_2 x5_2 = some r) ∧ Aside0 (kq ≤ k1) ∧ Aside0 (Kd.R (Kd.int .u32) 37 w' w.heap.size (fun _ => True) v604 t602) ∧ Aside0 (Kd.R (Kd.int .u8) 5 w' w.heap.size (fun _ => True) v3 x3_2) ∧ Aside0 (Below w.heap.size w w'))
     case atStart => exact ⟨(x3_1), (t603), (0), (by first | rfl | (simp [*]; done)), (by first | rfl | (simp [*]; done)), H', ⟨Nat.le_refl _⟩, ⟨by (with_reducible repeat (first | apply Kd.R_alloc | apply Kd.R_drewN | apply Kd.R_drew)); exact Kd.R_mono HO605.out (fun _ hk => trivial)⟩, ⟨by (with_reducible repeat (first | apply Kd.R_alloc | apply Kd.R_drewN | apply Kd.R_drew)); exact HO_3.out⟩, ⟨by repeat (first | (with_reducible first | exact HB.out | apply below_alloc | apply pw_below_drewN | apply below_drew1) | exact HB.out)⟩⟩
     case round =>
      clear H'
      try clear c2
      try clear p2
      try clear c3
      try clear c3b0
      try clear c3b1
      try clear c3b2
      try clear c6
      try clear c6b0
      try clear c6b1
      try clear p2
      obtain ⟨x3_2, x4_2, x5_2, rfl, rfl, HA, HK2, HO_0, HO_3, HB⟩ := hrel
      cases gk with
      | zero => exact absurd HA.out (by simp [bignat_Format.l1])
      | succ k2 =>
       have H := HA.out
       clear HA
       simp only [bignat_Format.l1] at H
       by_cases c10 : x5_2 < 9
       ·
        rw [if_pos c10] at H
        have c10b0 : decide (x5_2 < 9) = true := decide_eq_true c10
        clear c10
        by_cases c11 : (t602.length : Int) > 0
        ·
         rw [if_pos c11] at H
         have c11b0 : decide (0 < (t602.length : Int)) = true := decide_eq_true c11
         have c11b1 : decide (0 < t602.length) = true := decide_eq_true (by omega)
         clear c11
         by_cases c12 : x3_2.length < 140737488355328
         ·
          rw [if_pos c12] at H
          have LMc12 := Aside0.mk c12
          clear c12
          obtain ⟨y606, hy606⟩ : ∃ y_ : List Int, y_ = (x3_2 ++ [(48 + (Int.tmod x4_2 10)) % 256]) := ⟨_, rfl⟩
          replace H : (bignat_Format.l1 k2 t602 y606 ((Int.tdiv x4_2 10) % 4294967296) (wrap64 (x5_2 + 1))) = some r := by first | (rw [hy606]; with_reducible exact H) | (have H2_ := (Option.bind_some _ _).symm.trans H; rw [hy606]; with_reducible exact H2_) | (have H2_ := (Option.bind_some _ _).symm.trans H; with_reducible exact H2_) | with_reducible exact H | (rw [hy606]; exact H) | exact H
          have Ny606 := Aside0.mk hy606
          clear hy606
          have H' := Aside0.mk H
          clear H
          obtain ⟨Ao13, co13, eo13⟩ := Kd.R_slice HO_0.out
          subst eo13
          go_wp2_with (first | ((with_reducible refine gate_builtin (b := .append) (xs := #[.tmp 34, .tmp 39]) rfl ?_); (try (refine gate_guard (by rfl) ?_; dsimp only)); at_builtin; refine Kd.R_append (Kd.int .u8) (w0 := w) w.heap.size rfl (.tmp 34) (.tmp 39) 71 5 (.int .u8 0) 1 rfl Tryd.underlying71 info5 rfl (by decide) (by omega) u3 x3_2 ((48 + (Int.tmod x4_2 10)) % 256) [.int .u8 ((48 + (Int.tmod x4_2 10)) % 256)] (fun _ => True) (fun _ => False) rfl rfl ?aP (fun _ hk => hk.elim) ?aF ?aO ?aB ?aS ?aL ?_; (case aP => exact rfl); (case aB => exact (by repeat (first | (with_reducible first | exact HB.out | apply below_alloc | apply pw_below_drewN | apply below_drew1) | exact HB.out))); (case aF => exact (fun _ _ => trivial)); (case aO => exact (by (with_reducible repeat (first | apply Kd.R_alloc | apply Kd.R_drewN | apply Kd.R_drew)); exact HO_3.out)); (case aS => exact (below_size (by repeat (first | (with_reducible first | exact HB.out | apply below_alloc | apply pw_below_drewN | apply below_drew1) | exact HB.out)))); (case aL => have := LMc12.out; omega); intro v607 w14 ho hb hg hat; rw [← Ny606.out] at ho; have n0_ := Aside0.mk (Kd.R_over' (by (with_reducible repeat (first | apply Kd.R_alloc | apply Kd.R_drewN | apply Kd.R_drew)); exact HO_0.out) (Kd.R_typed (by (with_reducible repeat (first | apply Kd.R_alloc | apply Kd.R_drewN | apply Kd.R_drew)); exact HO_3.out)) (by decide) hg); have n1_ := Aside0.mk (hb); have n2_ := Aside0.mk (ho); clear HO_0; clear HB; clear HO_3; have HO_0 := n0_; have HB := n1_; have HO608 := n2_; clear n0_ n1_ n2_; clear ho hb hg hat))
          go_roundg k2
          case measure => have := HK1.out; have := HK2.out; omega
          case rel => exact ⟨(y606), ((Int.tdiv x4_2 10) % 4294967296), (wrap64 (x5_2 + 1)), (by first | rfl | (simp [*]; done)), (by first | rfl | (simp [*]; done)), H', ⟨by have := HK1.out; have := HK2.out; omega⟩, ⟨by (with_reducible repeat (first | apply Kd.R_alloc | apply Kd.R_drewN | apply Kd.R_drew)); exact HO_0.out⟩, ⟨by (with_reducible repeat (first | apply Kd.R_alloc | apply Kd.R_drewN | apply Kd.R_drew)); exact HO608.out⟩, ⟨by repeat (first | (with_reducible first | exact HB.out | apply below_alloc | apply pw_below_drewN | apply below_drew1) | exact HB.out)⟩⟩
         ·
          rw [if_neg c12] at H
          exact absurd H (by simp)
        ·
         rw [if_neg c11] at H
         have c11b0 : decide (0 < (t602.length : Int)) = false := decide_eq_false c11
         have c11b1 : decide (0 < t602.length) = false := decide_eq_false (by omega)
         clear c11
         by_cases c15 : x4_2 > 0
         ·
          rw [if_pos c15] at H
          have c15b0 : decide (0 < x4_2) = true := decide_eq_true c15
          clear c15
          by_cases c16 : x3_2.length < 140737488355328
          ·
           rw [if_pos c16] at H
           have LMc16 := Aside0.mk c16
           clear c16
           obtain ⟨y609, hy609⟩ : ∃ y_ : List Int, y_ = (x3_2 ++ [(48 + (Int.tmod x4_2 10)) % 256]) := ⟨_, rfl⟩
           replace H : (bignat_Format.l1 k2 t602 y609 ((Int.tdiv x4_2 10) % 4294967296) (wrap64 (x5_2 + 1))) = some r := by first | (rw [hy609]; with_reducible exact H) | (have H2_ := (Option.bind_some _ _).symm.trans H; rw [hy609]; with_reducible exact H2_) | (have H2_ := (Option.bind_some _ _).symm.trans H; with_reducible exact H2_) | with_reducible exact H | (rw [hy609]; exact H) | exact H
           have Ny609 := Aside0.mk hy609
           clear hy609
           have H' := Aside0.mk H
           clear H
           obtain ⟨Ao17, co17, eo17⟩ := Kd.R_slice HO_0.out
           subst eo17
           go_wp2_with (first | ((with_reducible refine gate_builtin (b := .append) (xs := #[.tmp 34, .tmp 39]) rfl ?_); (try (refine gate_guard (by rfl) ?_; dsimp only)); at_builtin; refine Kd.R_append (Kd.int .u8) (w0 := w) w.heap.size rfl (.tmp 34) (.tmp 39) 71 5 (.int .u8 0) 1 rfl Tryd.underlying71 info5 rfl (by decide) (by omega) u3 x3_2 ((48 + (Int.tmod x4_2 10)) % 256) [.int .u8 ((48 + (Int.tmod x4_2 10)) % 256)] (fun _ => True) (fun _ => False) rfl rfl ?aP (fun _ hk => hk.elim) ?aF ?aO ?aB ?aS ?aL ?_; (case aP => exact rfl); (case aB => exact (by repeat (first | (with_reducible first | exact HB.out | apply below_alloc | apply pw_below_drewN | apply below_drew1) | exact HB.out))); (case aF => exact (fun _ _ => trivial)); (case aO => exact (by (with_reducible repeat (first | apply Kd.R_alloc | apply Kd.R_drewN | apply Kd.R_drew)); exact HO_3.out)); (case aS => exact (below_size (by repeat (first | (with_reducible first | exact HB.out | apply below_alloc | apply pw_below_drewN | apply below_drew1) | exact HB.out)))); (case aL => have := LMc16.out; omega); intro v610 w18 ho hb hg hat; rw [← Ny609.out] at ho; have n0_ := Aside0.mk (Kd.R_over' (by (with_reducible repeat (first | apply Kd.R_alloc | apply Kd.R_drewN | apply Kd.R_drew)); exact HO_0.out) (Kd.R_typed (by (with_reducible repeat (first | apply Kd.R_alloc | apply Kd.R_drewN | apply Kd.R_drew)); exact HO_3.out)) (by decide) hg); have n1_ := Aside0.mk (hb); have n2_ := Aside0.mk (ho); clear HO_0; clear HB; clear HO_3; have HO_0 := n0_; have HB := n1_; have HO611 := n2_; clear n0_ n1_ n2_; clear ho hb hg hat))
           go_roundg k2
           case measure => have := HK1.out; have := HK2.out; omega
           case rel => exact ⟨(y609), ((Int.tdiv x4_2 10) % 4294967296), (wrap64 (x5_2 + 1)), (by first | rfl | (simp [*]; done)), (by first | rfl | (simp [*]; done)), H', ⟨by have := HK1.out; have := HK2.out; omega⟩, ⟨by (with_reducible repeat (first | apply Kd.R_alloc | apply Kd.R_drewN | apply Kd.R_drew)); exact HO_0.out⟩, ⟨by (with_reducible repeat (first | apply Kd.R_alloc | apply Kd.R_drewN | apply Kd.R_drew)); exact HO611.out⟩, ⟨by repeat (first | (with_reducible first | exact HB.out | apply below_alloc | apply pw_below_drewN | apply below_drew1) | exact HB.out)⟩⟩
          ·
           rw [if_neg c16] at H
           exact absurd H (by simp)
         ·
          rw [if_neg c15] at H
          have c15b0 : decide (0 < x4_2) = false := decide_eq_false c15
          clear c15
          have H' := Aside0.mk H
          clear H
          obtain ⟨Ao19, co19, eo19⟩ := Kd.R_slice HO_0.out
          subst eo19
          go_wp2
          go_roundg k2
          case measure => have := HK1.out; have := HK2.out; omega
          case rel => exact ⟨(t602), (x3_2), H', ⟨by have := HK1.out; have := HK2.out; omega⟩, ⟨by (with_reducible repeat (first | apply Kd.R_alloc | apply Kd.R_drewN | apply Kd.R_drew)); exact HO_0.out⟩, ⟨by (with_reducible repeat (first | apply Kd.R_alloc | apply Kd.R_drewN | apply Kd.R_drew)); exact HO_3.out⟩, ⟨by repeat (first | (with_reducible first | exact HB.out | apply below_alloc | apply pw_below_drewN | apply below_drew1) | exact HB.out)⟩⟩
       ·
        rw [if_neg c10] at H
        have c10b0 : decide (x5_2 < 9) = false := decide_eq_false c10
        clear c10
        have H' := Aside0.mk H
        clear H
        go_wp2
        go_roundg k2
        case measure => have := HK1.out; have := HK2.out; omega
        case rel => exact ⟨(t602), (x3_2), H', ⟨by have := HK1.out; have := HK2.out; omega⟩, ⟨by (with_reducible repeat (first | apply Kd.R_alloc | apply Kd.R_drewN | apply Kd.R_drew)); exact HO_0.out⟩, ⟨by (with_reducible repeat (first | apply Kd.R_alloc | apply Kd.R_drewN | apply Kd.R_drew)); exact HO_3.out⟩, ⟨by repeat (first | (with_reducible first | exact HB.out | apply below_alloc | apply pw_below_drewN | apply below_drew1) | exact HB.out)⟩⟩
    ·
     rw [if_neg c6] at H
     have c6b0 : decide (0 < (x0_1.length : Int)) = false := decide_eq_false c6
     have c6b1 : decide (0 < x0_1.length) = false := decide_eq_false (by omega)
     clear c6
     have H' := Aside0.mk H
     clear H
     obtain ⟨Ao20, co20, eo20⟩ := Kd.R_slice HO_0.out
     subst eo20
     obtain ⟨Ao21, co21, eo21⟩ := Kd.R_slice HO_3.out
     subst eo21
     go_wp2
     go_loopg [6, 7] k1 (fun kq v6 v7 w' => ∃ (x3_2 : List Int) (x6_2 : Int) (x7_2 : Int), v6 = .int .i64 x6_2 ∧ v7 = .int .i64 x7_2 ∧ Aside0 (bignat_Format.l2 kq x3_2 x6_2 x7_2 = some r) ∧ Aside0 (kq ≤ k1) ∧ Aside0 (Kd.R (Kd.int .u8) 5 w' w.heap.size (fun _ => True) (.slice Ao21 x3_1.length co21) x3_2) ∧ Aside0 (Below w.heap.size w w'))
     case atStart => exact ⟨(x3_1), (0), (wrap64 ((x3_1.length : Int) - 1)), (by first | rfl | (simp [*]; done)), (by first | rfl | (simp [*]; done)), H', ⟨Nat.le_refl _⟩, ⟨by (with_reducible repeat (first | apply Kd.R_alloc | apply Kd.R_drewN | apply Kd.R_drew)); exact HO_3.out⟩, ⟨by repeat (first | (with_reducible first | exact HB.out | apply below_alloc | apply pw_below_drewN | apply below_drew1) | exact HB.out)⟩⟩
     case round =>
      clear H'
      try clear c1
      try clear c2
      try clear p2
      try clear c3
      try clear c3b0
      try clear c3b1
      try clear c3b2
      try clear c6
      try clear c6b0
      try clear c6b1
      try clear p6
      try clear c10
      try clear c10b0
      try clear c11
      try clear c11b0
      try clear c11b1
      try clear c12
      try clear c15
      try clear c15b0
      try clear c16
      try clear c21
      try clear p2
      obtain ⟨x3_2, x6_2, x7_2, rfl, rfl, HA, HK2, HO_3, HB⟩ := hrel
      have hl3_2 := (Kd.R_reads' HO_3.out).1
      rw [hl3_2] at HO_3
      (try simp only [hl3_2])
      cases gk with
      | zero => exact absurd HA.out (by simp [bignat_Format.l2])
      | succ k2 =>
       have H := HA.out
       clear HA
       simp only [bignat_Format.l2] at H
       by_cases c22 : x6_2 < x7_2
       ·
        rw [if_pos c22] at H
        have c22b0 : decide (x6_2 < x7_2) = true := decide_eq_true c22
        clear c22
        by_cases c23 : 0 ≤ x7_2
        ·
         rw [if_pos c23] at H
         have c23b0 : decide (0 ≤ x7_2) = true := decide_eq_true c23
         clear c23
         by_cases c24 : x7_2 < (x3_2.length : Int)
         ·
          rw [if_pos c24] at H
          have c24b0 : decide (x7_2 < (x3_2.length : Int)) = true := decide_eq_true c24
          (try (have c24b0h := c24b0; simp only [hl3_2] at c24b0h))
          clear c24
          by_cases c25 : 0 ≤ x6_2
          ·
           rw [if_pos c25] at H
           have c25b0 : decide (0 ≤ x6_2) = true := decide_eq_true c25
           clear c25
           by_cases c26 : x6_2 < (x3_2.length : Int)
           ·
            rw [if_pos c26] at H
            have c26b0 : decide (x6_2 < (x3_2.length : Int)) = true := decide_eq_true c26
            (try (have c26b0h := c26b0; simp only [hl3_2] at c26b0h))
            clear c26
            obtain ⟨y614, hy614⟩ : ∃ y_ : List Int, y_ = (x3_2.set (x6_2 : Int).toNat (rd x3_2 x7_2)) := ⟨_, rfl⟩
            replace H : (bignat_Format.l2 k2 (y614.set (x7_2 : Int).toNat (rd x3_2 x6_2)) (wrap64 (x6_2 + 1)) (wrap64 (x7_2 - 1))) = some r := by first | (rw [hy614]; with_reducible exact H) | (have H2_ := (Option.bind_some _ _).symm.trans H; rw [hy614]; with_reducible exact H2_) | (have H2_ := (Option.bind_some _ _).symm.trans H; with_reducible exact H2_) | with_reducible exact H | (rw [hy614]; exact H) | exact H
            have Ny614 := Aside0.mk hy614
            clear hy614
            obtain ⟨y615, hy615⟩ : ∃ y_ : List Int, y_ = (y614.set (x7_2 : Int).toNat (rd x3_2 x6_2)) := ⟨_, rfl⟩
            replace H : (bignat_Format.l2 k2 y615 (wrap64 (x6_2 + 1)) (wrap64 (x7_2 - 1))) = some r := by first | (rw [hy615]; with_reducible exact H) | (have H2_ := (Option.bind_some _ _).symm.trans H; rw [hy615]; with_reducible exact H2_) | (have H2_ := (Option.bind_some _ _).symm.trans H; with_reducible exact H2_) | with_reducible exact H | (rw [hy615]; exact H) | exact H
            have Ny615 := Aside0.mk hy615
            clear hy615
            have H' := Aside0.mk H
            clear H
            try go_wp2
            have n0_ := Aside0.mk (Kd.R_drew HO_3.out)
            have n1_ := Aside0.mk (below_drew1 HB.out)
            clear HO_3
            clear HB
            have HO_3 := n0_
            have HB := n1_
            clear n0_ n1_
            have p612 : 0 ≤ (x7_2 : Int) := of_decide_eq_true (by first | (with_reducible assumption) | assumption)
            have q612 : x7_2 < (x3_2.length : Int) := of_decide_eq_true (by first | (with_reducible assumption) | assumption)
            obtain ⟨ad612, e612, hx612_0⟩ := Kd.at_int (Kd.R_reads' HO_3.out).2.2 x7_2 p612 q612
            cases e612
            replace p612 := eq_true p612
            replace q612 := eq_true q612
            have p613 : 0 ≤ (x6_2 : Int) := of_decide_eq_true (by first | (with_reducible assumption) | assumption)
            have q613 : x6_2 < (x3_2.length : Int) := of_decide_eq_true (by first | (with_reducible assumption) | assumption)
            obtain ⟨ad613, e613, hx613_0⟩ := Kd.at_int (Kd.R_reads' HO_3.out).2.2 x6_2 p613 q613
            obtain rfl : ad612 = ad613 := (by injection e613)
            replace p613 := eq_true p613
            replace q613 := eq_true q613
            have p27 : 0 ≤ (x6_2 : Int) := of_decide_eq_true (by first | (with_reducible assumption) | assumption)
            have q27 : (x6_2 : Int) < ((x3_2.length : Int) : Int) := of_decide_eq_true (by first | (with_reducible assumption) | assumption)
            obtain ⟨go27, co27, eo27, gb27, gl27, cl27, HG27⟩ := Kd.R_form HO_3.out (by omega)
            (first | cases eo27 | (injection eo27 with ea_ en_ ec_; (first | subst ea_ | (injection ea_ with ea_; subst ea_)); subst ec_; clear en_))
            have GB27 := Aside0.mk gb27
            have GG27 := Aside0.mk HG27
            clear gb27 gl27 HG27
            (first | simp only [add_plain] at hx612_0 | skip)
            (first | simp only [add_plain] at hx613_0 | skip)
            obtain ⟨hx27_0, hf27_0⟩ := Kd.R_celln 0 HO_3.out (x6_2 : Int) p27 q27
            replace p27 := eq_true p27
            replace q27 := eq_true q27
            have HP30 := Kd.R_putn HO_3.out (x6_2 : Int) (rd x3_2 x7_2)
            rw [← Ny614.out] at HP30
            have HQ30 := Aside0.mk HP30
            clear HP30
            have p28 : 0 ≤ (x7_2 : Int) := of_decide_eq_true (by first | (with_reducible assumption) | assumption)
            have q28 : (x7_2 : Int) < ((x3_2.length : Int) : Int) := of_decide_eq_true (by first | (with_reducible assumption) | assumption)
            obtain ⟨hx28_0, hf28_0⟩ := Kd.R_celln 0 HQ30.out (x7_2 : Int) p28 q28
            replace p28 := eq_true p28
            replace q28 := eq_true q28
            have HP31 := Kd.R_putn HQ30.out (x7_2 : Int) (rd x3_2 x6_2)
            rw [← Ny615.out] at HP31
            have HQ31 := Aside0.mk HP31
            clear HP31
            refine start_ (n := 16) (S := fun w' => w'.cell? ⟨go27, (x7_2).toNat, none⟩ = some (.int .u8 (rd x3_2 x7_2)) ∧ w'.cell? ⟨go27, (x6_2).toNat, none⟩ = some (.int .u8 (rd x3_2 x6_2))) (ds := [13, 15]) #[false, false, false, false, false, false, false, false, false, false, false, false, false, false, false, false] (by kernel_rfl) rfl rfl ⟨hx612_0, hx613_0⟩ (fun hHeld => ?_); refine with_tabW bignat_Format.tab16 bignat_Format.bits16 (fun HT_ HW_ => ?_)
            generalize wr.drew = w29 at HO_3 HB GG27 HQ30 HQ31 hf27_0 hf28_0 hx27_0 hx28_0 hx612_0 hx613_0 hHeld ⊢
            refine pure_ (i := 0) (N := some 53) (v := ?_) (a' := ?_) #[true, false, false, false, false, false, false, false, false, false, false, false, false, false, false, false] rfl rfl (any_of HT_.out (by kernel_rfl)) (fun _ _ _ h => h) (Or.inl ⟨by rfl, ?_⟩) ?_ ?_
            rotate_left
            ·
             intro w'
             go_simp
             with_reducible rfl
            rotate_left
            ·
             simp only [Act.put, List.setIfInBounds_toArray, List.set_cons_zero, List.set_cons_succ, i64_w, i32_w]
             rfl
            refine pure_ (i := 1) (N := some 54) (v := ?_) (a' := ?_) #[true, true, false, false, false, false, false, false, false, false, false, false, false, false, false, false] rfl rfl (any_of HT_.out (by kernel_rfl)) (fun _ _ _ h => h) (Or.inl ⟨by rfl, ?_⟩) ?_ ?_
            rotate_left
            ·
             intro w'
             go_simp
             with_reducible rfl
            rotate_left
            ·
             simp only [Act.put, List.setIfInBounds_toArray, List.set_cons_zero, List.set_cons_succ, i64_w, i32_w]
             rfl
            refine pure_ (i := 2) (N := some 55) (v := ?_) (a' := ?_) #[true, true, true, false, false, false, false, false, false, false, false, false, false, false, false, false] rfl rfl (any_of HT_.out (by kernel_rfl)) (fun _ _ _ h => h) (Or.inl ⟨by rfl, ?_⟩) ?_ ?_
            rotate_left
            ·
             intro w'
             go_simp
             with_reducible rfl
            rotate_left
            ·
             simp only [Act.put, List.setIfInBounds_toArray, List.set_cons_zero, List.set_cons_succ, i64_w, i32_w]
             rfl
            refine pure_ (i := 3) (N := some 56) (v := ?_) (a' := ?_) #[true, true, true, true, false, false, false, false, false, false, false, false, false, false, false, false] rfl rfl (any_of HT_.out (by kernel_rfl)) (fun _ _ _ h => h) (Or.inl ⟨by rfl, ?_⟩) ?_ ?_
            rotate_left
            ·
             intro w'
             go_simp
             with_reducible rfl
            rotate_left
            ·
             simp only [Act.put, List.setIfInBounds_toArray, List.set_cons_zero, List.set_cons_succ, i64_w, i32_w]
             rfl
            refine pure_ (i := 4) (N := some 57) (v := ?_) (a' := ?_) #[true, true, true, true, true, false, false, false, false, false, false, false, false, false, false, false] rfl rfl (any_of HT_.out (by kernel_rfl)) (fun _ _ _ h => h) (Or.inl ⟨by rfl, ?_⟩) ?_ ?_
            rotate_left
            ·
             intro w'
             go_simp
             with_reducible rfl
            rotate_left
            ·
             simp only [Act.put, List.setIfInBounds_toArray, List.set_cons_zero, List.set_cons_succ, i64_w, i32_w]
             rfl
            refine pure_ (i := 5) (N := some 58) (v := ?_) (a' := ?_) #[true, true, true, true, true, true, false, false, false, false, false, false, false, false, false, false] rfl rfl (any_of HT_.out (by kernel_rfl)) (fun _ _ _ h => h) (Or.inl ⟨by rfl, ?_⟩) ?_ ?_
            rotate_left
            ·
             intro w'
             go_simp
             with_reducible rfl
            rotate_left
            ·
             simp only [Act.put, List.setIfInBounds_toArray, List.set_cons_zero, List.set_cons_succ, i64_w, i32_w]
             rfl
            refine pure_ (i := 6) (N := some 59) (v := ?_) (a' := ?_) #[true, true, true, true, true, true, true, false, false, false, false, false, false, false, false, false] rfl rfl (any_of HT_.out (by kernel_rfl)) (fun _ _ _ h => h) (Or.inl ⟨by rfl, ?_⟩) ?_ ?_
            rotate_left
            ·
             intro w'
             go_simp
             with_reducible rfl
            rotate_left
            ·
             simp only [Act.put, List.setIfInBounds_toArray, List.set_cons_zero, List.set_cons_succ, i64_w, i32_w]
             rfl
            refine pure_ (i := 8) (N := some 61) (v := ?_) (a' := ?_) #[true, true, true, true, true, true, true, false, true, false, false, false, false, false, false, false] rfl rfl (any_of HT_.out (by kernel_rfl)) (fun _ _ _ h => h) (Or.inl ⟨by rfl, ?_⟩) ?_ ?_
            rotate_left
            ·
             intro w'
             go_simp
             with_reducible rfl
            rotate_left
            ·
             simp only [Act.put, List.setIfInBounds_toArray, List.set_cons_zero, List.set_cons_succ, i64_w, i32_w]
             rfl
            refine pure_ (i := 9) (N := some 62) (v := ?_) (a' := ?_) #[true, true, true, true, true, true, true, false, true, true, false, false, false, false, false, false] rfl rfl (any_of HT_.out (by kernel_rfl)) (fun _ _ _ h => h) (Or.inl ⟨by rfl, ?_⟩) ?_ ?_
            rotate_left
            ·
             intro w'
             go_simp
             with_reducible rfl
            rotate_left
            ·
             simp only [Act.put, List.setIfInBounds_toArray, List.set_cons_zero, List.set_cons_succ, i64_w, i32_w]
             rfl
            refine pure_ (i := 10) (N := some 63) (v := ?_) (a' := ?_) #[true, true, true, true, true, true, true, false, true, true, true, false, false, false, false, false] rfl rfl (any_of HT_.out (by kernel_rfl)) (fun _ _ _ h => h) (Or.inl ⟨by rfl, ?_⟩) ?_ ?_
            rotate_left
            ·
             intro w'
             go_simp
             with_reducible rfl
            rotate_left
            ·
             simp only [Act.put, List.setIfInBounds_toArray, List.set_cons_zero, List.set_cons_succ, i64_w, i32_w]
             rfl
            refine take_ (i := 7) (N := some 60) (v := ?_) (a' := ?_) #[true, true, true, true, true, true, true, true, true, true, true, false, false, false, false, false] rfl rfl (take_ofW HT_.out HW_.out (by kernel_rfl)) (fun _ _ _ h => h) (Or.inl ⟨by rfl, ?_⟩) hHeld ?_ ?_
            rotate_left
            ·
             rintro w' ⟨s0, s1⟩
             go_simp
             with_reducible rfl
            rotate_left
            ·
             simp only [Act.put, List.setIfInBounds_toArray, List.set_cons_zero, List.set_cons_succ, i64_w, i32_w]
             rfl
            refine take_ (i := 11) (N := some 64) (v := ?_) (a' := ?_) #[true, true, true, true, true, true, true, true, true, true, true, true, false, false, false, false] rfl rfl (take_ofW HT_.out HW_.out (by kernel_rfl)) (fun _ _ _ h => h) (Or.inl ⟨by rfl, ?_⟩) hHeld ?_ ?_
            rotate_left
            ·
             rintro w' ⟨s0, s1⟩
             go_simp
             with_reducible rfl
            rotate_left
            ·
             simp only [Act.put, List.setIfInBounds_toArray, List.set_cons_zero, List.set_cons_succ, i64_w, i32_w]
             rfl
            refine pure_ (i := 12) (N := some 65) (v := ?_) (a' := ?_) #[true, true, true, true, true, true, true, true, true, true, true, true, true, false, false, false] rfl rfl (any_of HT_.out (by kernel_rfl)) (fun _ _ _ h => h) (Or.inl ⟨by rfl, ?_⟩) ?_ ?_
            rotate_left
            ·
             intro w'
             go_simp
             with_reducible rfl
            rotate_left
            ·
             simp only [Act.put, List.setIfInBounds_toArray, List.set_cons_zero, List.set_cons_succ, i64_w, i32_w]
             rfl
            refine last_ (i := 13) (N := none) #[true, true, true, true, true, true, true, true, true, true, true, true, true, true, false, false] rfl rfl (one_of HT_.out (by kernel_rfl)) (by decide) (fun K hK => ?_)
            refine skip_ (w1 := ?_) (by rfl) rfl ?_ ?_
            rotate_left
            ·
             go_simp
             rfl
            refine hK.out _ _ ?_
            clear hK K
            refine pure_ (i := 14) (N := some 66) (v := ?_) (a' := ?_) #[true, true, true, true, true, true, true, true, true, true, true, true, true, true, true, false] rfl rfl (any_of HT_.out (by kernel_rfl)) (fun _ _ _ h => h) (Or.inl ⟨by rfl, ?_⟩) ?_ ?_
            rotate_left
            ·
             intro w'
             go_simp
             with_reducible rfl
            rotate_left
            ·
             simp only [Act.put, List.setIfInBounds_toArray, List.set_cons_zero, List.set_cons_succ, i64_w, i32_w]
             rfl
            refine last_ (i := 15) (N := none) #[true, true, true, true, true, true, true, true, true, true, true, true, true, true, true, true] rfl rfl (one_of HT_.out (by kernel_rfl)) (by decide) (fun K hK => ?_)
            refine skip_ (w1 := ?_) (by rfl) rfl ?_ ?_
            rotate_left
            ·
             go_simp
             rfl
            refine hK.out _ _ ?_
            clear hK K
            refine done_ (done_of HT_.out (by kernel_rfl)) ?_
            try go_wp2
            (try simp only [← hl3_2])
            go_roundg k2
            case measure => have := HK1.out; have := HK2.out; omega
            case rel => exact ⟨(y615), (wrap64 (x6_2 + 1)), (wrap64 (x7_2 - 1)), (by first | rfl | (simp [*]; done)), (by first | rfl | (simp [*]; done)), H', ⟨by have := HK1.out; have := HK2.out; omega⟩, ⟨by (try simp only [hl3_2]); (with_reducible repeat (first | apply Kd.R_alloc | apply Kd.R_drewN | apply Kd.R_drew)); exact HQ31.out⟩, ⟨by repeat (first | (with_reducible first | exact HB.out | apply below_alloc | apply pw_below_drewN | apply below_drew1 | refine below_set ?_ GB27.out | refine below_set ?_ GB27.out) | exact HB.out)⟩⟩
           ·
            rw [if_neg c26] at H
            exact absurd H (by simp)
          ·
           rw [if_neg c25] at H
           exact absurd H (by simp)
         ·
          rw [if_neg c24] at H
          exact absurd H (by simp)
        ·
         rw [if_neg c23] at H
         exact absurd H (by simp)
       ·
        rw [if_neg c22] at H
        have c22b0 : decide (x6_2 < x7_2) = false := decide_eq_false c22
        clear c22
        obtain rfl := Option.some.inj H
        have hcv32 := own_string (P := Tryd.prog) Tryd.underlying71 Tryd.underlying5 Tryd.underlying9 (Kd.own_of_R HO_3.out)
        go_wp2
        go_ret
        exact ⟨by first | rfl | (simp [*, errW_none, errW_some] <;> rfl), by repeat (first | (with_reducible first | exact HB.out | apply below_alloc | apply pw_below_drewN | apply below_drew1) | exact HB.out)⟩

def rational_Format.f (k : Nat) (a0_0 : Bool) (l0_1 : List Int) (l0_2 : List Int) : Option (ByteArray) := (rational_Normalize.f k a0_0 l0_1 l0_2).bind fun bt617 => ((bignat_Format.f k bt617.2.1).bind fun t624 => (if bt617.1 = true then (if 1 + t624.size ≤ 9223372036854775807 then (if (bt617.2.2.length : Int) > 1 then (none) else (if 0 < (bt617.2.2.length : Int) then (if (rd bt617.2.2 0) = 1 then (none) else ((bignat_Format.f k bt617.2.2).bind fun t626 => (if 1 + t626.size ≤ 9223372036854775807 then (if ((⟨#[45]⟩ : ByteArray) ++ t624).size + ((⟨#[47]⟩ : ByteArray) ++ t626).size ≤ 9223372036854775807 then (some (((⟨#[45]⟩ : ByteArray) ++ t624) ++ ((⟨#[47]⟩ : ByteArray) ++ t626))) else (none)) else (none)))) else (none))) else (none)) else (none)))
theorem rational_Format.mono : ∀ a0 a1 a2 k, LeO (rational_Format.f k a0 a1 a2) (rational_Format.f (k + 1) a0 a1 a2) := by
 intro a0 a1 a2 k
 unfold rational_Format.f
 repeat' first
   | (with_reducible exact bignat_Format.mono _ _)
   | (with_reducible exact rational_Normalize.mono _ _ _ _)
   | (with_reducible exact LeO.refl _)
   | (with_reducible exact LeO.none _)
   | (with_reducible refine LeO.ite ?_ ?_)
   | (with_reducible refine LeO.bind ?_ (fun _ => ?_))
   | exact LeO.none _
   | refine LeO.ite ?_ ?_
   | refine LeO.bind ?_ (fun _ => ?_)
set_option maxHeartbeats 8000000 in
set_option maxRecDepth 100000 in
theorem rational_Format.calls (k : Nat) (a0_0 : Bool) (A0_1 : Option Addr) (c0_1 : Nat) (l0_1 : List Int) (A0_2 : Option Addr) (c0_2 : Nat) (l0_2 : List Int) (r : ByteArray) (w : World) (hr0_1 : Kd.C (Kd.int .u32) w A0_1 l0_1.length l0_1) (hc0_1 : l0_1.length ≤ c0_1) (hr0_2 : Kd.C (Kd.int .u32) w A0_2 l0_2.length l0_2) (hc0_2 : l0_2.length ≤ c0_2) (h : rational_Format.f k a0_0 l0_1 l0_2 = some r) :
  Calls Tryd.prog 18 #[.agg #[.bool a0_0, .slice A0_1 l0_1.length c0_1, .slice A0_2 l0_2.length c0_2]] w fun e w' => e = .returned (.string r) ∧ Below w.heap.size w w' := by
 have hu25 := Tryd.underlying25
 have HR0_1 := Aside0.mk hr0_1
 have HC0_1 := Aside0.mk hc0_1
 clear hr0_1 hc0_1
 have HR0_2 := Aside0.mk hr0_2
 have HC0_2 := Aside0.mk hc0_2
 clear hr0_2 hc0_2
 have HB := Aside0.mk (Below.refl w.heap.size w)
 have H : ((rational_Normalize.f k a0_0 l0_1 l0_2).bind fun bt617 => ((bignat_Format.f k bt617.2.1).bind fun t624 => (if bt617.1 = true then (if 1 + t624.size ≤ 9223372036854775807 then (if (bt617.2.2.length : Int) > 1 then (none) else (if 0 < (bt617.2.2.length : Int) then (if (rd bt617.2.2 0) = 1 then (none) else ((bignat_Format.f k bt617.2.2).bind fun t626 => (if 1 + t626.size ≤ 9223372036854775807 then (if ((⟨#[45]⟩ : ByteArray) ++ t624).size + ((⟨#[47]⟩ : ByteArray) ++ t626).size ≤ 9223372036854775807 then (some (((⟨#[45]⟩ : ByteArray) ++ t624) ++ ((⟨#[47]⟩ : ByteArray) ++ t626))) else (none)) else (none)))) else (none))) else (none)) else (none)))) = some r := h
 clear h
 replace H := Option.bind_eq_some_iff.mp H
 obtain ⟨⟨t617, t618, t621⟩, A20, H⟩ := H
 replace H : ((bignat_Format.f k t618).bind fun t624 => (if t617 = true then (if 1 + t624.size ≤ 9223372036854775807 then (if (t621.length : Int) > 1 then (none) else (if 0 < (t621.length : Int) then (if (rd t621 0) = 1 then (none) else ((bignat_Format.f k t621).bind fun t626 => (if 1 + t626.size ≤ 9223372036854775807 then (if ((⟨#[45]⟩ : ByteArray) ++ t624).size + ((⟨#[47]⟩ : ByteArray) ++ t626).size ≤ 9223372036854775807 then (some (((⟨#[45]⟩ : ByteArray) ++ t624) ++ ((⟨#[47]⟩ : ByteArray) ++ t626))) else (none)) else (none)))) else (none))) else (none)) else (none))) = some r := H
 have A2 := Aside0.mk A20
 clear A20
 replace H := Option.bind_eq_some_iff.mp H
 obtain ⟨t624, A30, H⟩ := H
 replace H : (if t617 = true then (if 1 + t624.size ≤ 9223372036854775807 then (if (t621.length : Int) > 1 then (none) else (if 0 < (t621.length : Int) then (if (rd t621 0) = 1 then (none) else ((bignat_Format.f k t621).bind fun t626 => (if 1 + t626.size ≤ 9223372036854775807 then (if ((⟨#[45]⟩ : ByteArray) ++ t624).size + ((⟨#[47]⟩ : ByteArray) ++ t626).size ≤ 9223372036854775807 then (some (((⟨#[45]⟩ : ByteArray) ++ t624) ++ ((⟨#[47]⟩ : ByteArray) ++ t626))) else (none)) else (none)))) else (none))) else (none)) else (none)) = some r := H
 have A3 := Aside0.mk A30
 clear A30
 by_cases c4 : t617 = true
 ·
  subst c4
  have H1 : (if 1 + t624.size ≤ 9223372036854775807 then (if (t621.length : Int) > 1 then (none) else (if 0 < (t621.length : Int) then (if (rd t621 0) = 1 then (none) else ((bignat_Format.f k t621).bind fun t626 => (if 1 + t626.size ≤ 9223372036854775807 then (if ((⟨#[45]⟩ : ByteArray) ++ t624).size + ((⟨#[47]⟩ : ByteArray) ++ t626).size ≤ 9223372036854775807 then (some (((⟨#[45]⟩ : ByteArray) ++ t624) ++ ((⟨#[47]⟩ : ByteArray) ++ t626))) else (none)) else (none)))) else (none))) else (none)) = some r := by rw [if_pos rfl] at H; exact H
  clear H
  have H := H1
  clear H1
  by_cases c5 : 1 + t624.size ≤ 9223372036854775807
  ·
   rw [if_pos c5] at H
   have c5b0 := eq_true c5
   have c5b1 : decide (1 + t624.size ≤ 9223372036854775807) = true := decide_eq_true c5
   try have c5b2 : (9223372036854775807 < 1 + t624.size) = False := eq_false (Nat.not_lt.2 c5)
   by_cases c6 : (t621.length : Int) > 1
   ·
    rw [if_pos c6] at H
    exact absurd H (by simp)
   ·
    rw [if_neg c6] at H
    have c6b0 : decide (1 < (t621.length : Int)) = false := decide_eq_false c6
    have c6b1 : decide (1 < t621.length) = false := decide_eq_false (by omega)
    clear c6
    by_cases c7 : 0 < (t621.length : Int)
    ·
     rw [if_pos c7] at H
     have c7b0 : decide (0 < (t621.length : Int)) = true := decide_eq_true c7
     have c7b1 : decide (0 < t621.length) = true := decide_eq_true (by omega)
     clear c7
     by_cases c8 : (rd t621 0) = 1
     ·
      rw [if_pos c8] at H
      exact absurd H (by simp)
     ·
      rw [if_neg c8] at H
      have c8b0 : ((rd t621 0) == 1) = false := beq_eq_false_iff_ne.mpr c8
      have c8b1 : ((rd t621 0) != 1) = true := bne_iff_ne.mpr c8
      replace H := Option.bind_eq_some_iff.mp H
      obtain ⟨t626, A90, H⟩ := H
      replace H : (if 1 + t626.size ≤ 9223372036854775807 then (if ((⟨#[45]⟩ : ByteArray) ++ t624).size + ((⟨#[47]⟩ : ByteArray) ++ t626).size ≤ 9223372036854775807 then (some (((⟨#[45]⟩ : ByteArray) ++ t624) ++ ((⟨#[47]⟩ : ByteArray) ++ t626))) else (none)) else (none)) = some r := H
      have A9 := Aside0.mk A90
      clear A90
      by_cases c10 : 1 + t626.size ≤ 9223372036854775807
      ·
       rw [if_pos c10] at H
       have c10b0 := eq_true c10
       have c10b1 : decide (1 + t626.size ≤ 9223372036854775807) = true := decide_eq_true c10
       try have c10b2 : (9223372036854775807 < 1 + t626.size) = False := eq_false (Nat.not_lt.2 c10)
       by_cases c11 : ((⟨#[45]⟩ : ByteArray) ++ t624).size + ((⟨#[47]⟩ : ByteArray) ++ t626).size ≤ 9223372036854775807
       ·
        rw [if_pos c11] at H
        have c11b0 := eq_true c11
        have c11b1 : decide (((⟨#[45]⟩ : ByteArray) ++ t624).size + ((⟨#[47]⟩ : ByteArray) ++ t626).size ≤ 9223372036854775807) = true := decide_eq_true c11
        try have c11b2 : (9223372036854775807 < ((⟨#[45]⟩ : ByteArray) ++ t624).size + ((⟨#[47]⟩ : ByteArray) ++ t626).size) = False := eq_false (Nat.not_lt.2 c11)
        obtain rfl := Option.some.inj H
        go_enter Tryd.func18, Tryd.ntmps18
        go_wp2_with (first | ((with_reducible refine gate_dst (N := 1) rfl ?_); refine box_event ?hg (N := 1) ?hd (cs := #[.bool a0_0, .slice A0_1 l0_1.length c0_1, .slice A0_2 l0_2.length c0_2]) (t := 25) ?hr ?_; (case hd => rfl); (case hg => rfl); (case hr => first | (go_simp; done) | (go_simp; rfl)); intro gb616 hg w12 hbox hb; have n0_ := Aside0.mk (below_step (zb HB rfl) hb); have n1_ := Aside0.mk (hbox); have n2_ := Aside0.mk ((by rw [hg]; exact (below_size (zb HB rfl)) : w.heap.size ≤ gb616)); have n3_ := Aside0.mk ((by rw [hg]; exact (below_size (zb HB rfl)) : w.heap.size ≤ gb616)); clear HB; have HB := n0_; have BK616 := n1_; have GW616 := n2_; have GE616 := n3_; clear n0_ n1_ n2_ n3_; clear hb hbox hg; have hcz13_0 : w12.cell? ⟨gb616, 0, none⟩ = some (.bool a0_0) := (blk_cell BK616.out 0).trans rfl; have hcz13_1 : w12.cell? ⟨gb616, 1, none⟩ = some (.slice A0_1 l0_1.length c0_1) := (blk_cell BK616.out 1).trans rfl; have hcz13_2 : w12.cell? ⟨gb616, 2, none⟩ = some (.slice A0_2 l0_2.length c0_2) := (blk_cell BK616.out 2).trans rfl; have hfz13_0 := blk_frozen BK616.out 0; have hfz13_1 := blk_frozen BK616.out 1; have hfz13_2 := blk_frozen BK616.out 2) | ((with_reducible refine gate_callee (f := 20) rfl ?_); refine goesL_ (some 5) rfl rfl Tryd.func20 (by kernel_rfl) rfl #[.agg #[.bool a0_0, .slice A0_1 l0_1.length c0_1, .slice A0_2 l0_2.length c0_2]] rfl (by first | rfl | (go_simp; first | done | rfl | omega)) ?_; (with_reducible refine (rational_Normalize.calls k a0_0 _ _ l0_1 _ _ l0_2 true t618 t621 _ ?side1 ?side2 ?side3 ?side4 A2.out).mono ?_); (case side1 => repeat first | exact (Kd.C_below HR0_1.out HB.out) | refine Kd.C_drewN ?_ _ | refine Kd.C_alloc ?_ _ | refine Kd.C_drew ?_); (case side2 => exact HC0_1.out); (case side3 => repeat first | exact (Kd.C_below HR0_2.out HB.out) | refine Kd.C_drewN ?_ _ | refine Kd.C_alloc ?_ _ | refine Kd.C_drew ?_); (case side4 => exact HC0_2.out); rintro e w14 ⟨v619, v622, rfl, ho0, ho1, hb⟩; refine ⟨_, rfl, ?_⟩; have n0_ := Aside0.mk (Kd.R_lower ho0 (below_size (zb HB rfl))); have n1_ := Aside0.mk (Kd.R_lower ho1 (below_size (zb HB rfl))); have n2_ := Aside0.mk (blk_below BK616.out hb); have n3_ := Aside0.mk (below_step (zb HB rfl) hb); clear BK616; clear HB; have HO620 := n0_; have HO623 := n1_; have BK616 := n2_; have HB := n3_; clear n0_ n1_ n2_ n3_; have hcz15_0 : w14.cell? ⟨gb616, 0, none⟩ = some (.bool a0_0) := (blk_cell BK616.out 0).trans rfl; have hcz15_1 : w14.cell? ⟨gb616, 1, none⟩ = some (.slice A0_1 l0_1.length c0_1) := (blk_cell BK616.out 1).trans rfl; have hcz15_2 : w14.cell? ⟨gb616, 2, none⟩ = some (.slice A0_2 l0_2.length c0_2) := (blk_cell BK616.out 2).trans rfl; have hfz15_0 := blk_frozen BK616.out 0; have hfz15_1 := blk_frozen BK616.out 1; have hfz15_2 := blk_frozen BK616.out 2; obtain ⟨Ao16, co16, eo16⟩ := Kd.R_slice HO620.out; subst eo16; obtain ⟨Ao17, co17, eo17⟩ := Kd.R_slice HO623.out; subst eo17) | ((with_reducible refine gate_callee (f := 21) rfl ?_); refine goesL_ (some 8) rfl rfl Tryd.func21 (by kernel_rfl) rfl #[.slice Ao16 t618.length co16] rfl (by first | rfl | (go_simp; first | done | rfl | omega)) ?_; (with_reducible refine (bignat_Format.calls k _ _ t618 t624 _ ?side1 ?side2 A3.out).mono ?_); (case side1 => refine (Kd.R_reads' (e := 37) (base := w.heap.size) (ok := fun k_ => some k_ ≠ (.slice Ao17 t621.length co17 : Value).ownBlock) (n := t618.length) (c := co16) ?_).2.2; exact (by (with_reducible repeat (first | apply Kd.R_alloc | apply Kd.R_drewN | apply Kd.R_drew)); exact (Kd.R_mono (Kd.R_far (p := ⟨gb616, 2, none⟩) (Kd.R_far (p := ⟨gb616, 1, none⟩) (Kd.R_far (p := ⟨gb616, 0, none⟩) (Kd.R_types HO620.out BK616.out (by decide)) (fun _ hk => hk.2) (.bool true)) (fun _ hk => hk.2) (.slice Ao16 t618.length co16)) (fun _ hk => hk.2) (.slice Ao17 t621.length co17)) (fun _ h_ => h_.1)))); (case side2 => exact (Kd.R_reads' HO620.out).2.1); rintro e w18 ⟨rfl, hb⟩; refine ⟨_, rfl, ?_⟩; have n0_ := Aside0.mk (Kd.R_below (by (with_reducible repeat (first | apply Kd.R_alloc | apply Kd.R_drewN | apply Kd.R_drew)); exact (Kd.R_mono (Kd.R_far (p := ⟨gb616, 2, none⟩) (Kd.R_far (p := ⟨gb616, 1, none⟩) (Kd.R_far (p := ⟨gb616, 0, none⟩) (Kd.R_types HO620.out BK616.out (by decide)) (fun _ hk => hk.2) (.bool true)) (fun _ hk => hk.2) (.slice Ao16 t618.length co16)) (fun _ hk => hk.2) (.slice Ao17 t621.length co17)) (fun _ h_ => h_.1))) hb); have n1_ := Aside0.mk (Kd.R_below (by (with_reducible repeat (first | apply Kd.R_alloc | apply Kd.R_drewN | apply Kd.R_drew)); exact (Kd.R_mono (Kd.R_far (p := ⟨gb616, 2, none⟩) (Kd.R_far (p := ⟨gb616, 1, none⟩) (Kd.R_far (p := ⟨gb616, 0, none⟩) (Kd.R_types HO623.out BK616.out (by decide)) (fun _ hk => hk.2) (.bool true)) (fun _ hk => hk.2) (.slice Ao16 t618.length co16)) (fun _ hk => hk.2) (.slice Ao17 t621.length co17)) (fun _ h_ => h_.1))) hb); have n2_ := Aside0.mk (blk_below (g := gb616) (o := .cells #[.bool true, .slice Ao16 t618.length co16, .slice Ao17 t621.length co17] 25 (0, 0)) (by (with_reducible repeat (first | refine blk_drewN ?_ _ | refine blk_drew ?_ | refine blk_alloc ?_ _)); refine blk_put (cs := #[.bool true, .slice Ao16 t618.length co16, .slice A0_2 l0_2.length c0_2]) ?_ 2 _ rfl; (with_reducible repeat (first | refine blk_drewN ?_ _ | refine blk_drew ?_ | refine blk_alloc ?_ _)); refine blk_put (cs := #[.bool true, .slice A0_1 l0_1.length c0_1, .slice A0_2 l0_2.length c0_2]) ?_ 1 _ rfl; (with_reducible repeat (first | refine blk_drewN ?_ _ | refine blk_drew ?_ | refine blk_alloc ?_ _)); refine blk_put (cs := #[.bool a0_0, .slice A0_1 l0_1.length c0_1, .slice A0_2 l0_2.length c0_2]) ?_ 0 _ rfl; (with_reducible repeat (first | refine blk_drewN ?_ _ | refine blk_drew ?_ | refine blk_alloc ?_ _)); exact BK616.out) hb); have n3_ := Aside0.mk (below_step (by repeat (first | (with_reducible first | exact HB.out | apply below_alloc | apply pw_below_drewN | apply below_drew1 | refine below_set ?_ GE616.out) | exact HB.out)) hb); clear HO620; clear HO623; clear BK616; clear HB; have HO620 := n0_; have HO623 := n1_; have BK616 := n2_; have HB := n3_; clear n0_ n1_ n2_ n3_; have hcz19_0 : w18.cell? ⟨gb616, 0, none⟩ = some (.bool true) := (blk_cell BK616.out 0).trans rfl; have hcz19_1 : w18.cell? ⟨gb616, 1, none⟩ = some (.slice Ao16 t618.length co16) := (blk_cell BK616.out 1).trans rfl; have hcz19_2 : w18.cell? ⟨gb616, 2, none⟩ = some (.slice Ao17 t621.length co17) := (blk_cell BK616.out 2).trans rfl; have hfz19_0 := blk_frozen BK616.out 0; have hfz19_1 := blk_frozen BK616.out 1; have hfz19_2 := blk_frozen BK616.out 2; have p625 : 0 ≤ (0 : Int) := (by omega); have q625 : 0 < (t621.length : Int) := of_decide_eq_true (by first | (with_reducible assumption) | assumption); obtain ⟨ad625, e625, hx625_0⟩ := Kd.at_int (Kd.R_reads' HO623.out).2.2 0 p625 q625; cases e625; have qi625 : (0 < t621.length) = True := eq_true (by omega); (try rw [show ((0 : Int)).toNat = 0 from rfl] at hx625_0); (try rw [Addr.add_zero'] at hx625_0); replace p625 := eq_true p625; replace q625 := eq_true q625) | ((with_reducible refine gate_callee (f := 21) rfl ?_); refine goesL_ (some 27) rfl rfl Tryd.func21 (by kernel_rfl) rfl #[.slice (some ad625) t621.length co17] rfl (by first | rfl | (go_simp; first | done | rfl | omega)) ?_; (with_reducible refine (bignat_Format.calls k _ _ t621 t626 _ ?side1 ?side2 A9.out).mono ?_); (case side1 => repeat first | exact (Kd.R_reads' HO623.out).2.2 | refine Kd.C_drewN ?_ _ | refine Kd.C_alloc ?_ _ | refine Kd.C_drew ?_); (case side2 => exact (Kd.R_reads' HO623.out).2.1); rintro e w20 ⟨rfl, hb⟩; refine ⟨_, rfl, ?_⟩; have n0_ := Aside0.mk (Kd.R_below (zr HO620 rfl) hb); have n1_ := Aside0.mk (Kd.R_below (zr HO623 rfl) hb); have n2_ := Aside0.mk (blk_below BK616.out hb); have n3_ := Aside0.mk (below_step (zb HB rfl) hb); clear HO620; clear HO623; clear BK616; clear HB; have HO620 := n0_; have HO623 := n1_; have BK616 := n2_; have HB := n3_; clear n0_ n1_ n2_ n3_))
        go_ret
        exact ⟨by first | rfl | (simp [*, errW_none, errW_some] <;> rfl), by repeat (first | (with_reducible first | exact HB.out | apply below_alloc | apply pw_below_drewN | apply below_drew1 | refine below_set ?_ GE616.out) | exact HB.out)⟩
       ·
        rw [if_neg c11] at H
        exact absurd H (by simp)
      ·
       rw [if_neg c10] at H
       exact absurd H (by simp)
    ·
     rw [if_neg c7] at H
     exact absurd H (by simp)
  ·
   rw [if_neg c5] at H
   exact absurd H (by simp)
 ·
  replace c4 := Bool.eq_false_iff.mpr c4
  subst c4
  have H1 : (none) = some r := by rw [if_neg (show ¬ (false = true) by decide)] at H; exact H
  clear H
  have H := H1
  clear H1
  exact absurd H (by simp)

def rational_parts.f (k : Nat) (a0_0 : Bool) (l0_1 : List Int) (l0_2 : List Int) : Option (Bool × List Int × List Int) := (bignat_BitLen.f k l0_2).bind fun t628 => (if t628 = 0 then (none) else ((bignat_BitLen.f k l0_1).bind fun t629 => (if t629 = 0 then (none) else (some (a0_0, l0_1, l0_2)))))
theorem rational_parts.mono : ∀ a0 a1 a2 k, LeO (rational_parts.f k a0 a1 a2) (rational_parts.f (k + 1) a0 a1 a2) := by
 intro a0 a1 a2 k
 unfold rational_parts.f
 repeat' first
   | (with_reducible exact bignat_BitLen.mono _ _)
   | (with_reducible exact LeO.refl _)
   | (with_reducible exact LeO.none _)
   | (with_reducible refine LeO.ite ?_ ?_)
   | (with_reducible refine LeO.bind ?_ (fun _ => ?_))
   | exact LeO.none _
   | refine LeO.ite ?_ ?_
   | refine LeO.bind ?_ (fun _ => ?_)
set_option maxHeartbeats 8000000 in
set_option maxRecDepth 100000 in
theorem rational_parts.calls (k : Nat) (a0_0 : Bool) (P0_1_ : Nat → Prop) (A0_1 : Option Addr) (c0_1 : Nat) (l0_1 : List Int) (P0_2_ : Nat → Prop) (A0_2 : Option Addr) (c0_2 : Nat) (l0_2 : List Int) (r1 : Bool) (r2 : List Int) (r3 : List Int) (w : World) (hs0_1 : Kd.V (Kd.int .u32) 37 w w.heap.size (fun k_ => P0_1_ k_) (.slice A0_1 l0_1.length c0_1) l0_1) (hs0_2 : Kd.V (Kd.int .u32) 37 w w.heap.size (fun k_ => P0_2_ k_) (.slice A0_2 l0_2.length c0_2) l0_2) (h : rational_parts.f k a0_0 l0_1 l0_2 = some (r1, r2, r3)) :
  Calls Tryd.prog 66 #[.agg #[.bool a0_0, .slice A0_1 l0_1.length c0_1, .slice A0_2 l0_2.length c0_2]] w fun e w' => ∃ v1_ v2_ : Value, e = .returned (.tuple #[.bool r1, v1_, v2_]) ∧ Kd.V (Kd.int .u32) 37 w' w.heap.size (fun k_ => ((P0_1_ k_ ∨ P0_2_ k_) ∨ w.heap.size ≤ k_)) v1_ r2 ∧ Kd.V (Kd.int .u32) 37 w' w.heap.size (fun k_ => ((P0_1_ k_ ∨ P0_2_ k_) ∨ w.heap.size ≤ k_)) v2_ r3 ∧ Below w.heap.size w w' := by
 have hu25 := Tryd.underlying25
 have HO0_1 := Aside0.mk (show Kd.V (Kd.int .u32) 37 w w.heap.size (fun k_ => ((P0_1_ k_ ∨ P0_2_ k_) ∨ w.heap.size ≤ k_)) (.slice A0_1 l0_1.length c0_1) l0_1 from Kd.V_mono hs0_1 (fun k_ hk => .inl (.inl hk)))
 have HO0_2 := Aside0.mk (show Kd.V (Kd.int .u32) 37 w w.heap.size (fun k_ => ((P0_1_ k_ ∨ P0_2_ k_) ∨ w.heap.size ≤ k_)) (.slice A0_2 l0_2.length c0_2) l0_2 from Kd.V_mono hs0_2 (fun k_ hk => .inl (.inr hk)))
 have HB := Aside0.mk (Below.refl w.heap.size w)
 have H : ((bignat_BitLen.f k l0_2).bind fun t628 => (if t628 = 0 then (none) else ((bignat_BitLen.f k l0_1).bind fun t629 => (if t629 = 0 then (none) else (some (a0_0, l0_1, l0_2)))))) = some (r1, r2, r3) := h
 clear h
 replace H := Option.bind_eq_some_iff.mp H
 obtain ⟨t628, A20, H⟩ := H
 replace H : (if t628 = 0 then (none) else ((bignat_BitLen.f k l0_1).bind fun t629 => (if t629 = 0 then (none) else (some (a0_0, l0_1, l0_2))))) = some (r1, r2, r3) := H
 have A2 := Aside0.mk A20
 clear A20
 by_cases c3 : t628 = 0
 ·
  rw [if_pos c3] at H
  exact absurd H (by simp)
 ·
  rw [if_neg c3] at H
  have c3b0 : (t628 == 0) = false := beq_eq_false_iff_ne.mpr c3
  have c3b1 : (t628 != 0) = true := bne_iff_ne.mpr c3
  replace H := Option.bind_eq_some_iff.mp H
  obtain ⟨t629, A40, H⟩ := H
  replace H : (if t629 = 0 then (none) else (some (a0_0, l0_1, l0_2))) = some (r1, r2, r3) := H
  have A4 := Aside0.mk A40
  clear A40
  by_cases c5 : t629 = 0
  ·
   rw [if_pos c5] at H
   exact absurd H (by simp)
  ·
   rw [if_neg c5] at H
   have c5b0 : (t629 == 0) = false := beq_eq_false_iff_ne.mpr c5
   have c5b1 : (t629 != 0) = true := bne_iff_ne.mpr c5
   simp only [Option.some.injEq, Prod.mk.injEq] at H
   obtain ⟨rfl, rfl, rfl⟩ := H
   go_enter Tryd.func66, Tryd.ntmps66
   have M696_0 : Aside0 True := ⟨trivial⟩
   have M696_1 : Aside0 True := ⟨trivial⟩
   go_wp2_with (first | ((with_reducible refine gate_dst (N := 1) rfl ?_); refine box_event ?hg (N := 1) ?hd (cs := #[.bool a0_0, .slice A0_1 l0_1.length c0_1, .slice A0_2 l0_2.length c0_2]) (t := 25) ?hr ?_; (case hd => rfl); (case hg => rfl); (case hr => first | (go_simp; done) | (go_simp; rfl)); intro gb627 hg w6 hbox hb; have n0_ := Aside0.mk (Kd.V_below (Kd.V_elderB (zv HO0_1 rfl) gb627 (Nat.le_of_eq hg.symm)) hb); have n1_ := Aside0.mk (Kd.V_below (Kd.V_elderB (zv HO0_2 rfl) gb627 (Nat.le_of_eq hg.symm)) hb); have n2_ := Aside0.mk (below_step (zb HB rfl) hb); have n3_ := Aside0.mk (hbox); have n4_ := Aside0.mk ((by rw [hg]; exact (below_size (zb HB rfl)) : w.heap.size ≤ gb627)); have n5_ := Aside0.mk ((by rw [hg]; exact (below_size (zb HB rfl)) : w.heap.size ≤ gb627)); clear HO0_1; clear HO0_2; clear HB; have HO0_1 := n0_; have HO0_2 := n1_; have HB := n2_; have BK627 := n3_; have GW627 := n4_; have GE627 := n5_; clear n0_ n1_ n2_ n3_ n4_ n5_; clear hb hbox hg; have hcz7_0 : w6.cell? ⟨gb627, 0, none⟩ = some (.bool a0_0) := (blk_cell BK627.out 0).trans rfl; have hcz7_1 : w6.cell? ⟨gb627, 1, none⟩ = some (.slice A0_1 l0_1.length c0_1) := (blk_cell BK627.out 1).trans rfl; have hcz7_2 : w6.cell? ⟨gb627, 2, none⟩ = some (.slice A0_2 l0_2.length c0_2) := (blk_cell BK627.out 2).trans rfl; have hfz7_0 := blk_frozen BK627.out 0; have hfz7_1 := blk_frozen BK627.out 1; have hfz7_2 := blk_frozen BK627.out 2) | (go_at_call 70; clear M696_0; (with_reducible refine (bignat_BitLen.calls k _ _ l0_2 t628 _ ?side1 ?side2 A2.out).mono ?_); (case side1 => repeat first | exact (Kd.V_reads' HO0_2.out).2.2 | refine Kd.C_drewN ?_ _ | refine Kd.C_alloc ?_ _ | refine Kd.C_drew ?_); (case side2 => exact (Kd.V_reads' HO0_2.out).2.1); rintro e w8 ⟨rfl, hb⟩; have n0_ := Aside0.mk (Kd.V_below (zv HO0_1 rfl) hb); have n1_ := Aside0.mk (Kd.V_below (zv HO0_2 rfl) hb); have n2_ := Aside0.mk (blk_below BK627.out hb); have n3_ := Aside0.mk (below_step (zb HB rfl) hb); clear HO0_1; clear HO0_2; clear BK627; clear HB; have HO0_1 := n0_; have HO0_2 := n1_; have BK627 := n2_; have HB := n3_; clear n0_ n1_ n2_ n3_; have hcz9_0 : w8.cell? ⟨gb627, 0, none⟩ = some (.bool a0_0) := (blk_cell BK627.out 0).trans rfl; have hcz9_1 : w8.cell? ⟨gb627, 1, none⟩ = some (.slice A0_1 l0_1.length c0_1) := (blk_cell BK627.out 1).trans rfl; have hcz9_2 : w8.cell? ⟨gb627, 2, none⟩ = some (.slice A0_2 l0_2.length c0_2) := (blk_cell BK627.out 2).trans rfl; have hfz9_0 := blk_frozen BK627.out 0; have hfz9_1 := blk_frozen BK627.out 1; have hfz9_2 := blk_frozen BK627.out 2) | (go_at_call 70; clear M696_1; (with_reducible refine (bignat_BitLen.calls k _ _ l0_1 t629 _ ?side1 ?side2 A4.out).mono ?_); (case side1 => repeat first | exact (Kd.V_reads' HO0_1.out).2.2 | refine Kd.C_drewN ?_ _ | refine Kd.C_alloc ?_ _ | refine Kd.C_drew ?_); (case side2 => exact (Kd.V_reads' HO0_1.out).2.1); rintro e w10 ⟨rfl, hb⟩; have n0_ := Aside0.mk (Kd.V_below (zv HO0_1 rfl) hb); have n1_ := Aside0.mk (Kd.V_below (zv HO0_2 rfl) hb); have n2_ := Aside0.mk (blk_below BK627.out hb); have n3_ := Aside0.mk (below_step (zb HB rfl) hb); clear HO0_1; clear HO0_2; clear BK627; clear HB; have HO0_1 := n0_; have HO0_2 := n1_; have BK627 := n2_; have HB := n3_; clear n0_ n1_ n2_ n3_; have hcz11_0 : w10.cell? ⟨gb627, 0, none⟩ = some (.bool a0_0) := (blk_cell BK627.out 0).trans rfl; have hcz11_1 : w10.cell? ⟨gb627, 1, none⟩ = some (.slice A0_1 l0_1.length c0_1) := (blk_cell BK627.out 1).trans rfl; have hcz11_2 : w10.cell? ⟨gb627, 2, none⟩ = some (.slice A0_2 l0_2.length c0_2) := (blk_cell BK627.out 2).trans rfl; have hfz11_0 := blk_frozen BK627.out 0; have hfz11_1 := blk_frozen BK627.out 1; have hfz11_2 := blk_frozen BK627.out 2))
   repeat (go_quiet (first | ((with_reducible refine gate_dst (N := 1) rfl ?_); refine box_event ?hg (N := 1) ?hd (cs := #[.bool a0_0, .slice A0_1 l0_1.length c0_1, .slice A0_2 l0_2.length c0_2]) (t := 25) ?hr ?_; (case hd => rfl); (case hg => rfl); (case hr => first | (go_simp; done) | (go_simp; rfl)); intro gb627 hg w6 hbox hb; have n0_ := Aside0.mk (Kd.V_below (Kd.V_elderB (zv HO0_1 rfl) gb627 (Nat.le_of_eq hg.symm)) hb); have n1_ := Aside0.mk (Kd.V_below (Kd.V_elderB (zv HO0_2 rfl) gb627 (Nat.le_of_eq hg.symm)) hb); have n2_ := Aside0.mk (below_step (zb HB rfl) hb); have n3_ := Aside0.mk (hbox); have n4_ := Aside0.mk ((by rw [hg]; exact (below_size (zb HB rfl)) : w.heap.size ≤ gb627)); have n5_ := Aside0.mk ((by rw [hg]; exact (below_size (zb HB rfl)) : w.heap.size ≤ gb627)); clear HO0_1; clear HO0_2; clear HB; have HO0_1 := n0_; have HO0_2 := n1_; have HB := n2_; have BK627 := n3_; have GW627 := n4_; have GE627 := n5_; clear n0_ n1_ n2_ n3_ n4_ n5_; clear hb hbox hg; have hcz7_0 : w6.cell? ⟨gb627, 0, none⟩ = some (.bool a0_0) := (blk_cell BK627.out 0).trans rfl; have hcz7_1 : w6.cell? ⟨gb627, 1, none⟩ = some (.slice A0_1 l0_1.length c0_1) := (blk_cell BK627.out 1).trans rfl; have hcz7_2 : w6.cell? ⟨gb627, 2, none⟩ = some (.slice A0_2 l0_2.length c0_2) := (blk_cell BK627.out 2).trans rfl; have hfz7_0 := blk_frozen BK627.out 0; have hfz7_1 := blk_frozen BK627.out 1; have hfz7_2 := blk_frozen BK627.out 2) | (go_at_call 70; (with_reducible refine (bignat_BitLen.calls k _ _ l0_2 t628 _ ?side1 ?side2 A2.out).mono ?_); (case side1 => repeat first | exact (Kd.V_reads' HO0_2.out).2.2 | refine Kd.C_drewN ?_ _ | refine Kd.C_alloc ?_ _ | refine Kd.C_drew ?_); (case side2 => exact (Kd.V_reads' HO0_2.out).2.1); rintro e w8 ⟨rfl, hb⟩; have n0_ := Aside0.mk (Kd.V_below (zv HO0_1 rfl) hb); have n1_ := Aside0.mk (Kd.V_below (zv HO0_2 rfl) hb); have n2_ := Aside0.mk (blk_below BK627.out hb); have n3_ := Aside0.mk (below_step (zb HB rfl) hb); clear HO0_1; clear HO0_2; clear BK627; clear HB; have HO0_1 := n0_; have HO0_2 := n1_; have BK627 := n2_; have HB := n3_; clear n0_ n1_ n2_ n3_; have hcz9_0 : w8.cell? ⟨gb627, 0, none⟩ = some (.bool a0_0) := (blk_cell BK627.out 0).trans rfl; have hcz9_1 : w8.cell? ⟨gb627, 1, none⟩ = some (.slice A0_1 l0_1.length c0_1) := (blk_cell BK627.out 1).trans rfl; have hcz9_2 : w8.cell? ⟨gb627, 2, none⟩ = some (.slice A0_2 l0_2.length c0_2) := (blk_cell BK627.out 2).trans rfl; have hfz9_0 := blk_frozen BK627.out 0; have hfz9_1 := blk_frozen BK627.out 1; have hfz9_2 := blk_frozen BK627.out 2) | (go_at_call 70; (with_reducible refine (bignat_BitLen.calls k _ _ l0_1 t629 _ ?side1 ?side2 A4.out).mono ?_); (case side1 => repeat first | exact (Kd.V_reads' HO0_1.out).2.2 | refine Kd.C_drewN ?_ _ | refine Kd.C_alloc ?_ _ | refine Kd.C_drew ?_); (case side2 => exact (Kd.V_reads' HO0_1.out).2.1); rintro e w10 ⟨rfl, hb⟩; have n0_ := Aside0.mk (Kd.V_below (zv HO0_1 rfl) hb); have n1_ := Aside0.mk (Kd.V_below (zv HO0_2 rfl) hb); have n2_ := Aside0.mk (blk_below BK627.out hb); have n3_ := Aside0.mk (below_step (zb HB rfl) hb); clear HO0_1; clear HO0_2; clear BK627; clear HB; have HO0_1 := n0_; have HO0_2 := n1_; have BK627 := n2_; have HB := n3_; clear n0_ n1_ n2_ n3_; have hcz11_0 : w10.cell? ⟨gb627, 0, none⟩ = some (.bool a0_0) := (blk_cell BK627.out 0).trans rfl; have hcz11_1 : w10.cell? ⟨gb627, 1, none⟩ = some (.slice A0_1 l0_1.length c0_1) := (blk_cell BK627.out 1).trans rfl; have hcz11_2 : w10.cell? ⟨gb627, 2, none⟩ = some (.slice A0_2 l0_2.length c0_2) := (blk_cell BK627.out 2).trans rfl; have hfz11_0 := blk_frozen BK627.out 0; have hfz11_1 := blk_frozen BK627.out 1; have hfz11_2 := blk_frozen BK627.out 2)); try go_wp2_with (first | ((with_reducible refine gate_dst (N := 1) rfl ?_); refine box_event ?hg (N := 1) ?hd (cs := #[.bool a0_0, .slice A0_1 l0_1.length c0_1, .slice A0_2 l0_2.length c0_2]) (t := 25) ?hr ?_; (case hd => rfl); (case hg => rfl); (case hr => first | (go_simp; done) | (go_simp; rfl)); intro gb627 hg w6 hbox hb; have n0_ := Aside0.mk (Kd.V_below (Kd.V_elderB (zv HO0_1 rfl) gb627 (Nat.le_of_eq hg.symm)) hb); have n1_ := Aside0.mk (Kd.V_below (Kd.V_elderB (zv HO0_2 rfl) gb627 (Nat.le_of_eq hg.symm)) hb); have n2_ := Aside0.mk (below_step (zb HB rfl) hb); have n3_ := Aside0.mk (hbox); have n4_ := Aside0.mk ((by rw [hg]; exact (below_size (zb HB rfl)) : w.heap.size ≤ gb627)); have n5_ := Aside0.mk ((by rw [hg]; exact (below_size (zb HB rfl)) : w.heap.size ≤ gb627)); clear HO0_1; clear HO0_2; clear HB; have HO0_1 := n0_; have HO0_2 := n1_; have HB := n2_; have BK627 := n3_; have GW627 := n4_; have GE627 := n5_; clear n0_ n1_ n2_ n3_ n4_ n5_; clear hb hbox hg; have hcz7_0 : w6.cell? ⟨gb627, 0, none⟩ = some (.bool a0_0) := (blk_cell BK627.out 0).trans rfl; have hcz7_1 : w6.cell? ⟨gb627, 1, none⟩ = some (.slice A0_1 l0_1.length c0_1) := (blk_cell BK627.out 1).trans rfl; have hcz7_2 : w6.cell? ⟨gb627, 2, none⟩ = some (.slice A0_2 l0_2.length c0_2) := (blk_cell BK627.out 2).trans rfl; have hfz7_0 := blk_frozen BK627.out 0; have hfz7_1 := blk_frozen BK627.out 1; have hfz7_2 := blk_frozen BK627.out 2) | (go_at_call 70; (with_reducible refine (bignat_BitLen.calls k _ _ l0_2 t628 _ ?side1 ?side2 A2.out).mono ?_); (case side1 => repeat first | exact (Kd.V_reads' HO0_2.out).2.2 | refine Kd.C_drewN ?_ _ | refine Kd.C_alloc ?_ _ | refine Kd.C_drew ?_); (case side2 => exact (Kd.V_reads' HO0_2.out).2.1); rintro e w8 ⟨rfl, hb⟩; have n0_ := Aside0.mk (Kd.V_below (zv HO0_1 rfl) hb); have n1_ := Aside0.mk (Kd.V_below (zv HO0_2 rfl) hb); have n2_ := Aside0.mk (blk_below BK627.out hb); have n3_ := Aside0.mk (below_step (zb HB rfl) hb); clear HO0_1; clear HO0_2; clear BK627; clear HB; have HO0_1 := n0_; have HO0_2 := n1_; have BK627 := n2_; have HB := n3_; clear n0_ n1_ n2_ n3_; have hcz9_0 : w8.cell? ⟨gb627, 0, none⟩ = some (.bool a0_0) := (blk_cell BK627.out 0).trans rfl; have hcz9_1 : w8.cell? ⟨gb627, 1, none⟩ = some (.slice A0_1 l0_1.length c0_1) := (blk_cell BK627.out 1).trans rfl; have hcz9_2 : w8.cell? ⟨gb627, 2, none⟩ = some (.slice A0_2 l0_2.length c0_2) := (blk_cell BK627.out 2).trans rfl; have hfz9_0 := blk_frozen BK627.out 0; have hfz9_1 := blk_frozen BK627.out 1; have hfz9_2 := blk_frozen BK627.out 2) | (go_at_call 70; (with_reducible refine (bignat_BitLen.calls k _ _ l0_1 t629 _ ?side1 ?side2 A4.out).mono ?_); (case side1 => repeat first | exact (Kd.V_reads' HO0_1.out).2.2 | refine Kd.C_drewN ?_ _ | refine Kd.C_alloc ?_ _ | refine Kd.C_drew ?_); (case side2 => exact (Kd.V_reads' HO0_1.out).2.1); rintro e w10 ⟨rfl, hb⟩; have n0_ := Aside0.mk (Kd.V_below (zv HO0_1 rfl) hb); have n1_ := Aside0.mk (Kd.V_below (zv HO0_2 rfl) hb); have n2_ := Aside0.mk (blk_below BK627.out hb); have n3_ := Aside0.mk (below_step (zb HB rfl) hb); clear HO0_1; clear HO0_2; clear BK627; clear HB; have HO0_1 := n0_; have HO0_2 := n1_; have BK627 := n2_; have HB := n3_; clear n0_ n1_ n2_ n3_; have hcz11_0 : w10.cell? ⟨gb627, 0, none⟩ = some (.bool a0_0) := (blk_cell BK627.out 0).trans rfl; have hcz11_1 : w10.cell? ⟨gb627, 1, none⟩ = some (.slice A0_1 l0_1.length c0_1) := (blk_cell BK627.out 1).trans rfl; have hcz11_2 : w10.cell? ⟨gb627, 2, none⟩ = some (.slice A0_2 l0_2.length c0_2) := (blk_cell BK627.out 2).trans rfl; have hfz11_0 := blk_frozen BK627.out 0; have hfz11_1 := blk_frozen BK627.out 1; have hfz11_2 := blk_frozen BK627.out 2)))
   go_ret3
   exact ⟨_, _, by first | rfl | (simp [*, errW_none, errW_some] <;> rfl), by (with_reducible repeat (first | apply Kd.V_alloc | apply Kd.V_drewN | apply Kd.V_drew)); exact Kd.V_mono HO0_1.out (fun _ hk => hk.1), by (with_reducible repeat (first | apply Kd.V_alloc | apply Kd.V_drewN | apply Kd.V_drew)); exact Kd.V_mono HO0_2.out (fun _ hk => hk.1), by repeat (first | (with_reducible first | exact HB.out | apply below_alloc | apply pw_below_drewN | apply below_drew1 | refine below_set ?_ GE627.out) | exact HB.out)⟩

end Go.Proofs.YtoeldfopjalpkaaDoor.Q

