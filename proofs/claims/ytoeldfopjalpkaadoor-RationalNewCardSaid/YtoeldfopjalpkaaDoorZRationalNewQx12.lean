/- Lemmas for the proof of one law of this seat (Qx12). -/
import Derived.Test.YtoeldfopjalpkaaDoorZRationalNewQx0
import Derived.Test.YtoeldfopjalpkaaDoorZRationalNewQx1
import Derived.Test.YtoeldfopjalpkaaDoorZRationalNewQx2
import Derived.Test.YtoeldfopjalpkaaDoorZRationalNewQx11
namespace Go.Proofs.YtoeldfopjalpkaaDoor.Q
open Go.RowKit Go.Proofs.YtoeldfopjalpkaaDoorW.PrintWords Go.Proofs.YtoeldfopjalpkaaDoorW.PrintLast Go.Proofs.YtoeldfopjalpkaaDoorW.PrintMore
attribute [local go_sem] max2_int min2_int max_two min_two max_three min_three max_four min_four   -- for this text's walks alone
set_option linter.unusedVariables false
set_option linter.unusedSimpArgs false

mutual
def bignat_Parse.j0 : Nat → ByteArray → Bool → Option (List Int × Int)
 | 0, _, _ => none
 | k + 1, x0, x22 => if x22 = true then (none) else (bignat_Parse.l0 k x0 ([] : List Int) 0)
def bignat_Parse.l0 : Nat → ByteArray → List Int → Int → Option (List Int × Int)
 | 0, _, _, _ => none
 | k + 1, x0, x4, x5 => if x5 < (x0.size : Int) then (if 0 ≤ x5 then (if (bt x0 x5) < 48 then (none) else (if (bt x0 x5) > 57 then (none) else (bignat_Parse.l1 k x0 x4 x5 (((bt x0 x5) - 48) % 256) (x4.length : Int) 0))) else (none)) else (some (x4, 0))
def bignat_Parse.l1 : Nat → ByteArray → List Int → Int → Int → Int → Int → Option (List Int × Int)
 | 0, _, _, _, _, _, _ => none
 | k + 1, x0, x4, x5, x6, x45, x46 => if x46 < x45 then (if 0 ≤ x46 then (if x46 < (x4.length : Int) then (bignat_Parse.l1 k x0 (x4.set (x46 : Int).toNat ((IntKind.u64.wrap (x6 + (IntKind.u64.wrap (10 * (IntKind.u64.wrap (rd x4 x46)))))) % 4294967296)) x5 ((IntKind.u64.wrap (x6 + (IntKind.u64.wrap (10 * (IntKind.u64.wrap (rd x4 x46)))))) / 4294967296) x45 (wrap64 (x46 + 1))) else (none)) else (none)) else (if x6 > 0 then (if x4.length < 35184372088832 then (bignat_Parse.l0 k x0 (x4 ++ [(x6) % 4294967296]) (wrap64 (x5 + 1))) else (none)) else (bignat_Parse.l0 k x0 x4 (wrap64 (x5 + 1))))
end
def bignat_Parse.f (k : Nat) (a0 : ByteArray) : Option (List Int × Int) := if (a0.size : Int) > 4000 then (none) else (if a0.toList = ([] : List UInt8) then (none) else (if 0 < (a0.size : Int) then (if (bt a0 0) = 48 then (bignat_Parse.j0 k a0 (decide ((a0.size : Int) > 1))) else (bignat_Parse.j0 k a0 false)) else (none)))
theorem bignat_Parse.mono_l : ∀ k, (∀ y0 y1, LeO (bignat_Parse.j0 k y0 y1) (bignat_Parse.j0 (k + 1) y0 y1)) ∧ (∀ y0 y1 y2, LeO (bignat_Parse.l0 k y0 y1 y2) (bignat_Parse.l0 (k + 1) y0 y1 y2)) ∧ (∀ y0 y1 y2 y3 y4 y5, LeO (bignat_Parse.l1 k y0 y1 y2 y3 y4 y5) (bignat_Parse.l1 (k + 1) y0 y1 y2 y3 y4 y5))
 | 0 => ⟨fun _ _ r h => by simp [bignat_Parse.j0] at h, fun _ _ _ r h => by simp [bignat_Parse.l0] at h, fun _ _ _ _ _ _ r h => by simp [bignat_Parse.l1] at h⟩
 | k + 1 => by
  obtain ⟨ih0, ih1, ih2⟩ := bignat_Parse.mono_l k
  refine ⟨?_, ?_, ?_⟩
  ·
   intro y0 y1
   unfold bignat_Parse.j0
   repeat' first
   | (with_reducible exact ih0 _ _)
   | (with_reducible exact ih1 _ _ _)
   | (with_reducible exact ih2 _ _ _ _ _ _)
   | (with_reducible exact LeO.refl _)
   | (with_reducible exact LeO.none _)
   | (with_reducible refine LeO.ite ?_ ?_)
   | (with_reducible refine LeO.bind ?_ (fun _ => ?_))
   | exact LeO.none _
   | refine LeO.ite ?_ ?_
   | refine LeO.bind ?_ (fun _ => ?_)
  ·
   intro y0 y1 y2
   unfold bignat_Parse.l0
   repeat' first
   | (with_reducible exact ih0 _ _)
   | (with_reducible exact ih1 _ _ _)
   | (with_reducible exact ih2 _ _ _ _ _ _)
   | (with_reducible exact LeO.refl _)
   | (with_reducible exact LeO.none _)
   | (with_reducible refine LeO.ite ?_ ?_)
   | (with_reducible refine LeO.bind ?_ (fun _ => ?_))
   | exact LeO.none _
   | refine LeO.ite ?_ ?_
   | refine LeO.bind ?_ (fun _ => ?_)
  ·
   intro y0 y1 y2 y3 y4 y5
   unfold bignat_Parse.l1
   repeat' first
   | (with_reducible exact ih0 _ _)
   | (with_reducible exact ih1 _ _ _)
   | (with_reducible exact ih2 _ _ _ _ _ _)
   | (with_reducible exact LeO.refl _)
   | (with_reducible exact LeO.none _)
   | (with_reducible refine LeO.ite ?_ ?_)
   | (with_reducible refine LeO.bind ?_ (fun _ => ?_))
   | exact LeO.none _
   | refine LeO.ite ?_ ?_
   | refine LeO.bind ?_ (fun _ => ?_)
theorem bignat_Parse.mono : ∀ a0 k, LeO (bignat_Parse.f k a0) (bignat_Parse.f (k + 1) a0) := by
 intro a0 k
 obtain ⟨ih0, ih1, ih2⟩ := bignat_Parse.mono_l k
 unfold bignat_Parse.f
 repeat' first
   | (with_reducible exact ih0 _ _)
   | (with_reducible exact ih1 _ _ _)
   | (with_reducible exact ih2 _ _ _ _ _ _)
   | (with_reducible exact LeO.refl _)
   | (with_reducible exact LeO.none _)
   | (with_reducible refine LeO.ite ?_ ?_)
   | (with_reducible refine LeO.bind ?_ (fun _ => ?_))
   | exact LeO.none _
   | refine LeO.ite ?_ ?_
   | refine LeO.bind ?_ (fun _ => ?_)
set_option maxHeartbeats 8000000 in
set_option maxRecDepth 100000 in
theorem bignat_Parse.calls (k : Nat) (a0 : ByteArray) (r1 : List Int) (r2 : Int) (w : World) (h : bignat_Parse.f k a0 = some (r1, r2)) :
  Calls Tryd.prog 85 #[.string a0] w fun e w' => ∃ v0_ : Value, e = .returned (.tuple #[v0_, .int .i64 r2]) ∧ Kd.R (Kd.int .u32) 37 w' w.heap.size (fun _ => True) v0_ r1 ∧ Below w.heap.size w w' := by
 have HB := Aside0.mk (Below.refl w.heap.size w)
 have H : (if (a0.size : Int) > 4000 then (none) else (if a0.toList = ([] : List UInt8) then (none) else (if 0 < (a0.size : Int) then (if (bt a0 0) = 48 then (bignat_Parse.j0 k a0 (decide ((a0.size : Int) > 1))) else (bignat_Parse.j0 k a0 false)) else (none)))) = some (r1, r2) := h
 clear h
 by_cases c2 : (a0.size : Int) > 4000
 ·
  rw [if_pos c2] at H
  exact absurd H (by simp)
 ·
  rw [if_neg c2] at H
  have c2b0 : decide (4000 < (a0.size : Int)) = false := decide_eq_false c2
  have c2b1 : decide (4000 < a0.size) = false := decide_eq_false (by omega)
  clear c2
  have HC3 := Aside0.mk H
  clear H
  go_enter Tryd.func85, Tryd.ntmps85
  go_upto_region 3 with (fail)
  go_cut [22] (fun v22 wc => ∃ (kq : Nat) (x22_2 : Bool), v22 = .bool x22_2 ∧ Aside0 (bignat_Parse.j0 kq a0 x22_2 = some (r1, r2)) ∧ Aside0 (kq ≤ k) ∧ Aside0 (Below w.heap.size w wc))
  case first =>
   have H := HC3.out
   clear HC3
   by_cases c4 : a0.toList = ([] : List UInt8)
   ·
    rw [if_pos c4] at H
    exact absurd H (by simp)
   ·
    rw [if_neg c4] at H
    have c4b0 : (a0.toList == ([] : List UInt8)) = false := beq_eq_false_iff_ne.mpr c4
    have c4b1 : (a0.toList != ([] : List UInt8)) = true := bne_iff_ne.mpr c4
    (first | rw [c4b0] | rw [c4b1] | (simp only [i64_w, i32_w]; rw [c4b0]) | skip)
    by_cases c5 : 0 < (a0.size : Int)
    ·
     rw [if_pos c5] at H
     have c5b0 : decide (0 < (a0.size : Int)) = true := decide_eq_true c5
     have c5b1 : decide (0 < a0.size) = true := decide_eq_true (by omega)
     clear c5
     by_cases c7 : (bt a0 0) = 48
     ·
      rw [if_pos c7] at H
      have c7b0 : ((bt a0 0) == 48) = true := beq_iff_eq.mpr c7
      have c7b1 : ((bt a0 0) != 48) = false := bne_eq_false_iff_eq.mpr c7
      clear c7
      have H' := Aside0.mk H
      clear H
      have p6 : 0 ≤ (0 : Int) := (by omega)
      have q6 : 0 < a0.size := (by have : (0 : Int) < (a0.size : Int) := of_decide_eq_true (by first | (with_reducible assumption) | assumption); omega)
      have hx6 : ∀ h : 0 < a0.size, ((a0[0]'h).toNat : Int) = bt a0 0 := bt_at a0 0
      clear p6
      have qi6 : (0 < (a0.size : Int)) = True := eq_true (of_decide_eq_true (by first | (with_reducible assumption) | assumption))
      replace q6 := eq_true q6
      go_wp2
      go_meet
      case rel => exact ⟨_, (decide ((a0.size : Int) > 1)), (by first | rfl | (simp [*]; done)), H', ⟨by first | omega | exact Nat.le_refl _⟩, ⟨by repeat (first | (with_reducible first | exact HB.out | apply below_alloc | apply pw_below_drewN | apply below_drew1) | exact HB.out)⟩⟩
     ·
      rw [if_neg c7] at H
      have c7b0 : ((bt a0 0) == 48) = false := beq_eq_false_iff_ne.mpr c7
      have c7b1 : ((bt a0 0) != 48) = true := bne_iff_ne.mpr c7
      have H' := Aside0.mk H
      clear H
      have p6 : 0 ≤ (0 : Int) := (by omega)
      have q6 : 0 < a0.size := (by have : (0 : Int) < (a0.size : Int) := of_decide_eq_true (by first | (with_reducible assumption) | assumption); omega)
      have hx6 : ∀ h : 0 < a0.size, ((a0[0]'h).toNat : Int) = bt a0 0 := bt_at a0 0
      clear p6
      have qi6 : (0 < (a0.size : Int)) = True := eq_true (of_decide_eq_true (by first | (with_reducible assumption) | assumption))
      replace q6 := eq_true q6
      go_wp2
      go_meet
      case rel => exact ⟨_, (false), (by first | rfl | (simp [*]; done)), H', ⟨by first | omega | exact Nat.le_refl _⟩, ⟨by repeat (first | (with_reducible first | exact HB.out | apply below_alloc | apply pw_below_drewN | apply below_drew1) | exact HB.out)⟩⟩
    ·
     rw [if_neg c5] at H
     exact absurd H (by simp)
  case rest =>
   clear HC3
   try clear c2
   try clear c2b0
   try clear c2b1
   try clear p2
   try clear c4
   try clear c4b0
   try clear c4b1
   try clear c5
   try clear c5b0
   try clear c5b1
   try clear p6
   try clear q6
   try clear hx6
   try clear qi6
   try clear c7
   try clear c7b0
   try clear c7b1
   try clear p6
   try clear q6
   obtain ⟨kq, x22_2, rfl, HA, HJ2, HB⟩ := hcut
   cases kq with
   | zero => exact absurd HA.out (by simp [bignat_Parse.j0])
   | succ kj2 =>
    have H := HA.out
    clear HA
    simp only [bignat_Parse.j0] at H
    by_cases c8 : x22_2 = true
    ·
     subst c8
     have H1 : (none) = some (r1, r2) := by rw [if_pos rfl] at H; exact H
     clear H
     have H := H1
     clear H1
     exact absurd H (by simp)
    ·
     replace c8 := Bool.eq_false_iff.mpr c8
     subst c8
     have H1 : (bignat_Parse.l0 kj2 a0 ([] : List Int) 0) = some (r1, r2) := by rw [if_neg (show ¬ (false = true) by decide)] at H; exact H
     clear H
     have H := H1
     clear H1
     have H' := Aside0.mk H
     clear H
     go_wp2
     go_loopg [4, 5] kj2 (fun kq v4 v5 w' => ∃ (x4_2 : List Int) (x5_2 : Int), v5 = .int .i64 x5_2 ∧ Aside0 (bignat_Parse.l0 kq a0 x4_2 x5_2 = some (r1, r2)) ∧ Aside0 (kq ≤ kj2) ∧ Aside0 (Kd.R (Kd.int .u32) 37 w' w.heap.size (fun _ => True) v4 x4_2) ∧ Aside0 (Below w.heap.size w w'))
     case atStart => exact ⟨(([] : List Int)), (0), (by first | rfl | (simp [*]; done)), H', ⟨Nat.le_refl _⟩, ⟨by first | exact Kd.R_nil _ _ _ _ _ | exact Kd.V_nil _ _ _ _ _⟩, ⟨by repeat (first | (with_reducible first | exact HB.out | apply below_alloc | apply pw_below_drewN | apply below_drew1) | exact HB.out)⟩⟩
     case round =>
      clear H'
      try clear c2
      try clear c2b0
      try clear c2b1
      try clear p2
      try clear c4
      try clear c4b0
      try clear c4b1
      try clear c5
      try clear c5b0
      try clear c5b1
      try clear p6
      try clear q6
      try clear hx6
      try clear qi6
      try clear c7
      try clear c7b0
      try clear c7b1
      try clear c8
      try clear p2
      try clear p6
      try clear q6
      obtain ⟨x4_2, x5_2, rfl, HA, HK2, HO_4, HB⟩ := hrel
      cases gk with
      | zero => exact absurd HA.out (by simp [bignat_Parse.l0])
      | succ k2 =>
       have H := HA.out
       clear HA
       simp only [bignat_Parse.l0] at H
       by_cases c9 : x5_2 < (a0.size : Int)
       ·
        rw [if_pos c9] at H
        have c9b0 : decide (x5_2 < (a0.size : Int)) = true := decide_eq_true c9
        clear c9
        by_cases c10 : 0 ≤ x5_2
        ·
         rw [if_pos c10] at H
         have c10b0 : decide (0 ≤ x5_2) = true := decide_eq_true c10
         clear c10
         by_cases c12 : (bt a0 x5_2) < 48
         ·
          rw [if_pos c12] at H
          exact absurd H (by simp)
         ·
          rw [if_neg c12] at H
          have c12b0 : decide ((bt a0 x5_2) < 48) = false := decide_eq_false c12
          clear c12
          by_cases c14 : (bt a0 x5_2) > 57
          ·
           rw [if_pos c14] at H
           exact absurd H (by simp)
          ·
           rw [if_neg c14] at H
           have c14b0 : decide (57 < (bt a0 x5_2)) = false := decide_eq_false c14
           clear c14
           have H' := Aside0.mk H
           clear H
           have p11 : 0 ≤ (x5_2 : Int) := of_decide_eq_true (by first | (with_reducible assumption) | assumption)
           have q11 : x5_2 < (a0.size : Int) := of_decide_eq_true (by first | (with_reducible assumption) | assumption)
           have hx11 := bt_at a0 x5_2
           replace p11 := eq_true p11
           replace q11 := eq_true q11
           have p13 : 0 ≤ (x5_2 : Int) := of_decide_eq_true (by first | (with_reducible assumption) | assumption)
           have q13 : x5_2 < (a0.size : Int) := of_decide_eq_true (by first | (with_reducible assumption) | assumption)
           have hx13 := bt_at a0 x5_2
           replace p13 := eq_true p13
           replace q13 := eq_true q13
           have p15 : 0 ≤ (x5_2 : Int) := of_decide_eq_true (by first | (with_reducible assumption) | assumption)
           have q15 : x5_2 < (a0.size : Int) := of_decide_eq_true (by first | (with_reducible assumption) | assumption)
           have hx15 := bt_at a0 x5_2
           replace p15 := eq_true p15
           replace q15 := eq_true q15
           obtain ⟨Ao16, co16, eo16⟩ := Kd.R_slice HO_4.out
           subst eo16
           go_wp2
           go_loopg [6, 46] k2 (fun kq v6 v46 w' => ∃ (x4_3 : List Int) (x6_3 : Int) (x46_3 : Int), v6 = .int .u64 x6_3 ∧ v46 = .int .i64 x46_3 ∧ Aside0 (bignat_Parse.l1 kq a0 x4_3 x5_2 x6_3 (x4_2.length : Int) x46_3 = some (r1, r2)) ∧ Aside0 (kq ≤ k2) ∧ Aside0 (Kd.R (Kd.int .u32) 37 w' w.heap.size (fun _ => True) (.slice Ao16 x4_2.length co16) x4_3) ∧ Aside0 (Below w.heap.size w w'))
           case atStart => exact ⟨(x4_2), (((bt a0 x5_2) - 48) % 256), (0), (by first | rfl | (simp [*]; done)), (by first | rfl | (simp [*]; done)), H', ⟨Nat.le_refl _⟩, ⟨by (with_reducible repeat (first | apply Kd.R_alloc | apply Kd.R_drewN | apply Kd.R_drew)); exact HO_4.out⟩, ⟨by repeat (first | (with_reducible first | exact HB.out | apply below_alloc | apply pw_below_drewN | apply below_drew1) | exact HB.out)⟩⟩
           case round =>
            clear H'
            try clear c1
            try clear p1
            try clear q1
            try clear hx1
            try clear c2
            try clear c2b0
            try clear c2b1
            try clear p2
            try clear c4
            try clear c4b0
            try clear c4b1
            try clear c5
            try clear c5b0
            try clear c5b1
            try clear p6
            try clear q6
            try clear hx6
            try clear qi6
            try clear c7
            try clear c7b0
            try clear c7b1
            try clear c8
            try clear c9
            try clear c9b0
            try clear c10
            try clear c10b0
            try clear p11
            try clear q11
            try clear hx11
            try clear c12
            try clear c12b0
            try clear p13
            try clear q13
            try clear hx13
            try clear c14
            try clear c14b0
            try clear p15
            try clear q15
            try clear hx15
            try clear p11
            try clear p13
            try clear p15
            try clear p2
            try clear p6
            try clear q11
            try clear q13
            try clear q15
            try clear q6
            obtain ⟨x4_3, x6_3, x46_3, rfl, rfl, HA, HK3, HO_4, HB⟩ := hrel
            have hl4_3 := (Kd.R_reads' HO_4.out).1
            rw [hl4_3] at HO_4
            (try simp only [hl4_3])
            cases gk with
            | zero => exact absurd HA.out (by simp [bignat_Parse.l1])
            | succ k3 =>
             have H := HA.out
             clear HA
             simp only [bignat_Parse.l1] at H
             by_cases c17 : x46_3 < (x4_2.length : Int)
             ·
              rw [if_pos c17] at H
              have c17b0 : decide (x46_3 < (x4_2.length : Int)) = true := decide_eq_true c17
              (try (have c17b0h := c17b0; simp only [hl4_3] at c17b0h))
              clear c17
              by_cases c18 : 0 ≤ x46_3
              ·
               rw [if_pos c18] at H
               have c18b0 : decide (0 ≤ x46_3) = true := decide_eq_true c18
               clear c18
               by_cases c19 : x46_3 < (x4_3.length : Int)
               ·
                rw [if_pos c19] at H
                have c19b0 : decide (x46_3 < (x4_3.length : Int)) = true := decide_eq_true c19
                (try (have c19b0h := c19b0; simp only [hl4_3] at c19b0h))
                clear c19
                obtain ⟨y515, hy515⟩ : ∃ y_ : List Int, y_ = (x4_3.set (x46_3 : Int).toNat ((IntKind.u64.wrap (x6_3 + (IntKind.u64.wrap (10 * (IntKind.u64.wrap (rd x4_3 x46_3)))))) % 4294967296)) := ⟨_, rfl⟩
                replace H : (bignat_Parse.l1 k3 a0 y515 x5_2 ((IntKind.u64.wrap (x6_3 + (IntKind.u64.wrap (10 * (IntKind.u64.wrap (rd x4_3 x46_3)))))) / 4294967296) (x4_2.length : Int) (wrap64 (x46_3 + 1))) = some (r1, r2) := by first | (rw [hy515]; with_reducible exact H) | (have H2_ := (Option.bind_some _ _).symm.trans H; rw [hy515]; with_reducible exact H2_) | (have H2_ := (Option.bind_some _ _).symm.trans H; with_reducible exact H2_) | with_reducible exact H | (rw [hy515]; exact H) | exact H
                have Ny515 := Aside0.mk hy515
                clear hy515
                have H' := Aside0.mk H
                clear H
                have p514 : 0 ≤ (x46_3 : Int) := of_decide_eq_true (by first | (with_reducible assumption) | assumption)
                have q514 : x46_3 < (x4_3.length : Int) := of_decide_eq_true (by first | (with_reducible assumption) | assumption)
                obtain ⟨ad514, e514, hx514_0⟩ := Kd.at_int (Kd.R_reads' HO_4.out).2.2 x46_3 p514 q514
                cases e514
                replace p514 := eq_true p514
                replace q514 := eq_true q514
                have p20 : 0 ≤ (x46_3 : Int) := of_decide_eq_true (by first | (with_reducible assumption) | assumption)
                have q20 : (x46_3 : Int) < ((x4_3.length : Int) : Int) := of_decide_eq_true (by first | (with_reducible assumption) | assumption)
                obtain ⟨go20, co20, eo20, gb20, gl20, cl20, HG20⟩ := Kd.R_form HO_4.out (by omega)
                (first | cases eo20 | (injection eo20 with ea_ en_ ec_; (first | subst ea_ | (injection ea_ with ea_; subst ea_)); subst ec_; clear en_))
                have GB20 := Aside0.mk gb20
                have GG20 := Aside0.mk HG20
                clear gb20 gl20 HG20
                (first | simp only [add_plain] at hx514_0 | skip)
                obtain ⟨hx20_0, hf20_0⟩ := Kd.R_celln 0 HO_4.out (x46_3 : Int) p20 q20
                replace p20 := eq_true p20
                replace q20 := eq_true q20
                obtain ⟨hy21_, hz21_⟩ := Kd.R_celln 0 HO_4.out (x46_3 : Int) (of_decide_eq_true (by first | (with_reducible assumption) | assumption)) (of_decide_eq_true (by first | (with_reducible assumption) | assumption))
                have HP21 := Kd.R_putg HO_4.out (x46_3 : Int) ((IntKind.u64.wrap (x6_3 + (IntKind.u64.wrap (10 * (IntKind.u64.wrap (rd x4_3 x46_3)))))) % 4294967296)
                go_wp2_with (first | ((with_reducible refine gate_store (t := 37) (p := 61) rfl ?_); refine store_event (t := 37) (p := 61) (v := ?vo_w22) (w1 := (wr.setCell ⟨go20, (x46_3 : Int).toNat, none⟩ (.int .u32 ((IntKind.u64.wrap (x6_3 + (IntKind.u64.wrap (10 * (IntKind.u64.wrap (rd x4_3 x46_3)))))) % 4294967296)))) ?hg ?ho ?hn ?hr ?_; (case ho => rfl); (case hg => rfl); (case hn => rfl); (case hr => first | (go_simp; done) | (go_simp; rfl)); intro w22 hw; have hg : wr.grownBy w22 (some go20) := (by rw [hw]; exact HP21.2); have hp_ : Kd.R (Kd.int .u32) 37 w22 w.heap.size (fun _ => True) (.slice (some ⟨go20, 0, none⟩) x4_3.length co16) y515 := (by rw [hw, Ny515.out]; exact HP21.1); clear HP21; have n0_ := Aside0.mk (hp_); have n1_ := Aside0.mk ((by rw [hw]; exact below_set (HB.out) GB20.out : Below w.heap.size w w22)); clear HO_4; clear HB; have HO_4 := n0_; have HB := n1_; clear n0_ n1_; clear hg hw hp_))
                (try simp only [← hl4_3])
                go_roundg k3
                case measure => have := HJ2.out; have := HK2.out; have := HK3.out; omega
                case rel => exact ⟨(y515), ((IntKind.u64.wrap (x6_3 + (IntKind.u64.wrap (10 * (IntKind.u64.wrap (rd x4_3 x46_3)))))) / 4294967296), (wrap64 (x46_3 + 1)), (by first | rfl | (simp [*]; done)), (by first | rfl | (simp [*]; done)), H', ⟨by have := HJ2.out; have := HK2.out; have := HK3.out; omega⟩, ⟨by (try simp only [hl4_3]); (with_reducible repeat (first | apply Kd.R_alloc | apply Kd.R_drewN | apply Kd.R_drew)); exact HO_4.out⟩, ⟨by repeat (first | (with_reducible first | exact HB.out | apply below_alloc | apply pw_below_drewN | apply below_drew1) | exact HB.out)⟩⟩
               ·
                rw [if_neg c19] at H
                exact absurd H (by simp)
              ·
               rw [if_neg c18] at H
               exact absurd H (by simp)
             ·
              rw [if_neg c17] at H
              have c17b0 : decide (x46_3 < (x4_2.length : Int)) = false := decide_eq_false c17
              (try (have c17b0h := c17b0; simp only [hl4_3] at c17b0h))
              clear c17
              by_cases c23 : x6_3 > 0
              ·
               rw [if_pos c23] at H
               have c23b0 : decide (0 < x6_3) = true := decide_eq_true c23
               clear c23
               by_cases c24 : x4_3.length < 35184372088832
               ·
                rw [if_pos c24] at H
                have LMc24 := Aside0.mk c24
                clear c24
                obtain ⟨y516, hy516⟩ : ∃ y_ : List Int, y_ = (x4_3 ++ [(x6_3) % 4294967296]) := ⟨_, rfl⟩
                replace H : (bignat_Parse.l0 k3 a0 y516 (wrap64 (x5_2 + 1))) = some (r1, r2) := by first | (rw [hy516]; with_reducible exact H) | (have H2_ := (Option.bind_some _ _).symm.trans H; rw [hy516]; with_reducible exact H2_) | (have H2_ := (Option.bind_some _ _).symm.trans H; with_reducible exact H2_) | with_reducible exact H | (rw [hy516]; exact H) | exact H
                have Ny516 := Aside0.mk hy516
                clear hy516
                have H' := Aside0.mk H
                clear H
                go_wp2_with (first | ((with_reducible refine gate_builtin (b := .append) (xs := #[.tmp 67, .tmp 70]) rfl ?_); (try (refine gate_guard (by rfl) ?_; dsimp only)); at_builtin; refine Kd.R_append (Kd.int .u32) (w0 := w) w.heap.size rfl (.tmp 67) (.tmp 70) 23 37 (.int .u32 0) 4 rfl Tryd.underlying23 info37 rfl (by decide) (by omega) (.slice Ao16 x4_3.length co16) x4_3 ((x6_3) % 4294967296) [.int .u32 ((x6_3) % 4294967296)] (fun _ => True) (fun _ => False) rfl rfl ?aP (fun _ hk => hk.elim) ?aF ?aO ?aB ?aS ?aL ?_; (case aP => exact rfl); (case aB => exact (by repeat (first | (with_reducible first | exact HB.out | apply below_alloc | apply pw_below_drewN | apply below_drew1) | exact HB.out))); (case aF => exact (fun _ _ => trivial)); (case aO => exact (by (with_reducible repeat (first | apply Kd.R_alloc | apply Kd.R_drewN | apply Kd.R_drew)); exact HO_4.out)); (case aS => exact (below_size (by repeat (first | (with_reducible first | exact HB.out | apply below_alloc | apply pw_below_drewN | apply below_drew1) | exact HB.out)))); (case aL => have := LMc24.out; omega); intro v517 w25 ho hb hg hat; rw [← Ny516.out] at ho; have n0_ := Aside0.mk (hb); have n1_ := Aside0.mk (ho); clear HB; clear HO_4; have HB := n0_; have HO518 := n1_; clear n0_ n1_; clear ho hb hg hat))
                (try simp only [← hl4_3])
                go_roundg k3
                case measure => have := HJ2.out; have := HK2.out; have := HK3.out; omega
                case rel => exact ⟨(y516), (wrap64 (x5_2 + 1)), (by first | rfl | (simp [*]; done)), H', ⟨by have := HJ2.out; have := HK2.out; have := HK3.out; omega⟩, ⟨by (try simp only [hl4_3]); (with_reducible repeat (first | apply Kd.R_alloc | apply Kd.R_drewN | apply Kd.R_drew)); exact HO518.out⟩, ⟨by repeat (first | (with_reducible first | exact HB.out | apply below_alloc | apply pw_below_drewN | apply below_drew1) | exact HB.out)⟩⟩
               ·
                rw [if_neg c24] at H
                exact absurd H (by simp)
              ·
               rw [if_neg c23] at H
               have c23b0 : decide (0 < x6_3) = false := decide_eq_false c23
               clear c23
               have H' := Aside0.mk H
               clear H
               go_wp2
               (try simp only [← hl4_3])
               go_roundg k3
               case measure => have := HJ2.out; have := HK2.out; have := HK3.out; omega
               case rel => exact ⟨(x4_3), (wrap64 (x5_2 + 1)), (by first | rfl | (simp [*]; done)), H', ⟨by have := HJ2.out; have := HK2.out; have := HK3.out; omega⟩, ⟨by (try simp only [hl4_3]); (with_reducible repeat (first | apply Kd.R_alloc | apply Kd.R_drewN | apply Kd.R_drew)); exact HO_4.out⟩, ⟨by repeat (first | (with_reducible first | exact HB.out | apply below_alloc | apply pw_below_drewN | apply below_drew1) | exact HB.out)⟩⟩
        ·
         rw [if_neg c10] at H
         exact absurd H (by simp)
       ·
        rw [if_neg c9] at H
        have c9b0 : decide (x5_2 < (a0.size : Int)) = false := decide_eq_false c9
        clear c9
        simp only [Option.some.injEq, Prod.mk.injEq] at H
        obtain ⟨rfl, rfl⟩ := H
        go_wp2
        go_ret2
        exact ⟨_, by first | rfl | (simp [*, errW_none, errW_some] <;> rfl), by (with_reducible repeat (first | apply Kd.R_alloc | apply Kd.R_drewN | apply Kd.R_drew)); exact HO_4.out, by repeat (first | (with_reducible first | exact HB.out | apply below_alloc | apply pw_below_drewN | apply below_drew1) | exact HB.out)⟩

def rational_number.f (k : Nat) (a0 : ByteArray) : Option (List Int) := (strings_TrimLeft.f k a0 (⟨#[48]⟩ : ByteArray)).bind fun t519 => (if t519.toList = ([] : List UInt8) then (none) else ((bignat_Parse.f k t519).bind fun bt520 => (some bt520.1)))
theorem rational_number.mono : ∀ a0 k, LeO (rational_number.f k a0) (rational_number.f (k + 1) a0) := by
 intro a0 k
 unfold rational_number.f
 repeat' first
   | (with_reducible exact bignat_Parse.mono _ _)
   | (with_reducible exact strings_TrimLeft.mono _ _ _)
   | (with_reducible exact LeO.refl _)
   | (with_reducible exact LeO.none _)
   | (with_reducible refine LeO.ite ?_ ?_)
   | (with_reducible refine LeO.bind ?_ (fun _ => ?_))
   | exact bignat_Parse.mono _ _
   | exact strings_TrimLeft.mono _ _ _
   | exact LeO.none _
   | refine LeO.ite ?_ ?_
   | refine LeO.bind ?_ (fun _ => ?_)
set_option maxHeartbeats 8000000 in
set_option maxRecDepth 100000 in
theorem rational_number.calls (k : Nat) (a0 : ByteArray) (r : List Int) (w : World) (h : rational_number.f k a0 = some r) :
  Calls Tryd.prog 55 #[.string a0] w fun e w' => ∃ v0_ : Value, e = .returned (v0_) ∧ Kd.R (Kd.int .u32) 37 w' w.heap.size (fun _ => True) v0_ r ∧ Below w.heap.size w w' := by
 have HB := Aside0.mk (Below.refl w.heap.size w)
 have H : ((strings_TrimLeft.f k a0 (⟨#[48]⟩ : ByteArray)).bind fun t519 => (if t519.toList = ([] : List UInt8) then (none) else ((bignat_Parse.f k t519).bind fun bt520 => (some bt520.1)))) = some r := h
 clear h
 replace H := Option.bind_eq_some_iff.mp H
 obtain ⟨t519, A20, H⟩ := H
 replace H : (if t519.toList = ([] : List UInt8) then (none) else ((bignat_Parse.f k t519).bind fun bt520 => (some bt520.1))) = some r := H
 have A2 := Aside0.mk A20
 clear A20
 by_cases c3 : t519.toList = ([] : List UInt8)
 ·
  rw [if_pos c3] at H
  exact absurd H (by simp)
 ·
  rw [if_neg c3] at H
  have c3b0 : (t519.toList == ([] : List UInt8)) = false := beq_eq_false_iff_ne.mpr c3
  have c3b1 : (t519.toList != ([] : List UInt8)) = true := bne_iff_ne.mpr c3
  replace H := Option.bind_eq_some_iff.mp H
  obtain ⟨⟨t520, t521⟩, A40, H⟩ := H
  replace H : (some t520) = some r := H
  have A4 := Aside0.mk A40
  clear A40
  obtain rfl := Option.some.inj H
  go_enter Tryd.func55, Tryd.ntmps55
  go_wp2_with (first | ((with_reducible refine gate_callee (f := 84) rfl ?_); refine goesL_ (some 6) rfl rfl Tryd.func84 (by kernel_rfl) rfl #[.string a0, .string (⟨#[48]⟩ : ByteArray)] rfl (by (try simp only [List.map_toArray, List.map_cons, List.map_nil]); first | done | rfl | (simp only [List.length_drop, List.length_take]; rfl) | (go_simp; done) | (go_simp; rfl) | (go_simp; (try simp only [IntKind.wrap_u8, IntKind.wrap_u32, IntKind.wrap_u64]); omega)) ?_; (with_reducible refine (strings_TrimLeft.calls k a0 (⟨#[48]⟩ : ByteArray) t519 _ A2.out).mono ?_); rintro e w' ⟨rfl, ⟨nd, rfl⟩⟩; refine ⟨_, rfl, ?_⟩) | ((with_reducible refine gate_callee (f := 85) rfl ?_); refine goesL_ (some 11) rfl rfl Tryd.func85 (by kernel_rfl) rfl #[.string t519] rfl (by (try simp only [List.map_toArray, List.map_cons, List.map_nil]); first | done | rfl | (simp only [List.length_drop, List.length_take]; rfl) | (go_simp; done) | (go_simp; rfl) | (go_simp; (try simp only [IntKind.wrap_u8, IntKind.wrap_u32, IntKind.wrap_u64]); omega)) ?_; (with_reducible refine (bignat_Parse.calls k t519 t520 t521 _ A4.out).mono ?_); rintro e w5 ⟨v522, rfl, ho0, hb⟩; refine ⟨_, rfl, ?_⟩; have n0_ := Aside0.mk (Kd.R_lower ho0 (below_size (by repeat (first | (with_reducible first | exact HB.out | apply below_alloc | apply pw_below_drewN | apply below_drew1) | exact HB.out)))); have n1_ := Aside0.mk (below_step (by repeat (first | (with_reducible first | exact HB.out | apply below_alloc | apply pw_below_drewN | apply below_drew1) | exact HB.out)) hb); clear HB; have HO523 := n0_; have HB := n1_; clear n0_ n1_; (try clear hb); (try clear hb2); (try clear hk); (try clear hi); (try clear ho0)))
  go_ret
  exact ⟨_, by first | rfl | (simp [errW_none, errW_some] <;> rfl) | (simp [*, errW_none, errW_some] <;> rfl), by (with_reducible repeat (first | apply Kd.R_alloc | apply Kd.R_drewN | apply Kd.R_drew)); exact HO523.out, by repeat (first | (with_reducible first | exact HB.out | apply below_alloc | apply pw_below_drewN | apply below_drew1) | exact HB.out)⟩

mutual
def bignat_Mul.l0 : Nat → List Int → List Int → List Int → Int → Int → Option (List Int)
 | 0, _, _, _, _, _ => none
 | k + 1, x1, x5, x29, x30, x31 => if x31 < x30 then (if 0 ≤ x31 then (if x31 < (x29.length : Int) then (bignat_Mul.l1 k x1 x5 x31 (rd x29 x31) 0 x29 x30 x31 x1 (x1.length : Int) 0) else (none)) else (none)) else ((bignat_trim.f k x5).bind fun t533 => (some t533))
def bignat_Mul.l1 : Nat → List Int → List Int → Int → Int → Int → List Int → Int → Int → List Int → Int → Int → Option (List Int)
 | 0, _, _, _, _, _, _, _, _, _, _, _ => none
 | k + 1, x1, x5, x6, x7, x8, x29, x30, x31, x36, x37, x38 => if x38 < x37 then (if 0 ≤ x38 then (if x38 < (x36.length : Int) then (if 0 ≤ (wrap64 (x6 + x38)) then (if (wrap64 (x6 + x38)) < (x5.length : Int) then (bignat_Mul.l1 k x1 (x5.set ((wrap64 (x6 + x38)) : Int).toNat ((IntKind.u64.wrap (x8 + (IntKind.u64.wrap ((IntKind.u64.wrap ((IntKind.u64.wrap (x7)) * (IntKind.u64.wrap (rd x36 x38)))) + (IntKind.u64.wrap (rd x5 (wrap64 (x6 + x38)))))))) % 4294967296)) x6 x7 ((IntKind.u64.wrap (x8 + (IntKind.u64.wrap ((IntKind.u64.wrap ((IntKind.u64.wrap (x7)) * (IntKind.u64.wrap (rd x36 x38)))) + (IntKind.u64.wrap (rd x5 (wrap64 (x6 + x38)))))))) / 4294967296) x29 x30 x31 x36 x37 (wrap64 (x38 + 1))) else (none)) else (none)) else (none)) else (none)) else (if 0 ≤ (wrap64 (x6 + (x1.length : Int))) then (if (wrap64 (x6 + (x1.length : Int))) < (x5.length : Int) then (bignat_Mul.l0 k x1 (x5.set ((wrap64 (x6 + (x1.length : Int))) : Int).toNat ((x8) % 4294967296)) x29 x30 (wrap64 (x31 + 1))) else (none)) else (none))
end
def bignat_Mul.f (k : Nat) (l0 : List Int) (l1 : List Int) : Option (List Int) := (bignat_trim.f k l0).bind fun t524 => ((bignat_trim.f k l1).bind fun t527 => (if (t524.length : Int) = 0 then (none) else (if (t527.length : Int) = 0 then (none) else (if 0 ≤ (wrap64 ((t524.length : Int) + (t527.length : Int))) then (if (wrap64 ((t524.length : Int) + (t527.length : Int)) : Int).toNat ≤ 70368744177664 then (bignat_Mul.l0 k t527 (List.replicate (wrap64 ((t524.length : Int) + (t527.length : Int)) : Int).toNat 0) t524 (t524.length : Int) 0) else (none)) else (none)))))
theorem bignat_Mul.mono_l : ∀ k, (∀ y0 y1 y2 y3 y4, LeO (bignat_Mul.l0 k y0 y1 y2 y3 y4) (bignat_Mul.l0 (k + 1) y0 y1 y2 y3 y4)) ∧ (∀ y0 y1 y2 y3 y4 y5 y6 y7 y8 y9 y10, LeO (bignat_Mul.l1 k y0 y1 y2 y3 y4 y5 y6 y7 y8 y9 y10) (bignat_Mul.l1 (k + 1) y0 y1 y2 y3 y4 y5 y6 y7 y8 y9 y10))
 | 0 => ⟨fun _ _ _ _ _ r h => by simp [bignat_Mul.l0] at h, fun _ _ _ _ _ _ _ _ _ _ _ r h => by simp [bignat_Mul.l1] at h⟩
 | k + 1 => by
  obtain ⟨ih0, ih1⟩ := bignat_Mul.mono_l k
  refine ⟨?_, ?_⟩
  ·
   intro y0 y1 y2 y3 y4
   unfold bignat_Mul.l0
   repeat' first
   | (with_reducible exact ih0 _ _ _ _ _)
   | (with_reducible exact ih1 _ _ _ _ _ _ _ _ _ _ _)
   | (with_reducible exact bignat_trim.mono _ _)
   | (with_reducible exact bignat_trim.mono _ _)
   | (with_reducible exact LeO.refl _)
   | (with_reducible exact LeO.none _)
   | (with_reducible refine LeO.ite ?_ ?_)
   | (with_reducible refine LeO.bind ?_ (fun _ => ?_))
   | exact LeO.none _
   | refine LeO.ite ?_ ?_
   | refine LeO.bind ?_ (fun _ => ?_)
  ·
   intro y0 y1 y2 y3 y4 y5 y6 y7 y8 y9 y10
   unfold bignat_Mul.l1
   repeat' first
   | (with_reducible exact ih0 _ _ _ _ _)
   | (with_reducible exact ih1 _ _ _ _ _ _ _ _ _ _ _)
   | (with_reducible exact bignat_trim.mono _ _)
   | (with_reducible exact bignat_trim.mono _ _)
   | (with_reducible exact LeO.refl _)
   | (with_reducible exact LeO.none _)
   | (with_reducible refine LeO.ite ?_ ?_)
   | (with_reducible refine LeO.bind ?_ (fun _ => ?_))
   | exact LeO.none _
   | refine LeO.ite ?_ ?_
   | refine LeO.bind ?_ (fun _ => ?_)
theorem bignat_Mul.mono : ∀ a0 a1 k, LeO (bignat_Mul.f k a0 a1) (bignat_Mul.f (k + 1) a0 a1) := by
 intro a0 a1 k
 obtain ⟨ih0, ih1⟩ := bignat_Mul.mono_l k
 unfold bignat_Mul.f
 repeat' first
   | (with_reducible exact ih0 _ _ _ _ _)
   | (with_reducible exact ih1 _ _ _ _ _ _ _ _ _ _ _)
   | (with_reducible exact bignat_trim.mono _ _)
   | (with_reducible exact bignat_trim.mono _ _)
   | (with_reducible exact LeO.refl _)
   | (with_reducible exact LeO.none _)
   | (with_reducible refine LeO.ite ?_ ?_)
   | (with_reducible refine LeO.bind ?_ (fun _ => ?_))
   | exact LeO.none _
   | refine LeO.ite ?_ ?_
   | refine LeO.bind ?_ (fun _ => ?_)
set_option maxHeartbeats 8000000 in
set_option maxRecDepth 100000 in
theorem bignat_Mul.calls (k : Nat) (A0 : Option Addr) (c0 : Nat) (l0 : List Int) (A1 : Option Addr) (c1 : Nat) (l1 : List Int) (r : List Int) (w : World) (hr0 : Kd.C (Kd.int .u32) w A0 l0.length l0) (hc0 : l0.length ≤ c0) (hr1 : Kd.C (Kd.int .u32) w A1 l1.length l1) (hc1 : l1.length ≤ c1) (h : bignat_Mul.f k l0 l1 = some r) :
  Calls Tryd.prog 33 #[.slice A0 l0.length c0, .slice A1 l1.length c1] w fun e w' => ∃ v0_ : Value, e = .returned (v0_) ∧ Kd.R (Kd.int .u32) 37 w' w.heap.size (fun _ => True) v0_ r ∧ Below w.heap.size w w' := by
 have HR0 := Aside0.mk hr0
 have HC0 := Aside0.mk hc0
 clear hr0 hc0
 have HR1 := Aside0.mk hr1
 have HC1 := Aside0.mk hc1
 clear hr1 hc1
 have HB := Aside0.mk (Below.refl w.heap.size w)
 have H : ((bignat_trim.f k l0).bind fun t524 => ((bignat_trim.f k l1).bind fun t527 => (if (t524.length : Int) = 0 then (none) else (if (t527.length : Int) = 0 then (none) else (if 0 ≤ (wrap64 ((t524.length : Int) + (t527.length : Int))) then (if (wrap64 ((t524.length : Int) + (t527.length : Int)) : Int).toNat ≤ 70368744177664 then (bignat_Mul.l0 k t527 (List.replicate (wrap64 ((t524.length : Int) + (t527.length : Int)) : Int).toNat 0) t524 (t524.length : Int) 0) else (none)) else (none)))))) = some r := h
 clear h
 replace H := Option.bind_eq_some_iff.mp H
 obtain ⟨t524, A30, H⟩ := H
 replace H : ((bignat_trim.f k l1).bind fun t527 => (if (t524.length : Int) = 0 then (none) else (if (t527.length : Int) = 0 then (none) else (if 0 ≤ (wrap64 ((t524.length : Int) + (t527.length : Int))) then (if (wrap64 ((t524.length : Int) + (t527.length : Int)) : Int).toNat ≤ 70368744177664 then (bignat_Mul.l0 k t527 (List.replicate (wrap64 ((t524.length : Int) + (t527.length : Int)) : Int).toNat 0) t524 (t524.length : Int) 0) else (none)) else (none))))) = some r := H
 have A3 := Aside0.mk A30
 clear A30
 replace H := Option.bind_eq_some_iff.mp H
 obtain ⟨t527, A40, H⟩ := H
 replace H : (if (t524.length : Int) = 0 then (none) else (if (t527.length : Int) = 0 then (none) else (if 0 ≤ (wrap64 ((t524.length : Int) + (t527.length : Int))) then (if (wrap64 ((t524.length : Int) + (t527.length : Int)) : Int).toNat ≤ 70368744177664 then (bignat_Mul.l0 k t527 (List.replicate (wrap64 ((t524.length : Int) + (t527.length : Int)) : Int).toNat 0) t524 (t524.length : Int) 0) else (none)) else (none)))) = some r := H
 have A4 := Aside0.mk A40
 clear A40
 by_cases c5 : (t524.length : Int) = 0
 ·
  rw [if_pos c5] at H
  exact absurd H (by simp)
 ·
  rw [if_neg c5] at H
  have c5b0 : ((t524.length : Int) == 0) = false := beq_eq_false_iff_ne.mpr c5
  have c5b1 : ((t524.length : Int) != 0) = true := bne_iff_ne.mpr c5
  have c5b2 : ¬ (t524 = []) := fun h_ => c5 (by rw [h_]; rfl)
  by_cases c6 : (t527.length : Int) = 0
  ·
   rw [if_pos c6] at H
   exact absurd H (by simp)
  ·
   rw [if_neg c6] at H
   have c6b0 : ((t527.length : Int) == 0) = false := beq_eq_false_iff_ne.mpr c6
   have c6b1 : ((t527.length : Int) != 0) = true := bne_iff_ne.mpr c6
   have c6b2 : ¬ (t527 = []) := fun h_ => c6 (by rw [h_]; rfl)
   obtain ⟨ji7, hji7⟩ : ∃ j_ : Int, (wrap64 ((t524.length : Int) + (t527.length : Int))) = j_ := ⟨_, rfl⟩
   replace H : (if 0 ≤ (ji7) then (if (ji7 : Int).toNat ≤ 70368744177664 then (bignat_Mul.l0 k t527 (List.replicate (ji7 : Int).toNat 0) t524 (t524.length : Int) 0) else (none)) else (none)) = some r := by first | (rw [hji7] at H; exact H) | (simp only [hji7] at H ⊢; exact H)
   (try rw [hji7] at A3)
   (try rw [hji7] at A4)
   have hji7w : (IntKind.i64.wrap ((t524.length : Int) + (t527.length : Int))) = ji7 := (i64_w _).trans hji7
   by_cases c8 : 0 ≤ (ji7)
   ·
    rw [if_pos c8] at H
    have c8b0 := eq_true c8
    have c8b1 : decide (0 ≤ (ji7)) = true := decide_eq_true c8
    clear c8
    by_cases c9 : (ji7 : Int).toNat ≤ 70368744177664
    ·
     rw [if_pos c9] at H
     have c9b0 := eq_true c9
     have c9b1 : decide ((ji7 : Int).toNat ≤ 70368744177664) = true := decide_eq_true c9
     clear c9
     obtain ⟨y530, hy530⟩ : ∃ y_ : List Int, y_ = (List.replicate (ji7 : Int).toNat 0) := ⟨_, rfl⟩
     replace H : (bignat_Mul.l0 k t527 y530 t524 (t524.length : Int) 0) = some r := by first | (rw [hy530]; with_reducible exact H) | (have H2_ := (Option.bind_some _ _).symm.trans H; rw [hy530]; with_reducible exact H2_) | (have H2_ := (Option.bind_some _ _).symm.trans H; with_reducible exact H2_) | with_reducible exact H | (rw [hy530]; exact H) | exact H
     have Ny530 := Aside0.mk hy530
     clear hy530
     have H' := Aside0.mk H
     clear H
     go_enter Tryd.func33, Tryd.ntmps33
     go_wp2_with (first | ((with_reducible refine gate_callee (f := 71) rfl ?_); refine goesL_ (some 12) rfl rfl Tryd.func71 (by kernel_rfl) rfl #[.slice A0 l0.length c0] rfl (by first | rfl | (go_simp; first | done | rfl | omega)) ?_; (with_reducible refine (bignat_trim.calls k (fun k_ => k_ < w.heap.size) _ _ l0 t524 _ ?side1 A3.out).mono ?_); (case side1 => exact Kd.V_mk HC0.out (Kd.F_below (Kd.C_F (Kd.heap_int .u32) HR0.out) (zb HB rfl))); rintro e w10 ⟨v525, rfl, ho0, hb⟩; refine ⟨_, rfl, ?_⟩; have n0_ := Aside0.mk (Kd.V_lower (Kd.V_mono (ok' := fun k_ => True) ho0 (fun k_ hk_ => trivial)) (below_size (zb HB rfl))); have n1_ := Aside0.mk (below_step (zb HB rfl) hb); clear HB; have HO526 := n0_; have HB := n1_; clear n0_ n1_) | ((with_reducible refine gate_callee (f := 71) rfl ?_); refine goesL_ (some 14) rfl rfl Tryd.func71 (by kernel_rfl) rfl #[.slice A1 l1.length c1] rfl (by first | rfl | (go_simp; first | done | rfl | omega)) ?_; (with_reducible refine (bignat_trim.calls k (fun k_ => k_ < w.heap.size) _ _ l1 t527 _ ?side1 A4.out).mono ?_); (case side1 => exact Kd.V_mk HC1.out (Kd.F_below (Kd.C_F (Kd.heap_int .u32) HR1.out) (zb HB rfl))); rintro e w11 ⟨v528, rfl, ho0, hb⟩; refine ⟨_, rfl, ?_⟩; have n0_ := Aside0.mk (Kd.V_below (zv HO526 rfl) hb); have n1_ := Aside0.mk (Kd.V_lower (Kd.V_mono (ok' := fun k_ => True) ho0 (fun k_ hk_ => trivial)) (below_size (zb HB rfl))); have n2_ := Aside0.mk (below_step (zb HB rfl) hb); clear HO526; clear HB; have HO526 := n0_; have HO529 := n1_; have HB := n2_; clear n0_ n1_ n2_; obtain ⟨Ao12, co12, eo12⟩ := Kd.V_slice HO526.out; subst eo12; obtain ⟨Ao13, co13, eo13⟩ := Kd.V_slice HO529.out; subst eo13) | ((with_reducible refine gate_dst (N := 28) rfl ?_); (try (refine gate_guard (by rfl) ?_; dsimp only)); refine Kd.R_make (Kd.int .u32) _ 37 rfl (N := 28) rfl 23 _ _ rfl ji7 rfl rfl Tryd.underlying23 (.int .u32 0) 4 info37 rfl (by decide) (by omega) 0 (ok := fun _ => True) (okp := fun _ => True) rfl (fun _ hk => hk) trivial (of_decide_eq_true (by first | (with_reducible assumption) | assumption)) (Nat.le_trans (Nat.mul_le_mul_right _ (of_decide_eq_true (by first | (with_reducible assumption) | assumption) : ji7.toNat ≤ 70368744177664)) (by omega)) (Below.refl _ _) (Nat.le_refl _) ?_; intro v531 w14 ho15 hb hg_ hnew_; clear hg_ hnew_; (first | rw [← Ny530.out] at ho15 | (simp only [Int.reduceToNat] at ho15; rw [← Ny530.out] at ho15)); have n0_ := Aside0.mk (Kd.V_elder' (zv HO526 rfl) (Kd.R_base ho15) hb); have n1_ := Aside0.mk (Kd.V_elder' (zv HO529 rfl) (Kd.R_base ho15) hb); have n2_ := Aside0.mk (Kd.R_lower ho15 (below_size (zb HB rfl))); have n3_ := Aside0.mk (below_step (zb HB rfl) hb); clear HO526; clear HO529; clear HB; have HO526 := n0_; have HO529 := n1_; have HO532 := n2_; have HB := n3_; clear n0_ n1_ n2_ n3_; clear hb ho15))
     go_loopg [31] k (fun kq v31 w' => ∃ (x5_1 : List Int) (x31_1 : Int), v31 = .int .i64 x31_1 ∧ Aside0 (bignat_Mul.l0 kq t527 x5_1 t524 (t524.length : Int) x31_1 = some r) ∧ Aside0 (kq ≤ k) ∧ Aside0 (Kd.V (Kd.int .u32) 37 w' w.heap.size (fun k_ => some k_ ≠ (v531 : Value).ownBlock) (.slice Ao13 t527.length co13) t527) ∧ Aside0 (Kd.R (Kd.int .u32) 37 w' w.heap.size (fun _ => True) v531 x5_1) ∧ Aside0 (Kd.V (Kd.int .u32) 37 w' w.heap.size (fun k_ => some k_ ≠ (v531 : Value).ownBlock) (.slice Ao12 t524.length co12) t524) ∧ Aside0 (Below w.heap.size w w'))
     case atStart => exact ⟨(y530), (0), (by first | rfl | (simp [*]; done)), H', ⟨Nat.le_refl _⟩, ⟨by (with_reducible repeat (first | apply Kd.V_alloc | apply Kd.V_drewN | apply Kd.V_drew)); exact Kd.V_mono HO529.out (fun _ hk => hk.2)⟩, ⟨by (with_reducible repeat (first | apply Kd.R_alloc | apply Kd.R_drewN | apply Kd.R_drew)); exact HO532.out⟩, ⟨by (with_reducible repeat (first | apply Kd.V_alloc | apply Kd.V_drewN | apply Kd.V_drew)); exact Kd.V_mono HO526.out (fun _ hk => hk.2)⟩, ⟨by repeat (first | (with_reducible first | exact HB.out | apply below_alloc | apply pw_below_drewN | apply below_drew1) | exact HB.out)⟩⟩
     case round =>
      clear H'
      try clear c1
      try clear p2
      try clear c3
      try clear c5
      try clear c5b0
      try clear c5b1
      try clear c5b2
      try clear c6
      try clear c6b0
      try clear c6b1
      try clear c6b2
      try clear p6
      try clear c7
      try clear c8
      try clear c8b0
      try clear c8b1
      try clear c9
      try clear c9b0
      try clear c9b1
      obtain ⟨x5_1, x31_1, rfl, HA, HK1, HO_1, HO_5, HO_29, HB⟩ := hrel
      cases gk with
      | zero => exact absurd HA.out (by simp [bignat_Mul.l0])
      | succ k1 =>
       have H := HA.out
       clear HA
       simp only [bignat_Mul.l0] at H
       by_cases c16 : x31_1 < (t524.length : Int)
       ·
        rw [if_pos c16] at H
        have c16b0 : decide (x31_1 < (t524.length : Int)) = true := decide_eq_true c16
        clear c16
        by_cases c17 : 0 ≤ x31_1
        ·
         rw [if_pos c17] at H
         have c17b0 : decide (0 ≤ x31_1) = true := decide_eq_true c17
         clear c17
         by_cases c18 : x31_1 < (t524.length : Int)
         ·
          rw [if_pos c18] at H
          have c18b0 : decide (x31_1 < (t524.length : Int)) = true := decide_eq_true c18
          clear c18
          have H' := Aside0.mk H
          clear H
          have p536 : 0 ≤ (x31_1 : Int) := of_decide_eq_true (by first | (with_reducible assumption) | assumption)
          have q536 : x31_1 < (t524.length : Int) := of_decide_eq_true (by first | (with_reducible assumption) | assumption)
          obtain ⟨ad536, e536, hx536_0⟩ := Kd.at_int (Kd.V_reads' HO_29.out).2.2 x31_1 p536 q536
          cases e536
          replace p536 := eq_true p536
          replace q536 := eq_true q536
          go_wp2
          go_loopg [8, 38] k1 (fun kq v8 v38 w' => ∃ (x5_2 : List Int) (x8_2 : Int) (x38_2 : Int), v8 = .int .u64 x8_2 ∧ v38 = .int .i64 x38_2 ∧ Aside0 (bignat_Mul.l1 kq t527 x5_2 x31_1 (rd t524 x31_1) x8_2 t524 (t524.length : Int) x31_1 t527 (t527.length : Int) x38_2 = some r) ∧ Aside0 (kq ≤ k1) ∧ Aside0 (Kd.V (Kd.int .u32) 37 w' w.heap.size (fun k_ => some k_ ≠ (v531 : Value).ownBlock) (.slice Ao13 t527.length co13) t527) ∧ Aside0 (Kd.R (Kd.int .u32) 37 w' w.heap.size (fun _ => True) v531 x5_2) ∧ Aside0 (Kd.V (Kd.int .u32) 37 w' w.heap.size (fun k_ => some k_ ≠ (v531 : Value).ownBlock) (.slice (some ad536) t524.length co12) t524) ∧ Aside0 (Kd.V (Kd.int .u32) 37 w' w.heap.size (fun k_ => some k_ ≠ (v531 : Value).ownBlock) (.slice Ao13 t527.length co13) t527) ∧ Aside0 (Below w.heap.size w w'))
          case atStart => exact ⟨(x5_1), (0), (0), (by first | rfl | (simp [*]; done)), (by first | rfl | (simp [*]; done)), H', ⟨Nat.le_refl _⟩, ⟨by (with_reducible repeat (first | apply Kd.V_alloc | apply Kd.V_drewN | apply Kd.V_drew)); exact HO_1.out⟩, ⟨by (with_reducible repeat (first | apply Kd.R_alloc | apply Kd.R_drewN | apply Kd.R_drew)); exact HO_5.out⟩, ⟨by (with_reducible repeat (first | apply Kd.V_alloc | apply Kd.V_drewN | apply Kd.V_drew)); exact HO_29.out⟩, ⟨by (with_reducible repeat (first | apply Kd.V_alloc | apply Kd.V_drewN | apply Kd.V_drew)); exact HO_1.out⟩, ⟨by repeat (first | (with_reducible first | exact HB.out | apply below_alloc | apply pw_below_drewN | apply below_drew1) | exact HB.out)⟩⟩
          case round =>
           clear H'
           try clear c1
           try clear p2
           try clear c3
           try clear c5
           try clear c5b0
           try clear c5b1
           try clear c5b2
           try clear p5
           try clear q5
           try clear hx5
           try clear c6
           try clear c6b0
           try clear c6b1
           try clear c6b2
           try clear p6
           try clear c7
           try clear c8
           try clear c8b0
           try clear c8b1
           try clear c9
           try clear c9b0
           try clear c9b1
           try clear c16
           try clear c16b0
           try clear c17
           try clear c17b0
           try clear c18
           try clear c18b0
           try clear hx536_0
           try clear p2
           try clear p536
           try clear p6
           try clear q536
           obtain ⟨x5_2, x8_2, x38_2, rfl, rfl, HA, HK2, HO_1, HO_5, HO_29, HO_36, HB⟩ := hrel
           cases gk with
           | zero => exact absurd HA.out (by simp [bignat_Mul.l1])
           | succ k2 =>
            have H := HA.out
            clear HA
            simp only [bignat_Mul.l1] at H
            by_cases c19 : x38_2 < (t527.length : Int)
            ·
             rw [if_pos c19] at H
             have c19b0 : decide (x38_2 < (t527.length : Int)) = true := decide_eq_true c19
             clear c19
             by_cases c20 : 0 ≤ x38_2
             ·
              rw [if_pos c20] at H
              have c20b0 : decide (0 ≤ x38_2) = true := decide_eq_true c20
              clear c20
              by_cases c21 : x38_2 < (t527.length : Int)
              ·
               rw [if_pos c21] at H
               have c21b0 : decide (x38_2 < (t527.length : Int)) = true := decide_eq_true c21
               clear c21
               obtain ⟨ji22, hji22⟩ : ∃ j_ : Int, (wrap64 (x31_1 + x38_2)) = j_ := ⟨_, rfl⟩
               replace H : (if 0 ≤ (ji22) then (if (ji22) < (x5_2.length : Int) then (bignat_Mul.l1 k2 t527 (x5_2.set ((ji22) : Int).toNat ((IntKind.u64.wrap (x8_2 + (IntKind.u64.wrap ((IntKind.u64.wrap ((IntKind.u64.wrap ((rd t524 x31_1))) * (IntKind.u64.wrap (rd t527 x38_2)))) + (IntKind.u64.wrap (rd x5_2 (ji22))))))) % 4294967296)) x31_1 (rd t524 x31_1) ((IntKind.u64.wrap (x8_2 + (IntKind.u64.wrap ((IntKind.u64.wrap ((IntKind.u64.wrap ((rd t524 x31_1))) * (IntKind.u64.wrap (rd t527 x38_2)))) + (IntKind.u64.wrap (rd x5_2 (ji22))))))) / 4294967296) t524 (t524.length : Int) x31_1 t527 (t527.length : Int) (wrap64 (x38_2 + 1))) else (none)) else (none)) = some r := by first | (rw [hji22] at H; exact H) | (simp only [hji22] at H ⊢; exact H)
               have hji22w : (IntKind.i64.wrap (x31_1 + x38_2)) = ji22 := (i64_w _).trans hji22
               (try (have hji22r := hji22; simp only [hji7] at hji22r))
               (try (have hji22wr := hji22w; simp only [hji7] at hji22wr))
               by_cases c23 : 0 ≤ (ji22)
               ·
                rw [if_pos c23] at H
                have c23b0 : decide (0 ≤ (ji22)) = true := decide_eq_true c23
                clear c23
                by_cases c24 : (ji22) < (x5_2.length : Int)
                ·
                 rw [if_pos c24] at H
                 have c24b0 : decide ((ji22) < (x5_2.length : Int)) = true := decide_eq_true c24
                 clear c24
                 obtain ⟨y539, hy539⟩ : ∃ y_ : List Int, y_ = (x5_2.set ((ji22) : Int).toNat ((IntKind.u64.wrap (x8_2 + (IntKind.u64.wrap ((IntKind.u64.wrap ((IntKind.u64.wrap ((rd t524 x31_1))) * (IntKind.u64.wrap (rd t527 x38_2)))) + (IntKind.u64.wrap (rd x5_2 (ji22))))))) % 4294967296)) := ⟨_, rfl⟩
                 replace H : (bignat_Mul.l1 k2 t527 y539 x31_1 (rd t524 x31_1) ((IntKind.u64.wrap (x8_2 + (IntKind.u64.wrap ((IntKind.u64.wrap ((IntKind.u64.wrap ((rd t524 x31_1))) * (IntKind.u64.wrap (rd t527 x38_2)))) + (IntKind.u64.wrap (rd x5_2 (ji22))))))) / 4294967296) t524 (t524.length : Int) x31_1 t527 (t527.length : Int) (wrap64 (x38_2 + 1))) = some r := by first | (rw [hy539]; with_reducible exact H) | (have H2_ := (Option.bind_some _ _).symm.trans H; rw [hy539]; with_reducible exact H2_) | (have H2_ := (Option.bind_some _ _).symm.trans H; with_reducible exact H2_) | with_reducible exact H | (rw [hy539]; exact H) | exact H
                 have Ny539 := Aside0.mk hy539
                 clear hy539
                 have H' := Aside0.mk H
                 clear H
                 have p537 : 0 ≤ (x38_2 : Int) := of_decide_eq_true (by first | (with_reducible assumption) | assumption)
                 have q537 : x38_2 < (t527.length : Int) := of_decide_eq_true (by first | (with_reducible assumption) | assumption)
                 obtain ⟨ad537, e537, hx537_0⟩ := Kd.at_int (Kd.V_reads' HO_36.out).2.2 x38_2 p537 q537
                 cases e537
                 replace p537 := eq_true p537
                 replace q537 := eq_true q537
                 obtain ⟨Ao26, co26, eo26⟩ := Kd.R_slice HO_5.out
                 subst eo26
                 have p538 : 0 ≤ ((ji22) : Int) := of_decide_eq_true (by first | (with_reducible assumption) | assumption)
                 have q538 : (ji22) < (x5_2.length : Int) := of_decide_eq_true (by first | (with_reducible assumption) | assumption)
                 obtain ⟨ad538, e538, hx538_0⟩ := Kd.at_int (Kd.R_reads' HO_5.out).2.2 (ji22) p538 q538
                 cases e538
                 replace p538 := eq_true p538
                 replace q538 := eq_true q538
                 have p25 : 0 ≤ ((ji22) : Int) := of_decide_eq_true (by first | (with_reducible assumption) | assumption)
                 have q25 : ((ji22) : Int) < ((x5_2.length : Int) : Int) := of_decide_eq_true (by first | (with_reducible assumption) | assumption)
                 obtain ⟨go25, co25, eo25, gb25, gl25, cl25, HG25⟩ := Kd.R_form HO_5.out (by omega)
                 (first | cases eo25 | (injection eo25 with ea_ en_ ec_; (first | subst ea_ | (injection ea_ with ea_; subst ea_)); subst ec_; clear en_))
                 have GB25 := Aside0.mk gb25
                 have GG25 := Aside0.mk HG25
                 clear gb25 gl25 HG25
                 (first | simp only [add_plain] at hx538_0 | skip)
                 obtain ⟨hx25_0, hf25_0⟩ := Kd.R_celln 0 HO_5.out ((ji22) : Int) p25 q25
                 replace p25 := eq_true p25
                 replace q25 := eq_true q25
                 obtain ⟨hy27_, hz27_⟩ := Kd.R_celln 0 HO_5.out ((ji22) : Int) (of_decide_eq_true (by first | (with_reducible assumption) | assumption)) (of_decide_eq_true (by first | (with_reducible assumption) | assumption))
                 have HP27 := Kd.R_putg HO_5.out ((ji22) : Int) ((IntKind.u64.wrap (x8_2 + (IntKind.u64.wrap ((IntKind.u64.wrap ((IntKind.u64.wrap ((rd t524 x31_1))) * (IntKind.u64.wrap (rd t527 x38_2)))) + (IntKind.u64.wrap (rd x5_2 (ji22))))))) % 4294967296)
                 go_wp2_with (first | ((with_reducible refine gate_store (t := 37) (p := 64) rfl ?_); refine store_event (t := 37) (p := 64) (v := ?vo_w28) (w1 := (wr.setCell ⟨go25, ((ji22) : Int).toNat, none⟩ (.int .u32 ((IntKind.u64.wrap (x8_2 + (IntKind.u64.wrap ((IntKind.u64.wrap ((IntKind.u64.wrap ((rd t524 x31_1))) * (IntKind.u64.wrap (rd t527 x38_2)))) + (IntKind.u64.wrap (rd x5_2 (ji22))))))) % 4294967296)))) ?hg ?ho ?hn ?hr ?_; (case ho => rfl); (case hg => rfl); (case hn => rfl); (case hr => first | (go_simp; done) | (go_simp; rfl)); intro w28 hw; have hg : wr.grownBy w28 (some go25) := (by rw [hw]; exact HP27.2); have hp_ : Kd.R (Kd.int .u32) 37 w28 w.heap.size (fun _ => True) (.slice (some ⟨go25, 0, none⟩) x5_2.length co26) y539 := (by rw [hw, Ny539.out]; exact HP27.1); clear HP27; have n0_ := Aside0.mk (Kd.V_afterv (v := (.slice (some ⟨go25, 0, none⟩) x5_2.length co26)) (v1 := (.slice (some ⟨go25, 0, none⟩) x5_2.length co26)) (ok := (fun _ => True)) (by (with_reducible repeat (first | apply Kd.V_alloc | apply Kd.V_drewN | apply Kd.V_drew)); exact Kd.V_mono HO_1.out (fun _ hk => ⟨trivial, hk⟩)) hg (.inl rfl)); have n1_ := Aside0.mk (hp_); have n2_ := Aside0.mk (Kd.V_afterv (v := (.slice (some ⟨go25, 0, none⟩) x5_2.length co26)) (v1 := (.slice (some ⟨go25, 0, none⟩) x5_2.length co26)) (ok := (fun _ => True)) (by (with_reducible repeat (first | apply Kd.V_alloc | apply Kd.V_drewN | apply Kd.V_drew)); exact Kd.V_mono HO_29.out (fun _ hk => ⟨trivial, hk⟩)) hg (.inl rfl)); have n3_ := Aside0.mk (Kd.V_afterv (v := (.slice (some ⟨go25, 0, none⟩) x5_2.length co26)) (v1 := (.slice (some ⟨go25, 0, none⟩) x5_2.length co26)) (ok := (fun _ => True)) (by (with_reducible repeat (first | apply Kd.V_alloc | apply Kd.V_drewN | apply Kd.V_drew)); exact Kd.V_mono HO_36.out (fun _ hk => ⟨trivial, hk⟩)) hg (.inl rfl)); have n4_ := Aside0.mk ((by rw [hw]; exact below_set (HB.out) GB25.out : Below w.heap.size w w28)); clear HO_1; clear HO_5; clear HO_29; clear HO_36; clear HB; have HO_1 := n0_; have HO_5 := n1_; have HO_29 := n2_; have HO_36 := n3_; have HB := n4_; clear n0_ n1_ n2_ n3_ n4_; clear hg hw hp_))
                 go_roundg k2
                 case measure => have := HK1.out; have := HK2.out; omega
                 case rel => exact ⟨(y539), ((IntKind.u64.wrap (x8_2 + (IntKind.u64.wrap ((IntKind.u64.wrap ((IntKind.u64.wrap ((rd t524 x31_1))) * (IntKind.u64.wrap (rd t527 x38_2)))) + (IntKind.u64.wrap (rd x5_2 (ji22))))))) / 4294967296), (wrap64 (x38_2 + 1)), (by first | rfl | (simp; done) | (simp only [← hji22] <;> (first | rfl | simp)) | (simp [*]; done)), (by first | rfl | (simp [*]; done)), H', ⟨by have := HK1.out; have := HK2.out; omega⟩, ⟨by (with_reducible repeat (first | apply Kd.V_alloc | apply Kd.V_drewN | apply Kd.V_drew)); exact Kd.V_mono HO_1.out (fun _ hk => hk.2)⟩, ⟨by (with_reducible repeat (first | apply Kd.R_alloc | apply Kd.R_drewN | apply Kd.R_drew)); exact HO_5.out⟩, ⟨by (with_reducible repeat (first | apply Kd.V_alloc | apply Kd.V_drewN | apply Kd.V_drew)); exact Kd.V_mono HO_29.out (fun _ hk => hk.2)⟩, ⟨by (with_reducible repeat (first | apply Kd.V_alloc | apply Kd.V_drewN | apply Kd.V_drew)); exact Kd.V_mono HO_36.out (fun _ hk => hk.2)⟩, ⟨by repeat (first | (with_reducible first | exact HB.out | apply below_alloc | apply pw_below_drewN | apply below_drew1) | exact HB.out)⟩⟩
                ·
                 rw [if_neg c24] at H
                 exact absurd H (by simp)
               ·
                rw [if_neg c23] at H
                exact absurd H (by simp)
              ·
               rw [if_neg c21] at H
               exact absurd H (by simp)
             ·
              rw [if_neg c20] at H
              exact absurd H (by simp)
            ·
             rw [if_neg c19] at H
             have c19b0 : decide (x38_2 < (t527.length : Int)) = false := decide_eq_false c19
             clear c19
             obtain ⟨ji29, hji29⟩ : ∃ j_ : Int, (wrap64 (x31_1 + (t527.length : Int))) = j_ := ⟨_, rfl⟩
             replace H : (if 0 ≤ (ji29) then (if (ji29) < (x5_2.length : Int) then (bignat_Mul.l0 k2 t527 (x5_2.set ((ji29) : Int).toNat ((x8_2) % 4294967296)) t524 (t524.length : Int) (wrap64 (x31_1 + 1))) else (none)) else (none)) = some r := by first | (rw [hji29] at H; exact H) | (simp only [hji29] at H ⊢; exact H)
             have hji29w : (IntKind.i64.wrap (x31_1 + (t527.length : Int))) = ji29 := (i64_w _).trans hji29
             (try (have hji29r := hji29; simp only [hji7] at hji29r))
             (try (have hji29wr := hji29w; simp only [hji7] at hji29wr))
             by_cases c30 : 0 ≤ (ji29)
             ·
              rw [if_pos c30] at H
              have c30b0 : decide (0 ≤ (ji29)) = true := decide_eq_true c30
              clear c30
              by_cases c31 : (ji29) < (x5_2.length : Int)
              ·
               rw [if_pos c31] at H
               have c31b0 : decide ((ji29) < (x5_2.length : Int)) = true := decide_eq_true c31
               clear c31
               obtain ⟨y540, hy540⟩ : ∃ y_ : List Int, y_ = (x5_2.set ((ji29) : Int).toNat ((x8_2) % 4294967296)) := ⟨_, rfl⟩
               replace H : (bignat_Mul.l0 k2 t527 y540 t524 (t524.length : Int) (wrap64 (x31_1 + 1))) = some r := by first | (rw [hy540]; with_reducible exact H) | (have H2_ := (Option.bind_some _ _).symm.trans H; rw [hy540]; with_reducible exact H2_) | (have H2_ := (Option.bind_some _ _).symm.trans H; with_reducible exact H2_) | with_reducible exact H | (rw [hy540]; exact H) | exact H
               have Ny540 := Aside0.mk hy540
               clear hy540
               have H' := Aside0.mk H
               clear H
               have p32 : 0 ≤ ((ji29) : Int) := of_decide_eq_true (by first | (with_reducible assumption) | assumption)
               have q32 : ((ji29) : Int) < ((x5_2.length : Int) : Int) := of_decide_eq_true (by first | (with_reducible assumption) | assumption)
               obtain ⟨go32, co32, eo32, gb32, gl32, cl32, HG32⟩ := Kd.R_form HO_5.out (by omega)
               (first | cases eo32 | (injection eo32 with ea_ en_ ec_; (first | subst ea_ | (injection ea_ with ea_; subst ea_)); subst ec_; clear en_))
               have GB32 := Aside0.mk gb32
               have GG32 := Aside0.mk HG32
               clear gb32 gl32 HG32
               obtain ⟨hx32_0, hf32_0⟩ := Kd.R_celln 0 HO_5.out ((ji29) : Int) p32 q32
               replace p32 := eq_true p32
               replace q32 := eq_true q32
               obtain ⟨hy33_, hz33_⟩ := Kd.R_celln 0 HO_5.out ((ji29) : Int) (of_decide_eq_true (by first | (with_reducible assumption) | assumption)) (of_decide_eq_true (by first | (with_reducible assumption) | assumption))
               have HP33 := Kd.R_putg HO_5.out ((ji29) : Int) ((x8_2) % 4294967296)
               go_wp2_with (first | ((with_reducible refine gate_store (t := 37) (p := 75) rfl ?_); refine store_event (t := 37) (p := 75) (v := ?vo_w34) (w1 := (wr.setCell ⟨go32, ((ji29) : Int).toNat, none⟩ (.int .u32 ((x8_2) % 4294967296)))) ?hg ?ho ?hn ?hr ?_; (case ho => rfl); (case hg => rfl); (case hn => rfl); (case hr => first | (go_simp; done) | (go_simp; rfl)); intro w34 hw; have hg : wr.grownBy w34 (some go32) := (by rw [hw]; exact HP33.2); have hp_ : Kd.R (Kd.int .u32) 37 w34 w.heap.size (fun _ => True) (.slice (some ⟨go32, 0, none⟩) x5_2.length co32) y540 := (by rw [hw, Ny540.out]; exact HP33.1); clear HP33; have n0_ := Aside0.mk (Kd.V_afterv (v := (.slice (some ⟨go32, 0, none⟩) x5_2.length co32)) (v1 := (.slice (some ⟨go32, 0, none⟩) x5_2.length co32)) (ok := (fun _ => True)) (by (with_reducible repeat (first | apply Kd.V_alloc | apply Kd.V_drewN | apply Kd.V_drew)); exact Kd.V_mono HO_1.out (fun _ hk => ⟨trivial, hk⟩)) hg (.inl rfl)); have n1_ := Aside0.mk (hp_); have n2_ := Aside0.mk (Kd.V_afterv (v := (.slice (some ⟨go32, 0, none⟩) x5_2.length co32)) (v1 := (.slice (some ⟨go32, 0, none⟩) x5_2.length co32)) (ok := (fun _ => True)) (by (with_reducible repeat (first | apply Kd.V_alloc | apply Kd.V_drewN | apply Kd.V_drew)); exact Kd.V_mono HO_29.out (fun _ hk => ⟨trivial, hk⟩)) hg (.inl rfl)); have n3_ := Aside0.mk (Kd.V_afterv (v := (.slice (some ⟨go32, 0, none⟩) x5_2.length co32)) (v1 := (.slice (some ⟨go32, 0, none⟩) x5_2.length co32)) (ok := (fun _ => True)) (by (with_reducible repeat (first | apply Kd.V_alloc | apply Kd.V_drewN | apply Kd.V_drew)); exact Kd.V_mono HO_36.out (fun _ hk => ⟨trivial, hk⟩)) hg (.inl rfl)); have n4_ := Aside0.mk ((by rw [hw]; exact below_set (HB.out) GB32.out : Below w.heap.size w w34)); clear HO_1; clear HO_5; clear HO_29; clear HO_36; clear HB; have HO_1 := n0_; have HO_5 := n1_; have HO_29 := n2_; have HO_36 := n3_; have HB := n4_; clear n0_ n1_ n2_ n3_ n4_; clear hg hw hp_))
               go_roundg k2
               case measure => have := HK1.out; have := HK2.out; omega
               case rel => exact ⟨(y540), (wrap64 (x31_1 + 1)), (by first | rfl | (simp [*]; done)), H', ⟨by have := HK1.out; have := HK2.out; omega⟩, ⟨by (with_reducible repeat (first | apply Kd.V_alloc | apply Kd.V_drewN | apply Kd.V_drew)); exact Kd.V_mono HO_1.out (fun _ hk => hk.2)⟩, ⟨by (with_reducible repeat (first | apply Kd.R_alloc | apply Kd.R_drewN | apply Kd.R_drew)); exact HO_5.out⟩, ⟨by (with_reducible repeat (first | apply Kd.V_alloc | apply Kd.V_drewN | apply Kd.V_drew)); exact Kd.V_mono HO_29.out (fun _ hk => hk.2)⟩, ⟨by repeat (first | (with_reducible first | exact HB.out | apply below_alloc | apply pw_below_drewN | apply below_drew1) | exact HB.out)⟩⟩
              ·
               rw [if_neg c31] at H
               exact absurd H (by simp)
             ·
              rw [if_neg c30] at H
              exact absurd H (by simp)
         ·
          rw [if_neg c18] at H
          exact absurd H (by simp)
        ·
         rw [if_neg c17] at H
         exact absurd H (by simp)
       ·
        rw [if_neg c16] at H
        have c16b0 : decide (x31_1 < (t524.length : Int)) = false := decide_eq_false c16
        clear c16
        replace H := Option.bind_eq_some_iff.mp H
        obtain ⟨t533, A350, H⟩ := H
        replace H : (some t533) = some r := H
        have A35 := Aside0.mk A350
        clear A350
        obtain rfl := Option.some.inj H
        obtain ⟨Ao36, co36, eo36⟩ := Kd.R_slice HO_5.out
        subst eo36
        go_wp2_with (first | ((with_reducible refine gate_callee (f := 71) rfl ?_); refine goesL_ (some 78) rfl rfl Tryd.func71 (by kernel_rfl) rfl #[.slice Ao36 x5_1.length co36] rfl (by first | rfl | (go_simp; first | done | rfl | omega)) ?_; (with_reducible refine (bignat_trimO.calls k1 (fun k_ => some k_ = (.slice Ao36 x5_1.length co36 : Value).ownBlock) (.slice Ao36 x5_1.length co36) x5_1 t533 w _ ?side1 ?side2 A35.out).mono ?_); (case side1 => repeat (first | (with_reducible first | exact HB.out | apply below_alloc | apply pw_below_drewN | apply below_drew1) | exact HB.out)); (case side2 => exact Kd.R_tight rfl HO_5.out); rintro e w37 ⟨v534, rfl, ho0, hb, hkp⟩; refine ⟨_, rfl, ?_⟩; have n0_ := Aside0.mk (Kd.V_mono (ok' := fun k_ => some k_ ≠ (v534 : Value).ownBlock) (Kd.V_keptB (HO_1.out) hkp (fun k_ hk_ hs_ => (hk_) hs_)) (fun k_ hk_ => fun e_ => Or.elim (ho0.1 k_ e_.symm) (fun hs_ => hk_.2.1 hs_) (fun hn_ => Nat.not_le.2 hk_.2.2 hn_))); have n1_ := Aside0.mk (Kd.V_mono (ok' := fun k_ => some k_ ≠ (v534 : Value).ownBlock) (Kd.V_keptB (HO_29.out) hkp (fun k_ hk_ hs_ => (hk_) hs_)) (fun k_ hk_ => fun e_ => Or.elim (ho0.1 k_ e_.symm) (fun hs_ => hk_.2.1 hs_) (fun hn_ => Nat.not_le.2 hk_.2.2 hn_))); have n2_ := Aside0.mk (Kd.R_mono (ok' := fun k_ => True) ho0 (fun k_ hk_ => trivial)); have n3_ := Aside0.mk (hb); clear HO_1; clear HO_29; clear HB; clear HO_5; have HO_1 := n0_; have HO_29 := n1_; have HO535 := n2_; have HB := n3_; clear n0_ n1_ n2_ n3_; (try clear hkp)))
        go_ret
        exact ⟨_, by first | rfl | (simp [errW_none, errW_some] <;> rfl) | (simp only [← hji7]; first | rfl | (simp [errW_none, errW_some] <;> rfl)) | (simp [*, errW_none, errW_some] <;> rfl), by (with_reducible repeat (first | apply Kd.R_alloc | apply Kd.R_drewN | apply Kd.R_drew)); exact HO535.out, by repeat (first | (with_reducible first | exact HB.out | apply below_alloc | apply pw_below_drewN | apply below_drew1) | exact HB.out)⟩
    ·
     rw [if_neg c9] at H
     exact absurd H (by simp)
   ·
    rw [if_neg c8] at H
    exact absurd H (by simp)

def bignat_BitLen.f (k : Nat) (l0 : List Int) : Option (Int) := (bignat_trim.f k l0).bind fun t541 => (if (t541.length : Int) = 0 then (some 0) else (if 0 ≤ (wrap64 ((t541.length : Int) - 1)) then (if (wrap64 ((t541.length : Int) - 1)) < (t541.length : Int) then ((bits_Len32.f (rd t541 (wrap64 ((t541.length : Int) - 1)))).bind fun t545 => (some (wrap64 ((wrap64 (32 * (wrap64 ((t541.length : Int) - 1)))) + t545)))) else (none)) else (none)))
theorem bignat_BitLen.mono : ∀ a0 k, LeO (bignat_BitLen.f k a0) (bignat_BitLen.f (k + 1) a0) := by
 intro a0 k
 unfold bignat_BitLen.f
 repeat' first
   | (with_reducible exact bignat_trim.mono _ _)
   | (with_reducible exact LeO.refl _)
   | (with_reducible exact LeO.none _)
   | (with_reducible refine LeO.ite ?_ ?_)
   | (with_reducible refine LeO.bind ?_ (fun _ => ?_))
   | exact LeO.none _
   | refine LeO.ite ?_ ?_
   | refine LeO.bind ?_ (fun _ => ?_)
set_option maxHeartbeats 8000000 in
set_option maxRecDepth 100000 in
theorem bignat_BitLen.calls (k : Nat) (A0 : Option Addr) (c0 : Nat) (l0 : List Int) (r : Int) (w : World) (hr0 : Kd.C (Kd.int .u32) w A0 l0.length l0) (hc0 : l0.length ≤ c0) (h : bignat_BitLen.f k l0 = some r) :
  Calls Tryd.prog 70 #[.slice A0 l0.length c0] w fun e w' => e = .returned (.int .i64 r) ∧ Below w.heap.size w w' := by
 have HR0 := Aside0.mk hr0
 have HC0 := Aside0.mk hc0
 clear hr0 hc0
 have HB := Aside0.mk (Below.refl w.heap.size w)
 have H : ((bignat_trim.f k l0).bind fun t541 => (if (t541.length : Int) = 0 then (some 0) else (if 0 ≤ (wrap64 ((t541.length : Int) - 1)) then (if (wrap64 ((t541.length : Int) - 1)) < (t541.length : Int) then ((bits_Len32.f (rd t541 (wrap64 ((t541.length : Int) - 1)))).bind fun t545 => (some (wrap64 ((wrap64 (32 * (wrap64 ((t541.length : Int) - 1)))) + t545)))) else (none)) else (none)))) = some r := h
 clear h
 replace H := Option.bind_eq_some_iff.mp H
 obtain ⟨t541, A20, H⟩ := H
 replace H : (if (t541.length : Int) = 0 then (some 0) else (if 0 ≤ (wrap64 ((t541.length : Int) - 1)) then (if (wrap64 ((t541.length : Int) - 1)) < (t541.length : Int) then ((bits_Len32.f (rd t541 (wrap64 ((t541.length : Int) - 1)))).bind fun t545 => (some (wrap64 ((wrap64 (32 * (wrap64 ((t541.length : Int) - 1)))) + t545)))) else (none)) else (none))) = some r := H
 have A2 := Aside0.mk A20
 clear A20
 by_cases c3 : (t541.length : Int) = 0
 ·
  rw [if_pos c3] at H
  have c3b0 : ((t541.length : Int) == 0) = true := beq_iff_eq.mpr c3
  have c3b1 : ((t541.length : Int) != 0) = false := bne_eq_false_iff_eq.mpr c3
  clear c3
  obtain rfl := Option.some.inj H
  go_enter Tryd.func70, Tryd.ntmps70
  go_wp2_with (first | ((with_reducible refine gate_callee (f := 71) rfl ?_); refine goesL_ (some 4) rfl rfl Tryd.func71 (by kernel_rfl) rfl #[.slice A0 l0.length c0] rfl (by first | rfl | (go_simp; first | done | rfl | omega)) ?_; (with_reducible refine (bignat_trim.calls k (fun k_ => k_ < w.heap.size) _ _ l0 t541 _ ?side1 A2.out).mono ?_); (case side1 => exact Kd.V_mk HC0.out (Kd.F_below (Kd.C_F (Kd.heap_int .u32) HR0.out) (zb HB rfl))); rintro e w4 ⟨v542, rfl, ho0, hb⟩; refine ⟨_, rfl, ?_⟩; have n0_ := Aside0.mk (Kd.V_lower (Kd.V_mono (ok' := fun k_ => True) ho0 (fun k_ hk_ => trivial)) (below_size (zb HB rfl))); have n1_ := Aside0.mk (below_step (zb HB rfl) hb); clear HB; have HO543 := n0_; have HB := n1_; clear n0_ n1_; obtain ⟨Ao5, co5, eo5⟩ := Kd.V_slice HO543.out; subst eo5))
  go_ret
  exact ⟨by first | rfl | (simp [*, errW_none, errW_some] <;> rfl), by repeat (first | (with_reducible first | exact HB.out | apply below_alloc | apply pw_below_drewN | apply below_drew1) | exact HB.out)⟩
 ·
  rw [if_neg c3] at H
  have c3b0 : ((t541.length : Int) == 0) = false := beq_eq_false_iff_ne.mpr c3
  have c3b1 : ((t541.length : Int) != 0) = true := bne_iff_ne.mpr c3
  have c3b2 : ¬ (t541 = []) := fun h_ => c3 (by rw [h_]; rfl)
  obtain ⟨ji6, hji6⟩ : ∃ j_ : Int, (wrap64 ((t541.length : Int) - 1)) = j_ := ⟨_, rfl⟩
  replace H : (if 0 ≤ (ji6) then (if (ji6) < (t541.length : Int) then ((bits_Len32.f (rd t541 (ji6))).bind fun t545 => (some (wrap64 ((wrap64 (32 * (ji6))) + t545)))) else (none)) else (none)) = some r := by first | (rw [hji6] at H; exact H) | (simp only [hji6] at H ⊢; exact H)
  (try rw [hji6] at A2)
  have hji6w : (IntKind.i64.wrap ((t541.length : Int) - 1)) = ji6 := (i64_w _).trans hji6
  by_cases c7 : 0 ≤ (ji6)
  ·
   rw [if_pos c7] at H
   have c7b0 : decide (0 ≤ (ji6)) = true := decide_eq_true c7
   clear c7
   by_cases c8 : (ji6) < (t541.length : Int)
   ·
    rw [if_pos c8] at H
    have c8b0 : decide ((ji6) < (t541.length : Int)) = true := decide_eq_true c8
    clear c8
    replace H := Option.bind_eq_some_iff.mp H
    obtain ⟨t545, A90, H⟩ := H
    replace H : (some (wrap64 ((wrap64 (32 * (ji6))) + t545))) = some r := H
    have A9 := Aside0.mk A90
    clear A90
    obtain rfl := Option.some.inj H
    go_enter Tryd.func70, Tryd.ntmps70
    go_wp2_with (first | ((with_reducible refine gate_callee (f := 71) rfl ?_); refine goesL_ (some 4) rfl rfl Tryd.func71 (by kernel_rfl) rfl #[.slice A0 l0.length c0] rfl (by first | rfl | (go_simp; first | done | rfl | omega)) ?_; (with_reducible refine (bignat_trim.calls k (fun k_ => k_ < w.heap.size) _ _ l0 t541 _ ?side1 A2.out).mono ?_); (case side1 => exact Kd.V_mk HC0.out (Kd.F_below (Kd.C_F (Kd.heap_int .u32) HR0.out) (zb HB rfl))); rintro e w10 ⟨v542, rfl, ho0, hb⟩; refine ⟨_, rfl, ?_⟩; have n0_ := Aside0.mk (Kd.V_lower (Kd.V_mono (ok' := fun k_ => True) ho0 (fun k_ hk_ => trivial)) (below_size (zb HB rfl))); have n1_ := Aside0.mk (below_step (zb HB rfl) hb); clear HB; have HO543 := n0_; have HB := n1_; clear n0_ n1_; obtain ⟨Ao11, co11, eo11⟩ := Kd.V_slice HO543.out; subst eo11; have p544 : 0 ≤ ((ji6) : Int) := of_decide_eq_true (by first | (with_reducible assumption) | assumption); have q544 : (ji6) < (t541.length : Int) := of_decide_eq_true (by first | (with_reducible assumption) | assumption); obtain ⟨ad544, e544, hx544_0⟩ := Kd.at_int (Kd.V_reads' HO543.out).2.2 (ji6) p544 q544; cases e544; replace p544 := eq_true p544; replace q544 := eq_true q544) | ((with_reducible refine gate_callee (f := 89) rfl ?_); refine goesL_ (some 18) rfl rfl Tryd.func89 (by kernel_rfl) rfl #[.int .u32 (rd t541 (ji6))] rfl (by (try simp only [List.map_toArray, List.map_cons, List.map_nil]); first | done | (simp only [hji6]; rfl) | rfl | (simp only [List.length_drop, List.length_take]; rfl) | (go_simp; done) | (go_simp; rfl) | (go_simp; (try simp only [IntKind.wrap_u8, IntKind.wrap_u32, IntKind.wrap_u64]); omega)) ?_; (with_reducible refine (bits_Len32.calls (rd t541 (ji6)) t545 _ A9.out).mono ?_); rintro e w' ⟨rfl, ⟨nd, rfl⟩⟩; refine ⟨_, rfl, ?_⟩))
    go_ret
    exact ⟨by first | rfl | (simp [errW_none, errW_some] <;> rfl) | (simp only [← hji6]; first | rfl | (simp [errW_none, errW_some] <;> rfl)) | (simp [*, errW_none, errW_some] <;> rfl), by repeat (first | (with_reducible first | exact HB.out | apply below_alloc | apply pw_below_drewN | apply below_drew1) | exact HB.out)⟩
   ·
    rw [if_neg c8] at H
    exact absurd H (by simp)
  ·
   rw [if_neg c7] at H
   exact absurd H (by simp)

end Go.Proofs.YtoeldfopjalpkaaDoor.Q

