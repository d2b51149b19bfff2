/- Lemmas for the proof of one law of this seat (Qx2). -/
import Derived.Test.YtjiaplnpgjicgaaZBignatArithQx0
import Derived.Test.YtjiaplnpgjicgaaZBignatArithQx1
import Derived.Test.YtjiaplnpgjicgaaZBignatArithSq
namespace Go.Proofs.Ytjiaplnpgjicgaa.Q
open Go.RowKit Go.Proofs.YtjiaplnpgjicgaaW.PrintWords Go.Proofs.YtjiaplnpgjicgaaW.PrintLast Go.Proofs.YtjiaplnpgjicgaaW.PrintMore
attribute [local go_sem] max2_int min2_int max_two min_two max_three min_three max_four min_four   -- for this text's walks alone
set_option linter.unusedVariables false
set_option linter.unusedSimpArgs false

mutual
def bignat_Format.l0 : Nat → List Int → List Int → Option (ByteArray)
 | 0, _, _ => none
 | k + 1, x0, x3 => if (x0.length : Int) > 0 then ((bignat_divSmall.f k x0 1000000000).bind fun bt143 => (bignat_Format.l1 k bt143.1 x3 bt143.2 0)) else (bignat_Format.l2 k x3 0 (wrap64 ((x3.length : Int) - 1)))
def bignat_Format.l1 : Nat → List Int → List Int → Int → Int → Option (ByteArray)
 | 0, _, _, _, _ => none
 | k + 1, x0, x3, x4, x5 => if x5 < 9 then (if (x0.length : Int) > 0 then (if x3.length < 140737488355328 then (bignat_Format.l1 k x0 (x3 ++ [(48 + (Int.tmod x4 10)) % 256]) ((Int.tdiv x4 10) % 4294967296) (wrap64 (x5 + 1))) else (none)) else (if x4 > 0 then (if x3.length < 140737488355328 then (bignat_Format.l1 k x0 (x3 ++ [(48 + (Int.tmod x4 10)) % 256]) ((Int.tdiv x4 10) % 4294967296) (wrap64 (x5 + 1))) else (none)) else (bignat_Format.l0 k x0 x3))) else (bignat_Format.l0 k x0 x3)
def bignat_Format.l2 : Nat → List Int → Int → Int → Option (ByteArray)
 | 0, _, _, _ => none
 | k + 1, x3, x6, x7 => if x6 < x7 then (if 0 ≤ x7 then (if x7 < (x3.length : Int) then (if 0 ≤ x6 then (if x6 < (x3.length : Int) then (bignat_Format.l2 k ((x3.set (x6 : Int).toNat (rd x3 x7)).set (x7 : Int).toNat (rd x3 x6)) (wrap64 (x6 + 1)) (wrap64 (x7 - 1))) else (none)) else (none)) else (none)) else (none)) else (some (strOfNums x3))
end
def bignat_Format.f (k : Nat) (l0 : List Int) : Option (ByteArray) := (bignat_clone.f k l0).bind fun t140 => (if (t140.length : Int) = 0 then (some (⟨#[48]⟩ : ByteArray)) else (bignat_Format.l0 k t140 ([] : List Int)))
theorem bignat_Format.mono_l : ∀ k, (∀ y0 y1, LeO (bignat_Format.l0 k y0 y1) (bignat_Format.l0 (k + 1) y0 y1)) ∧ (∀ y0 y1 y2 y3, LeO (bignat_Format.l1 k y0 y1 y2 y3) (bignat_Format.l1 (k + 1) y0 y1 y2 y3)) ∧ (∀ y0 y1 y2, LeO (bignat_Format.l2 k y0 y1 y2) (bignat_Format.l2 (k + 1) y0 y1 y2))
 | 0 => ⟨fun _ _ r h => by simp [bignat_Format.l0] at h, fun _ _ _ _ r h => by simp [bignat_Format.l1] at h, fun _ _ _ r h => by simp [bignat_Format.l2] at h⟩
 | k + 1 => by
  obtain ⟨ih0, ih1, ih2⟩ := bignat_Format.mono_l k
  refine ⟨?_, ?_, ?_⟩
  ·
   intro y0 y1
   unfold bignat_Format.l0
   repeat' first
   | (with_reducible exact ih0 _ _)
   | (with_reducible exact ih1 _ _ _ _)
   | (with_reducible exact ih2 _ _ _)
   | (with_reducible exact bignat_clone.mono _ _)
   | (with_reducible exact bignat_divSmall.mono _ _ _)
   | (with_reducible exact LeO.refl _)
   | (with_reducible exact LeO.none _)
   | (with_reducible refine LeO.ite ?_ ?_)
   | (with_reducible refine LeO.bind ?_ (fun _ => ?_))
   | exact ih0 _ _
   | exact ih1 _ _ _ _
   | exact ih2 _ _ _
   | exact bignat_clone.mono _ _
   | exact bignat_divSmall.mono _ _ _
   | exact LeO.none _
   | refine LeO.ite ?_ ?_
   | refine LeO.bind ?_ (fun _ => ?_)
  ·
   intro y0 y1 y2 y3
   unfold bignat_Format.l1
   repeat' first
   | (with_reducible exact ih0 _ _)
   | (with_reducible exact ih1 _ _ _ _)
   | (with_reducible exact ih2 _ _ _)
   | (with_reducible exact bignat_clone.mono _ _)
   | (with_reducible exact bignat_divSmall.mono _ _ _)
   | (with_reducible exact LeO.refl _)
   | (with_reducible exact LeO.none _)
   | (with_reducible refine LeO.ite ?_ ?_)
   | (with_reducible refine LeO.bind ?_ (fun _ => ?_))
   | exact ih0 _ _
   | exact ih1 _ _ _ _
   | exact ih2 _ _ _
   | exact bignat_clone.mono _ _
   | exact bignat_divSmall.mono _ _ _
   | exact LeO.none _
   | refine LeO.ite ?_ ?_
   | refine LeO.bind ?_ (fun _ => ?_)
  ·
   intro y0 y1 y2
   unfold bignat_Format.l2
   repeat' first
   | (with_reducible exact ih0 _ _)
   | (with_reducible exact ih1 _ _ _ _)
   | (with_reducible exact ih2 _ _ _)
   | (with_reducible exact bignat_clone.mono _ _)
   | (with_reducible exact bignat_divSmall.mono _ _ _)
   | (with_reducible exact LeO.refl _)
   | (with_reducible exact LeO.none _)
   | (with_reducible refine LeO.ite ?_ ?_)
   | (with_reducible refine LeO.bind ?_ (fun _ => ?_))
   | exact ih0 _ _
   | exact ih1 _ _ _ _
   | exact ih2 _ _ _
   | exact bignat_clone.mono _ _
   | exact bignat_divSmall.mono _ _ _
   | exact LeO.none _
   | refine LeO.ite ?_ ?_
   | refine LeO.bind ?_ (fun _ => ?_)
theorem bignat_Format.mono : ∀ a0 k, LeO (bignat_Format.f k a0) (bignat_Format.f (k + 1) a0) := by
 intro a0 k
 obtain ⟨ih0, ih1, ih2⟩ := bignat_Format.mono_l k
 unfold bignat_Format.f
 repeat' first
   | (with_reducible exact ih0 _ _)
   | (with_reducible exact ih1 _ _ _ _)
   | (with_reducible exact ih2 _ _ _)
   | (with_reducible exact bignat_clone.mono _ _)
   | (with_reducible exact bignat_divSmall.mono _ _ _)
   | (with_reducible exact LeO.refl _)
   | (with_reducible exact LeO.none _)
   | (with_reducible refine LeO.ite ?_ ?_)
   | (with_reducible refine LeO.bind ?_ (fun _ => ?_))
   | exact ih0 _ _
   | exact ih1 _ _ _ _
   | exact ih2 _ _ _
   | exact bignat_clone.mono _ _
   | exact bignat_divSmall.mono _ _ _
   | exact LeO.none _
   | refine LeO.ite ?_ ?_
   | refine LeO.bind ?_ (fun _ => ?_)
def bignat_Format.T16 : Bool × List (List Nat × List Nat) := (true, [([], []), ([], []), ([], []), ([], []), ([], []), ([], []), ([4, 5], [4, 5]), ([6], [6]), ([], []), ([], []), ([8, 9], [8, 9]), ([10], [10]), ([0, 1, 0, 1, 4, 5, 6, 7, 11], [0, 1]), ([12, 7, 0, 1, 4, 5, 6, 7, 11], [7, 12]), ([2, 3, 0, 1, 2, 3, 4, 5, 6, 7, 8, 9, 10, 11, 12, 13], [2, 3]), ([14, 11, 13, 0, 1, 2, 3, 4, 5, 6, 7, 8, 9, 10, 11, 12, 13], [11, 14])])
def bignat_Format.B16 : List Nat := [0, 0, 0, 0, 0, 0, 48, 112, 0, 0, 768, 1792, 4083, 8179, 16383, 32767]
theorem bignat_Format.tab16 : rtab .any (opsOf Try.f13 16) = bignat_Format.T16 := by kernel_rfl
theorem bignat_Format.bits16 : waitsOk bignat_Format.T16.2 bignat_Format.B16 = true := by kernel_rfl
set_option maxHeartbeats 8000000 in
set_option maxRecDepth 100000 in
theorem bignat_Format.calls (k : Nat) (A0 : Option Addr) (c0 : Nat) (l0 : List Int) (r : ByteArray) (w : World) (hr0 : Kd.C (Kd.int .u32) w A0 l0.length l0) (hc0 : l0.length ≤ c0) (h : bignat_Format.f k l0 = some r) :
  Calls Try.prog 13 #[.slice A0 l0.length c0] w fun e w' => e = .returned (.string r) ∧ Below w.heap.size w w' := by
 have HR0 := Aside0.mk hr0
 have HC0 := Aside0.mk hc0
 clear hr0 hc0
 have HB := Aside0.mk (Below.refl w.heap.size w)
 have H : ((bignat_clone.f k l0).bind fun t140 => (if (t140.length : Int) = 0 then (some (⟨#[48]⟩ : ByteArray)) else (bignat_Format.l0 k t140 ([] : List Int)))) = some r := h
 clear h
 replace H := Option.bind_eq_some_iff.mp H
 obtain ⟨t140, A20, H⟩ := H
 replace H : (if (t140.length : Int) = 0 then (some (⟨#[48]⟩ : ByteArray)) else (bignat_Format.l0 k t140 ([] : List Int))) = some r := H
 have A2 := Aside0.mk A20
 clear A20
 by_cases c3 : (t140.length : Int) = 0
 ·
  rw [if_pos c3] at H
  have c3b0 : ((t140.length : Int) == 0) = true := beq_iff_eq.mpr c3
  have c3b1 : ((t140.length : Int) != 0) = false := bne_eq_false_iff_eq.mpr c3
  clear c3
  obtain rfl := Option.some.inj H
  go_enter Try.func13, Try.ntmps13
  go_wp2_with (first | ((with_reducible refine gate_callee (f := 41) rfl ?_); refine goesL_ (some 9) rfl rfl Try.func41 (by kernel_rfl) rfl #[.slice A0 l0.length c0] rfl (by first | rfl | (go_simp; first | done | rfl | ((try simp only [IntKind.wrap_u8, IntKind.wrap_u32, IntKind.wrap_u64]); omega))) ?_; (with_reducible refine (bignat_clone.calls k _ _ l0 t140 _ ?side1 ?side2 A2.out).mono ?_); (case side1 => repeat first | exact HR0.out | refine Kd.C_drewN ?_ _ | refine Kd.C_alloc ?_ _ | refine Kd.C_drew ?_); (case side2 => exact HC0.out); rintro e w4 ⟨v141, rfl, ho0, hb⟩; refine ⟨_, rfl, ?_⟩; have n0_ := Aside0.mk (Kd.R_lower ho0 (below_size (zb HB rfl))); have n1_ := Aside0.mk (below_step (zb HB rfl) hb); clear HB; have HO142 := n0_; have HB := n1_; clear n0_ n1_; obtain ⟨Ao5, co5, eo5⟩ := Kd.R_slice HO142.out; subst eo5))
  go_ret
  exact ⟨by first | rfl | (simp [*, errW_none, errW_some] <;> rfl), by repeat (first | (with_reducible first | exact HB.out | apply below_alloc | apply pw_below_drewN | apply below_drew1) | exact HB.out)⟩
 ·
  rw [if_neg c3] at H
  have c3b0 : ((t140.length : Int) == 0) = false := beq_eq_false_iff_ne.mpr c3
  have c3b1 : ((t140.length : Int) != 0) = true := bne_iff_ne.mpr c3
  have c3b2 : ¬ (t140 = []) := fun h_ => c3 (by rw [h_]; rfl)
  have H' := Aside0.mk H
  clear H
  go_enter Try.func13, Try.ntmps13
  go_wp2_with (first | ((with_reducible refine gate_callee (f := 41) rfl ?_); refine goesL_ (some 9) rfl rfl Try.func41 (by kernel_rfl) rfl #[.slice A0 l0.length c0] rfl (by first | rfl | (go_simp; first | done | rfl | ((try simp only [IntKind.wrap_u8, IntKind.wrap_u32, IntKind.wrap_u64]); omega))) ?_; (with_reducible refine (bignat_clone.calls k _ _ l0 t140 _ ?side1 ?side2 A2.out).mono ?_); (case side1 => repeat first | exact HR0.out | refine Kd.C_drewN ?_ _ | refine Kd.C_alloc ?_ _ | refine Kd.C_drew ?_); (case side2 => exact HC0.out); rintro e w6 ⟨v141, rfl, ho0, hb⟩; refine ⟨_, rfl, ?_⟩; have n0_ := Aside0.mk (Kd.R_lower ho0 (below_size (zb HB rfl))); have n1_ := Aside0.mk (below_step (zb HB rfl) hb); clear HB; have HO142 := n0_; have HB := n1_; clear n0_ n1_; obtain ⟨Ao7, co7, eo7⟩ := Kd.R_slice HO142.out; subst eo7))
  go_loopg [0, 3] k (fun kq v0 v3 w' => ∃ (x0_1 : List Int) (x3_1 : List Int), Aside0 (bignat_Format.l0 kq x0_1 x3_1 = some r) ∧ Aside0 (kq ≤ k) ∧ Aside0 (Kd.R (Kd.int .u32) 43 w' w.heap.size (fun _ => True) v0 x0_1) ∧ Aside0 (Kd.R (Kd.int .u8) 5 w' w.heap.size (fun _ => True) v3 x3_1) ∧ Aside0 (Below w.heap.size w w'))
  case atStart => exact ⟨(t140), (([] : List Int)), H', ⟨Nat.le_refl _⟩, ⟨by (with_reducible repeat (first | apply Kd.R_alloc | apply Kd.R_drewN | apply Kd.R_drew)); exact HO142.out⟩, ⟨by first | exact Kd.R_nil _ _ _ _ _ | exact Kd.V_nil _ _ _ _ _⟩, ⟨by repeat (first | (with_reducible first | exact HB.out | apply below_alloc | apply pw_below_drewN | apply below_drew1) | exact HB.out)⟩⟩
  case round =>
   clear H'
   try clear c1
   try clear p2
   try clear c3
   try clear c3b0
   try clear c3b1
   try clear c3b2
   try clear c4
   obtain ⟨x0_1, x3_1, HA, HK1, HO_0, HO_3, HB⟩ := hrel
   cases gk with
   | zero => exact absurd HA.out (by simp [bignat_Format.l0])
   | succ k1 =>
    have H := HA.out
    clear HA
    simp only [bignat_Format.l0] at H
    by_cases c8 : (x0_1.length : Int) > 0
    ·
     rw [if_pos c8] at H
     have c8b0 : decide (0 < (x0_1.length : Int)) = true := decide_eq_true c8
     have c8b1 : decide (0 < x0_1.length) = true := decide_eq_true (by omega)
     clear c8
     replace H := Option.bind_eq_some_iff.mp H
     obtain ⟨⟨t143, t144⟩, A90, H⟩ := H
     replace H : (bignat_Format.l1 k1 t143 x3_1 t144 0) = some r := H
     have A9 := Aside0.mk A90
     clear A90
     have H' := Aside0.mk H
     clear H
     obtain ⟨Ao10, co10, eo10⟩ := Kd.R_slice HO_0.out
     subst eo10
     go_wp2_with (first | ((with_reducible refine gate_callee (f := 42) rfl ?_); refine goesL_ (some 18) rfl rfl Try.func42 (by kernel_rfl) rfl #[.slice Ao10 x0_1.length co10, .int .u32 1000000000] rfl (by first | rfl | (go_simp; first | done | rfl | ((try simp only [IntKind.wrap_u8, IntKind.wrap_u32, IntKind.wrap_u64]); omega))) ?_; (with_reducible refine (bignat_divSmall.calls k1 _ _ x0_1 1000000000 t143 t144 _ ?side1 ?side2 A9.out).mono ?_); (case side1 => repeat first | exact (Kd.R_reads' HO_0.out).2.2 | refine Kd.C_drewN ?_ _ | refine Kd.C_alloc ?_ _ | refine Kd.C_drew ?_); (case side2 => exact (Kd.R_reads' HO_0.out).2.1); rintro e w11 ⟨v145, rfl, ho0, hb⟩; refine ⟨_, rfl, ?_⟩; have n0_ := Aside0.mk (Kd.R_elder' (zr HO_0 rfl) (Kd.R_base ho0) hb); have n1_ := Aside0.mk (Kd.R_below (zr HO_3 rfl) hb); have n2_ := Aside0.mk (Kd.R_lower (Kd.R_new' ho0 (Kd.R_lt (zr HO_0 rfl))) (below_size (zb HB rfl))); have n3_ := Aside0.mk (below_step (zb HB rfl) hb); clear HO_0; clear HO_3; clear HB; have HO_0 := n0_; have HO_3 := n1_; have HO146 := n2_; have HB := n3_; clear n0_ n1_ n2_ n3_))
     go_loopg [3, 4, 5] k1 (fun kq v3 v4 v5 w' => ∃ (x3_2 : List Int) (x4_2 : Int) (x5_2 : Int), v4 = .int .u32 x4_2 ∧ v5 = .int .i64 x5_2 ∧ Aside0 (bignat_Format.l1 kq t143 x3_2 x4_2 x5_2 = some r) ∧ Aside0 (kq ≤ k1) ∧ Aside0 (Kd.R (Kd.int .u32) 43 w' w.heap.size (fun _ => True) v145 t143) ∧ Aside0 (Kd.R (Kd.int .u8) 5 w' w.heap.size (fun _ => True) v3 x3_2) ∧ Aside0 (Below w.heap.size w w'))
     case atStart => exact ⟨(x3_1), (t144), (0), (by first | rfl | (simp [*]; done)), (by first | rfl | (simp [*]; done)), H', ⟨Nat.le_refl _⟩, ⟨by (with_reducible repeat (first | apply Kd.R_alloc | apply Kd.R_drewN | apply Kd.R_drew)); exact Kd.R_mono HO146.out (fun _ hk => trivial)⟩, ⟨by (with_reducible repeat (first | apply Kd.R_alloc | apply Kd.R_drewN | apply Kd.R_drew)); exact HO_3.out⟩, ⟨by repeat (first | (with_reducible first | exact HB.out | apply below_alloc | apply pw_below_drewN | apply below_drew1) | exact HB.out)⟩⟩
     case round =>
      clear H'
      try clear c1
      try clear p2
      try clear c3
      try clear c3b0
      try clear c3b1
      try clear c3b2
      try clear c4
      try clear c8
      try clear c8b0
      try clear c8b1
      try clear p2
      obtain ⟨x3_2, x4_2, x5_2, rfl, rfl, HA, HK2, HO_0, HO_3, HB⟩ := hrel
      cases gk with
      | zero => exact absurd HA.out (by simp [bignat_Format.l1])
      | succ k2 =>
       have H := HA.out
       clear HA
       simp only [bignat_Format.l1] at H
       by_cases c12 : x5_2 < 9
       ·
        rw [if_pos c12] at H
        have c12b0 : decide (x5_2 < 9) = true := decide_eq_true c12
        clear c12
        by_cases c13 : (t143.length : Int) > 0
        ·
         rw [if_pos c13] at H
         have c13b0 : decide (0 < (t143.length : Int)) = true := decide_eq_true c13
         have c13b1 : decide (0 < t143.length) = true := decide_eq_true (by omega)
         clear c13
         by_cases c14 : x3_2.length < 140737488355328
         ·
          rw [if_pos c14] at H
          have LMc14 := Aside0.mk c14
          clear c14
          obtain ⟨y147, hy147⟩ : ∃ y_ : List Int, y_ = (x3_2 ++ [(48 + (Int.tmod x4_2 10)) % 256]) := ⟨_, rfl⟩
          replace H : (bignat_Format.l1 k2 t143 y147 ((Int.tdiv x4_2 10) % 4294967296) (wrap64 (x5_2 + 1))) = some r := by first | (rw [hy147]; with_reducible exact H) | (have H2_ := (Option.bind_some _ _).symm.trans H; rw [hy147]; with_reducible exact H2_) | (have H2_ := (Option.bind_some _ _).symm.trans H; with_reducible exact H2_) | with_reducible exact H | (rw [hy147]; exact H) | exact H
          have Ny147 := Aside0.mk hy147
          clear hy147
          have H' := Aside0.mk H
          clear H
          obtain ⟨Ao15, co15, eo15⟩ := Kd.R_slice HO_0.out
          subst eo15
          go_wp2_with (first | ((with_reducible refine gate_builtin (b := .append) (xs := #[.tmp 34, .tmp 39]) rfl ?_); (try (refine gate_guard (by rfl) ?_; dsimp only)); at_builtin; refine Kd.R_append (Kd.int .u8) (w0 := w) w.heap.size rfl (.tmp 34) (.tmp 39) 52 5 (.int .u8 0) 1 rfl Try.underlying52 info5 rfl (by decide) (by omega) u3 x3_2 ((48 + (Int.tmod x4_2 10)) % 256) [.int .u8 ((48 + (Int.tmod x4_2 10)) % 256)] (fun _ => True) (fun _ => False) rfl rfl ?aP (fun _ hk => hk.elim) ?aF ?aO ?aB ?aS ?aL ?_; (case aP => exact rfl); (case aB => exact (by repeat (first | (with_reducible first | exact HB.out | apply below_alloc | apply pw_below_drewN | apply below_drew1) | exact HB.out))); (case aF => exact (fun _ _ => trivial)); (case aO => exact (by (with_reducible repeat (first | apply Kd.R_alloc | apply Kd.R_drewN | apply Kd.R_drew)); exact HO_3.out)); (case aS => exact (below_size (by repeat (first | (with_reducible first | exact HB.out | apply below_alloc | apply pw_below_drewN | apply below_drew1) | exact HB.out)))); (case aL => have := LMc14.out; omega); intro v148 w16 ho hb hg hat; rw [← Ny147.out] at ho; have n0_ := Aside0.mk (Kd.R_over' (by (with_reducible repeat (first | apply Kd.R_alloc | apply Kd.R_drewN | apply Kd.R_drew)); exact HO_0.out) (Kd.R_typed (by (with_reducible repeat (first | apply Kd.R_alloc | apply Kd.R_drewN | apply Kd.R_drew)); exact HO_3.out)) (by decide) hg); have n1_ := Aside0.mk (hb); have n2_ := Aside0.mk (ho); clear HO_0; clear HB; clear HO_3; have HO_0 := n0_; have HB := n1_; have HO149 := n2_; clear n0_ n1_ n2_; clear ho hb hg hat))
          go_roundg k2
          case measure => have := HK1.out; have := HK2.out; omega
          case rel => exact ⟨(y147), ((Int.tdiv x4_2 10) % 4294967296), (wrap64 (x5_2 + 1)), (by first | rfl | (simp [*]; done)), (by first | rfl | (simp [*]; done)), H', ⟨by have := HK1.out; have := HK2.out; omega⟩, ⟨by (with_reducible repeat (first | apply Kd.R_alloc | apply Kd.R_drewN | apply Kd.R_drew)); exact HO_0.out⟩, ⟨by (with_reducible repeat (first | apply Kd.R_alloc | apply Kd.R_drewN | apply Kd.R_drew)); exact HO149.out⟩, ⟨by repeat (first | (with_reducible first | exact HB.out | apply below_alloc | apply pw_below_drewN | apply below_drew1) | exact HB.out)⟩⟩
         ·
          rw [if_neg c14] at H
          exact absurd H (by simp)
        ·
         rw [if_neg c13] at H
         have c13b0 : decide (0 < (t143.length : Int)) = false := decide_eq_false c13
         have c13b1 : decide (0 < t143.length) = false := decide_eq_false (by omega)
         clear c13
         by_cases c17 : x4_2 > 0
         ·
          rw [if_pos c17] at H
          have c17b0 : decide (0 < x4_2) = true := decide_eq_true c17
          clear c17
          by_cases c18 : x3_2.length < 140737488355328
          ·
           rw [if_pos c18] at H
           have LMc18 := Aside0.mk c18
           clear c18
           obtain ⟨y150, hy150⟩ : ∃ y_ : List Int, y_ = (x3_2 ++ [(48 + (Int.tmod x4_2 10)) % 256]) := ⟨_, rfl⟩
           replace H : (bignat_Format.l1 k2 t143 y150 ((Int.tdiv x4_2 10) % 4294967296) (wrap64 (x5_2 + 1))) = some r := by first | (rw [hy150]; with_reducible exact H) | (have H2_ := (Option.bind_some _ _).symm.trans H; rw [hy150]; with_reducible exact H2_) | (have H2_ := (Option.bind_some _ _).symm.trans H; with_reducible exact H2_) | with_reducible exact H | (rw [hy150]; exact H) | exact H
           have Ny150 := Aside0.mk hy150
           clear hy150
           have H' := Aside0.mk H
           clear H
           obtain ⟨Ao19, co19, eo19⟩ := Kd.R_slice HO_0.out
           subst eo19
           go_wp2_with (first | ((with_reducible refine gate_builtin (b := .append) (xs := #[.tmp 34, .tmp 39]) rfl ?_); (try (refine gate_guard (by rfl) ?_; dsimp only)); at_builtin; refine Kd.R_append (Kd.int .u8) (w0 := w) w.heap.size rfl (.tmp 34) (.tmp 39) 52 5 (.int .u8 0) 1 rfl Try.underlying52 info5 rfl (by decide) (by omega) u3 x3_2 ((48 + (Int.tmod x4_2 10)) % 256) [.int .u8 ((48 + (Int.tmod x4_2 10)) % 256)] (fun _ => True) (fun _ => False) rfl rfl ?aP (fun _ hk => hk.elim) ?aF ?aO ?aB ?aS ?aL ?_; (case aP => exact rfl); (case aB => exact (by repeat (first | (with_reducible first | exact HB.out | apply below_alloc | apply pw_below_drewN | apply below_drew1) | exact HB.out))); (case aF => exact (fun _ _ => trivial)); (case aO => exact (by (with_reducible repeat (first | apply Kd.R_alloc | apply Kd.R_drewN | apply Kd.R_drew)); exact HO_3.out)); (case aS => exact (below_size (by repeat (first | (with_reducible first | exact HB.out | apply below_alloc | apply pw_below_drewN | apply below_drew1) | exact HB.out)))); (case aL => have := LMc18.out; omega); intro v151 w20 ho hb hg hat; rw [← Ny150.out] at ho; have n0_ := Aside0.mk (Kd.R_over' (by (with_reducible repeat (first | apply Kd.R_alloc | apply Kd.R_drewN | apply Kd.R_drew)); exact HO_0.out) (Kd.R_typed (by (with_reducible repeat (first | apply Kd.R_alloc | apply Kd.R_drewN | apply Kd.R_drew)); exact HO_3.out)) (by decide) hg); have n1_ := Aside0.mk (hb); have n2_ := Aside0.mk (ho); clear HO_0; clear HB; clear HO_3; have HO_0 := n0_; have HB := n1_; have HO152 := n2_; clear n0_ n1_ n2_; clear ho hb hg hat))
           go_roundg k2
           case measure => have := HK1.out; have := HK2.out; omega
           case rel => exact ⟨(y150), ((Int.tdiv x4_2 10) % 4294967296), (wrap64 (x5_2 + 1)), (by first | rfl | (simp [*]; done)), (by first | rfl | (simp [*]; done)), H', ⟨by have := HK1.out; have := HK2.out; omega⟩, ⟨by (with_reducible repeat (first | apply Kd.R_alloc | apply Kd.R_drewN | apply Kd.R_drew)); exact HO_0.out⟩, ⟨by (with_reducible repeat (first | apply Kd.R_alloc | apply Kd.R_drewN | apply Kd.R_drew)); exact HO152.out⟩, ⟨by repeat (first | (with_reducible first | exact HB.out | apply below_alloc | apply pw_below_drewN | apply below_drew1) | exact HB.out)⟩⟩
          ·
           rw [if_neg c18] at H
           exact absurd H (by simp)
         ·
          rw [if_neg c17] at H
          have c17b0 : decide (0 < x4_2) = false := decide_eq_false c17
          clear c17
          have H' := Aside0.mk H
          clear H
          obtain ⟨Ao21, co21, eo21⟩ := Kd.R_slice HO_0.out
          subst eo21
          go_wp2
          go_roundg k2
          case measure => have := HK1.out; have := HK2.out; omega
          case rel => exact ⟨(t143), (x3_2), H', ⟨by have := HK1.out; have := HK2.out; omega⟩, ⟨by (with_reducible repeat (first | apply Kd.R_alloc | apply Kd.R_drewN | apply Kd.R_drew)); exact HO_0.out⟩, ⟨by (with_reducible repeat (first | apply Kd.R_alloc | apply Kd.R_drewN | apply Kd.R_drew)); exact HO_3.out⟩, ⟨by repeat (first | (with_reducible first | exact HB.out | apply below_alloc | apply pw_below_drewN | apply below_drew1) | exact HB.out)⟩⟩
       ·
        rw [if_neg c12] at H
        have c12b0 : decide (x5_2 < 9) = false := decide_eq_false c12
        clear c12
        have H' := Aside0.mk H
        clear H
        go_wp2
        go_roundg k2
        case measure => have := HK1.out; have := HK2.out; omega
        case rel => exact ⟨(t143), (x3_2), H', ⟨by have := HK1.out; have := HK2.out; omega⟩, ⟨by (with_reducible repeat (first | apply Kd.R_alloc | apply Kd.R_drewN | apply Kd.R_drew)); exact HO_0.out⟩, ⟨by (with_reducible repeat (first | apply Kd.R_alloc | apply Kd.R_drewN | apply Kd.R_drew)); exact HO_3.out⟩, ⟨by repeat (first | (with_reducible first | exact HB.out | apply below_alloc | apply pw_below_drewN | apply below_drew1) | exact HB.out)⟩⟩
    ·
     rw [if_neg c8] at H
     have c8b0 : decide (0 < (x0_1.length : Int)) = false := decide_eq_false c8
     have c8b1 : decide (0 < x0_1.length) = false := decide_eq_false (by omega)
     clear c8
     have H' := Aside0.mk H
     clear H
     obtain ⟨Ao22, co22, eo22⟩ := Kd.R_slice HO_0.out
     subst eo22
     obtain ⟨Ao23, co23, eo23⟩ := Kd.R_slice HO_3.out
     subst eo23
     go_wp2
     go_loopg [6, 7] k1 (fun kq v6 v7 w' => ∃ (x3_2 : List Int) (x6_2 : Int) (x7_2 : Int), v6 = .int .i64 x6_2 ∧ v7 = .int .i64 x7_2 ∧ Aside0 (bignat_Format.l2 kq x3_2 x6_2 x7_2 = some r) ∧ Aside0 (kq ≤ k1) ∧ Aside0 (Kd.R (Kd.int .u8) 5 w' w.heap.size (fun _ => True) (.slice Ao23 x3_1.length co23) x3_2) ∧ Aside0 (Below w.heap.size w w'))
     case atStart => exact ⟨(x3_1), (0), (wrap64 ((x3_1.length : Int) - 1)), (by first | rfl | (simp [*]; done)), (by first | rfl | (simp [*]; done)), H', ⟨Nat.le_refl _⟩, ⟨by (with_reducible repeat (first | apply Kd.R_alloc | apply Kd.R_drewN | apply Kd.R_drew)); exact HO_3.out⟩, ⟨by repeat (first | (with_reducible first | exact HB.out | apply below_alloc | apply pw_below_drewN | apply below_drew1) | exact HB.out)⟩⟩
     case round =>
      clear H'
      try clear c1
      try clear p2
      try clear c3
      try clear c3b0
      try clear c3b1
      try clear c3b2
      try clear c4
      try clear p6
      try clear c8
      try clear c8b0
      try clear c8b1
      try clear c12
      try clear c12b0
      try clear c13
      try clear c13b0
      try clear c13b1
      try clear c14
      try clear c17
      try clear c17b0
      try clear c18
      try clear p2
      obtain ⟨x3_2, x6_2, x7_2, rfl, rfl, HA, HK2, HO_3, HB⟩ := hrel
      have hl3_2 := (Kd.R_reads' HO_3.out).1
      rw [hl3_2] at HO_3
      (try simp only [hl3_2])
      cases gk with
      | zero => exact absurd HA.out (by simp [bignat_Format.l2])
      | succ k2 =>
       have H := HA.out
       clear HA
       simp only [bignat_Format.l2] at H
       by_cases c24 : x6_2 < x7_2
       ·
        rw [if_pos c24] at H
        have c24b0 : decide (x6_2 < x7_2) = true := decide_eq_true c24
        clear c24
        by_cases c25 : 0 ≤ x7_2
        ·
         rw [if_pos c25] at H
         have c25b0 : decide (0 ≤ x7_2) = true := decide_eq_true c25
         clear c25
         by_cases c26 : x7_2 < (x3_2.length : Int)
         ·
          rw [if_pos c26] at H
          have c26b0 : decide (x7_2 < (x3_2.length : Int)) = true := decide_eq_true c26
          (try (have c26b0h := c26b0; simp only [hl3_2] at c26b0h))
          clear c26
          by_cases c27 : 0 ≤ x6_2
          ·
           rw [if_pos c27] at H
           have c27b0 : decide (0 ≤ x6_2) = true := decide_eq_true c27
           clear c27
           by_cases c28 : x6_2 < (x3_2.length : Int)
           ·
            rw [if_pos c28] at H
            have c28b0 : decide (x6_2 < (x3_2.length : Int)) = true := decide_eq_true c28
            (try (have c28b0h := c28b0; simp only [hl3_2] at c28b0h))
            clear c28
            obtain ⟨y155, hy155⟩ : ∃ y_ : List Int, y_ = (x3_2.set (x6_2 : Int).toNat (rd x3_2 x7_2)) := ⟨_, rfl⟩
            replace H : (bignat_Format.l2 k2 (y155.set (x7_2 : Int).toNat (rd x3_2 x6_2)) (wrap64 (x6_2 + 1)) (wrap64 (x7_2 - 1))) = some r := by first | (rw [hy155]; with_reducible exact H) | (have H2_ := (Option.bind_some _ _).symm.trans H; rw [hy155]; with_reducible exact H2_) | (have H2_ := (Option.bind_some _ _).symm.trans H; with_reducible exact H2_) | with_reducible exact H | (rw [hy155]; exact H) | exact H
            have Ny155 := Aside0.mk hy155
            clear hy155
            obtain ⟨y156, hy156⟩ : ∃ y_ : List Int, y_ = (y155.set (x7_2 : Int).toNat (rd x3_2 x6_2)) := ⟨_, rfl⟩
            replace H : (bignat_Format.l2 k2 y156 (wrap64 (x6_2 + 1)) (wrap64 (x7_2 - 1))) = some r := by first | (rw [hy156]; with_reducible exact H) | (have H2_ := (Option.bind_some _ _).symm.trans H; rw [hy156]; with_reducible exact H2_) | (have H2_ := (Option.bind_some _ _).symm.trans H; with_reducible exact H2_) | with_reducible exact H | (rw [hy156]; exact H) | exact H
            have Ny156 := Aside0.mk hy156
            clear hy156
            have H' := Aside0.mk H
            clear H
            try go_wp2
            have n0_ := Aside0.mk (Kd.R_drew HO_3.out)
            have n1_ := Aside0.mk (below_drew1 HB.out)
            clear HO_3
            clear HB
            have HO_3 := n0_
            have HB := n1_
            clear n0_ n1_
            have p153 : 0 ≤ (x7_2 : Int) := of_decide_eq_true (by first | (with_reducible assumption) | assumption)
            have q153 : x7_2 < (x3_2.length : Int) := of_decide_eq_true (by first | (with_reducible assumption) | assumption)
            obtain ⟨ad153, e153, hx153_0⟩ := Kd.at_int (Kd.R_reads' HO_3.out).2.2 x7_2 p153 q153
            cases e153
            replace p153 := eq_true p153
            replace q153 := eq_true q153
            have p154 : 0 ≤ (x6_2 : Int) := of_decide_eq_true (by first | (with_reducible assumption) | assumption)
            have q154 : x6_2 < (x3_2.length : Int) := of_decide_eq_true (by first | (with_reducible assumption) | assumption)
            obtain ⟨ad154, e154, hx154_0⟩ := Kd.at_int (Kd.R_reads' HO_3.out).2.2 x6_2 p154 q154
            obtain rfl : ad153 = ad154 := (by injection e154)
            replace p154 := eq_true p154
            replace q154 := eq_true q154
            have p29 : 0 ≤ (x6_2 : Int) := of_decide_eq_true (by first | (with_reducible assumption) | assumption)
            have q29 : (x6_2 : Int) < ((x3_2.length : Int) : Int) := of_decide_eq_true (by first | (with_reducible assumption) | assumption)
            obtain ⟨go29, co29, eo29, gb29, gl29, cl29, HG29⟩ := Kd.R_form HO_3.out (by omega)
            (first | cases eo29 | (injection eo29 with ea_ en_ ec_; (first | subst ea_ | (injection ea_ with ea_; subst ea_)); subst ec_; clear en_))
            have GB29 := Aside0.mk gb29
            have GG29 := Aside0.mk HG29
            clear gb29 gl29 HG29
            (first | simp only [add_plain] at hx153_0 | skip)
            (first | simp only [add_plain] at hx154_0 | skip)
            obtain ⟨hx29_0, hf29_0⟩ := Kd.R_celln 0 HO_3.out (x6_2 : Int) p29 q29
            replace p29 := eq_true p29
            replace q29 := eq_true q29
            have HP32 := Kd.R_putn HO_3.out (x6_2 : Int) (rd x3_2 x7_2)
            rw [← Ny155.out] at HP32
            have HQ32 := Aside0.mk HP32
            clear HP32
            have p30 : 0 ≤ (x7_2 : Int) := of_decide_eq_true (by first | (with_reducible assumption) | assumption)
            have q30 : (x7_2 : Int) < ((x3_2.length : Int) : Int) := of_decide_eq_true (by first | (with_reducible assumption) | assumption)
            obtain ⟨hx30_0, hf30_0⟩ := Kd.R_celln 0 HQ32.out (x7_2 : Int) p30 q30
            replace p30 := eq_true p30
            replace q30 := eq_true q30
            have HP33 := Kd.R_putn HQ32.out (x7_2 : Int) (rd x3_2 x6_2)
            rw [← Ny156.out] at HP33
            have HQ33 := Aside0.mk HP33
            clear HP33
            refine start_ (n := 16) (S := fun w' => w'.cell? ⟨go29, (x7_2).toNat, none⟩ = some (.int .u8 (rd x3_2 x7_2)) ∧ w'.cell? ⟨go29, (x6_2).toNat, none⟩ = some (.int .u8 (rd x3_2 x6_2))) (ds := [13, 15]) #[false, false, false, false, false, false, false, false, false, false, false, false, false, false, false, false] (by kernel_rfl) rfl rfl ⟨hx153_0, hx154_0⟩ (fun hHeld => ?_); refine with_tabW bignat_Format.tab16 bignat_Format.bits16 (fun HT_ HW_ => ?_)
            generalize wr.drew = w31 at HO_3 HB GG29 HQ32 HQ33 hf29_0 hf30_0 hx153_0 hx154_0 hx29_0 hx30_0 hHeld ⊢
            refine pure_ (i := 0) (N := some 53) (v := ?_) (a' := ?_) #[true, false, false, false, false, false, false, false, false, false, false, false, false, false, false, false] rfl rfl (any_of HT_.out (by kernel_rfl)) (fun _ _ _ h => h) (Or.inl ⟨by rfl, ?_⟩) ?_ ?_
            rotate_left
            ·
             intro w'
             go_simp
             with_reducible rfl
            rotate_left
            ·
             simp only [Act.put, List.setIfInBounds_toArray, List.set_cons_zero, List.set_cons_succ, i64_w, i32_w]
             rfl
            refine pure_ (i := 1) (N := some 54) (v := ?_) (a' := ?_) #[true, true, false, false, false, false, false, false, false, false, false, false, false, false, false, false] rfl rfl (any_of HT_.out (by kernel_rfl)) (fun _ _ _ h => h) (Or.inl ⟨by rfl, ?_⟩) ?_ ?_
            rotate_left
            ·
             intro w'
             go_simp
             with_reducible rfl
            rotate_left
            ·
             simp only [Act.put, List.setIfInBounds_toArray, List.set_cons_zero, List.set_cons_succ, i64_w, i32_w]
             rfl
            refine pure_ (i := 2) (N := some 55) (v := ?_) (a' := ?_) #[true, true, true, false, false, false, false, false, false, false, false, false, false, false, false, false] rfl rfl (any_of HT_.out (by kernel_rfl)) (fun _ _ _ h => h) (Or.inl ⟨by rfl, ?_⟩) ?_ ?_
            rotate_left
            ·
             intro w'
             go_simp
             with_reducible rfl
            rotate_left
            ·
             simp only [Act.put, List.setIfInBounds_toArray, List.set_cons_zero, List.set_cons_succ, i64_w, i32_w]
             rfl
            refine pure_ (i := 3) (N := some 56) (v := ?_) (a' := ?_) #[true, true, true, true, false, false, false, false, false, false, false, false, false, false, false, false] rfl rfl (any_of HT_.out (by kernel_rfl)) (fun _ _ _ h => h) (Or.inl ⟨by rfl, ?_⟩) ?_ ?_
            rotate_left
            ·
             intro w'
             go_simp
             with_reducible rfl
            rotate_left
            ·
             simp only [Act.put, List.setIfInBounds_toArray, List.set_cons_zero, List.set_cons_succ, i64_w, i32_w]
             rfl
            refine pure_ (i := 4) (N := some 57) (v := ?_) (a' := ?_) #[true, true, true, true, true, false, false, false, false, false, false, false, false, false, false, false] rfl rfl (any_of HT_.out (by kernel_rfl)) (fun _ _ _ h => h) (Or.inl ⟨by rfl, ?_⟩) ?_ ?_
            rotate_left
            ·
             intro w'
             go_simp
             with_reducible rfl
            rotate_left
            ·
             simp only [Act.put, List.setIfInBounds_toArray, List.set_cons_zero, List.set_cons_succ, i64_w, i32_w]
             rfl
            refine pure_ (i := 5) (N := some 58) (v := ?_) (a' := ?_) #[true, true, true, true, true, true, false, false, false, false, false, false, false, false, false, false] rfl rfl (any_of HT_.out (by kernel_rfl)) (fun _ _ _ h => h) (Or.inl ⟨by rfl, ?_⟩) ?_ ?_
            rotate_left
            ·
             intro w'
             go_simp
             with_reducible rfl
            rotate_left
            ·
             simp only [Act.put, List.setIfInBounds_toArray, List.set_cons_zero, List.set_cons_succ, i64_w, i32_w]
             rfl
            refine pure_ (i := 6) (N := some 59) (v := ?_) (a' := ?_) #[true, true, true, true, true, true, true, false, false, false, false, false, false, false, false, false] rfl rfl (any_of HT_.out (by kernel_rfl)) (fun _ _ _ h => h) (Or.inl ⟨by rfl, ?_⟩) ?_ ?_
            rotate_left
            ·
             intro w'
             go_simp
             with_reducible rfl
            rotate_left
            ·
             simp only [Act.put, List.setIfInBounds_toArray, List.set_cons_zero, List.set_cons_succ, i64_w, i32_w]
             rfl
            refine pure_ (i := 8) (N := some 61) (v := ?_) (a' := ?_) #[true, true, true, true, true, true, true, false, true, false, false, false, false, false, false, false] rfl rfl (any_of HT_.out (by kernel_rfl)) (fun _ _ _ h => h) (Or.inl ⟨by rfl, ?_⟩) ?_ ?_
            rotate_left
            ·
             intro w'
             go_simp
             with_reducible rfl
            rotate_left
            ·
             simp only [Act.put, List.setIfInBounds_toArray, List.set_cons_zero, List.set_cons_succ, i64_w, i32_w]
             rfl
            refine pure_ (i := 9) (N := some 62) (v := ?_) (a' := ?_) #[true, true, true, true, true, true, true, false, true, true, false, false, false, false, false, false] rfl rfl (any_of HT_.out (by kernel_rfl)) (fun _ _ _ h => h) (Or.inl ⟨by rfl, ?_⟩) ?_ ?_
            rotate_left
            ·
             intro w'
             go_simp
             with_reducible rfl
            rotate_left
            ·
             simp only [Act.put, List.setIfInBounds_toArray, List.set_cons_zero, List.set_cons_succ, i64_w, i32_w]
             rfl
            refine pure_ (i := 10) (N := some 63) (v := ?_) (a' := ?_) #[true, true, true, true, true, true, true, false, true, true, true, false, false, false, false, false] rfl rfl (any_of HT_.out (by kernel_rfl)) (fun _ _ _ h => h) (Or.inl ⟨by rfl, ?_⟩) ?_ ?_
            rotate_left
            ·
             intro w'
             go_simp
             with_reducible rfl
            rotate_left
            ·
             simp only [Act.put, List.setIfInBounds_toArray, List.set_cons_zero, List.set_cons_succ, i64_w, i32_w]
             rfl
            refine take_ (i := 7) (N := some 60) (v := ?_) (a' := ?_) #[true, true, true, true, true, true, true, true, true, true, true, false, false, false, false, false] rfl rfl (take_ofW HT_.out HW_.out (by kernel_rfl)) (fun _ _ _ h => h) (Or.inl ⟨by rfl, ?_⟩) hHeld ?_ ?_
            rotate_left
            ·
             rintro w' ⟨s0, s1⟩
             go_simp
             with_reducible rfl
            rotate_left
            ·
             simp only [Act.put, List.setIfInBounds_toArray, List.set_cons_zero, List.set_cons_succ, i64_w, i32_w]
             rfl
            refine take_ (i := 11) (N := some 64) (v := ?_) (a' := ?_) #[true, true, true, true, true, true, true, true, true, true, true, true, false, false, false, false] rfl rfl (take_ofW HT_.out HW_.out (by kernel_rfl)) (fun _ _ _ h => h) (Or.inl ⟨by rfl, ?_⟩) hHeld ?_ ?_
            rotate_left
            ·
             rintro w' ⟨s0, s1⟩
             go_simp
             with_reducible rfl
            rotate_left
            ·
             simp only [Act.put, List.setIfInBounds_toArray, List.set_cons_zero, List.set_cons_succ, i64_w, i32_w]
             rfl
            refine pure_ (i := 12) (N := some 65) (v := ?_) (a' := ?_) #[true, true, true, true, true, true, true, true, true, true, true, true, true, false, false, false] rfl rfl (any_of HT_.out (by kernel_rfl)) (fun _ _ _ h => h) (Or.inl ⟨by rfl, ?_⟩) ?_ ?_
            rotate_left
            ·
             intro w'
             go_simp
             with_reducible rfl
            rotate_left
            ·
             simp only [Act.put, List.setIfInBounds_toArray, List.set_cons_zero, List.set_cons_succ, i64_w, i32_w]
             rfl
            refine last_ (i := 13) (N := none) #[true, true, true, true, true, true, true, true, true, true, true, true, true, true, false, false] rfl rfl (one_of HT_.out (by kernel_rfl)) (by decide) (fun K hK => ?_)
            refine skip_ (w1 := ?_) (by rfl) rfl ?_ ?_
            rotate_left
            ·
             go_simp
             rfl
            refine hK.out _ _ ?_
            clear hK K
            refine pure_ (i := 14) (N := some 66) (v := ?_) (a' := ?_) #[true, true, true, true, true, true, true, true, true, true, true, true, true, true, true, false] rfl rfl (any_of HT_.out (by kernel_rfl)) (fun _ _ _ h => h) (Or.inl ⟨by rfl, ?_⟩) ?_ ?_
            rotate_left
            ·
             intro w'
             go_simp
             with_reducible rfl
            rotate_left
            ·
             simp only [Act.put, List.setIfInBounds_toArray, List.set_cons_zero, List.set_cons_succ, i64_w, i32_w]
             rfl
            refine last_ (i := 15) (N := none) #[true, true, true, true, true, true, true, true, true, true, true, true, true, true, true, true] rfl rfl (one_of HT_.out (by kernel_rfl)) (by decide) (fun K hK => ?_)
            refine skip_ (w1 := ?_) (by rfl) rfl ?_ ?_
            rotate_left
            ·
             go_simp
             rfl
            refine hK.out _ _ ?_
            clear hK K
            refine done_ (done_of HT_.out (by kernel_rfl)) ?_
            try go_wp2
            (try simp only [← hl3_2])
            go_roundg k2
            case measure => have := HK1.out; have := HK2.out; omega
            case rel => exact ⟨(y156), (wrap64 (x6_2 + 1)), (wrap64 (x7_2 - 1)), (by first | rfl | (simp [*]; done)), (by first | rfl | (simp [*]; done)), H', ⟨by have := HK1.out; have := HK2.out; omega⟩, ⟨by (try simp only [hl3_2]); (with_reducible repeat (first | apply Kd.R_alloc | apply Kd.R_drewN | apply Kd.R_drew)); exact HQ33.out⟩, ⟨by repeat (first | (with_reducible first | exact HB.out | apply below_alloc | apply pw_below_drewN | apply below_drew1 | refine below_set ?_ GB29.out | refine below_set ?_ GB29.out) | exact HB.out)⟩⟩
           ·
            rw [if_neg c28] at H
            exact absurd H (by simp)
          ·
           rw [if_neg c27] at H
           exact absurd H (by simp)
         ·
          rw [if_neg c26] at H
          exact absurd H (by simp)
        ·
         rw [if_neg c25] at H
         exact absurd H (by simp)
       ·
        rw [if_neg c24] at H
        have c24b0 : decide (x6_2 < x7_2) = false := decide_eq_false c24
        clear c24
        obtain rfl := Option.some.inj H
        have hcv34 := own_string (P := Try.prog) Try.underlying52 Try.underlying5 Try.underlying9 (Kd.own_of_R HO_3.out)
        go_wp2
        go_ret
        exact ⟨by first | rfl | (simp [*, errW_none, errW_some] <;> rfl), by repeat (first | (with_reducible first | exact HB.out | apply below_alloc | apply pw_below_drewN | apply below_drew1) | exact HB.out)⟩

end Go.Proofs.Ytjiaplnpgjicgaa.Q

