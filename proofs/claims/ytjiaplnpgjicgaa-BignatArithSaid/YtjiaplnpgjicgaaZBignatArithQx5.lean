/- Lemmas for the proof of one law of this seat (Qx5). -/
import Derived.Test.YtjiaplnpgjicgaaZBignatArithQx0
import Derived.Test.YtjiaplnpgjicgaaZBignatArithQx3
import Derived.Test.YtjiaplnpgjicgaaZBignatArithQx4
import Derived.Test.YtjiaplnpgjicgaaZBignatArithSq
namespace Go.Proofs.Ytjiaplnpgjicgaa.Q
open Go.RowKit Go.Proofs.YtjiaplnpgjicgaaW.PrintWords Go.Proofs.YtjiaplnpgjicgaaW.PrintLast Go.Proofs.YtjiaplnpgjicgaaW.PrintMore
attribute [local go_sem] max2_int min2_int max_two min_two max_three min_three max_four min_four   -- for this text's walks alone
set_option linter.unusedVariables false
set_option linter.unusedSimpArgs false

def credenceref1_NatDigits.l0 : Nat → ByteArray → List Int → Int → Option (List Int)
 | 0, _, _, _ => none
 | k + 1, x0, x3, x4 => if x4 < (x0.size : Int) then ((credenceref1_NatOf.f k 10).bind fun t215 => ((credenceref1_NatMul.f k x3 t215).bind fun t218 => (if 0 ≤ x4 then ((credenceref1_NatOf.f k (((bt x0 x4) - 48) % 256)).bind fun t221 => ((credenceref1_NatAdd.f k t218 t221).bind fun t224 => (credenceref1_NatDigits.l0 k x0 t224 (wrap64 (x4 + 1))))) else (none)))) else (some x3)
def credenceref1_NatDigits.f (k : Nat) (a0 : ByteArray) : Option (List Int) := credenceref1_NatDigits.l0 k a0 ([] : List Int) 0
theorem credenceref1_NatDigits.mono_l : ∀ k, (∀ y0 y1 y2, LeO (credenceref1_NatDigits.l0 k y0 y1 y2) (credenceref1_NatDigits.l0 (k + 1) y0 y1 y2))
 | 0 => fun _ _ _ r h => by simp [credenceref1_NatDigits.l0] at h
 | k + 1 => by
  have ih0 := credenceref1_NatDigits.mono_l k
  ·
   intro y0 y1 y2
   unfold credenceref1_NatDigits.l0
   repeat' first
   | (with_reducible exact ih0 _ _ _)
   | (with_reducible exact credenceref1_NatAdd.mono _ _ _)
   | (with_reducible exact credenceref1_NatMul.mono _ _ _)
   | (with_reducible exact credenceref1_NatOf.mono _ _)
   | (with_reducible exact LeO.refl _)
   | (with_reducible exact LeO.none _)
   | (with_reducible refine LeO.ite ?_ ?_)
   | (with_reducible refine LeO.bind ?_ (fun _ => ?_))
   | exact ih0 _ _ _
   | exact credenceref1_NatAdd.mono _ _ _
   | exact credenceref1_NatMul.mono _ _ _
   | exact credenceref1_NatOf.mono _ _
   | exact LeO.none _
   | refine LeO.ite ?_ ?_
   | refine LeO.bind ?_ (fun _ => ?_)
theorem credenceref1_NatDigits.mono : ∀ a0 k, LeO (credenceref1_NatDigits.f k a0) (credenceref1_NatDigits.f (k + 1) a0) := by
 intro a0 k
 have ih0 := credenceref1_NatDigits.mono_l k
 unfold credenceref1_NatDigits.f
 repeat' first
   | (with_reducible exact ih0 _ _ _)
   | (with_reducible exact credenceref1_NatAdd.mono _ _ _)
   | (with_reducible exact credenceref1_NatMul.mono _ _ _)
   | (with_reducible exact credenceref1_NatOf.mono _ _)
   | (with_reducible exact LeO.refl _)
   | (with_reducible exact LeO.none _)
   | (with_reducible refine LeO.ite ?_ ?_)
   | (with_reducible refine LeO.bind ?_ (fun _ => ?_))
   | exact ih0 _ _ _
   | exact credenceref1_NatAdd.mono _ _ _
   | exact credenceref1_NatMul.mono _ _ _
   | exact credenceref1_NatOf.mono _ _
   | exact LeO.none _
   | refine LeO.ite ?_ ?_
   | refine LeO.bind ?_ (fun _ => ?_)
def credenceref1_NatDigits.T5 : Bool × List (List Nat × List Nat) := (true, [([], []), ([], []), ([0, 1, 1], [0, 1]), ([], []), ([], []), ([3, 4], [3, 4]), ([5], [5]), ([6], [6]), ([7, 2], [7]), ([2, 8, 8], [2, 8]), ([9, 9, 0, 1, 2, 3, 4, 5, 6, 7, 8, 9], [0, 9])])
def credenceref1_NatDigits.B5 : List Nat := [0, 0, 3, 0, 0, 24, 56, 120, 255, 511, 1023]
theorem credenceref1_NatDigits.tab5 : rtab .any (opsOf Try.f44 5) = credenceref1_NatDigits.T5 := by kernel_rfl
theorem credenceref1_NatDigits.bits5 : waitsOk credenceref1_NatDigits.T5.2 credenceref1_NatDigits.B5 = true := by kernel_rfl
set_option maxHeartbeats 8000000 in
set_option maxRecDepth 100000 in
theorem credenceref1_NatDigits.calls (k : Nat) (a0 : ByteArray) (r : List Int) (w : World) (h : credenceref1_NatDigits.f k a0 = some r) :
  Calls Try.prog 44 #[.string a0] w fun e w' => ∃ v0_ : Value, e = .returned (v0_) ∧ Kd.R (Kd.int .u32) 43 w' w.heap.size (fun _ => True) v0_ r ∧ Below w.heap.size w w' := by
 have HB := Aside0.mk (Below.refl w.heap.size w)
 have H : (credenceref1_NatDigits.l0 k a0 ([] : List Int) 0) = some r := h
 clear h
 have H' := Aside0.mk H
 clear H
 go_enter Try.func44, Try.ntmps44
 go_wp2
 go_loopg [3, 4] k (fun kq v3 v4 w' => ∃ (x3_1 : List Int) (x4_1 : Int), v4 = .int .i64 x4_1 ∧ Aside0 (credenceref1_NatDigits.l0 kq a0 x3_1 x4_1 = some r) ∧ Aside0 (kq ≤ k) ∧ Aside0 (Kd.R (Kd.int .u32) 43 w' w.heap.size (fun _ => True) v3 x3_1) ∧ Aside0 (Below w.heap.size w w'))
 case atStart => exact ⟨(([] : List Int)), (0), (by first | rfl | (simp [*]; done)), H', ⟨Nat.le_refl _⟩, ⟨by first | exact Kd.R_nil _ _ _ _ _ | exact Kd.V_nil _ _ _ _ _⟩, ⟨by repeat (first | (with_reducible first | exact HB.out | apply below_alloc | apply pw_below_drewN | apply below_drew1) | exact HB.out)⟩⟩
 case round =>
  clear H'
  obtain ⟨x3_1, x4_1, rfl, HA, HK1, HO_3, HB⟩ := hrel
  cases gk with
  | zero => exact absurd HA.out (by simp [credenceref1_NatDigits.l0])
  | succ k1 =>
   have H := HA.out
   clear HA
   simp only [credenceref1_NatDigits.l0] at H
   by_cases c2 : x4_1 < (a0.size : Int)
   ·
    rw [if_pos c2] at H
    have c2b0 : decide (x4_1 < (a0.size : Int)) = true := decide_eq_true c2
    clear c2
    replace H := Option.bind_eq_some_iff.mp H
    obtain ⟨t215, A30, H⟩ := H
    replace H : ((credenceref1_NatMul.f k1 x3_1 t215).bind fun t218 => (if 0 ≤ x4_1 then ((credenceref1_NatOf.f k1 (((bt a0 x4_1) - 48) % 256)).bind fun t221 => ((credenceref1_NatAdd.f k1 t218 t221).bind fun t224 => (credenceref1_NatDigits.l0 k1 a0 t224 (wrap64 (x4_1 + 1))))) else (none))) = some r := H
    have A3 := Aside0.mk A30
    clear A30
    replace H := Option.bind_eq_some_iff.mp H
    obtain ⟨t218, A40, H⟩ := H
    replace H : (if 0 ≤ x4_1 then ((credenceref1_NatOf.f k1 (((bt a0 x4_1) - 48) % 256)).bind fun t221 => ((credenceref1_NatAdd.f k1 t218 t221).bind fun t224 => (credenceref1_NatDigits.l0 k1 a0 t224 (wrap64 (x4_1 + 1))))) else (none)) = some r := H
    have A4 := Aside0.mk A40
    clear A40
    by_cases c5 : 0 ≤ x4_1
    ·
     rw [if_pos c5] at H
     have c5b0 : decide (0 ≤ x4_1) = true := decide_eq_true c5
     clear c5
     replace H := Option.bind_eq_some_iff.mp H
     obtain ⟨t221, A70, H⟩ := H
     replace H : ((credenceref1_NatAdd.f k1 t218 t221).bind fun t224 => (credenceref1_NatDigits.l0 k1 a0 t224 (wrap64 (x4_1 + 1)))) = some r := H
     have A7 := Aside0.mk A70
     clear A70
     replace H := Option.bind_eq_some_iff.mp H
     obtain ⟨t224, A80, H⟩ := H
     replace H : (credenceref1_NatDigits.l0 k1 a0 t224 (wrap64 (x4_1 + 1))) = some r := H
     have A8 := Aside0.mk A80
     clear A80
     have H' := Aside0.mk H
     clear H
     try go_wp2
     have n0_ := Aside0.mk (Kd.R_drew HO_3.out)
     have n1_ := Aside0.mk (below_drew1 HB.out)
     clear HO_3
     clear HB
     have HO_3 := n0_
     have HB := n1_
     clear n0_ n1_
     have p6 : 0 ≤ (x4_1 : Int) := of_decide_eq_true (by first | (with_reducible assumption) | assumption)
     have q6 : x4_1 < (a0.size : Int) := of_decide_eq_true (by first | (with_reducible assumption) | assumption)
     have hx6 := bt_at a0 x4_1
     replace p6 := eq_true p6
     replace q6 := eq_true q6
     refine start_ (n := 11) (S := fun w' => True) (ds := []) #[false, false, false, false, false, false, false, false, false, false, false] (by kernel_rfl) rfl rfl trivial (fun hHeld => ?_); refine with_tabW credenceref1_NatDigits.tab5 credenceref1_NatDigits.bits5 (fun HT_ HW_ => ?_)
     generalize wr.drew = w9 at HO_3 HB hHeld ⊢
     refine pure_ (i := 0) (N := some 11) (v := ?_) (a' := ?_) #[true, false, false, false, false, false, false, false, false, false, false] rfl rfl (any_of HT_.out (by kernel_rfl)) (fun _ _ _ h => h) (Or.inl ⟨by rfl, ?_⟩) ?_ ?_
     rotate_left
     ·
      intro w'
      go_simp
      with_reducible rfl
     rotate_left
     ·
      simp only [Act.put, List.setIfInBounds_toArray, List.set_cons_zero, List.set_cons_succ, i64_w, i32_w]
      rfl
     refine pure_ (i := 3) (N := some 14) (v := ?_) (a' := ?_) #[true, false, false, true, false, false, false, false, false, false, false] rfl rfl (any_of HT_.out (by kernel_rfl)) (fun _ _ _ h => h) (Or.inl ⟨by rfl, ?_⟩) ?_ ?_
     rotate_left
     ·
      intro w'
      go_simp
      with_reducible rfl
     rotate_left
     ·
      simp only [Act.put, List.setIfInBounds_toArray, List.set_cons_zero, List.set_cons_succ, i64_w, i32_w]
      rfl
     refine pure_ (i := 4) (N := some 15) (v := ?_) (a' := ?_) #[true, false, false, true, true, false, false, false, false, false, false] rfl rfl (any_of HT_.out (by kernel_rfl)) (fun _ _ _ h => h) (Or.inl ⟨by rfl, ?_⟩) ?_ ?_
     rotate_left
     ·
      intro w'
      go_simp
      with_reducible rfl
     rotate_left
     ·
      simp only [Act.put, List.setIfInBounds_toArray, List.set_cons_zero, List.set_cons_succ, i64_w, i32_w]
      rfl
     refine take_ (i := 5) (N := some 16) (v := ?_) (a' := ?_) #[true, false, false, true, true, true, false, false, false, false, false] rfl rfl (take_ofW HT_.out HW_.out (by kernel_rfl)) (fun _ _ _ h => h) (Or.inl ⟨by rfl, ?_⟩) hHeld ?_ ?_
     rotate_left
     ·
      intro w' _
      go_simp
      with_reducible rfl
     rotate_left
     ·
      simp only [Act.put, List.setIfInBounds_toArray, List.set_cons_zero, List.set_cons_succ, i64_w, i32_w]
      rfl
     refine pure_ (i := 6) (N := some 17) (v := ?_) (a' := ?_) #[true, false, false, true, true, true, true, false, false, false, false] rfl rfl (any_of HT_.out (by kernel_rfl)) (fun _ _ _ h => h) (Or.inl ⟨by rfl, ?_⟩) ?_ ?_
     rotate_left
     ·
      intro w'
      go_simp
      with_reducible rfl
     rotate_left
     ·
      simp only [Act.put, List.setIfInBounds_toArray, List.set_cons_zero, List.set_cons_succ, i64_w, i32_w]
      rfl
     refine pure_ (i := 7) (N := some 18) (v := ?_) (a' := ?_) #[true, false, false, true, true, true, true, true, false, false, false] rfl rfl (any_of HT_.out (by kernel_rfl)) (fun _ _ _ h => h) (Or.inl ⟨by rfl, ?_⟩) ?_ ?_
     rotate_left
     ·
      intro w'
      go_simp
      with_reducible rfl
     rotate_left
     ·
      simp only [Act.put, List.setIfInBounds_toArray, List.set_cons_zero, List.set_cons_succ, i64_w, i32_w]
      rfl
     refine one_ (i := 1) (N := some 12) #[true, true, false, true, true, true, true, true, false, false, false] rfl rfl (one_of HT_.out (by kernel_rfl)) (by decide) (fun K hK => ?_)
     refine goes_ Try.func34 (by kernel_rfl) rfl #[.int .u64 10] (by rfl) rfl rfl (by first | rfl | (go_simp; first | done | rfl | ((try simp only [IntKind.wrap_u8, IntKind.wrap_u32, IntKind.wrap_u64]); omega))) ?_
     with_reducible refine (credenceref1_NatOf.calls k1 10 t215 _ A3.out).mono ?_
     rintro e w10 ⟨v216, rfl, ho0, hb⟩
     refine ⟨_, rfl, ?_⟩
     have n0_ := Aside0.mk (Kd.R_elder' (zr HO_3 rfl) (Kd.R_base ho0) hb)
     have n1_ := Aside0.mk (Kd.R_lower (Kd.R_new' ho0 (Kd.R_lt (zr HO_3 rfl))) (below_size (zb HB rfl)))
     have n2_ := Aside0.mk (below_step (zb HB rfl) hb)
     clear HO_3
     clear HB
     have HO_3 := n0_
     have HO217 := n1_
     have HB := n2_
     clear n0_ n1_ n2_
     obtain ⟨Ao11, co11, eo11⟩ := Kd.R_slice HO_3.out
     (first | subst eo11 | (injection eo11 with f1_ f2_ f3_; have f4_ := f1_.symm; have f5_ := f3_.symm; clear f1_ f2_ f3_; subst f4_; subst f5_))
     obtain ⟨Ao12, co12, eo12⟩ := Kd.R_slice HO217.out
     (first | subst eo12 | (injection eo12 with f1_ f2_ f3_; have f4_ := f1_.symm; have f5_ := f3_.symm; clear f1_ f2_ f3_; subst f4_; subst f5_))
     refine hK.out _ _ trivial (fun hHeld => ?_)
     clear hK K
     refine norm_ (a' := ?_) ?_ ?_
     rotate_left
     ·
      show Act.put _ (some 12) _ = _
      simp only [Act.put, List.setIfInBounds_toArray, List.set_cons_zero, List.set_cons_succ, i64_w, i32_w]
      rfl
     refine one_ (i := 2) (N := some 13) #[true, true, true, true, true, true, true, true, false, false, false] rfl rfl (one_of HT_.out (by kernel_rfl)) (by decide) (fun K hK => ?_)
     refine goes_ Try.func39 (by kernel_rfl) rfl #[.slice Ao11 x3_1.length co11, .slice Ao12 t215.length co12] (by rfl) rfl rfl (by first | rfl | (go_simp; first | done | rfl | ((try simp only [IntKind.wrap_u8, IntKind.wrap_u32, IntKind.wrap_u64]); omega))) ?_
     with_reducible refine (credenceref1_NatMul.calls k1 _ _ x3_1 _ _ t215 t218 _ ?side1 ?side2 ?side3 ?side4 A4.out).mono ?_
     (case side1 => repeat first | exact (Kd.R_reads' HO_3.out).2.2 | refine Kd.C_drewN ?_ _ | refine Kd.C_alloc ?_ _ | refine Kd.C_drew ?_)
     (case side2 => exact (Kd.R_reads' HO_3.out).2.1)
     (case side3 => repeat first | exact (Kd.R_reads' HO217.out).2.2 | refine Kd.C_drewN ?_ _ | refine Kd.C_alloc ?_ _ | refine Kd.C_drew ?_)
     (case side4 => exact (Kd.R_reads' HO217.out).2.1)
     rintro e w13 ⟨v219, rfl, ho0, hb⟩
     refine ⟨_, rfl, ?_⟩
     have n0_ := Aside0.mk (Kd.R_elder' (zr HO_3 rfl) (Kd.R_base ho0) hb)
     have n1_ := Aside0.mk (Kd.R_elder' (zr HO217 rfl) (Kd.R_base ho0) hb)
     have n2_ := Aside0.mk (Kd.R_lower (Kd.R_new' (Kd.R_new' ho0 (Kd.R_lt (zr HO_3 rfl))) (Kd.R_lt (zr HO217 rfl))) (below_size (zb HB rfl)))
     have n3_ := Aside0.mk (below_step (zb HB rfl) hb)
     clear HO_3
     clear HO217
     clear HB
     have HO_3 := n0_
     have HO217 := n1_
     have HO220 := n2_
     have HB := n3_
     clear n0_ n1_ n2_ n3_
     refine hK.out _ _ trivial (fun hHeld => ?_)
     clear hK K
     refine norm_ (a' := ?_) ?_ ?_
     rotate_left
     ·
      show Act.put _ (some 13) _ = _
      simp only [Act.put, List.setIfInBounds_toArray, List.set_cons_zero, List.set_cons_succ, i64_w, i32_w]
      rfl
     refine one_ (i := 8) (N := some 19) #[true, true, true, true, true, true, true, true, true, false, false] rfl rfl (one_of HT_.out (by kernel_rfl)) (by decide) (fun K hK => ?_)
     refine goes_ Try.func34 (by kernel_rfl) rfl #[.int .u64 (((bt a0 x4_1) - 48) % 256)] (by rfl) rfl rfl (by first | rfl | (go_simp; first | done | rfl | ((try simp only [IntKind.wrap_u8, IntKind.wrap_u32, IntKind.wrap_u64]); omega))) ?_
     with_reducible refine (credenceref1_NatOf.calls k1 (((bt a0 x4_1) - 48) % 256) t221 _ A7.out).mono ?_
     rintro e w14 ⟨v222, rfl, ho0, hb⟩
     refine ⟨_, rfl, ?_⟩
     have n0_ := Aside0.mk (Kd.R_elder' (zr HO_3 rfl) (Kd.R_base ho0) hb)
     have n1_ := Aside0.mk (Kd.R_elder' (zr HO217 rfl) (Kd.R_base ho0) hb)
     have n2_ := Aside0.mk (Kd.R_elder' (zr HO220 rfl) (Kd.R_base ho0) hb)
     have n3_ := Aside0.mk (Kd.R_lower (Kd.R_new' (Kd.R_new' (Kd.R_new' ho0 (Kd.R_lt (zr HO_3 rfl))) (Kd.R_lt (zr HO217 rfl))) (Kd.R_lt (zr HO220 rfl))) (below_size (zb HB rfl)))
     have n4_ := Aside0.mk (below_step (zb HB rfl) hb)
     clear HO_3
     clear HO217
     clear HO220
     clear HB
     have HO_3 := n0_
     have HO217 := n1_
     have HO220 := n2_
     have HO223 := n3_
     have HB := n4_
     clear n0_ n1_ n2_ n3_ n4_
     obtain ⟨Ao15, co15, eo15⟩ := Kd.R_slice HO220.out
     (first | subst eo15 | (injection eo15 with f1_ f2_ f3_; have f4_ := f1_.symm; have f5_ := f3_.symm; clear f1_ f2_ f3_; subst f4_; subst f5_))
     obtain ⟨Ao16, co16, eo16⟩ := Kd.R_slice HO223.out
     (first | subst eo16 | (injection eo16 with f1_ f2_ f3_; have f4_ := f1_.symm; have f5_ := f3_.symm; clear f1_ f2_ f3_; subst f4_; subst f5_))
     refine hK.out _ _ trivial (fun hHeld => ?_)
     clear hK K
     refine norm_ (a' := ?_) ?_ ?_
     rotate_left
     ·
      show Act.put _ (some 19) _ = _
      simp only [Act.put, List.setIfInBounds_toArray, List.set_cons_zero, List.set_cons_succ, i64_w, i32_w]
      rfl
     refine one_ (i := 9) (N := some 20) #[true, true, true, true, true, true, true, true, true, true, false] rfl rfl (one_of HT_.out (by kernel_rfl)) (by decide) (fun K hK => ?_)
     refine goes_ Try.func38 (by kernel_rfl) rfl #[.slice Ao15 t218.length co15, .slice Ao16 t221.length co16] (by rfl) rfl rfl (by first | rfl | (go_simp; first | done | rfl | ((try simp only [IntKind.wrap_u8, IntKind.wrap_u32, IntKind.wrap_u64]); omega))) ?_
     with_reducible refine (credenceref1_NatAdd.calls k1 _ _ t218 _ _ t221 t224 _ ?side1 ?side2 ?side3 ?side4 A8.out).mono ?_
     (case side1 => repeat first | exact (Kd.R_reads' HO220.out).2.2 | refine Kd.C_drewN ?_ _ | refine Kd.C_alloc ?_ _ | refine Kd.C_drew ?_)
     (case side2 => exact (Kd.R_reads' HO220.out).2.1)
     (case side3 => repeat first | exact (Kd.R_reads' HO223.out).2.2 | refine Kd.C_drewN ?_ _ | refine Kd.C_alloc ?_ _ | refine Kd.C_drew ?_)
     (case side4 => exact (Kd.R_reads' HO223.out).2.1)
     rintro e w17 ⟨v225, rfl, ho0, hb⟩
     refine ⟨_, rfl, ?_⟩
     have n0_ := Aside0.mk (Kd.R_elder' (zr HO_3 rfl) (Kd.R_base ho0) hb)
     have n1_ := Aside0.mk (Kd.R_elder' (zr HO217 rfl) (Kd.R_base ho0) hb)
     have n2_ := Aside0.mk (Kd.R_elder' (zr HO220 rfl) (Kd.R_base ho0) hb)
     have n3_ := Aside0.mk (Kd.R_elder' (zr HO223 rfl) (Kd.R_base ho0) hb)
     have n4_ := Aside0.mk (Kd.R_lower (Kd.R_new' (Kd.R_new' (Kd.R_new' (Kd.R_new' ho0 (Kd.R_lt (zr HO_3 rfl))) (Kd.R_lt (zr HO217 rfl))) (Kd.R_lt (zr HO220 rfl))) (Kd.R_lt (zr HO223 rfl))) (below_size (zb HB rfl)))
     have n5_ := Aside0.mk (below_step (zb HB rfl) hb)
     clear HO_3
     clear HO217
     clear HO220
     clear HO223
     clear HB
     have HO_3 := n0_
     have HO217 := n1_
     have HO220 := n2_
     have HO223 := n3_
     have HO226 := n4_
     have HB := n5_
     clear n0_ n1_ n2_ n3_ n4_ n5_
     refine hK.out _ _ trivial (fun hHeld => ?_)
     clear hK K
     refine norm_ (a' := ?_) ?_ ?_
     rotate_left
     ·
      show Act.put _ (some 20) _ = _
      simp only [Act.put, List.setIfInBounds_toArray, List.set_cons_zero, List.set_cons_succ, i64_w, i32_w]
      rfl
     refine pure_ (i := 10) (N := some 3) (v := ?_) (a' := ?_) #[true, true, true, true, true, true, true, true, true, true, true] rfl rfl (any_of HT_.out (by kernel_rfl)) (fun _ _ _ h => h) (Or.inl ⟨by rfl, ?_⟩) ?_ ?_
     rotate_left
     ·
      intro w'
      go_simp
      with_reducible rfl
     rotate_left
     ·
      simp only [Act.put, List.setIfInBounds_toArray, List.set_cons_zero, List.set_cons_succ, i64_w, i32_w]
      rfl
     refine done_ (done_of HT_.out (by kernel_rfl)) ?_
     try go_wp2
     go_roundg k1
     case measure => have := HK1.out; omega
     case rel => exact ⟨(t224), (wrap64 (x4_1 + 1)), (by first | rfl | (simp [*]; done)), H', ⟨by have := HK1.out; omega⟩, ⟨by (with_reducible repeat (first | apply Kd.R_alloc | apply Kd.R_drewN | apply Kd.R_drew)); exact Kd.R_mono HO226.out (fun _ hk => trivial)⟩, ⟨by repeat (first | (with_reducible first | exact HB.out | apply below_alloc | apply pw_below_drewN | apply below_drew1) | exact HB.out)⟩⟩
    ·
     rw [if_neg c5] at H
     exact absurd H (by simp)
   ·
    rw [if_neg c2] at H
    have c2b0 : decide (x4_1 < (a0.size : Int)) = false := decide_eq_false c2
    clear c2
    obtain rfl := Option.some.inj H
    go_wp2
    go_ret
    exact ⟨_, by first | rfl | (simp [*, errW_none, errW_some] <;> rfl), by (with_reducible repeat (first | apply Kd.R_alloc | apply Kd.R_drewN | apply Kd.R_drew)); exact HO_3.out, by repeat (first | (with_reducible first | exact HB.out | apply below_alloc | apply pw_below_drewN | apply below_drew1) | exact HB.out)⟩

def credenceref1_NatParse.f (k : Nat) (a0 : ByteArray) : Option (List Int × Int) := if (a0.size : Int) > 4000 then (some (([] : List Int), 4)) else ((credenceref1_Digits.f k a0).bind fun t227 => (if t227 = true then (if (a0.size : Int) > 1 then (if 0 < (a0.size : Int) then (if (bt a0 0) = 48 then (some (([] : List Int), 2)) else ((credenceref1_NatDigits.f k a0).bind fun t228 => (some (t228, 0)))) else (none)) else ((credenceref1_NatDigits.f k a0).bind fun t231 => (some (t231, 0)))) else (some (([] : List Int), 2))))
theorem credenceref1_NatParse.mono : ∀ a0 k, LeO (credenceref1_NatParse.f k a0) (credenceref1_NatParse.f (k + 1) a0) := by
 intro a0 k
 unfold credenceref1_NatParse.f
 repeat' first
   | (with_reducible exact credenceref1_Digits.mono _ _)
   | (with_reducible exact credenceref1_NatDigits.mono _ _)
   | (with_reducible exact LeO.refl _)
   | (with_reducible exact LeO.none _)
   | (with_reducible refine LeO.ite ?_ ?_)
   | (with_reducible refine LeO.bind ?_ (fun _ => ?_))
   | exact credenceref1_Digits.mono _ _
   | exact credenceref1_NatDigits.mono _ _
   | exact LeO.none _
   | refine LeO.ite ?_ ?_
   | refine LeO.bind ?_ (fun _ => ?_)

def credenceref1_small.l0 : Nat → List Int → Int → List Int → Int → Int → Option (List Int × Int)
 | 0, _, _, _, _, _ => none
 | k + 1, x0, x1, x6, x7, x8 => if x8 ≥ 0 then (if 0 ≤ x8 then (if x8 < (x0.length : Int) then (if x1 = 0 then (none) else (if x8 < (x6.length : Int) then (credenceref1_small.l0 k x0 x1 (x6.set (x8 : Int).toNat ((IntKind.u64.wrap (Int.tdiv (IntKind.u64.wrap ((IntKind.u64.wrap (x7 * 4294967296)) + (IntKind.u64.wrap (rd x0 x8)))) x1)) % 4294967296)) (Int.tmod (IntKind.u64.wrap ((IntKind.u64.wrap (x7 * 4294967296)) + (IntKind.u64.wrap (rd x0 x8)))) x1) (wrap64 (x8 - 1))) else (none))) else (none)) else (none)) else ((credenceref1_NatNorm.f k x6).bind fun t239 => (some (t239, x7)))
def credenceref1_small.f (k : Nat) (l0 : List Int) (a1 : Int) : Option (List Int × Int) := if 0 ≤ (l0.length : Int) then (if ((l0.length : Int) : Int).toNat ≤ 70368744177664 then (credenceref1_small.l0 k l0 a1 (List.replicate ((l0.length : Int) : Int).toNat 0) 0 (wrap64 ((l0.length : Int) - 1))) else (none)) else (none)
theorem credenceref1_small.mono_l : ∀ k, (∀ y0 y1 y2 y3 y4, LeO (credenceref1_small.l0 k y0 y1 y2 y3 y4) (credenceref1_small.l0 (k + 1) y0 y1 y2 y3 y4))
 | 0 => fun _ _ _ _ _ r h => by simp [credenceref1_small.l0] at h
 | k + 1 => by
  have ih0 := credenceref1_small.mono_l k
  ·
   intro y0 y1 y2 y3 y4
   unfold credenceref1_small.l0
   repeat' first
   | (with_reducible exact ih0 _ _ _ _ _)
   | (with_reducible exact credenceref1_NatNorm.mono _ _)
   | (with_reducible exact LeO.refl _)
   | (with_reducible exact LeO.none _)
   | (with_reducible refine LeO.ite ?_ ?_)
   | (with_reducible refine LeO.bind ?_ (fun _ => ?_))
   | exact ih0 _ _ _ _ _
   | exact credenceref1_NatNorm.mono _ _
   | exact LeO.none _
   | refine LeO.ite ?_ ?_
   | refine LeO.bind ?_ (fun _ => ?_)
theorem credenceref1_small.mono : ∀ a0 a1 k, LeO (credenceref1_small.f k a0 a1) (credenceref1_small.f (k + 1) a0 a1) := by
 intro a0 a1 k
 have ih0 := credenceref1_small.mono_l k
 unfold credenceref1_small.f
 repeat' first
   | (with_reducible exact ih0 _ _ _ _ _)
   | (with_reducible exact credenceref1_NatNorm.mono _ _)
   | (with_reducible exact LeO.refl _)
   | (with_reducible exact LeO.none _)
   | (with_reducible refine LeO.ite ?_ ?_)
   | (with_reducible refine LeO.bind ?_ (fun _ => ?_))
   | exact ih0 _ _ _ _ _
   | exact credenceref1_NatNorm.mono _ _
   | exact LeO.none _
   | refine LeO.ite ?_ ?_
   | refine LeO.bind ?_ (fun _ => ?_)

def credenceref1_NatFormat.l0 : Nat → List Int → ByteArray → Option (ByteArray)
 | 0, _, _ => none
 | k + 1, x3, x4 => if (x3.length : Int) > 0 then ((credenceref1_small.f k x3 10).bind fun bt245 => ((some (([(IntKind.u64.wrap (48 + bt245.2)) % 256] : List Int) : List Int)).bind fun y249 => (if (strOfNums y249).size + x4.size ≤ 9223372036854775807 then (credenceref1_NatFormat.l0 k bt245.1 ((strOfNums y249) ++ x4)) else (none)))) else (some x4)
def credenceref1_NatFormat.f (k : Nat) (l0 : List Int) : Option (ByteArray) := (credenceref1_NatNorm.f k l0).bind fun t242 => (if (t242.length : Int) = 0 then (some (⟨#[48]⟩ : ByteArray)) else (credenceref1_NatFormat.l0 k t242 (⟨#[]⟩ : ByteArray)))
theorem credenceref1_NatFormat.mono_l : ∀ k, (∀ y0 y1, LeO (credenceref1_NatFormat.l0 k y0 y1) (credenceref1_NatFormat.l0 (k + 1) y0 y1))
 | 0 => fun _ _ r h => by simp [credenceref1_NatFormat.l0] at h
 | k + 1 => by
  have ih0 := credenceref1_NatFormat.mono_l k
  ·
   intro y0 y1
   unfold credenceref1_NatFormat.l0
   repeat' first
   | (with_reducible exact ih0 _ _)
   | (with_reducible exact credenceref1_NatNorm.mono _ _)
   | (with_reducible exact credenceref1_small.mono _ _ _)
   | (with_reducible exact LeO.refl _)
   | (with_reducible exact LeO.none _)
   | (with_reducible refine LeO.ite ?_ ?_)
   | (with_reducible refine LeO.bind ?_ (fun _ => ?_))
   | exact ih0 _ _
   | exact credenceref1_NatNorm.mono _ _
   | exact credenceref1_small.mono _ _ _
   | exact LeO.none _
   | refine LeO.ite ?_ ?_
   | refine LeO.bind ?_ (fun _ => ?_)
theorem credenceref1_NatFormat.mono : ∀ a0 k, LeO (credenceref1_NatFormat.f k a0) (credenceref1_NatFormat.f (k + 1) a0) := by
 intro a0 k
 have ih0 := credenceref1_NatFormat.mono_l k
 unfold credenceref1_NatFormat.f
 repeat' first
   | (with_reducible exact ih0 _ _)
   | (with_reducible exact credenceref1_NatNorm.mono _ _)
   | (with_reducible exact credenceref1_small.mono _ _ _)
   | (with_reducible exact LeO.refl _)
   | (with_reducible exact LeO.none _)
   | (with_reducible refine LeO.ite ?_ ?_)
   | (with_reducible refine LeO.bind ?_ (fun _ => ?_))
   | exact ih0 _ _
   | exact credenceref1_NatNorm.mono _ _
   | exact credenceref1_small.mono _ _ _
   | exact LeO.none _
   | refine LeO.ite ?_ ?_
   | refine LeO.bind ?_ (fun _ => ?_)

def credenceref1_NatSame.l0 : Nat → List Int → List Int → Int → Option (Bool)
 | 0, _, _, _ => none
 | k + 1, x0, x1, x5 => if x5 < (x0.length : Int) then (if 0 ≤ x5 then (if x5 < (x1.length : Int) then (if (rd x0 x5) = (rd x1 x5) then (credenceref1_NatSame.l0 k x0 x1 (wrap64 (x5 + 1))) else (some false)) else (none)) else (none)) else (some true)
def credenceref1_NatSame.f (k : Nat) (l0 : List Int) (l1 : List Int) : Option (Bool) := if (l0.length : Int) = (l1.length : Int) then (credenceref1_NatSame.l0 k l0 l1 0) else (some false)
theorem credenceref1_NatSame.mono_l : ∀ k, (∀ y0 y1 y2, LeO (credenceref1_NatSame.l0 k y0 y1 y2) (credenceref1_NatSame.l0 (k + 1) y0 y1 y2))
 | 0 => fun _ _ _ r h => by simp [credenceref1_NatSame.l0] at h
 | k + 1 => by
  have ih0 := credenceref1_NatSame.mono_l k
  ·
   intro y0 y1 y2
   unfold credenceref1_NatSame.l0
   repeat' first
   | (with_reducible exact ih0 _ _ _)
   | (with_reducible exact LeO.refl _)
   | (with_reducible exact LeO.none _)
   | (with_reducible refine LeO.ite ?_ ?_)
   | (with_reducible refine LeO.bind ?_ (fun _ => ?_))
   | exact ih0 _ _ _
   | exact LeO.none _
   | refine LeO.ite ?_ ?_
   | refine LeO.bind ?_ (fun _ => ?_)
theorem credenceref1_NatSame.mono : ∀ a0 a1 k, LeO (credenceref1_NatSame.f k a0 a1) (credenceref1_NatSame.f (k + 1) a0 a1) := by
 intro a0 a1 k
 have ih0 := credenceref1_NatSame.mono_l k
 unfold credenceref1_NatSame.f
 repeat' first
   | (with_reducible exact ih0 _ _ _)
   | (with_reducible exact LeO.refl _)
   | (with_reducible exact LeO.none _)
   | (with_reducible refine LeO.ite ?_ ?_)
   | (with_reducible refine LeO.bind ?_ (fun _ => ?_))
   | exact ih0 _ _ _
   | exact LeO.none _
   | refine LeO.ite ?_ ?_
   | refine LeO.bind ?_ (fun _ => ?_)
set_option maxHeartbeats 8000000 in
set_option maxRecDepth 100000 in
theorem credenceref1_NatSame.calls (k : Nat) (A0 : Option Addr) (c0 : Nat) (l0 : List Int) (A1 : Option Addr) (c1 : Nat) (l1 : List Int) (r : Bool) (w : World) (hr0 : Kd.C (Kd.int .u32) w A0 l0.length l0) (hc0 : l0.length ≤ c0) (hr1 : Kd.C (Kd.int .u32) w A1 l1.length l1) (hc1 : l1.length ≤ c1) (h : credenceref1_NatSame.f k l0 l1 = some r) :
  Calls Try.prog 46 #[.slice A0 l0.length c0, .slice A1 l1.length c1] w fun e w' => e = .returned (.bool r) ∧ Drawn0 w w' := by
 have HR0 := Aside0.mk hr0
 have HC0 := Aside0.mk hc0
 clear hr0 hc0
 have HR1 := Aside0.mk hr1
 have HC1 := Aside0.mk hc1
 clear hr1 hc1
 have H : (if (l0.length : Int) = (l1.length : Int) then (credenceref1_NatSame.l0 k l0 l1 0) else (some false)) = some r := h
 clear h
 by_cases c3 : (l0.length : Int) = (l1.length : Int)
 ·
  rw [if_pos c3] at H
  have c3b0 : ((l0.length : Int) == (l1.length : Int)) = true := beq_iff_eq.mpr c3
  have c3b1 : ((l0.length : Int) != (l1.length : Int)) = false := bne_eq_false_iff_eq.mpr c3
  have c3b2 : (l0.length == l1.length) = true := by first | simpa using c3 | (simp at c3 ⊢; omega)
  clear c3
  have H' := Aside0.mk H
  clear H
  go_enter Try.func46, Try.ntmps46
  go_wp2
  repeat (go_quiet (fail); try go_wp2)
  go_loopg [5] k (fun kq v5 w' => ∃ (x5_1 : Int), v5 = .int .i64 x5_1 ∧ Aside0 (credenceref1_NatSame.l0 kq l0 l1 x5_1 = some r) ∧ Aside0 (kq ≤ k) ∧ Drawn0 w w')
  case atStart => exact ⟨(0), (by first | rfl | (simp [*]; done)), H', ⟨Nat.le_refl _⟩, by repeat (first | exact Drawn0.refl _ | apply Drawn0.step)⟩
  case round =>
   clear H'
   try clear c1
   try clear p2
   try clear c3
   try clear c3b0
   try clear c3b1
   try clear c3b2
   obtain ⟨x5_1, rfl, HA, HK1, ⟨m1, rfl⟩⟩ := hrel
   cases gk with
   | zero => exact absurd HA.out (by simp [credenceref1_NatSame.l0])
   | succ k1 =>
    have H := HA.out
    clear HA
    simp only [credenceref1_NatSame.l0] at H
    by_cases c4 : x5_1 < (l0.length : Int)
    ·
     rw [if_pos c4] at H
     have c4b0 : decide (x5_1 < (l0.length : Int)) = true := decide_eq_true c4
     clear c4
     by_cases c5 : 0 ≤ x5_1
     ·
      rw [if_pos c5] at H
      have c5b0 : decide (0 ≤ x5_1) = true := decide_eq_true c5
      clear c5
      by_cases c6 : x5_1 < (l1.length : Int)
      ·
       rw [if_pos c6] at H
       have c6b0 : decide (x5_1 < (l1.length : Int)) = true := decide_eq_true c6
       clear c6
       by_cases c7 : (rd l0 x5_1) = (rd l1 x5_1)
       ·
        rw [if_pos c7] at H
        have c7b0 : ((rd l0 x5_1) == (rd l1 x5_1)) = true := beq_iff_eq.mpr c7
        have c7b1 : ((rd l0 x5_1) != (rd l1 x5_1)) = false := bne_eq_false_iff_eq.mpr c7
        clear c7
        have H' := Aside0.mk H
        clear H
        have p252 : 0 ≤ (x5_1 : Int) := of_decide_eq_true (by first | (with_reducible assumption) | assumption)
        have q252 : x5_1 < (l0.length : Int) := of_decide_eq_true (by first | (with_reducible assumption) | assumption)
        obtain ⟨ad252, e252, hx252_0⟩ := Kd.at_int HR0.out x5_1 p252 q252
        cases e252
        replace p252 := eq_true p252
        replace q252 := eq_true q252
        have p253 : 0 ≤ (x5_1 : Int) := of_decide_eq_true (by first | (with_reducible assumption) | assumption)
        have q253 : x5_1 < (l1.length : Int) := of_decide_eq_true (by first | (with_reducible assumption) | assumption)
        obtain ⟨ad253, e253, hx253_0⟩ := Kd.at_int HR1.out x5_1 p253 q253
        cases e253
        replace p253 := eq_true p253
        replace q253 := eq_true q253
        go_wp2
        repeat (go_quiet (fail); try go_wp2)
        go_roundg k1
        case measure => have := HK1.out; omega
        case rel => exact ⟨(wrap64 (x5_1 + 1)), (by first | rfl | (simp [*]; done)), H', ⟨by have := HK1.out; omega⟩, by repeat (first | exact Drawn0.refl _ | apply Drawn0.step)⟩
       ·
        rw [if_neg c7] at H
        have c7b0 : ((rd l0 x5_1) == (rd l1 x5_1)) = false := beq_eq_false_iff_ne.mpr c7
        have c7b1 : ((rd l0 x5_1) != (rd l1 x5_1)) = true := bne_iff_ne.mpr c7
        obtain rfl := Option.some.inj H
        have p252 : 0 ≤ (x5_1 : Int) := of_decide_eq_true (by first | (with_reducible assumption) | assumption)
        have q252 : x5_1 < (l0.length : Int) := of_decide_eq_true (by first | (with_reducible assumption) | assumption)
        obtain ⟨ad252, e252, hx252_0⟩ := Kd.at_int HR0.out x5_1 p252 q252
        cases e252
        replace p252 := eq_true p252
        replace q252 := eq_true q252
        have p253 : 0 ≤ (x5_1 : Int) := of_decide_eq_true (by first | (with_reducible assumption) | assumption)
        have q253 : x5_1 < (l1.length : Int) := of_decide_eq_true (by first | (with_reducible assumption) | assumption)
        obtain ⟨ad253, e253, hx253_0⟩ := Kd.at_int HR1.out x5_1 p253 q253
        cases e253
        replace p253 := eq_true p253
        replace q253 := eq_true q253
        go_wp2
        repeat (go_quiet (fail); try go_wp2)
        go_ret
        exact ⟨by first | rfl | (simp [*]; done), by repeat (first | exact Drawn0.refl _ | apply Drawn0.step)⟩
      ·
       rw [if_neg c6] at H
       exact absurd H (by simp)
     ·
      rw [if_neg c5] at H
      exact absurd H (by simp)
    ·
     rw [if_neg c4] at H
     have c4b0 : decide (x5_1 < (l0.length : Int)) = false := decide_eq_false c4
     clear c4
     obtain rfl := Option.some.inj H
     go_wp2
     repeat (go_quiet (fail); try go_wp2)
     go_ret
     exact ⟨by first | rfl | (simp [*]; done), by repeat (first | exact Drawn0.refl _ | apply Drawn0.step)⟩
 ·
  rw [if_neg c3] at H
  have c3b0 : ((l0.length : Int) == (l1.length : Int)) = false := beq_eq_false_iff_ne.mpr c3
  have c3b1 : ((l0.length : Int) != (l1.length : Int)) = true := bne_iff_ne.mpr c3
  have c3b2 : (l0.length == l1.length) = false := by first | simpa using c3 | (simp at c3 ⊢; omega)
  obtain rfl := Option.some.inj H
  go_enter Try.func46, Try.ntmps46
  go_wp2
  repeat (go_quiet (fail); try go_wp2)
  go_ret
  exact ⟨by first | rfl | (simp [*]; done), by repeat (first | exact Drawn0.refl _ | apply Drawn0.step)⟩

end Go.Proofs.Ytjiaplnpgjicgaa.Q

