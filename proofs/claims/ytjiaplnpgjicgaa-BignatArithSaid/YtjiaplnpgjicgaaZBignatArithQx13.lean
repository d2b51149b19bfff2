/- Lemmas for the proof of one law of this seat (Qx13). -/
import Derived.Test.YtjiaplnpgjicgaaZBignatArithQx0
import Derived.Test.YtjiaplnpgjicgaaZBignatArithQx1
import Derived.Test.YtjiaplnpgjicgaaZBignatArithQx3
import Derived.Test.YtjiaplnpgjicgaaZBignatArithQx6
import Derived.Test.YtjiaplnpgjicgaaZBignatArithQx7
import Derived.Test.YtjiaplnpgjicgaaZBignatArithQx10
import Derived.Test.YtjiaplnpgjicgaaZBignatArithQx12
import Derived.Test.YtjiaplnpgjicgaaZBignatArithSq
namespace Go.Proofs.Ytjiaplnpgjicgaa.Q
open Go.RowKit Go.Proofs.YtjiaplnpgjicgaaW.PrintWords Go.Proofs.YtjiaplnpgjicgaaW.PrintLast Go.Proofs.YtjiaplnpgjicgaaW.PrintMore
attribute [local go_sem] max2_int min2_int max_two min_two max_three min_three max_four min_four   -- for this text's walks alone
set_option linter.unusedVariables false
set_option linter.unusedSimpArgs false

mutual
def bignat_GCD.l0 : Nat → List Int → List Int → Option (List Int)
 | 0, _, _ => none
 | k + 1, x0, x1 => if (x1.length : Int) > 0 then (if (x0.length : Int) ≤ 2 then (bignat_GCD.j1 k x0 x1 (decide ((x1.length : Int) ≤ 2))) else (bignat_GCD.j1 k x0 x1 false)) else (some x0)
def bignat_GCD.j1 : Nat → List Int → List Int → Bool → Option (List Int)
 | 0, _, _, _ => none
 | k + 1, x0, x1, x22 => if x22 = true then ((bignat_gcdSmall.f k x0 x1).bind fun t572 => (some t572)) else ((bignat_DivMod.f k x0 x1).bind fun bt575 => (bignat_GCD.l0 k x1 bt575.2.1))
end
def bignat_GCD.f (k : Nat) (l0 : List Int) (l1 : List Int) : Option (List Int) := (bignat_clone.f k l0).bind fun t566 => ((bignat_clone.f k l1).bind fun t569 => (bignat_GCD.l0 k t566 t569))
theorem bignat_GCD.mono_l : ∀ k, (∀ y0 y1, LeO (bignat_GCD.l0 k y0 y1) (bignat_GCD.l0 (k + 1) y0 y1)) ∧ (∀ y0 y1 y2, LeO (bignat_GCD.j1 k y0 y1 y2) (bignat_GCD.j1 (k + 1) y0 y1 y2))
 | 0 => ⟨fun _ _ r h => by simp [bignat_GCD.l0] at h, fun _ _ _ r h => by simp [bignat_GCD.j1] at h⟩
 | k + 1 => by
  obtain ⟨ih0, ih1⟩ := bignat_GCD.mono_l k
  refine ⟨?_, ?_⟩
  ·
   intro y0 y1
   unfold bignat_GCD.l0
   repeat' first
   | (with_reducible exact ih0 _ _)
   | (with_reducible exact ih1 _ _ _)
   | (with_reducible exact bignat_DivMod.mono _ _ _)
   | (with_reducible exact bignat_clone.mono _ _)
   | (with_reducible exact bignat_gcdSmall.mono _ _ _)
   | (with_reducible exact LeO.refl _)
   | (with_reducible exact LeO.none _)
   | (with_reducible refine LeO.ite ?_ ?_)
   | (with_reducible refine LeO.bind ?_ (fun _ => ?_))
   | exact ih0 _ _
   | exact ih1 _ _ _
   | exact bignat_DivMod.mono _ _ _
   | exact bignat_clone.mono _ _
   | exact bignat_gcdSmall.mono _ _ _
   | exact LeO.none _
   | refine LeO.ite ?_ ?_
   | refine LeO.bind ?_ (fun _ => ?_)
  ·
   intro y0 y1 y2
   unfold bignat_GCD.j1
   repeat' first
   | (with_reducible exact ih0 _ _)
   | (with_reducible exact ih1 _ _ _)
   | (with_reducible exact bignat_DivMod.mono _ _ _)
   | (with_reducible exact bignat_clone.mono _ _)
   | (with_reducible exact bignat_gcdSmall.mono _ _ _)
   | (with_reducible exact LeO.refl _)
   | (with_reducible exact LeO.none _)
   | (with_reducible refine LeO.ite ?_ ?_)
   | (with_reducible refine LeO.bind ?_ (fun _ => ?_))
   | exact ih0 _ _
   | exact ih1 _ _ _
   | exact bignat_DivMod.mono _ _ _
   | exact bignat_clone.mono _ _
   | exact bignat_gcdSmall.mono _ _ _
   | exact LeO.none _
   | refine LeO.ite ?_ ?_
   | refine LeO.bind ?_ (fun _ => ?_)
theorem bignat_GCD.mono : ∀ a0 a1 k, LeO (bignat_GCD.f k a0 a1) (bignat_GCD.f (k + 1) a0 a1) := by
 intro a0 a1 k
 obtain ⟨ih0, ih1⟩ := bignat_GCD.mono_l k
 unfold bignat_GCD.f
 repeat' first
   | (with_reducible exact ih0 _ _)
   | (with_reducible exact ih1 _ _ _)
   | (with_reducible exact bignat_DivMod.mono _ _ _)
   | (with_reducible exact bignat_clone.mono _ _)
   | (with_reducible exact bignat_gcdSmall.mono _ _ _)
   | (with_reducible exact LeO.refl _)
   | (with_reducible exact LeO.none _)
   | (with_reducible refine LeO.ite ?_ ?_)
   | (with_reducible refine LeO.bind ?_ (fun _ => ?_))
   | exact ih0 _ _
   | exact ih1 _ _ _
   | exact bignat_DivMod.mono _ _ _
   | exact bignat_clone.mono _ _
   | exact bignat_gcdSmall.mono _ _ _
   | exact LeO.none _
   | refine LeO.ite ?_ ?_
   | refine LeO.bind ?_ (fun _ => ?_)
set_option maxHeartbeats 8000000 in
set_option maxRecDepth 100000 in
theorem bignat_GCD.calls (k : Nat) (A0 : Option Addr) (c0 : Nat) (l0 : List Int) (A1 : Option Addr) (c1 : Nat) (l1 : List Int) (r : List Int) (w : World) (hr0 : Kd.C (Kd.int .u32) w A0 l0.length l0) (hc0 : l0.length ≤ c0) (hr1 : Kd.C (Kd.int .u32) w A1 l1.length l1) (hc1 : l1.length ≤ c1) (h : bignat_GCD.f k l0 l1 = some r) :
  Calls Try.prog 25 #[.slice A0 l0.length c0, .slice A1 l1.length c1] w fun e w' => ∃ v0_ : Value, e = .returned (v0_) ∧ Kd.R (Kd.int .u32) 43 w' w.heap.size (fun _ => True) v0_ r ∧ Below w.heap.size w w' := by
 have HR0 := Aside0.mk hr0
 have HC0 := Aside0.mk hc0
 clear hr0 hc0
 have HR1 := Aside0.mk hr1
 have HC1 := Aside0.mk hc1
 clear hr1 hc1
 have HB := Aside0.mk (Below.refl w.heap.size w)
 have H : ((bignat_clone.f k l0).bind fun t566 => ((bignat_clone.f k l1).bind fun t569 => (bignat_GCD.l0 k t566 t569))) = some r := h
 clear h
 replace H := Option.bind_eq_some_iff.mp H
 obtain ⟨t566, A30, H⟩ := H
 replace H : ((bignat_clone.f k l1).bind fun t569 => (bignat_GCD.l0 k t566 t569)) = some r := H
 have A3 := Aside0.mk A30
 clear A30
 replace H := Option.bind_eq_some_iff.mp H
 obtain ⟨t569, A40, H⟩ := H
 replace H : (bignat_GCD.l0 k t566 t569) = some r := H
 have A4 := Aside0.mk A40
 clear A40
 have H' := Aside0.mk H
 clear H
 go_enter Try.func25, Try.ntmps25
 go_wp2_with (first | ((with_reducible refine gate_callee (f := 41) rfl ?_); refine goesL_ (some 9) rfl rfl Try.func41 (by kernel_rfl) rfl #[.slice A0 l0.length c0] rfl (by first | rfl | (go_simp; first | done | rfl | ((try simp only [IntKind.wrap_u8, IntKind.wrap_u32, IntKind.wrap_u64]); omega))) ?_; (with_reducible refine (bignat_clone.calls k _ _ l0 t566 _ ?side1 ?side2 A3.out).mono ?_); (case side1 => repeat first | exact HR0.out | refine Kd.C_drewN ?_ _ | refine Kd.C_alloc ?_ _ | refine Kd.C_drew ?_); (case side2 => exact HC0.out); rintro e w5 ⟨v567, rfl, ho0, hb⟩; refine ⟨_, rfl, ?_⟩; have n0_ := Aside0.mk (Kd.R_lower ho0 (below_size (zb HB rfl))); have n1_ := Aside0.mk (below_step (zb HB rfl) hb); clear HB; have HO568 := n0_; have HB := n1_; clear n0_ n1_) | ((with_reducible refine gate_callee (f := 41) rfl ?_); refine goesL_ (some 11) rfl rfl Try.func41 (by kernel_rfl) rfl #[.slice A1 l1.length c1] rfl (by first | rfl | (go_simp; first | done | rfl | ((try simp only [IntKind.wrap_u8, IntKind.wrap_u32, IntKind.wrap_u64]); omega))) ?_; (with_reducible refine (bignat_clone.calls k _ _ l1 t569 _ ?side1 ?side2 A4.out).mono ?_); (case side1 => repeat first | exact (Kd.C_below HR1.out HB.out) | refine Kd.C_drewN ?_ _ | refine Kd.C_alloc ?_ _ | refine Kd.C_drew ?_); (case side2 => exact HC1.out); rintro e w6 ⟨v570, rfl, ho0, hb⟩; refine ⟨_, rfl, ?_⟩; have n0_ := Aside0.mk (Kd.R_elder' (zr HO568 rfl) (Kd.R_base ho0) hb); have n1_ := Aside0.mk (Kd.R_lower (Kd.R_new' ho0 (Kd.R_lt (zr HO568 rfl))) (below_size (zb HB rfl))); have n2_ := Aside0.mk (below_step (zb HB rfl) hb); clear HO568; clear HB; have HO568 := n0_; have HO571 := n1_; have HB := n2_; clear n0_ n1_ n2_))
 go_loopg [0, 1] k (fun kq v0 v1 w' => ∃ (x0_1 : List Int) (x1_1 : List Int), Aside0 (bignat_GCD.l0 kq x0_1 x1_1 = some r) ∧ Aside0 (kq ≤ k) ∧ Aside0 (Kd.R (Kd.int .u32) 43 w' w.heap.size (fun k_ => some k_ ≠ (v1 : Value).ownBlock) v0 x0_1) ∧ Aside0 (Kd.R (Kd.int .u32) 43 w' w.heap.size (fun k_ => some k_ ≠ (v0 : Value).ownBlock) v1 x1_1) ∧ Aside0 (Below w.heap.size w w'))
 case atStart => exact ⟨(t566), (t569), H', ⟨Nat.le_refl _⟩, ⟨by (with_reducible repeat (first | apply Kd.R_alloc | apply Kd.R_drewN | apply Kd.R_drew)); exact Kd.R_mono HO568.out (fun _ hk => hk.2)⟩, ⟨by (with_reducible repeat (first | apply Kd.R_alloc | apply Kd.R_drewN | apply Kd.R_drew)); exact Kd.R_mono HO571.out (fun _ hk => hk.2)⟩, ⟨by repeat (first | (with_reducible first | exact HB.out | apply below_alloc | apply pw_below_drewN | apply below_drew1) | exact HB.out)⟩⟩
 case round =>
  clear H'
  try clear c1
  try clear c2
  try clear p2
  try clear c4
  obtain ⟨x0_1, x1_1, HA, HK1, HO_0, HO_1, HB⟩ := hrel
  cases gk with
  | zero => exact absurd HA.out (by simp [bignat_GCD.l0])
  | succ k1 =>
   have H := HA.out
   clear HA
   simp only [bignat_GCD.l0] at H
   by_cases c7 : (x1_1.length : Int) > 0
   ·
    rw [if_pos c7] at H
    have c7b0 : decide (0 < (x1_1.length : Int)) = true := decide_eq_true c7
    have c7b1 : decide (0 < x1_1.length) = true := decide_eq_true (by omega)
    clear c7
    have HC8 := Aside0.mk H
    clear H
    obtain ⟨Ao9, co9, eo9⟩ := Kd.R_slice HO_1.out
    subst eo9
    go_upto_region 3 with (fail)
    go_cut [22] (fun v22 wc => ∃ (kq : Nat) (x22_7 : Bool), v22 = .bool x22_7 ∧ Aside0 (bignat_GCD.j1 kq x0_1 x1_1 x22_7 = some r) ∧ Aside0 (kq ≤ k1) ∧ Aside0 (Kd.R (Kd.int .u32) 43 wc w.heap.size (fun k_ => some k_ ≠ ((.slice Ao9 x1_1.length co9) : Value).ownBlock) u0 x0_1) ∧ Aside0 (Kd.R (Kd.int .u32) 43 wc w.heap.size (fun k_ => some k_ ≠ (u0 : Value).ownBlock) (.slice Ao9 x1_1.length co9) x1_1) ∧ Aside0 (Below w.heap.size w wc))
    case first =>
     have H := HC8.out
     clear HC8
     by_cases c10 : (x0_1.length : Int) ≤ 2
     ·
      rw [if_pos c10] at H
      have c10b0 : decide ((x0_1.length : Int) ≤ 2) = true := decide_eq_true c10
      have c10b1 : decide (x0_1.length ≤ 2) = true := decide_eq_true (by omega)
      clear c10
      (first | rw [c10b0] | rw [c10b1] | (simp only [i64_w, i32_w]; rw [c10b0]) | skip)
      have H' := Aside0.mk H
      clear H
      obtain ⟨Ao11, co11, eo11⟩ := Kd.R_slice HO_0.out
      subst eo11
      go_wp2
      go_meet
      case rel => exact ⟨_, (decide ((x1_1.length : Int) ≤ 2)), (by first | rfl | (simp [*]; done)), H', ⟨by have := HK1.out; first | omega | exact Nat.le_refl _⟩, ⟨by (with_reducible repeat (first | apply Kd.R_alloc | apply Kd.R_drewN | apply Kd.R_drew)); exact HO_0.out⟩, ⟨by (with_reducible repeat (first | apply Kd.R_alloc | apply Kd.R_drewN | apply Kd.R_drew)); exact HO_1.out⟩, ⟨by repeat (first | (with_reducible first | exact HB.out | apply below_alloc | apply pw_below_drewN | apply below_drew1) | exact HB.out)⟩⟩
     ·
      rw [if_neg c10] at H
      have c10b0 : decide ((x0_1.length : Int) ≤ 2) = false := decide_eq_false c10
      have c10b1 : decide (x0_1.length ≤ 2) = false := decide_eq_false (by omega)
      clear c10
      (first | rw [c10b0] | rw [c10b1] | (simp only [i64_w, i32_w]; rw [c10b0]) | skip)
      have H' := Aside0.mk H
      clear H
      obtain ⟨Ao12, co12, eo12⟩ := Kd.R_slice HO_0.out
      subst eo12
      go_wp2
      go_meet
      case rel => exact ⟨_, (false), (by first | rfl | (simp [*]; done)), H', ⟨by have := HK1.out; first | omega | exact Nat.le_refl _⟩, ⟨by (with_reducible repeat (first | apply Kd.R_alloc | apply Kd.R_drewN | apply Kd.R_drew)); exact HO_0.out⟩, ⟨by (with_reducible repeat (first | apply Kd.R_alloc | apply Kd.R_drewN | apply Kd.R_drew)); exact HO_1.out⟩, ⟨by repeat (first | (with_reducible first | exact HB.out | apply below_alloc | apply pw_below_drewN | apply below_drew1) | exact HB.out)⟩⟩
    case rest =>
     clear HC8
     try clear c1
     try clear c2
     try clear p2
     try clear c4
     try clear c7
     try clear c7b0
     try clear c7b1
     try clear c10
     try clear c10b0
     try clear c10b1
     try clear p2
     obtain ⟨kq, x22_7, rfl, HA, HJ7, HO_0, HO_1, HB⟩ := hcut
     cases kq with
     | zero => exact absurd HA.out (by simp [bignat_GCD.j1])
     | succ kj7 =>
      have H := HA.out
      clear HA
      simp only [bignat_GCD.j1] at H
      by_cases c13 : x22_7 = true
      ·
       subst c13
       have H1 : ((bignat_gcdSmall.f kj7 x0_1 x1_1).bind fun t572 => (some t572)) = some r := by rw [if_pos rfl] at H; exact H
       clear H
       have H := H1
       clear H1
       replace H := Option.bind_eq_some_iff.mp H
       obtain ⟨t572, A140, H⟩ := H
       replace H : (some t572) = some r := H
       have A14 := Aside0.mk A140
       clear A140
       obtain rfl := Option.some.inj H
       obtain ⟨Ao15, co15, eo15⟩ := Kd.R_slice HO_0.out
       subst eo15
       go_wp2_with (first | ((with_reducible refine gate_callee (f := 50) rfl ?_); refine goesL_ (some 25) rfl rfl Try.func50 (by kernel_rfl) rfl #[.slice Ao15 x0_1.length co15, .slice Ao9 x1_1.length co9] rfl (by first | rfl | (go_simp; first | done | rfl | ((try simp only [IntKind.wrap_u8, IntKind.wrap_u32, IntKind.wrap_u64]); omega))) ?_; (with_reducible refine (bignat_gcdSmall.calls kj7 _ _ x0_1 _ _ x1_1 t572 _ ?side1 ?side2 ?side3 ?side4 A14.out).mono ?_); (case side1 => repeat first | exact (Kd.R_reads' HO_0.out).2.2 | refine Kd.C_drewN ?_ _ | refine Kd.C_alloc ?_ _ | refine Kd.C_drew ?_); (case side2 => exact (Kd.R_reads' HO_0.out).2.1); (case side3 => repeat first | exact (Kd.R_reads' HO_1.out).2.2 | refine Kd.C_drewN ?_ _ | refine Kd.C_alloc ?_ _ | refine Kd.C_drew ?_); (case side4 => exact (Kd.R_reads' HO_1.out).2.1); rintro e w16 ⟨v573, rfl, ho0, hb⟩; refine ⟨_, rfl, ?_⟩; have n0_ := Aside0.mk (Kd.R_elder' (zr HO_0 rfl) (Kd.R_base ho0) hb); have n1_ := Aside0.mk (Kd.R_elder' (zr HO_1 rfl) (Kd.R_base ho0) hb); have n2_ := Aside0.mk (Kd.R_lower (Kd.R_new' (Kd.R_new' ho0 (Kd.R_lt (zr HO_0 rfl))) (Kd.R_lt (zr HO_1 rfl))) (below_size (zb HB rfl))); have n3_ := Aside0.mk (below_step (zb HB rfl) hb); clear HO_0; clear HO_1; clear HB; have HO_0 := n0_; have HO_1 := n1_; have HO574 := n2_; have HB := n3_; clear n0_ n1_ n2_ n3_))
       go_ret
       exact ⟨_, by first | rfl | (simp [*, errW_none, errW_some] <;> rfl), by (with_reducible repeat (first | apply Kd.R_alloc | apply Kd.R_drewN | apply Kd.R_drew)); exact Kd.R_mono HO574.out (fun _ hk => trivial), by repeat (first | (with_reducible first | exact HB.out | apply below_alloc | apply pw_below_drewN | apply below_drew1) | exact HB.out)⟩
      ·
       replace c13 := Bool.eq_false_iff.mpr c13
       subst c13
       have H1 : ((bignat_DivMod.f kj7 x0_1 x1_1).bind fun bt575 => (bignat_GCD.l0 kj7 x1_1 bt575.2.1)) = some r := by rw [if_neg (show ¬ (false = true) by decide)] at H; exact H
       clear H
       have H := H1
       clear H1
       replace H := Option.bind_eq_some_iff.mp H
       obtain ⟨⟨t575, t576, t577⟩, A170, H⟩ := H
       replace H : (bignat_GCD.l0 kj7 x1_1 t576) = some r := H
       have A17 := Aside0.mk A170
       clear A170
       have H' := Aside0.mk H
       clear H
       obtain ⟨Ao18, co18, eo18⟩ := Kd.R_slice HO_0.out
       subst eo18
       go_wp2_with (first | ((with_reducible refine gate_callee (f := 21) rfl ?_); refine goesL_ (some 29) rfl rfl Try.func21 (by kernel_rfl) rfl #[.slice Ao18 x0_1.length co18, .slice Ao9 x1_1.length co9] rfl (by first | rfl | (go_simp; first | done | rfl | ((try simp only [IntKind.wrap_u8, IntKind.wrap_u32, IntKind.wrap_u64]); omega))) ?_; (with_reducible refine (bignat_DivMod.calls kj7 _ _ x0_1 _ _ x1_1 t575 t576 t577 _ ?side1 ?side2 ?side3 ?side4 A17.out).mono ?_); (case side1 => repeat first | exact (Kd.R_reads' HO_0.out).2.2 | refine Kd.C_drewN ?_ _ | refine Kd.C_alloc ?_ _ | refine Kd.C_drew ?_); (case side2 => exact (Kd.R_reads' HO_0.out).2.1); (case side3 => repeat first | exact (Kd.R_reads' HO_1.out).2.2 | refine Kd.C_drewN ?_ _ | refine Kd.C_alloc ?_ _ | refine Kd.C_drew ?_); (case side4 => exact (Kd.R_reads' HO_1.out).2.1); rintro e w19 ⟨v578, v580, rfl, ho0, ho1, hb⟩; refine ⟨_, rfl, ?_⟩; have n0_ := Aside0.mk (Kd.R_mono (Kd.R_told (Kd.R_told (Kd.R_old (zr HO_0 rfl) hb) (Kd.R_base ho0)) (Kd.R_base ho1)) (fun _ h_ => h_.1)); have n1_ := Aside0.mk (Kd.R_mono (Kd.R_told (Kd.R_told (Kd.R_old (zr HO_1 rfl) hb) (Kd.R_base ho0)) (Kd.R_base ho1)) (fun _ h_ => h_.1)); have n2_ := Aside0.mk (Kd.R_lower (Kd.R_new' (Kd.R_new' ho0 (Kd.R_lt (zr HO_0 rfl))) (Kd.R_lt (zr HO_1 rfl))) (below_size (zb HB rfl))); have n3_ := Aside0.mk (Kd.R_lower (Kd.R_new' (Kd.R_new' ho1 (Kd.R_lt (zr HO_0 rfl))) (Kd.R_lt (zr HO_1 rfl))) (below_size (zb HB rfl))); have n4_ := Aside0.mk (below_step (zb HB rfl) hb); clear HO_0; clear HO_1; clear HB; have HO_0 := n0_; have HO_1 := n1_; have HO579 := n2_; have HO581 := n3_; have HB := n4_; clear n0_ n1_ n2_ n3_ n4_))
       go_roundg kj7
       case measure => have := HK1.out; have := HJ7.out; omega
       case rel => exact ⟨(x1_1), (t576), H', ⟨by have := HK1.out; have := HJ7.out; omega⟩, ⟨by (with_reducible repeat (first | apply Kd.R_alloc | apply Kd.R_drewN | apply Kd.R_drew)); exact Kd.R_mono HO_1.out (fun _ hk => hk.2)⟩, ⟨by (with_reducible repeat (first | apply Kd.R_alloc | apply Kd.R_drewN | apply Kd.R_drew)); exact Kd.R_mono HO581.out (fun _ hk => hk.2)⟩, ⟨by repeat (first | (with_reducible first | exact HB.out | apply below_alloc | apply pw_below_drewN | apply below_drew1) | exact HB.out)⟩⟩
   ·
    rw [if_neg c7] at H
    have c7b0 : decide (0 < (x1_1.length : Int)) = false := decide_eq_false c7
    have c7b1 : decide (0 < x1_1.length) = false := decide_eq_false (by omega)
    clear c7
    obtain rfl := Option.some.inj H
    obtain ⟨Ao20, co20, eo20⟩ := Kd.R_slice HO_1.out
    subst eo20
    go_wp2
    go_ret
    exact ⟨_, by first | rfl | (simp [*, errW_none, errW_some] <;> rfl), by (with_reducible repeat (first | apply Kd.R_alloc | apply Kd.R_drewN | apply Kd.R_drew)); exact Kd.R_mono HO_0.out (fun _ hk => trivial), by repeat (first | (with_reducible first | exact HB.out | apply below_alloc | apply pw_below_drewN | apply below_drew1) | exact HB.out)⟩

def credencelaw1_BignatDivisors.j0 : Nat → List Int → List Int → List Int → List Int → Bool → Option (Bool)
 | 0, _, _, _, _, _ => none
 | k + 1, x7, x8, x9, x10, x33 => if x33 = true then ((bignat_Add.f k x7 x8).bind fun t596 => ((credencelaw1_same.f k x10 t596).bind fun t599 => (if t599 = true then ((credencelaw1_known.f k).bind fun t600 => (some t600)) else (some false)))) else ((bignat_DivMod.f k x7 x10).bind fun bt601 => ((bignat_DivMod.f k x8 x10).bind fun bt608 => (if bt601.2.2 = true then (if bt608.2.2 = true then (if (bt601.2.1.length : Int) = 0 then (if (bt608.2.1.length : Int) = 0 then ((bignat_GCD.f k bt601.1 bt608.1).bind fun t615 => ((bignat_FromUint64.f 1).bind fun t618 => ((credencelaw1_same.f k t615 t618).bind fun t621 => (if t621 = true then ((bignat_Mul.f k x7 x9).bind fun t622 => ((bignat_Mul.f k x8 x9).bind fun t625 => ((bignat_GCD.f k t622 t625).bind fun t628 => ((bignat_Mul.f k x10 x9).bind fun t631 => ((credencelaw1_same.f k t628 t631).bind fun t634 => (if t634 = true then ((credencelaw1_known.f k).bind fun t635 => (some t635)) else (some false))))))) else (some false))))) else (some false)) else (some false)) else (some false)) else (some false))))
def credencelaw1_BignatDivisors.f (k : Nat) (l0 : List Int) (l1 : List Int) (l2 : List Int) : Option (Bool) := (credencebase_Nat.f k l0).bind fun t582 => ((credencebase_Nat.f k l1).bind fun t585 => ((credencebase_Nat.f k l2).bind fun t588 => ((bignat_GCD.f k t582 t585).bind fun t591 => ((bignat_BitLen.f k t582).bind fun t594 => (if t594 = 0 then (credencelaw1_BignatDivisors.j0 k t582 t585 t588 t591 true) else ((bignat_BitLen.f k t585).bind fun t595 => (credencelaw1_BignatDivisors.j0 k t582 t585 t588 t591 (t595 == 0))))))))
theorem credencelaw1_BignatDivisors.mono_l : ∀ k, (∀ y0 y1 y2 y3 y4, LeO (credencelaw1_BignatDivisors.j0 k y0 y1 y2 y3 y4) (credencelaw1_BignatDivisors.j0 (k + 1) y0 y1 y2 y3 y4))
 | 0 => fun _ _ _ _ _ r h => by simp [credencelaw1_BignatDivisors.j0] at h
 | k + 1 => by
  have ih0 := credencelaw1_BignatDivisors.mono_l k
  ·
   intro y0 y1 y2 y3 y4
   unfold credencelaw1_BignatDivisors.j0
   repeat' first
   | (with_reducible exact ih0 _ _ _ _ _)
   | (with_reducible exact bignat_Add.mono _ _ _)
   | (with_reducible exact bignat_BitLen.mono _ _)
   | (with_reducible exact bignat_DivMod.mono _ _ _)
   | (with_reducible exact bignat_GCD.mono _ _ _)
   | (with_reducible exact bignat_Mul.mono _ _ _)
   | (with_reducible exact credencebase_Nat.mono _ _)
   | (with_reducible exact credencelaw1_known.mono _)
   | (with_reducible exact credencelaw1_same.mono _ _ _)
   | (with_reducible exact LeO.refl _)
   | (with_reducible exact LeO.none _)
   | (with_reducible refine LeO.ite ?_ ?_)
   | (with_reducible refine LeO.bind ?_ (fun _ => ?_))
   | exact ih0 _ _ _ _ _
   | exact bignat_Add.mono _ _ _
   | exact bignat_BitLen.mono _ _
   | exact bignat_DivMod.mono _ _ _
   | exact bignat_GCD.mono _ _ _
   | exact bignat_Mul.mono _ _ _
   | exact credencebase_Nat.mono _ _
   | exact credencelaw1_known.mono _
   | exact credencelaw1_same.mono _ _ _
   | exact LeO.none _
   | refine LeO.ite ?_ ?_
   | refine LeO.bind ?_ (fun _ => ?_)
theorem credencelaw1_BignatDivisors.mono : ∀ a0 a1 a2 k, LeO (credencelaw1_BignatDivisors.f k a0 a1 a2) (credencelaw1_BignatDivisors.f (k + 1) a0 a1 a2) := by
 intro a0 a1 a2 k
 have ih0 := credencelaw1_BignatDivisors.mono_l k
 unfold credencelaw1_BignatDivisors.f
 repeat' first
   | (with_reducible exact ih0 _ _ _ _ _)
   | (with_reducible exact bignat_Add.mono _ _ _)
   | (with_reducible exact bignat_BitLen.mono _ _)
   | (with_reducible exact bignat_DivMod.mono _ _ _)
   | (with_reducible exact bignat_GCD.mono _ _ _)
   | (with_reducible exact bignat_Mul.mono _ _ _)
   | (with_reducible exact credencebase_Nat.mono _ _)
   | (with_reducible exact credencelaw1_known.mono _)
   | (with_reducible exact credencelaw1_same.mono _ _ _)
   | (with_reducible exact LeO.refl _)
   | (with_reducible exact LeO.none _)
   | (with_reducible refine LeO.ite ?_ ?_)
   | (with_reducible refine LeO.bind ?_ (fun _ => ?_))
   | exact ih0 _ _ _ _ _
   | exact bignat_Add.mono _ _ _
   | exact bignat_BitLen.mono _ _
   | exact bignat_DivMod.mono _ _ _
   | exact bignat_GCD.mono _ _ _
   | exact bignat_Mul.mono _ _ _
   | exact credencebase_Nat.mono _ _
   | exact credencelaw1_known.mono _
   | exact credencelaw1_same.mono _ _ _
   | exact LeO.none _
   | refine LeO.ite ?_ ?_
   | refine LeO.bind ?_ (fun _ => ?_)

def credenceref1_NatCmp.l0 : Nat → List Int → List Int → Int → Option (Int)
 | 0, _, _, _ => none
 | k + 1, x5, x6, x7 => if x7 ≥ 0 then (if 0 ≤ x7 then (if x7 < (x5.length : Int) then (if x7 < (x6.length : Int) then (if (rd x5 x7) < (rd x6 x7) then (some (-1)) else (if (rd x5 x7) > (rd x6 x7) then (some 1) else (credenceref1_NatCmp.l0 k x5 x6 (wrap64 (x7 - 1))))) else (none)) else (none)) else (none)) else (some 0)
def credenceref1_NatCmp.f (k : Nat) (l0 : List Int) (l1 : List Int) : Option (Int) := (credenceref1_NatNorm.f k l0).bind fun t636 => ((credenceref1_NatNorm.f k l1).bind fun t639 => (if (t636.length : Int) = (t639.length : Int) then (credenceref1_NatCmp.l0 k t636 t639 (wrap64 ((t636.length : Int) - 1))) else (if (t636.length : Int) < (t639.length : Int) then (some (-1)) else (some 1))))
theorem credenceref1_NatCmp.mono_l : ∀ k, (∀ y0 y1 y2, LeO (credenceref1_NatCmp.l0 k y0 y1 y2) (credenceref1_NatCmp.l0 (k + 1) y0 y1 y2))
 | 0 => fun _ _ _ r h => by simp [credenceref1_NatCmp.l0] at h
 | k + 1 => by
  have ih0 := credenceref1_NatCmp.mono_l k
  ·
   intro y0 y1 y2
   unfold credenceref1_NatCmp.l0
   repeat' first
   | (with_reducible exact ih0 _ _ _)
   | (with_reducible exact credenceref1_NatNorm.mono _ _)
   | (with_reducible exact LeO.refl _)
   | (with_reducible exact LeO.none _)
   | (with_reducible refine LeO.ite ?_ ?_)
   | (with_reducible refine LeO.bind ?_ (fun _ => ?_))
   | exact ih0 _ _ _
   | exact credenceref1_NatNorm.mono _ _
   | exact LeO.none _
   | refine LeO.ite ?_ ?_
   | refine LeO.bind ?_ (fun _ => ?_)
theorem credenceref1_NatCmp.mono : ∀ a0 a1 k, LeO (credenceref1_NatCmp.f k a0 a1) (credenceref1_NatCmp.f (k + 1) a0 a1) := by
 intro a0 a1 k
 have ih0 := credenceref1_NatCmp.mono_l k
 unfold credenceref1_NatCmp.f
 repeat' first
   | (with_reducible exact ih0 _ _ _)
   | (with_reducible exact credenceref1_NatNorm.mono _ _)
   | (with_reducible exact LeO.refl _)
   | (with_reducible exact LeO.none _)
   | (with_reducible refine LeO.ite ?_ ?_)
   | (with_reducible refine LeO.bind ?_ (fun _ => ?_))
   | exact ih0 _ _ _
   | exact credenceref1_NatNorm.mono _ _
   | exact LeO.none _
   | refine LeO.ite ?_ ?_
   | refine LeO.bind ?_ (fun _ => ?_)
set_option maxHeartbeats 8000000 in
set_option maxRecDepth 100000 in
theorem credenceref1_NatCmp.calls (k : Nat) (A0 : Option Addr) (c0 : Nat) (l0 : List Int) (A1 : Option Addr) (c1 : Nat) (l1 : List Int) (r : Int) (w : World) (hr0 : Kd.C (Kd.int .u32) w A0 l0.length l0) (hc0 : l0.length ≤ c0) (hr1 : Kd.C (Kd.int .u32) w A1 l1.length l1) (hc1 : l1.length ≤ c1) (h : credenceref1_NatCmp.f k l0 l1 = some r) :
  Calls Try.prog 37 #[.slice A0 l0.length c0, .slice A1 l1.length c1] w fun e w' => e = .returned (.int .i64 r) ∧ Below w.heap.size w w' := by
 have HR0 := Aside0.mk hr0
 have HC0 := Aside0.mk hc0
 clear hr0 hc0
 have HR1 := Aside0.mk hr1
 have HC1 := Aside0.mk hc1
 clear hr1 hc1
 have HB := Aside0.mk (Below.refl w.heap.size w)
 have H : ((credenceref1_NatNorm.f k l0).bind fun t636 => ((credenceref1_NatNorm.f k l1).bind fun t639 => (if (t636.length : Int) = (t639.length : Int) then (credenceref1_NatCmp.l0 k t636 t639 (wrap64 ((t636.length : Int) - 1))) else (if (t636.length : Int) < (t639.length : Int) then (some (-1)) else (some 1))))) = some r := h
 clear h
 replace H := Option.bind_eq_some_iff.mp H
 obtain ⟨t636, A30, H⟩ := H
 replace H : ((credenceref1_NatNorm.f k l1).bind fun t639 => (if (t636.length : Int) = (t639.length : Int) then (credenceref1_NatCmp.l0 k t636 t639 (wrap64 ((t636.length : Int) - 1))) else (if (t636.length : Int) < (t639.length : Int) then (some (-1)) else (some 1)))) = some r := H
 have A3 := Aside0.mk A30
 clear A30
 replace H := Option.bind_eq_some_iff.mp H
 obtain ⟨t639, A40, H⟩ := H
 replace H : (if (t636.length : Int) = (t639.length : Int) then (credenceref1_NatCmp.l0 k t636 t639 (wrap64 ((t636.length : Int) - 1))) else (if (t636.length : Int) < (t639.length : Int) then (some (-1)) else (some 1))) = some r := H
 have A4 := Aside0.mk A40
 clear A40
 by_cases c5 : (t636.length : Int) = (t639.length : Int)
 ·
  rw [if_pos c5] at H
  have c5b0 : ((t636.length : Int) == (t639.length : Int)) = true := beq_iff_eq.mpr c5
  have c5b1 : ((t636.length : Int) != (t639.length : Int)) = false := bne_eq_false_iff_eq.mpr c5
  have c5b2 : (t636.length == t639.length) = true := by first | simpa using c5 | (simp at c5 ⊢; omega)
  clear c5
  have H' := Aside0.mk H
  clear H
  go_enter Try.func37, Try.ntmps37
  have M692_0 : Aside0 True := ⟨trivial⟩
  have M692_1 : Aside0 True := ⟨trivial⟩
  go_wp2_with (first | (go_at_call 35; clear M692_0; (with_reducible refine (credenceref1_NatNorm.calls k _ _ l0 t636 _ ?side1 ?side2 A3.out).mono ?_); (case side1 => repeat first | exact HR0.out | refine Kd.C_drewN ?_ _ | refine Kd.C_alloc ?_ _ | refine Kd.C_drew ?_); (case side2 => exact HC0.out); rintro e w6 ⟨v637, rfl, ho0, hb⟩; have n0_ := Aside0.mk (Kd.R_lower ho0 (below_size (zb HB rfl))); have n1_ := Aside0.mk (below_step (zb HB rfl) hb); clear HB; have HO638 := n0_; have HB := n1_; clear n0_ n1_) | (go_at_call 35; clear M692_1; (with_reducible refine (credenceref1_NatNorm.calls k _ _ l1 t639 _ ?side1 ?side2 A4.out).mono ?_); (case side1 => repeat first | exact (Kd.C_below HR1.out HB.out) | refine Kd.C_drewN ?_ _ | refine Kd.C_alloc ?_ _ | refine Kd.C_drew ?_); (case side2 => exact HC1.out); rintro e w7 ⟨v640, rfl, ho0, hb⟩; have n0_ := Aside0.mk (Kd.R_elder' (zr HO638 rfl) (Kd.R_base ho0) hb); have n1_ := Aside0.mk (Kd.R_lower (Kd.R_new' ho0 (Kd.R_lt (zr HO638 rfl))) (below_size (zb HB rfl))); have n2_ := Aside0.mk (below_step (zb HB rfl) hb); clear HO638; clear HB; have HO638 := n0_; have HO641 := n1_; have HB := n2_; clear n0_ n1_ n2_; obtain ⟨Ao8, co8, eo8⟩ := Kd.R_slice HO638.out; subst eo8; obtain ⟨Ao9, co9, eo9⟩ := Kd.R_slice HO641.out; subst eo9))
  repeat (go_quiet (first | (go_at_call 35; (with_reducible refine (credenceref1_NatNorm.calls k _ _ l0 t636 _ ?side1 ?side2 A3.out).mono ?_); (case side1 => repeat first | exact HR0.out | refine Kd.C_drewN ?_ _ | refine Kd.C_alloc ?_ _ | refine Kd.C_drew ?_); (case side2 => exact HC0.out); rintro e w6 ⟨v637, rfl, ho0, hb⟩; have n0_ := Aside0.mk (Kd.R_lower ho0 (below_size (zb HB rfl))); have n1_ := Aside0.mk (below_step (zb HB rfl) hb); clear HB; have HO638 := n0_; have HB := n1_; clear n0_ n1_) | (go_at_call 35; (with_reducible refine (credenceref1_NatNorm.calls k _ _ l1 t639 _ ?side1 ?side2 A4.out).mono ?_); (case side1 => repeat first | exact (Kd.C_below HR1.out HB.out) | refine Kd.C_drewN ?_ _ | refine Kd.C_alloc ?_ _ | refine Kd.C_drew ?_); (case side2 => exact HC1.out); rintro e w7 ⟨v640, rfl, ho0, hb⟩; have n0_ := Aside0.mk (Kd.R_elder' (zr HO638 rfl) (Kd.R_base ho0) hb); have n1_ := Aside0.mk (Kd.R_lower (Kd.R_new' ho0 (Kd.R_lt (zr HO638 rfl))) (below_size (zb HB rfl))); have n2_ := Aside0.mk (below_step (zb HB rfl) hb); clear HO638; clear HB; have HO638 := n0_; have HO641 := n1_; have HB := n2_; clear n0_ n1_ n2_; obtain ⟨Ao8, co8, eo8⟩ := Kd.R_slice HO638.out; subst eo8; obtain ⟨Ao9, co9, eo9⟩ := Kd.R_slice HO641.out; subst eo9)); try go_wp2_with (first | (go_at_call 35; (with_reducible refine (credenceref1_NatNorm.calls k _ _ l0 t636 _ ?side1 ?side2 A3.out).mono ?_); (case side1 => repeat first | exact HR0.out | refine Kd.C_drewN ?_ _ | refine Kd.C_alloc ?_ _ | refine Kd.C_drew ?_); (case side2 => exact HC0.out); rintro e w6 ⟨v637, rfl, ho0, hb⟩; have n0_ := Aside0.mk (Kd.R_lower ho0 (below_size (zb HB rfl))); have n1_ := Aside0.mk (below_step (zb HB rfl) hb); clear HB; have HO638 := n0_; have HB := n1_; clear n0_ n1_) | (go_at_call 35; (with_reducible refine (credenceref1_NatNorm.calls k _ _ l1 t639 _ ?side1 ?side2 A4.out).mono ?_); (case side1 => repeat first | exact (Kd.C_below HR1.out HB.out) | refine Kd.C_drewN ?_ _ | refine Kd.C_alloc ?_ _ | refine Kd.C_drew ?_); (case side2 => exact HC1.out); rintro e w7 ⟨v640, rfl, ho0, hb⟩; have n0_ := Aside0.mk (Kd.R_elder' (zr HO638 rfl) (Kd.R_base ho0) hb); have n1_ := Aside0.mk (Kd.R_lower (Kd.R_new' ho0 (Kd.R_lt (zr HO638 rfl))) (below_size (zb HB rfl))); have n2_ := Aside0.mk (below_step (zb HB rfl) hb); clear HO638; clear HB; have HO638 := n0_; have HO641 := n1_; have HB := n2_; clear n0_ n1_ n2_; obtain ⟨Ao8, co8, eo8⟩ := Kd.R_slice HO638.out; subst eo8; obtain ⟨Ao9, co9, eo9⟩ := Kd.R_slice HO641.out; subst eo9)))
  go_loopg [7] k (fun kq v7 w' => ∃ (x7_1 : Int), v7 = .int .i64 x7_1 ∧ Aside0 (credenceref1_NatCmp.l0 kq t636 t639 x7_1 = some r) ∧ Aside0 (kq ≤ k) ∧ Aside0 (Kd.R (Kd.int .u32) 43 w' w.heap.size (fun k_ => some k_ ≠ ((.slice Ao9 t639.length co9) : Value).ownBlock) (.slice Ao8 t636.length co8) t636) ∧ Aside0 (Kd.R (Kd.int .u32) 43 w' w.heap.size (fun k_ => some k_ ≠ ((.slice Ao8 t636.length co8) : Value).ownBlock) (.slice Ao9 t639.length co9) t639) ∧ Aside0 (Below w.heap.size w w'))
  case atStart => exact ⟨(wrap64 ((t636.length : Int) - 1)), (by first | rfl | (simp [*]; done)), H', ⟨Nat.le_refl _⟩, ⟨by (with_reducible repeat (first | apply Kd.R_alloc | apply Kd.R_drewN | apply Kd.R_drew)); exact Kd.R_mono HO638.out (fun _ hk => hk.2)⟩, ⟨by (with_reducible repeat (first | apply Kd.R_alloc | apply Kd.R_drewN | apply Kd.R_drew)); exact Kd.R_mono HO641.out (fun _ hk => hk.2)⟩, ⟨by repeat (first | (with_reducible first | exact HB.out | apply below_alloc | apply pw_below_drewN | apply below_drew1) | exact HB.out)⟩⟩
  case round =>
   clear H'
   try clear c1
   try clear p2
   try clear c3
   try clear c5
   try clear c5b0
   try clear c5b1
   try clear c5b2
   try clear p6
   obtain ⟨x7_1, rfl, HA, HK1, HO_5, HO_6, HB⟩ := hrel
   cases gk with
   | zero => exact absurd HA.out (by simp [credenceref1_NatCmp.l0])
   | succ k1 =>
    have H := HA.out
    clear HA
    simp only [credenceref1_NatCmp.l0] at H
    by_cases c10 : x7_1 ≥ 0
    ·
     rw [if_pos c10] at H
     have c10b0 : decide (0 ≤ x7_1) = true := decide_eq_true c10
     clear c10
     by_cases c11 : 0 ≤ x7_1
     ·
      rw [if_pos c11] at H
      have c11b0 : decide (0 ≤ x7_1) = true := decide_eq_true c11
      clear c11
      by_cases c12 : x7_1 < (t636.length : Int)
      ·
       rw [if_pos c12] at H
       have c12b0 : decide (x7_1 < (t636.length : Int)) = true := decide_eq_true c12
       clear c12
       by_cases c13 : x7_1 < (t639.length : Int)
       ·
        rw [if_pos c13] at H
        have c13b0 : decide (x7_1 < (t639.length : Int)) = true := decide_eq_true c13
        clear c13
        by_cases c14 : (rd t636 x7_1) < (rd t639 x7_1)
        ·
         rw [if_pos c14] at H
         have c14b0 : decide ((rd t636 x7_1) < (rd t639 x7_1)) = true := decide_eq_true c14
         clear c14
         obtain rfl := Option.some.inj H
         have p642 : 0 ≤ (x7_1 : Int) := of_decide_eq_true (by first | (with_reducible assumption) | assumption)
         have q642 : x7_1 < (t636.length : Int) := of_decide_eq_true (by first | (with_reducible assumption) | assumption)
         obtain ⟨ad642, e642, hx642_0⟩ := Kd.at_int (Kd.R_reads' HO_5.out).2.2 x7_1 p642 q642
         cases e642
         replace p642 := eq_true p642
         replace q642 := eq_true q642
         have p643 : 0 ≤ (x7_1 : Int) := of_decide_eq_true (by first | (with_reducible assumption) | assumption)
         have q643 : x7_1 < (t639.length : Int) := of_decide_eq_true (by first | (with_reducible assumption) | assumption)
         obtain ⟨ad643, e643, hx643_0⟩ := Kd.at_int (Kd.R_reads' HO_6.out).2.2 x7_1 p643 q643
         cases e643
         replace p643 := eq_true p643
         replace q643 := eq_true q643
         go_wp2
         repeat (go_quiet (fail); try go_wp2)
         go_ret
         exact ⟨by first | rfl | (simp [*, errW_none, errW_some] <;> rfl), by repeat (first | (with_reducible first | exact HB.out | apply below_alloc | apply pw_below_drewN | apply below_drew1) | exact HB.out)⟩
        ·
         rw [if_neg c14] at H
         have c14b0 : decide ((rd t636 x7_1) < (rd t639 x7_1)) = false := decide_eq_false c14
         clear c14
         by_cases c15 : (rd t636 x7_1) > (rd t639 x7_1)
         ·
          rw [if_pos c15] at H
          have c15b0 : decide ((rd t639 x7_1) < (rd t636 x7_1)) = true := decide_eq_true c15
          clear c15
          obtain rfl := Option.some.inj H
          have p642 : 0 ≤ (x7_1 : Int) := of_decide_eq_true (by first | (with_reducible assumption) | assumption)
          have q642 : x7_1 < (t636.length : Int) := of_decide_eq_true (by first | (with_reducible assumption) | assumption)
          obtain ⟨ad642, e642, hx642_0⟩ := Kd.at_int (Kd.R_reads' HO_5.out).2.2 x7_1 p642 q642
          cases e642
          replace p642 := eq_true p642
          replace q642 := eq_true q642
          have p643 : 0 ≤ (x7_1 : Int) := of_decide_eq_true (by first | (with_reducible assumption) | assumption)
          have q643 : x7_1 < (t639.length : Int) := of_decide_eq_true (by first | (with_reducible assumption) | assumption)
          obtain ⟨ad643, e643, hx643_0⟩ := Kd.at_int (Kd.R_reads' HO_6.out).2.2 x7_1 p643 q643
          cases e643
          replace p643 := eq_true p643
          replace q643 := eq_true q643
          have p644 : 0 ≤ (x7_1 : Int) := of_decide_eq_true (by first | (with_reducible assumption) | assumption)
          have q644 : x7_1 < (t636.length : Int) := of_decide_eq_true (by first | (with_reducible assumption) | assumption)
          obtain ⟨ad644, e644, hx644_0⟩ := Kd.at_int (Kd.R_reads' HO_5.out).2.2 x7_1 p644 q644
          obtain rfl : ad642 = ad644 := (by injection e644)
          replace p644 := eq_true p644
          replace q644 := eq_true q644
          have p645 : 0 ≤ (x7_1 : Int) := of_decide_eq_true (by first | (with_reducible assumption) | assumption)
          have q645 : x7_1 < (t639.length : Int) := of_decide_eq_true (by first | (with_reducible assumption) | assumption)
          obtain ⟨ad645, e645, hx645_0⟩ := Kd.at_int (Kd.R_reads' HO_6.out).2.2 x7_1 p645 q645
          obtain rfl : ad643 = ad645 := (by injection e645)
          replace p645 := eq_true p645
          replace q645 := eq_true q645
          go_wp2
          repeat (go_quiet (fail); try go_wp2)
          go_ret
          exact ⟨by first | rfl | (simp [*, errW_none, errW_some] <;> rfl), by repeat (first | (with_reducible first | exact HB.out | apply below_alloc | apply pw_below_drewN | apply below_drew1) | exact HB.out)⟩
         ·
          rw [if_neg c15] at H
          have c15b0 : decide ((rd t639 x7_1) < (rd t636 x7_1)) = false := decide_eq_false c15
          clear c15
          have H' := Aside0.mk H
          clear H
          have p642 : 0 ≤ (x7_1 : Int) := of_decide_eq_true (by first | (with_reducible assumption) | assumption)
          have q642 : x7_1 < (t636.length : Int) := of_decide_eq_true (by first | (with_reducible assumption) | assumption)
          obtain ⟨ad642, e642, hx642_0⟩ := Kd.at_int (Kd.R_reads' HO_5.out).2.2 x7_1 p642 q642
          cases e642
          replace p642 := eq_true p642
          replace q642 := eq_true q642
          have p643 : 0 ≤ (x7_1 : Int) := of_decide_eq_true (by first | (with_reducible assumption) | assumption)
          have q643 : x7_1 < (t639.length : Int) := of_decide_eq_true (by first | (with_reducible assumption) | assumption)
          obtain ⟨ad643, e643, hx643_0⟩ := Kd.at_int (Kd.R_reads' HO_6.out).2.2 x7_1 p643 q643
          cases e643
          replace p643 := eq_true p643
          replace q643 := eq_true q643
          have p644 : 0 ≤ (x7_1 : Int) := of_decide_eq_true (by first | (with_reducible assumption) | assumption)
          have q644 : x7_1 < (t636.length : Int) := of_decide_eq_true (by first | (with_reducible assumption) | assumption)
          obtain ⟨ad644, e644, hx644_0⟩ := Kd.at_int (Kd.R_reads' HO_5.out).2.2 x7_1 p644 q644
          obtain rfl : ad642 = ad644 := (by injection e644)
          replace p644 := eq_true p644
          replace q644 := eq_true q644
          have p645 : 0 ≤ (x7_1 : Int) := of_decide_eq_true (by first | (with_reducible assumption) | assumption)
          have q645 : x7_1 < (t639.length : Int) := of_decide_eq_true (by first | (with_reducible assumption) | assumption)
          obtain ⟨ad645, e645, hx645_0⟩ := Kd.at_int (Kd.R_reads' HO_6.out).2.2 x7_1 p645 q645
          obtain rfl : ad643 = ad645 := (by injection e645)
          replace p645 := eq_true p645
          replace q645 := eq_true q645
          go_wp2
          repeat (go_quiet (fail); try go_wp2)
          go_roundg k1
          case measure => have := HK1.out; omega
          case rel => exact ⟨(wrap64 (x7_1 - 1)), (by first | rfl | (simp [*]; done)), H', ⟨by have := HK1.out; omega⟩, ⟨by (with_reducible repeat (first | apply Kd.R_alloc | apply Kd.R_drewN | apply Kd.R_drew)); exact HO_5.out⟩, ⟨by (with_reducible repeat (first | apply Kd.R_alloc | apply Kd.R_drewN | apply Kd.R_drew)); exact HO_6.out⟩, ⟨by repeat (first | (with_reducible first | exact HB.out | apply below_alloc | apply pw_below_drewN | apply below_drew1) | exact HB.out)⟩⟩
       ·
        rw [if_neg c13] at H
        exact absurd H (by simp)
      ·
       rw [if_neg c12] at H
       exact absurd H (by simp)
     ·
      rw [if_neg c11] at H
      exact absurd H (by simp)
    ·
     rw [if_neg c10] at H
     have c10b0 : decide (0 ≤ x7_1) = false := decide_eq_false c10
     clear c10
     obtain rfl := Option.some.inj H
     go_wp2
     repeat (go_quiet (fail); try go_wp2)
     go_ret
     exact ⟨by first | rfl | (simp [*, errW_none, errW_some] <;> rfl), by repeat (first | (with_reducible first | exact HB.out | apply below_alloc | apply pw_below_drewN | apply below_drew1) | exact HB.out)⟩
 ·
  rw [if_neg c5] at H
  have c5b0 : ((t636.length : Int) == (t639.length : Int)) = false := beq_eq_false_iff_ne.mpr c5
  have c5b1 : ((t636.length : Int) != (t639.length : Int)) = true := bne_iff_ne.mpr c5
  have c5b2 : (t636.length == t639.length) = false := by first | simpa using c5 | (simp at c5 ⊢; omega)
  by_cases c16 : (t636.length : Int) < (t639.length : Int)
  ·
   rw [if_pos c16] at H
   have c16b0 : decide ((t636.length : Int) < (t639.length : Int)) = true := decide_eq_true c16
   have c16b1 : decide (t636.length < t639.length) = true := decide_eq_true (Int.ofNat_lt.mp c16)
   clear c16
   obtain rfl := Option.some.inj H
   go_enter Try.func37, Try.ntmps37
   have M845_0 : Aside0 True := ⟨trivial⟩
   have M845_1 : Aside0 True := ⟨trivial⟩
   go_wp2_with (first | (go_at_call 35; clear M845_0; (with_reducible refine (credenceref1_NatNorm.calls k _ _ l0 t636 _ ?side1 ?side2 A3.out).mono ?_); (case side1 => repeat first | exact HR0.out | refine Kd.C_drewN ?_ _ | refine Kd.C_alloc ?_ _ | refine Kd.C_drew ?_); (case side2 => exact HC0.out); rintro e w17 ⟨v637, rfl, ho0, hb⟩; have n0_ := Aside0.mk (Kd.R_lower ho0 (below_size (zb HB rfl))); have n1_ := Aside0.mk (below_step (zb HB rfl) hb); clear HB; have HO638 := n0_; have HB := n1_; clear n0_ n1_) | (go_at_call 35; clear M845_1; (with_reducible refine (credenceref1_NatNorm.calls k _ _ l1 t639 _ ?side1 ?side2 A4.out).mono ?_); (case side1 => repeat first | exact (Kd.C_below HR1.out HB.out) | refine Kd.C_drewN ?_ _ | refine Kd.C_alloc ?_ _ | refine Kd.C_drew ?_); (case side2 => exact HC1.out); rintro e w18 ⟨v640, rfl, ho0, hb⟩; have n0_ := Aside0.mk (Kd.R_elder' (zr HO638 rfl) (Kd.R_base ho0) hb); have n1_ := Aside0.mk (Kd.R_lower (Kd.R_new' ho0 (Kd.R_lt (zr HO638 rfl))) (below_size (zb HB rfl))); have n2_ := Aside0.mk (below_step (zb HB rfl) hb); clear HO638; clear HB; have HO638 := n0_; have HO641 := n1_; have HB := n2_; clear n0_ n1_ n2_; obtain ⟨Ao19, co19, eo19⟩ := Kd.R_slice HO638.out; subst eo19; obtain ⟨Ao20, co20, eo20⟩ := Kd.R_slice HO641.out; subst eo20))
   repeat (go_quiet (first | (go_at_call 35; (with_reducible refine (credenceref1_NatNorm.calls k _ _ l0 t636 _ ?side1 ?side2 A3.out).mono ?_); (case side1 => repeat first | exact HR0.out | refine Kd.C_drewN ?_ _ | refine Kd.C_alloc ?_ _ | refine Kd.C_drew ?_); (case side2 => exact HC0.out); rintro e w17 ⟨v637, rfl, ho0, hb⟩; have n0_ := Aside0.mk (Kd.R_lower ho0 (below_size (zb HB rfl))); have n1_ := Aside0.mk (below_step (zb HB rfl) hb); clear HB; have HO638 := n0_; have HB := n1_; clear n0_ n1_) | (go_at_call 35; (with_reducible refine (credenceref1_NatNorm.calls k _ _ l1 t639 _ ?side1 ?side2 A4.out).mono ?_); (case side1 => repeat first | exact (Kd.C_below HR1.out HB.out) | refine Kd.C_drewN ?_ _ | refine Kd.C_alloc ?_ _ | refine Kd.C_drew ?_); (case side2 => exact HC1.out); rintro e w18 ⟨v640, rfl, ho0, hb⟩; have n0_ := Aside0.mk (Kd.R_elder' (zr HO638 rfl) (Kd.R_base ho0) hb); have n1_ := Aside0.mk (Kd.R_lower (Kd.R_new' ho0 (Kd.R_lt (zr HO638 rfl))) (below_size (zb HB rfl))); have n2_ := Aside0.mk (below_step (zb HB rfl) hb); clear HO638; clear HB; have HO638 := n0_; have HO641 := n1_; have HB := n2_; clear n0_ n1_ n2_; obtain ⟨Ao19, co19, eo19⟩ := Kd.R_slice HO638.out; subst eo19; obtain ⟨Ao20, co20, eo20⟩ := Kd.R_slice HO641.out; subst eo20)); try go_wp2_with (first | (go_at_call 35; (with_reducible refine (credenceref1_NatNorm.calls k _ _ l0 t636 _ ?side1 ?side2 A3.out).mono ?_); (case side1 => repeat first | exact HR0.out | refine Kd.C_drewN ?_ _ | refine Kd.C_alloc ?_ _ | refine Kd.C_drew ?_); (case side2 => exact HC0.out); rintro e w17 ⟨v637, rfl, ho0, hb⟩; have n0_ := Aside0.mk (Kd.R_lower ho0 (below_size (zb HB rfl))); have n1_ := Aside0.mk (below_step (zb HB rfl) hb); clear HB; have HO638 := n0_; have HB := n1_; clear n0_ n1_) | (go_at_call 35; (with_reducible refine (credenceref1_NatNorm.calls k _ _ l1 t639 _ ?side1 ?side2 A4.out).mono ?_); (case side1 => repeat first | exact (Kd.C_below HR1.out HB.out) | refine Kd.C_drewN ?_ _ | refine Kd.C_alloc ?_ _ | refine Kd.C_drew ?_); (case side2 => exact HC1.out); rintro e w18 ⟨v640, rfl, ho0, hb⟩; have n0_ := Aside0.mk (Kd.R_elder' (zr HO638 rfl) (Kd.R_base ho0) hb); have n1_ := Aside0.mk (Kd.R_lower (Kd.R_new' ho0 (Kd.R_lt (zr HO638 rfl))) (below_size (zb HB rfl))); have n2_ := Aside0.mk (below_step (zb HB rfl) hb); clear HO638; clear HB; have HO638 := n0_; have HO641 := n1_; have HB := n2_; clear n0_ n1_ n2_; obtain ⟨Ao19, co19, eo19⟩ := Kd.R_slice HO638.out; subst eo19; obtain ⟨Ao20, co20, eo20⟩ := Kd.R_slice HO641.out; subst eo20)))
   go_ret
   exact ⟨by first | rfl | (simp [*, errW_none, errW_some] <;> rfl), by repeat (first | (with_reducible first | exact HB.out | apply below_alloc | apply pw_below_drewN | apply below_drew1) | exact HB.out)⟩
  ·
   rw [if_neg c16] at H
   have c16b0 : decide ((t636.length : Int) < (t639.length : Int)) = false := decide_eq_false c16
   have c16b1 : decide (t636.length < t639.length) = false := decide_eq_false (fun h => c16 (Int.ofNat_lt.mpr h))
   clear c16
   obtain rfl := Option.some.inj H
   go_enter Try.func37, Try.ntmps37
   have M855_0 : Aside0 True := ⟨trivial⟩
   have M855_1 : Aside0 True := ⟨trivial⟩
   go_wp2_with (first | (go_at_call 35; clear M855_0; (with_reducible refine (credenceref1_NatNorm.calls k _ _ l0 t636 _ ?side1 ?side2 A3.out).mono ?_); (case side1 => repeat first | exact HR0.out | refine Kd.C_drewN ?_ _ | refine Kd.C_alloc ?_ _ | refine Kd.C_drew ?_); (case side2 => exact HC0.out); rintro e w21 ⟨v637, rfl, ho0, hb⟩; have n0_ := Aside0.mk (Kd.R_lower ho0 (below_size (zb HB rfl))); have n1_ := Aside0.mk (below_step (zb HB rfl) hb); clear HB; have HO638 := n0_; have HB := n1_; clear n0_ n1_) | (go_at_call 35; clear M855_1; (with_reducible refine (credenceref1_NatNorm.calls k _ _ l1 t639 _ ?side1 ?side2 A4.out).mono ?_); (case side1 => repeat first | exact (Kd.C_below HR1.out HB.out) | refine Kd.C_drewN ?_ _ | refine Kd.C_alloc ?_ _ | refine Kd.C_drew ?_); (case side2 => exact HC1.out); rintro e w22 ⟨v640, rfl, ho0, hb⟩; have n0_ := Aside0.mk (Kd.R_elder' (zr HO638 rfl) (Kd.R_base ho0) hb); have n1_ := Aside0.mk (Kd.R_lower (Kd.R_new' ho0 (Kd.R_lt (zr HO638 rfl))) (below_size (zb HB rfl))); have n2_ := Aside0.mk (below_step (zb HB rfl) hb); clear HO638; clear HB; have HO638 := n0_; have HO641 := n1_; have HB := n2_; clear n0_ n1_ n2_; obtain ⟨Ao23, co23, eo23⟩ := Kd.R_slice HO638.out; subst eo23; obtain ⟨Ao24, co24, eo24⟩ := Kd.R_slice HO641.out; subst eo24))
   repeat (go_quiet (first | (go_at_call 35; (with_reducible refine (credenceref1_NatNorm.calls k _ _ l0 t636 _ ?side1 ?side2 A3.out).mono ?_); (case side1 => repeat first | exact HR0.out | refine Kd.C_drewN ?_ _ | refine Kd.C_alloc ?_ _ | refine Kd.C_drew ?_); (case side2 => exact HC0.out); rintro e w21 ⟨v637, rfl, ho0, hb⟩; have n0_ := Aside0.mk (Kd.R_lower ho0 (below_size (zb HB rfl))); have n1_ := Aside0.mk (below_step (zb HB rfl) hb); clear HB; have HO638 := n0_; have HB := n1_; clear n0_ n1_) | (go_at_call 35; (with_reducible refine (credenceref1_NatNorm.calls k _ _ l1 t639 _ ?side1 ?side2 A4.out).mono ?_); (case side1 => repeat first | exact (Kd.C_below HR1.out HB.out) | refine Kd.C_drewN ?_ _ | refine Kd.C_alloc ?_ _ | refine Kd.C_drew ?_); (case side2 => exact HC1.out); rintro e w22 ⟨v640, rfl, ho0, hb⟩; have n0_ := Aside0.mk (Kd.R_elder' (zr HO638 rfl) (Kd.R_base ho0) hb); have n1_ := Aside0.mk (Kd.R_lower (Kd.R_new' ho0 (Kd.R_lt (zr HO638 rfl))) (below_size (zb HB rfl))); have n2_ := Aside0.mk (below_step (zb HB rfl) hb); clear HO638; clear HB; have HO638 := n0_; have HO641 := n1_; have HB := n2_; clear n0_ n1_ n2_; obtain ⟨Ao23, co23, eo23⟩ := Kd.R_slice HO638.out; subst eo23; obtain ⟨Ao24, co24, eo24⟩ := Kd.R_slice HO641.out; subst eo24)); try go_wp2_with (first | (go_at_call 35; (with_reducible refine (credenceref1_NatNorm.calls k _ _ l0 t636 _ ?side1 ?side2 A3.out).mono ?_); (case side1 => repeat first | exact HR0.out | refine Kd.C_drewN ?_ _ | refine Kd.C_alloc ?_ _ | refine Kd.C_drew ?_); (case side2 => exact HC0.out); rintro e w21 ⟨v637, rfl, ho0, hb⟩; have n0_ := Aside0.mk (Kd.R_lower ho0 (below_size (zb HB rfl))); have n1_ := Aside0.mk (below_step (zb HB rfl) hb); clear HB; have HO638 := n0_; have HB := n1_; clear n0_ n1_) | (go_at_call 35; (with_reducible refine (credenceref1_NatNorm.calls k _ _ l1 t639 _ ?side1 ?side2 A4.out).mono ?_); (case side1 => repeat first | exact (Kd.C_below HR1.out HB.out) | refine Kd.C_drewN ?_ _ | refine Kd.C_alloc ?_ _ | refine Kd.C_drew ?_); (case side2 => exact HC1.out); rintro e w22 ⟨v640, rfl, ho0, hb⟩; have n0_ := Aside0.mk (Kd.R_elder' (zr HO638 rfl) (Kd.R_base ho0) hb); have n1_ := Aside0.mk (Kd.R_lower (Kd.R_new' ho0 (Kd.R_lt (zr HO638 rfl))) (below_size (zb HB rfl))); have n2_ := Aside0.mk (below_step (zb HB rfl) hb); clear HO638; clear HB; have HO638 := n0_; have HO641 := n1_; have HB := n2_; clear n0_ n1_ n2_; obtain ⟨Ao23, co23, eo23⟩ := Kd.R_slice HO638.out; subst eo23; obtain ⟨Ao24, co24, eo24⟩ := Kd.R_slice HO641.out; subst eo24)))
   go_ret
   exact ⟨by first | rfl | (simp [*, errW_none, errW_some] <;> rfl), by repeat (first | (with_reducible first | exact HB.out | apply below_alloc | apply pw_below_drewN | apply below_drew1) | exact HB.out)⟩

end Go.Proofs.Ytjiaplnpgjicgaa.Q

