/- Lemmas for the proof of one law of this seat (Qx12). -/
import Derived.Test.YtjiaplnpgjicgaaZBignatArithQx0
import Derived.Test.YtjiaplnpgjicgaaZBignatArithQx1
import Derived.Test.YtjiaplnpgjicgaaZBignatArithQx6
import Derived.Test.YtjiaplnpgjicgaaZBignatArithQx7
import Derived.Test.YtjiaplnpgjicgaaZBignatArithQx10
import Derived.Test.YtjiaplnpgjicgaaZBignatArithQx11
import Derived.Test.YtjiaplnpgjicgaaZBignatArithSq
namespace Go.Proofs.Ytjiaplnpgjicgaa.Q
open Go.RowKit Go.Proofs.YtjiaplnpgjicgaaW.PrintWords Go.Proofs.YtjiaplnpgjicgaaW.PrintLast Go.Proofs.YtjiaplnpgjicgaaW.PrintMore
attribute [local go_sem] max2_int min2_int max_two min_two max_three min_three max_four min_four   -- for this text's walks alone
set_option linter.unusedVariables false
set_option linter.unusedSimpArgs false

def credencelaw1_BignatDivision.f (k : Nat) (l0 : List Int) (l1 : List Int) : Option (Bool) := (credencebase_Nat.f k l0).bind fun t514 => ((credencebase_Nat.f k l1).bind fun t517 => ((bignat_DivMod.f k t514 t517).bind fun bt520 => ((bignat_BitLen.f k t517).bind fun t527 => (if t527 = 0 then (if bt520.2.2 = true then (some false) else (if (bt520.1.length : Int) = 0 then (if (bt520.2.1.length : Int) = 0 then ((credencelaw1_known.f k).bind fun t528 => (some t528)) else (some false)) else (some false))) else ((bignat_Mul.f k t514 t517).bind fun t529 => ((bignat_DivMod.f k t529 t517).bind fun bt532 => (if bt520.2.2 = true then (if bt532.2.2 = true then ((bignat_Cmp.f k bt520.2.1 t517).bind fun t539 => (if t539 < 0 then ((bignat_Mul.f k bt520.1 t517).bind fun t540 => ((bignat_Add.f k t540 bt520.2.1).bind fun t543 => ((bignat_Normalize.f k t514).bind fun t546 => ((credencelaw1_same.f k t543 t546).bind fun t549 => (if t549 = true then ((bignat_Normalize.f k t514).bind fun t550 => ((credencelaw1_same.f k bt532.1 t550).bind fun t553 => (if t553 = true then (if (bt532.2.1.length : Int) = 0 then ((credencelaw1_known.f k).bind fun t554 => (some t554)) else (some false)) else (some false)))) else (some false)))))) else (some false))) else (some false)) else (some false))))))))
theorem credencelaw1_BignatDivision.mono : ∀ a0 a1 k, LeO (credencelaw1_BignatDivision.f k a0 a1) (credencelaw1_BignatDivision.f (k + 1) a0 a1) := by
 intro a0 a1 k
 unfold credencelaw1_BignatDivision.f
 repeat' first
   | (with_reducible exact bignat_Add.mono _ _ _)
   | (with_reducible exact bignat_BitLen.mono _ _)
   | (with_reducible exact bignat_Cmp.mono _ _ _)
   | (with_reducible exact bignat_DivMod.mono _ _ _)
   | (with_reducible exact bignat_Mul.mono _ _ _)
   | (with_reducible exact bignat_Normalize.mono _ _)
   | (with_reducible exact credencebase_Nat.mono _ _)
   | (with_reducible exact credencelaw1_known.mono _)
   | (with_reducible exact credencelaw1_same.mono _ _ _)
   | (with_reducible exact LeO.refl _)
   | (with_reducible exact LeO.none _)
   | (with_reducible refine LeO.ite ?_ ?_)
   | (with_reducible refine LeO.bind ?_ (fun _ => ?_))
   | exact bignat_Add.mono _ _ _
   | exact bignat_BitLen.mono _ _
   | exact bignat_Cmp.mono _ _ _
   | exact bignat_DivMod.mono _ _ _
   | exact bignat_Mul.mono _ _ _
   | exact bignat_Normalize.mono _ _
   | exact credencebase_Nat.mono _ _
   | exact credencelaw1_known.mono _
   | exact credencelaw1_same.mono _ _ _
   | exact LeO.none _
   | refine LeO.ite ?_ ?_
   | refine LeO.bind ?_ (fun _ => ?_)

def bignat_Uint64.l0 : Nat → Int → List Int → Int → Int → Option (Int × Bool)
 | 0, _, _, _, _ => none
 | k + 1, x4, x12, x13, x14 => if x14 < x13 then (if 0 ≤ x14 then (if x14 < (x12.length : Int) then (if 0 ≤ (wrap64 (32 * x14)) then (bignat_Uint64.l0 k (Go.bits .or .u64 x4 (shl .u64 (IntKind.u64.wrap (rd x12 x14)) (wrap64 (32 * x14)))) x12 x13 (wrap64 (x14 + 1))) else (none)) else (none)) else (none)) else (some (x4, true))
def bignat_Uint64.f (k : Nat) (l0 : List Int) : Option (Int × Bool) := (bignat_trim.f k l0).bind fun t555 => (if (t555.length : Int) > 2 then (some (0, false)) else (bignat_Uint64.l0 k 0 t555 (t555.length : Int) 0))
theorem bignat_Uint64.mono_l : ∀ k, (∀ y0 y1 y2 y3, LeO (bignat_Uint64.l0 k y0 y1 y2 y3) (bignat_Uint64.l0 (k + 1) y0 y1 y2 y3))
 | 0 => fun _ _ _ _ r h => by simp [bignat_Uint64.l0] at h
 | k + 1 => by
  have ih0 := bignat_Uint64.mono_l k
  ·
   intro y0 y1 y2 y3
   unfold bignat_Uint64.l0
   repeat' first
   | (with_reducible exact ih0 _ _ _ _)
   | (with_reducible exact bignat_trim.mono _ _)
   | (with_reducible exact LeO.refl _)
   | (with_reducible exact LeO.none _)
   | (with_reducible refine LeO.ite ?_ ?_)
   | (with_reducible refine LeO.bind ?_ (fun _ => ?_))
   | exact ih0 _ _ _ _
   | exact bignat_trim.mono _ _
   | exact LeO.none _
   | refine LeO.ite ?_ ?_
   | refine LeO.bind ?_ (fun _ => ?_)
theorem bignat_Uint64.mono : ∀ a0 k, LeO (bignat_Uint64.f k a0) (bignat_Uint64.f (k + 1) a0) := by
 intro a0 k
 have ih0 := bignat_Uint64.mono_l k
 unfold bignat_Uint64.f
 repeat' first
   | (with_reducible exact ih0 _ _ _ _)
   | (with_reducible exact bignat_trim.mono _ _)
   | (with_reducible exact LeO.refl _)
   | (with_reducible exact LeO.none _)
   | (with_reducible refine LeO.ite ?_ ?_)
   | (with_reducible refine LeO.bind ?_ (fun _ => ?_))
   | exact ih0 _ _ _ _
   | exact bignat_trim.mono _ _
   | exact LeO.none _
   | refine LeO.ite ?_ ?_
   | refine LeO.bind ?_ (fun _ => ?_)
set_option maxHeartbeats 8000000 in
set_option maxRecDepth 100000 in
theorem bignat_Uint64.calls (k : Nat) (A0 : Option Addr) (c0 : Nat) (l0 : List Int) (r1 : Int) (r2 : Bool) (w : World) (hr0 : Kd.C (Kd.int .u32) w A0 l0.length l0) (hc0 : l0.length ≤ c0) (h : bignat_Uint64.f k l0 = some (r1, r2)) :
  Calls Try.prog 30 #[.slice A0 l0.length c0] w fun e w' => e = .returned (.tuple #[.int .u64 r1, .bool r2]) ∧ Below w.heap.size w w' := by
 have HR0 := Aside0.mk hr0
 have HC0 := Aside0.mk hc0
 clear hr0 hc0
 have HB := Aside0.mk (Below.refl w.heap.size w)
 have H : ((bignat_trim.f k l0).bind fun t555 => (if (t555.length : Int) > 2 then (some (0, false)) else (bignat_Uint64.l0 k 0 t555 (t555.length : Int) 0))) = some (r1, r2) := h
 clear h
 replace H := Option.bind_eq_some_iff.mp H
 obtain ⟨t555, A20, H⟩ := H
 replace H : (if (t555.length : Int) > 2 then (some (0, false)) else (bignat_Uint64.l0 k 0 t555 (t555.length : Int) 0)) = some (r1, r2) := H
 have A2 := Aside0.mk A20
 clear A20
 by_cases c3 : (t555.length : Int) > 2
 ·
  rw [if_pos c3] at H
  have c3b0 : decide (2 < (t555.length : Int)) = true := decide_eq_true c3
  have c3b1 : decide (2 < t555.length) = true := decide_eq_true (by omega)
  clear c3
  simp only [Option.some.injEq, Prod.mk.injEq] at H
  obtain ⟨rfl, rfl⟩ := H
  go_enter Try.func30, Try.ntmps30
  go_wp2_with (first | ((with_reducible refine gate_callee (f := 47) rfl ?_); refine goesL_ (some 8) rfl rfl Try.func47 (by kernel_rfl) rfl #[.slice A0 l0.length c0] rfl (by first | rfl | (go_simp; first | done | rfl | ((try simp only [IntKind.wrap_u8, IntKind.wrap_u32, IntKind.wrap_u64]); omega))) ?_; (with_reducible refine (bignat_trim.calls k (fun k_ => k_ < w.heap.size) _ _ l0 t555 _ ?side1 A2.out).mono ?_); (case side1 => exact Kd.V_mk HC0.out (Kd.F_below (Kd.C_F (Kd.heap_int .u32) HR0.out) (zb HB rfl))); rintro e w4 ⟨v556, rfl, ho0, hb⟩; refine ⟨_, rfl, ?_⟩; have n0_ := Aside0.mk (Kd.V_lower (Kd.V_mono (ok' := fun k_ => True) ho0 (fun k_ hk_ => trivial)) (below_size (zb HB rfl))); have n1_ := Aside0.mk (below_step (zb HB rfl) hb); clear HB; have HO557 := n0_; have HB := n1_; clear n0_ n1_; obtain ⟨Ao5, co5, eo5⟩ := Kd.V_slice HO557.out; subst eo5))
  go_ret2
  exact ⟨by first | rfl | (simp [*, errW_none, errW_some] <;> rfl), by repeat (first | (with_reducible first | exact HB.out | apply below_alloc | apply pw_below_drewN | apply below_drew1) | exact HB.out)⟩
 ·
  rw [if_neg c3] at H
  have c3b0 : decide (2 < (t555.length : Int)) = false := decide_eq_false c3
  have c3b1 : decide (2 < t555.length) = false := decide_eq_false (by omega)
  clear c3
  have H' := Aside0.mk H
  clear H
  go_enter Try.func30, Try.ntmps30
  go_wp2_with (first | ((with_reducible refine gate_callee (f := 47) rfl ?_); refine goesL_ (some 8) rfl rfl Try.func47 (by kernel_rfl) rfl #[.slice A0 l0.length c0] rfl (by first | rfl | (go_simp; first | done | rfl | ((try simp only [IntKind.wrap_u8, IntKind.wrap_u32, IntKind.wrap_u64]); omega))) ?_; (with_reducible refine (bignat_trim.calls k (fun k_ => k_ < w.heap.size) _ _ l0 t555 _ ?side1 A2.out).mono ?_); (case side1 => exact Kd.V_mk HC0.out (Kd.F_below (Kd.C_F (Kd.heap_int .u32) HR0.out) (zb HB rfl))); rintro e w6 ⟨v556, rfl, ho0, hb⟩; refine ⟨_, rfl, ?_⟩; have n0_ := Aside0.mk (Kd.V_lower (Kd.V_mono (ok' := fun k_ => True) ho0 (fun k_ hk_ => trivial)) (below_size (zb HB rfl))); have n1_ := Aside0.mk (below_step (zb HB rfl) hb); clear HB; have HO557 := n0_; have HB := n1_; clear n0_ n1_; obtain ⟨Ao7, co7, eo7⟩ := Kd.V_slice HO557.out; subst eo7))
  go_loopg [4, 14] k (fun kq v4 v14 w' => ∃ (x4_1 : Int) (x14_1 : Int), v4 = .int .u64 x4_1 ∧ v14 = .int .i64 x14_1 ∧ Aside0 (bignat_Uint64.l0 kq x4_1 t555 (t555.length : Int) x14_1 = some (r1, r2)) ∧ Aside0 (kq ≤ k) ∧ Aside0 (Kd.V (Kd.int .u32) 43 w' w.heap.size (fun _ => True) (.slice Ao7 t555.length co7) t555) ∧ Aside0 (Below w.heap.size w w'))
  case atStart => exact ⟨(0), (0), (by first | rfl | (simp [*]; done)), (by first | rfl | (simp [*]; done)), H', ⟨Nat.le_refl _⟩, ⟨by (with_reducible repeat (first | apply Kd.V_alloc | apply Kd.V_drewN | apply Kd.V_drew)); exact HO557.out⟩, ⟨by repeat (first | (with_reducible first | exact HB.out | apply below_alloc | apply pw_below_drewN | apply below_drew1) | exact HB.out)⟩⟩
  case round =>
   clear H'
   try clear p2
   try clear c3
   try clear c3b0
   try clear c3b1
   try clear c4
   obtain ⟨x4_1, x14_1, rfl, rfl, HA, HK1, HO_12, HB⟩ := hrel
   cases gk with
   | zero => exact absurd HA.out (by simp [bignat_Uint64.l0])
   | succ k1 =>
    have H := HA.out
    clear HA
    simp only [bignat_Uint64.l0] at H
    by_cases c8 : x14_1 < (t555.length : Int)
    ·
     rw [if_pos c8] at H
     have c8b0 : decide (x14_1 < (t555.length : Int)) = true := decide_eq_true c8
     clear c8
     by_cases c9 : 0 ≤ x14_1
     ·
      rw [if_pos c9] at H
      have c9b0 : decide (0 ≤ x14_1) = true := decide_eq_true c9
      clear c9
      by_cases c10 : x14_1 < (t555.length : Int)
      ·
       rw [if_pos c10] at H
       have c10b0 : decide (x14_1 < (t555.length : Int)) = true := decide_eq_true c10
       clear c10
       obtain ⟨ji11, hji11⟩ : ∃ j_ : Int, (wrap64 (32 * x14_1)) = j_ := ⟨_, rfl⟩
       replace H : (if 0 ≤ (ji11) then (bignat_Uint64.l0 k1 (Go.bits .or .u64 x4_1 (shl .u64 (IntKind.u64.wrap (rd t555 x14_1)) (ji11))) t555 (t555.length : Int) (wrap64 (x14_1 + 1))) else (none)) = some (r1, r2) := by first | (rw [hji11] at H; exact H) | (simp only [hji11] at H ⊢; exact H)
       have hji11w : (IntKind.i64.wrap (32 * x14_1)) = ji11 := (i64_w _).trans hji11
       by_cases c12 : 0 ≤ (ji11)
       ·
        rw [if_pos c12] at H
        have c12b0 := eq_true c12
        have c12b1 : decide (0 ≤ (ji11)) = true := decide_eq_true c12
        clear c12
        obtain ⟨ji13, hji13⟩ : ∃ j_ : Int, (shl .u64 (IntKind.u64.wrap (rd t555 x14_1)) (ji11)) = j_ := ⟨_, rfl⟩
        replace H : (bignat_Uint64.l0 k1 (Go.bits .or .u64 x4_1 (ji13)) t555 (t555.length : Int) (wrap64 (x14_1 + 1))) = some (r1, r2) := by first | (rw [hji13] at H; exact H) | (simp only [hji13] at H ⊢; exact H)
        have hji13_ : (IntKind.u64.wrap ((IntKind.u64.wrap (rd t555 x14_1)) * 2 ^ min (ji11).toNat 64)) = ji13 := hji13
        have hji13z : (ji11) ≤ 64 → (IntKind.u64.wrap ((IntKind.u64.wrap (rd t555 x14_1)) * 2 ^ (ji11).toNat)) = ji13 := shl_small hji13
        have H' := Aside0.mk H
        clear H
        have p558 : 0 ≤ (x14_1 : Int) := of_decide_eq_true (by first | (with_reducible assumption) | assumption)
        have q558 : x14_1 < (t555.length : Int) := of_decide_eq_true (by first | (with_reducible assumption) | assumption)
        obtain ⟨ad558, e558, hx558_0⟩ := Kd.at_int (Kd.V_reads' HO_12.out).2.2 x14_1 p558 q558
        cases e558
        replace p558 := eq_true p558
        replace q558 := eq_true q558
        go_wp2
        go_roundg k1
        case measure => have := HK1.out; omega
        case rel => exact ⟨(Go.bits .or .u64 x4_1 (ji13)), (wrap64 (x14_1 + 1)), (by first | rfl | (simp; done) | (simp only [← hji13] <;> (first | rfl | simp)) | (simp [*]; done)), (by first | rfl | (simp [*]; done)), H', ⟨by have := HK1.out; omega⟩, ⟨by (with_reducible repeat (first | apply Kd.V_alloc | apply Kd.V_drewN | apply Kd.V_drew)); exact HO_12.out⟩, ⟨by repeat (first | (with_reducible first | exact HB.out | apply below_alloc | apply pw_below_drewN | apply below_drew1) | exact HB.out)⟩⟩
       ·
        rw [if_neg c12] at H
        exact absurd H (by simp)
      ·
       rw [if_neg c10] at H
       exact absurd H (by simp)
     ·
      rw [if_neg c9] at H
      exact absurd H (by simp)
    ·
     rw [if_neg c8] at H
     have c8b0 : decide (x14_1 < (t555.length : Int)) = false := decide_eq_false c8
     clear c8
     simp only [Option.some.injEq, Prod.mk.injEq] at H
     obtain ⟨rfl, rfl⟩ := H
     go_wp2
     go_ret2
     exact ⟨by first | rfl | (simp [*, errW_none, errW_some] <;> rfl), by repeat (first | (with_reducible first | exact HB.out | apply below_alloc | apply pw_below_drewN | apply below_drew1) | exact HB.out)⟩

def bignat_gcdSmall.l0 : Nat → Int → Int → Option (List Int)
 | 0, _, _ => none
 | k + 1, x5, x7 => if x7 = 0 then ((bignat_FromUint64.f x5).bind fun t563 => (some t563)) else (bignat_gcdSmall.l0 k x7 (Int.tmod x5 x7))
def bignat_gcdSmall.f (k : Nat) (l0 : List Int) (l1 : List Int) : Option (List Int) := (bignat_Uint64.f k l0).bind fun bt559 => ((bignat_Uint64.f k l1).bind fun bt561 => (bignat_gcdSmall.l0 k bt559.1 bt561.1))
theorem bignat_gcdSmall.mono_l : ∀ k, (∀ y0 y1, LeO (bignat_gcdSmall.l0 k y0 y1) (bignat_gcdSmall.l0 (k + 1) y0 y1))
 | 0 => fun _ _ r h => by simp [bignat_gcdSmall.l0] at h
 | k + 1 => by
  have ih0 := bignat_gcdSmall.mono_l k
  ·
   intro y0 y1
   unfold bignat_gcdSmall.l0
   repeat' first
   | (with_reducible exact ih0 _ _)
   | (with_reducible exact bignat_Uint64.mono _ _)
   | (with_reducible exact LeO.refl _)
   | (with_reducible exact LeO.none _)
   | (with_reducible refine LeO.ite ?_ ?_)
   | (with_reducible refine LeO.bind ?_ (fun _ => ?_))
   | exact ih0 _ _
   | exact bignat_Uint64.mono _ _
   | exact LeO.none _
   | refine LeO.ite ?_ ?_
   | refine LeO.bind ?_ (fun _ => ?_)
theorem bignat_gcdSmall.mono : ∀ a0 a1 k, LeO (bignat_gcdSmall.f k a0 a1) (bignat_gcdSmall.f (k + 1) a0 a1) := by
 intro a0 a1 k
 have ih0 := bignat_gcdSmall.mono_l k
 unfold bignat_gcdSmall.f
 repeat' first
   | (with_reducible exact ih0 _ _)
   | (with_reducible exact bignat_Uint64.mono _ _)
   | (with_reducible exact LeO.refl _)
   | (with_reducible exact LeO.none _)
   | (with_reducible refine LeO.ite ?_ ?_)
   | (with_reducible refine LeO.bind ?_ (fun _ => ?_))
   | exact ih0 _ _
   | exact bignat_Uint64.mono _ _
   | exact LeO.none _
   | refine LeO.ite ?_ ?_
   | refine LeO.bind ?_ (fun _ => ?_)
set_option maxHeartbeats 8000000 in
set_option maxRecDepth 100000 in
theorem bignat_gcdSmall.calls (k : Nat) (A0 : Option Addr) (c0 : Nat) (l0 : List Int) (A1 : Option Addr) (c1 : Nat) (l1 : List Int) (r : List Int) (w : World) (hr0 : Kd.C (Kd.int .u32) w A0 l0.length l0) (hc0 : l0.length ≤ c0) (hr1 : Kd.C (Kd.int .u32) w A1 l1.length l1) (hc1 : l1.length ≤ c1) (h : bignat_gcdSmall.f k l0 l1 = some r) :
  Calls Try.prog 50 #[.slice A0 l0.length c0, .slice A1 l1.length c1] w fun e w' => ∃ v0_ : Value, e = .returned (v0_) ∧ Kd.R (Kd.int .u32) 43 w' w.heap.size (fun _ => True) v0_ r ∧ Below w.heap.size w w' := by
 have HR0 := Aside0.mk hr0
 have HC0 := Aside0.mk hc0
 clear hr0 hc0
 have HR1 := Aside0.mk hr1
 have HC1 := Aside0.mk hc1
 clear hr1 hc1
 have HB := Aside0.mk (Below.refl w.heap.size w)
 have H : ((bignat_Uint64.f k l0).bind fun bt559 => ((bignat_Uint64.f k l1).bind fun bt561 => (bignat_gcdSmall.l0 k bt559.1 bt561.1))) = some r := h
 clear h
 replace H := Option.bind_eq_some_iff.mp H
 obtain ⟨⟨t559, t560⟩, A30, H⟩ := H
 replace H : ((bignat_Uint64.f k l1).bind fun bt561 => (bignat_gcdSmall.l0 k t559 bt561.1)) = some r := H
 have A3 := Aside0.mk A30
 clear A30
 replace H := Option.bind_eq_some_iff.mp H
 obtain ⟨⟨t561, t562⟩, A40, H⟩ := H
 replace H : (bignat_gcdSmall.l0 k t559 t561) = some r := H
 have A4 := Aside0.mk A40
 clear A40
 have H' := Aside0.mk H
 clear H
 go_enter Try.func50, Try.ntmps50
 have M506_0 : Aside0 True := ⟨trivial⟩
 have M506_1 : Aside0 True := ⟨trivial⟩
 go_wp2_with (first | (go_at_call 30; clear M506_0; (with_reducible refine (bignat_Uint64.calls k _ _ l0 t559 t560 _ ?side1 ?side2 A3.out).mono ?_); (case side1 => repeat first | exact HR0.out | refine Kd.C_drewN ?_ _ | refine Kd.C_alloc ?_ _ | refine Kd.C_drew ?_); (case side2 => exact HC0.out); rintro e w5 ⟨rfl, hb⟩; have n0_ := Aside0.mk (below_step (zb HB rfl) hb); clear HB; have HB := n0_; clear n0_) | (go_at_call 30; clear M506_1; (with_reducible refine (bignat_Uint64.calls k _ _ l1 t561 t562 _ ?side1 ?side2 A4.out).mono ?_); (case side1 => repeat first | exact (Kd.C_below HR1.out HB.out) | refine Kd.C_drewN ?_ _ | refine Kd.C_alloc ?_ _ | refine Kd.C_drew ?_); (case side2 => exact HC1.out); rintro e w6 ⟨rfl, hb⟩; have n0_ := Aside0.mk (below_step (zb HB rfl) hb); clear HB; have HB := n0_; clear n0_))
 repeat (go_quiet (first | (go_at_call 30; (with_reducible refine (bignat_Uint64.calls k _ _ l0 t559 t560 _ ?side1 ?side2 A3.out).mono ?_); (case side1 => repeat first | exact HR0.out | refine Kd.C_drewN ?_ _ | refine Kd.C_alloc ?_ _ | refine Kd.C_drew ?_); (case side2 => exact HC0.out); rintro e w5 ⟨rfl, hb⟩; have n0_ := Aside0.mk (below_step (zb HB rfl) hb); clear HB; have HB := n0_; clear n0_) | (go_at_call 30; (with_reducible refine (bignat_Uint64.calls k _ _ l1 t561 t562 _ ?side1 ?side2 A4.out).mono ?_); (case side1 => repeat first | exact (Kd.C_below HR1.out HB.out) | refine Kd.C_drewN ?_ _ | refine Kd.C_alloc ?_ _ | refine Kd.C_drew ?_); (case side2 => exact HC1.out); rintro e w6 ⟨rfl, hb⟩; have n0_ := Aside0.mk (below_step (zb HB rfl) hb); clear HB; have HB := n0_; clear n0_)); try go_wp2_with (first | (go_at_call 30; (with_reducible refine (bignat_Uint64.calls k _ _ l0 t559 t560 _ ?side1 ?side2 A3.out).mono ?_); (case side1 => repeat first | exact HR0.out | refine Kd.C_drewN ?_ _ | refine Kd.C_alloc ?_ _ | refine Kd.C_drew ?_); (case side2 => exact HC0.out); rintro e w5 ⟨rfl, hb⟩; have n0_ := Aside0.mk (below_step (zb HB rfl) hb); clear HB; have HB := n0_; clear n0_) | (go_at_call 30; (with_reducible refine (bignat_Uint64.calls k _ _ l1 t561 t562 _ ?side1 ?side2 A4.out).mono ?_); (case side1 => repeat first | exact (Kd.C_below HR1.out HB.out) | refine Kd.C_drewN ?_ _ | refine Kd.C_alloc ?_ _ | refine Kd.C_drew ?_); (case side2 => exact HC1.out); rintro e w6 ⟨rfl, hb⟩; have n0_ := Aside0.mk (below_step (zb HB rfl) hb); clear HB; have HB := n0_; clear n0_)))
 go_loopg [5, 7] k (fun kq v5 v7 w' => ∃ (x5_1 : Int) (x7_1 : Int), v5 = .int .u64 x5_1 ∧ v7 = .int .u64 x7_1 ∧ Aside0 (bignat_gcdSmall.l0 kq x5_1 x7_1 = some r) ∧ Aside0 (kq ≤ k) ∧ Aside0 (Below w.heap.size w w'))
 case atStart => exact ⟨(t559), (t561), (by first | rfl | (simp [*]; done)), (by first | rfl | (simp [*]; done)), H', ⟨Nat.le_refl _⟩, ⟨by repeat (first | (with_reducible first | exact HB.out | apply below_alloc | apply pw_below_drewN | apply below_drew1) | exact HB.out)⟩⟩
 case round =>
  clear H'
  try clear c1
  try clear p2
  try clear c5
  obtain ⟨x5_1, x7_1, rfl, rfl, HA, HK1, HB⟩ := hrel
  cases gk with
  | zero => exact absurd HA.out (by simp [bignat_gcdSmall.l0])
  | succ k1 =>
   have H := HA.out
   clear HA
   simp only [bignat_gcdSmall.l0] at H
   by_cases c7 : x7_1 = 0
   ·
    rw [if_pos c7] at H
    have c7b0 : (x7_1 == 0) = true := beq_iff_eq.mpr c7
    have c7b1 : (x7_1 != 0) = false := bne_eq_false_iff_eq.mpr c7
    clear c7
    replace H := Option.bind_eq_some_iff.mp H
    obtain ⟨t563, A80, H⟩ := H
    replace H : (some t563) = some r := H
    have A8 := Aside0.mk A80
    clear A80
    obtain rfl := Option.some.inj H
    go_wp2_with (first | (go_at_call 26; (with_reducible refine (bignat_FromUint64.calls x5_1 t563 _ A8.out).mono ?_); rintro e w9 ⟨v564, rfl, ho0, hb⟩; have n0_ := Aside0.mk (Kd.R_lower ho0 (below_size (zb HB rfl))); have n1_ := Aside0.mk (below_step (zb HB rfl) hb); clear HB; have HO565 := n0_; have HB := n1_; clear n0_ n1_))
    repeat (go_quiet (first | (go_at_call 26; (with_reducible refine (bignat_FromUint64.calls x5_1 t563 _ A8.out).mono ?_); rintro e w9 ⟨v564, rfl, ho0, hb⟩; have n0_ := Aside0.mk (Kd.R_lower ho0 (below_size (zb HB rfl))); have n1_ := Aside0.mk (below_step (zb HB rfl) hb); clear HB; have HO565 := n0_; have HB := n1_; clear n0_ n1_)); try go_wp2_with (first | (go_at_call 26; (with_reducible refine (bignat_FromUint64.calls x5_1 t563 _ A8.out).mono ?_); rintro e w9 ⟨v564, rfl, ho0, hb⟩; have n0_ := Aside0.mk (Kd.R_lower ho0 (below_size (zb HB rfl))); have n1_ := Aside0.mk (below_step (zb HB rfl) hb); clear HB; have HO565 := n0_; have HB := n1_; clear n0_ n1_)))
    go_ret
    exact ⟨_, by first | rfl | (simp [*, errW_none, errW_some] <;> rfl), by (with_reducible repeat (first | apply Kd.R_alloc | apply Kd.R_drewN | apply Kd.R_drew)); exact HO565.out, by repeat (first | (with_reducible first | exact HB.out | apply below_alloc | apply pw_below_drewN | apply below_drew1) | exact HB.out)⟩
   ·
    rw [if_neg c7] at H
    have c7b0 : (x7_1 == 0) = false := beq_eq_false_iff_ne.mpr c7
    have c7b1 : (x7_1 != 0) = true := bne_iff_ne.mpr c7
    have H' := Aside0.mk H
    clear H
    go_wp2
    repeat (go_quiet (fail); try go_wp2)
    go_roundg k1
    case measure => have := HK1.out; omega
    case rel => exact ⟨(x7_1), (Int.tmod x5_1 x7_1), (by first | rfl | (simp [*]; done)), (by first | rfl | (simp [*]; done)), H', ⟨by have := HK1.out; omega⟩, ⟨by repeat (first | (with_reducible first | exact HB.out | apply below_alloc | apply pw_below_drewN | apply below_drew1) | exact HB.out)⟩⟩

end Go.Proofs.Ytjiaplnpgjicgaa.Q

