/- Lemmas for the proof of one law of this seat (Qx13). -/
import Derived.Test.YtoeldfopjalpkaaDoorZRationalNewQx0
import Derived.Test.YtoeldfopjalpkaaDoorZRationalNewQx1
import Derived.Test.YtoeldfopjalpkaaDoorZRationalNewQx5
import Derived.Test.YtoeldfopjalpkaaDoorZRationalNewQx8
import Derived.Test.YtoeldfopjalpkaaDoorZRationalNewQx10
import Derived.Test.YtoeldfopjalpkaaDoorZRationalNewQx12
namespace Go.Proofs.YtoeldfopjalpkaaDoor.Q
open Go.RowKit Go.Proofs.YtoeldfopjalpkaaDoorW.PrintWords Go.Proofs.YtoeldfopjalpkaaDoorW.PrintLast Go.Proofs.YtoeldfopjalpkaaDoorW.PrintMore
attribute [local go_sem] max2_int min2_int max_two min_two max_three min_three max_four min_four   -- for this text's walks alone
set_option linter.unusedVariables false
set_option linter.unusedSimpArgs false

def bits_Len64.f (a0 : Int) : Option (Int) := if a0 ≥ 4294967296 then (none) else (if a0 ≥ 65536 then (none) else (if a0 ≥ 256 then (none) else (if 0 ≤ ((a0) % 256) then (if ((a0) % 256) < 256 then (some (wrap64 (0 + (wrap64 (bt (⟨#[0, 1, 2, 2, 3, 3, 3, 3, 4, 4, 4, 4, 4, 4, 4, 4, 5, 5, 5, 5, 5, 5, 5, 5, 5, 5, 5, 5, 5, 5, 5, 5, 6, 6, 6, 6, 6, 6, 6, 6, 6, 6, 6, 6, 6, 6, 6, 6, 6, 6, 6, 6, 6, 6, 6, 6, 6, 6, 6, 6, 6, 6, 6, 6, 7, 7, 7, 7, 7, 7, 7, 7, 7, 7, 7, 7, 7, 7, 7, 7, 7, 7, 7, 7, 7, 7, 7, 7, 7, 7, 7, 7, 7, 7, 7, 7, 7, 7, 7, 7, 7, 7, 7, 7, 7, 7, 7, 7, 7, 7, 7, 7, 7, 7, 7, 7, 7, 7, 7, 7, 7, 7, 7, 7, 7, 7, 7, 7, 8, 8, 8, 8, 8, 8, 8, 8, 8, 8, 8, 8, 8, 8, 8, 8, 8, 8, 8, 8, 8, 8, 8, 8, 8, 8, 8, 8, 8, 8, 8, 8, 8, 8, 8, 8, 8, 8, 8, 8, 8, 8, 8, 8, 8, 8, 8, 8, 8, 8, 8, 8, 8, 8, 8, 8, 8, 8, 8, 8, 8, 8, 8, 8, 8, 8, 8, 8, 8, 8, 8, 8, 8, 8, 8, 8, 8, 8, 8, 8, 8, 8, 8, 8, 8, 8, 8, 8, 8, 8, 8, 8, 8, 8, 8, 8, 8, 8, 8, 8, 8, 8, 8, 8, 8, 8, 8, 8, 8, 8, 8, 8, 8, 8, 8, 8, 8, 8, 8, 8, 8, 8, 8, 8, 8, 8, 8, 8]⟩ : ByteArray) ((a0) % 256)))))) else (none)) else (none))))
set_option maxHeartbeats 8000000 in
set_option maxRecDepth 100000 in
theorem bits_Len64.calls (a0 : Int) (r : Int) (w : World) (h : bits_Len64.f a0 = some r) :
  Calls Tryd.prog 100 #[.int .u64 a0] w fun e w' => e = .returned (.int .i64 r) ∧ Drawn0 w w' := by
 have H : (if a0 ≥ 4294967296 then (none) else (if a0 ≥ 65536 then (none) else (if a0 ≥ 256 then (none) else (if 0 ≤ ((a0) % 256) then (if ((a0) % 256) < 256 then (some (wrap64 (0 + (wrap64 (bt (⟨#[0, 1, 2, 2, 3, 3, 3, 3, 4, 4, 4, 4, 4, 4, 4, 4, 5, 5, 5, 5, 5, 5, 5, 5, 5, 5, 5, 5, 5, 5, 5, 5, 6, 6, 6, 6, 6, 6, 6, 6, 6, 6, 6, 6, 6, 6, 6, 6, 6, 6, 6, 6, 6, 6, 6, 6, 6, 6, 6, 6, 6, 6, 6, 6, 7, 7, 7, 7, 7, 7, 7, 7, 7, 7, 7, 7, 7, 7, 7, 7, 7, 7, 7, 7, 7, 7, 7, 7, 7, 7, 7, 7, 7, 7, 7, 7, 7, 7, 7, 7, 7, 7, 7, 7, 7, 7, 7, 7, 7, 7, 7, 7, 7, 7, 7, 7, 7, 7, 7, 7, 7, 7, 7, 7, 7, 7, 7, 7, 8, 8, 8, 8, 8, 8, 8, 8, 8, 8, 8, 8, 8, 8, 8, 8, 8, 8, 8, 8, 8, 8, 8, 8, 8, 8, 8, 8, 8, 8, 8, 8, 8, 8, 8, 8, 8, 8, 8, 8, 8, 8, 8, 8, 8, 8, 8, 8, 8, 8, 8, 8, 8, 8, 8, 8, 8, 8, 8, 8, 8, 8, 8, 8, 8, 8, 8, 8, 8, 8, 8, 8, 8, 8, 8, 8, 8, 8, 8, 8, 8, 8, 8, 8, 8, 8, 8, 8, 8, 8, 8, 8, 8, 8, 8, 8, 8, 8, 8, 8, 8, 8, 8, 8, 8, 8, 8, 8, 8, 8, 8, 8, 8, 8, 8, 8, 8, 8, 8, 8, 8, 8, 8, 8, 8, 8, 8, 8]⟩ : ByteArray) ((a0) % 256)))))) else (none)) else (none))))) = some r := h
 clear h
 by_cases c2 : a0 ≥ 4294967296
 ·
  rw [if_pos c2] at H
  exact absurd H (by simp)
 ·
  rw [if_neg c2] at H
  have c2b0 : decide (4294967296 ≤ a0) = false := decide_eq_false c2
  clear c2
  by_cases c3 : a0 ≥ 65536
  ·
   rw [if_pos c3] at H
   exact absurd H (by simp)
  ·
   rw [if_neg c3] at H
   have c3b0 : decide (65536 ≤ a0) = false := decide_eq_false c3
   clear c3
   by_cases c4 : a0 ≥ 256
   ·
    rw [if_pos c4] at H
    exact absurd H (by simp)
   ·
    rw [if_neg c4] at H
    have c4b0 : decide (256 ≤ a0) = false := decide_eq_false c4
    clear c4
    obtain ⟨ji5, hji5⟩ : ∃ j_ : Int, ((a0) % 256) = j_ := ⟨_, rfl⟩
    replace H : (if 0 ≤ (ji5) then (if (ji5) < 256 then (some (wrap64 (0 + (wrap64 (bt (⟨#[0, 1, 2, 2, 3, 3, 3, 3, 4, 4, 4, 4, 4, 4, 4, 4, 5, 5, 5, 5, 5, 5, 5, 5, 5, 5, 5, 5, 5, 5, 5, 5, 6, 6, 6, 6, 6, 6, 6, 6, 6, 6, 6, 6, 6, 6, 6, 6, 6, 6, 6, 6, 6, 6, 6, 6, 6, 6, 6, 6, 6, 6, 6, 6, 7, 7, 7, 7, 7, 7, 7, 7, 7, 7, 7, 7, 7, 7, 7, 7, 7, 7, 7, 7, 7, 7, 7, 7, 7, 7, 7, 7, 7, 7, 7, 7, 7, 7, 7, 7, 7, 7, 7, 7, 7, 7, 7, 7, 7, 7, 7, 7, 7, 7, 7, 7, 7, 7, 7, 7, 7, 7, 7, 7, 7, 7, 7, 7, 8, 8, 8, 8, 8, 8, 8, 8, 8, 8, 8, 8, 8, 8, 8, 8, 8, 8, 8, 8, 8, 8, 8, 8, 8, 8, 8, 8, 8, 8, 8, 8, 8, 8, 8, 8, 8, 8, 8, 8, 8, 8, 8, 8, 8, 8, 8, 8, 8, 8, 8, 8, 8, 8, 8, 8, 8, 8, 8, 8, 8, 8, 8, 8, 8, 8, 8, 8, 8, 8, 8, 8, 8, 8, 8, 8, 8, 8, 8, 8, 8, 8, 8, 8, 8, 8, 8, 8, 8, 8, 8, 8, 8, 8, 8, 8, 8, 8, 8, 8, 8, 8, 8, 8, 8, 8, 8, 8, 8, 8, 8, 8, 8, 8, 8, 8, 8, 8, 8, 8, 8, 8, 8, 8, 8, 8, 8, 8]⟩ : ByteArray) (ji5)))))) else (none)) else (none)) = some r := by first | (rw [hji5] at H; exact H) | (simp only [hji5] at H ⊢; exact H)
    by_cases c6 : 0 ≤ (ji5)
    ·
     rw [if_pos c6] at H
     have c6b0 : decide (0 ≤ (ji5)) = true := decide_eq_true c6
     clear c6
     by_cases c7 : (ji5) < 256
     ·
      rw [if_pos c7] at H
      have c7b0 : decide ((ji5) < 256) = true := decide_eq_true c7
      clear c7
      obtain rfl := Option.some.inj H
      have p8 : 0 ≤ ((ji5) : Int) := of_decide_eq_true (by first | (with_reducible assumption) | assumption)
      have q8 : (ji5) < (256 : Int) := of_decide_eq_true (by first | (with_reducible assumption) | assumption)
      have hx8 := bt_at (⟨#[0, 1, 2, 2, 3, 3, 3, 3, 4, 4, 4, 4, 4, 4, 4, 4, 5, 5, 5, 5, 5, 5, 5, 5, 5, 5, 5, 5, 5, 5, 5, 5, 6, 6, 6, 6, 6, 6, 6, 6, 6, 6, 6, 6, 6, 6, 6, 6, 6, 6, 6, 6, 6, 6, 6, 6, 6, 6, 6, 6, 6, 6, 6, 6, 7, 7, 7, 7, 7, 7, 7, 7, 7, 7, 7, 7, 7, 7, 7, 7, 7, 7, 7, 7, 7, 7, 7, 7, 7, 7, 7, 7, 7, 7, 7, 7, 7, 7, 7, 7, 7, 7, 7, 7, 7, 7, 7, 7, 7, 7, 7, 7, 7, 7, 7, 7, 7, 7, 7, 7, 7, 7, 7, 7, 7, 7, 7, 7, 8, 8, 8, 8, 8, 8, 8, 8, 8, 8, 8, 8, 8, 8, 8, 8, 8, 8, 8, 8, 8, 8, 8, 8, 8, 8, 8, 8, 8, 8, 8, 8, 8, 8, 8, 8, 8, 8, 8, 8, 8, 8, 8, 8, 8, 8, 8, 8, 8, 8, 8, 8, 8, 8, 8, 8, 8, 8, 8, 8, 8, 8, 8, 8, 8, 8, 8, 8, 8, 8, 8, 8, 8, 8, 8, 8, 8, 8, 8, 8, 8, 8, 8, 8, 8, 8, 8, 8, 8, 8, 8, 8, 8, 8, 8, 8, 8, 8, 8, 8, 8, 8, 8, 8, 8, 8, 8, 8, 8, 8, 8, 8, 8, 8, 8, 8, 8, 8, 8, 8, 8, 8, 8, 8, 8, 8, 8, 8]⟩ : ByteArray) (ji5)
      replace p8 := eq_true p8
      replace q8 := eq_true q8
      go_enter Tryd.func100, Tryd.ntmps100
      go_wp2
      go_ret
      exact ⟨by first | rfl | (simp; done) | (simp only [← hji5] <;> (first | rfl | simp)) | (simp [*]; done), by repeat (first | exact Drawn0.refl _ | apply Drawn0.step)⟩
     ·
      rw [if_neg c7] at H
      exact absurd H (by simp)
    ·
     rw [if_neg c6] at H
     exact absurd H (by simp)

def bits_Len.f (a0 : Int) : Option (Int) := (bits_Len64.f a0).bind fun t546 => (some t546)
set_option maxHeartbeats 8000000 in
set_option maxRecDepth 100000 in
theorem bits_Len.calls (a0 : Int) (r : Int) (w : World) (h : bits_Len.f a0 = some r) :
  Calls Tryd.prog 86 #[.int .u64 a0] w fun e w' => e = .returned (.int .i64 r) ∧ Drawn0 w w' := by
 have H : ((bits_Len64.f a0).bind fun t546 => (some t546)) = some r := h
 clear h
 replace H := Option.bind_eq_some_iff.mp H
 obtain ⟨t546, A20, H⟩ := H
 replace H : (some t546) = some r := H
 have A2 := Aside0.mk A20
 clear A20
 obtain rfl := Option.some.inj H
 go_enter Tryd.func86, Tryd.ntmps86
 go_wp2_with (first | ((with_reducible refine gate_callee (f := 100) rfl ?_); refine goesL_ (some 7) rfl rfl Tryd.func100 (by kernel_rfl) rfl #[.int .u64 a0] rfl (by first | rfl | (go_simp; first | done | rfl | omega)) ?_; (with_reducible refine (bits_Len64.calls a0 t546 _ A2.out).mono ?_); rintro e w' ⟨rfl, ⟨nd, rfl⟩⟩; refine ⟨_, rfl, ?_⟩))
 go_ret
 exact ⟨by first | rfl | (simp [*]; done), by repeat (first | exact Drawn0.refl _ | apply Drawn0.step)⟩

def bignat_Pow.l0 : Nat → List Int → Int → List Int → Int → Option (List Int × Int)
 | 0, _, _, _, _ => none
 | k + 1, x0, x1, x7, x8 => if x8 ≥ 0 then ((bignat_Mul.f k x7 x7).bind fun t556 => (if 0 ≤ x8 then (if (Go.bits .and .i64 (shr .i64 x1 x8) 1) = 1 then ((bignat_Mul.f k t556 x0).bind fun t559 => (bignat_Pow.l0 k x0 x1 t559 (wrap64 (x8 - 1)))) else (none)) else (none))) else ((bignat_BitLen.f k x7).bind fun t555 => (if t555 > 65536 then (none) else (some (x7, 0))))
def bignat_Pow.f (k : Nat) (l0 : List Int) (a1 : Int) : Option (List Int × Int) := (bignat_trim.f k l0).bind fun t547 => ((bignat_BitLen.f k t547).bind fun t550 => (if a1 < 0 then (none) else (if a1 = 0 then (none) else (if t550 ≤ 1 then (none) else (if a1 > 65536 then (none) else (if t550 > 65536 then (none) else (if (wrap64 ((wrap64 (t550 - 1)) * a1)) ≥ 65536 then (none) else ((bignat_FromUint64.f 1).bind fun t551 => ((bits_Len.f (IntKind.u64.wrap (a1))).bind fun t554 => (bignat_Pow.l0 k t547 a1 t551 (wrap64 (t554 - 1))))))))))))
theorem bignat_Pow.mono_l : ∀ k, (∀ y0 y1 y2 y3, LeO (bignat_Pow.l0 k y0 y1 y2 y3) (bignat_Pow.l0 (k + 1) y0 y1 y2 y3))
 | 0 => fun _ _ _ _ r h => by simp [bignat_Pow.l0] at h
 | k + 1 => by
  have ih0 := bignat_Pow.mono_l k
  ·
   intro y0 y1 y2 y3
   unfold bignat_Pow.l0
   repeat' first
   | (with_reducible exact ih0 _ _ _ _)
   | (with_reducible exact bignat_BitLen.mono _ _)
   | (with_reducible exact bignat_Mul.mono _ _ _)
   | (with_reducible exact bignat_trim.mono _ _)
   | (with_reducible exact LeO.refl _)
   | (with_reducible exact LeO.none _)
   | (with_reducible refine LeO.ite ?_ ?_)
   | (with_reducible refine LeO.bind ?_ (fun _ => ?_))
   | exact LeO.none _
   | refine LeO.ite ?_ ?_
   | refine LeO.bind ?_ (fun _ => ?_)
theorem bignat_Pow.mono : ∀ a0 a1 k, LeO (bignat_Pow.f k a0 a1) (bignat_Pow.f (k + 1) a0 a1) := by
 intro a0 a1 k
 have ih0 := bignat_Pow.mono_l k
 unfold bignat_Pow.f
 repeat' first
   | (with_reducible exact ih0 _ _ _ _)
   | (with_reducible exact bignat_BitLen.mono _ _)
   | (with_reducible exact bignat_Mul.mono _ _ _)
   | (with_reducible exact bignat_trim.mono _ _)
   | (with_reducible exact LeO.refl _)
   | (with_reducible exact LeO.none _)
   | (with_reducible refine LeO.ite ?_ ?_)
   | (with_reducible refine LeO.bind ?_ (fun _ => ?_))
   | exact LeO.none _
   | refine LeO.ite ?_ ?_
   | refine LeO.bind ?_ (fun _ => ?_)
set_option maxHeartbeats 8000000 in
set_option maxRecDepth 100000 in
theorem bignat_Pow.calls (k : Nat) (A0 : Option Addr) (c0 : Nat) (l0 : List Int) (a1 : Int) (r1 : List Int) (r2 : Int) (w : World) (hr0 : Kd.C (Kd.int .u32) w A0 l0.length l0) (hc0 : l0.length ≤ c0) (h : bignat_Pow.f k l0 a1 = some (r1, r2)) :
  Calls Tryd.prog 57 #[.slice A0 l0.length c0, .int .i64 a1] w fun e w' => ∃ v0_ : Value, e = .returned (.tuple #[v0_, .int .i64 r2]) ∧ Kd.R (Kd.int .u32) 37 w' w.heap.size (fun _ => True) v0_ r1 ∧ Below w.heap.size w w' := by
 have HR0 := Aside0.mk hr0
 have HC0 := Aside0.mk hc0
 clear hr0 hc0
 have HB := Aside0.mk (Below.refl w.heap.size w)
 have H : ((bignat_trim.f k l0).bind fun t547 => ((bignat_BitLen.f k t547).bind fun t550 => (if a1 < 0 then (none) else (if a1 = 0 then (none) else (if t550 ≤ 1 then (none) else (if a1 > 65536 then (none) else (if t550 > 65536 then (none) else (if (wrap64 ((wrap64 (t550 - 1)) * a1)) ≥ 65536 then (none) else ((bignat_FromUint64.f 1).bind fun t551 => ((bits_Len.f (IntKind.u64.wrap (a1))).bind fun t554 => (bignat_Pow.l0 k t547 a1 t551 (wrap64 (t554 - 1))))))))))))) = some (r1, r2) := h
 clear h
 replace H := Option.bind_eq_some_iff.mp H
 obtain ⟨t547, A30, H⟩ := H
 replace H : ((bignat_BitLen.f k t547).bind fun t550 => (if a1 < 0 then (none) else (if a1 = 0 then (none) else (if t550 ≤ 1 then (none) else (if a1 > 65536 then (none) else (if t550 > 65536 then (none) else (if (wrap64 ((wrap64 (t550 - 1)) * a1)) ≥ 65536 then (none) else ((bignat_FromUint64.f 1).bind fun t551 => ((bits_Len.f (IntKind.u64.wrap (a1))).bind fun t554 => (bignat_Pow.l0 k t547 a1 t551 (wrap64 (t554 - 1)))))))))))) = some (r1, r2) := H
 have A3 := Aside0.mk A30
 clear A30
 replace H := Option.bind_eq_some_iff.mp H
 obtain ⟨t550, A40, H⟩ := H
 replace H : (if a1 < 0 then (none) else (if a1 = 0 then (none) else (if t550 ≤ 1 then (none) else (if a1 > 65536 then (none) else (if t550 > 65536 then (none) else (if (wrap64 ((wrap64 (t550 - 1)) * a1)) ≥ 65536 then (none) else ((bignat_FromUint64.f 1).bind fun t551 => ((bits_Len.f (IntKind.u64.wrap (a1))).bind fun t554 => (bignat_Pow.l0 k t547 a1 t551 (wrap64 (t554 - 1))))))))))) = some (r1, r2) := H
 have A4 := Aside0.mk A40
 clear A40
 by_cases c5 : a1 < 0
 ·
  rw [if_pos c5] at H
  exact absurd H (by simp)
 ·
  rw [if_neg c5] at H
  have c5b0 : decide (a1 < 0) = false := decide_eq_false c5
  clear c5
  by_cases c6 : a1 = 0
  ·
   rw [if_pos c6] at H
   exact absurd H (by simp)
  ·
   rw [if_neg c6] at H
   have c6b0 : (a1 == 0) = false := beq_eq_false_iff_ne.mpr c6
   have c6b1 : (a1 != 0) = true := bne_iff_ne.mpr c6
   by_cases c7 : t550 ≤ 1
   ·
    rw [if_pos c7] at H
    exact absurd H (by simp)
   ·
    rw [if_neg c7] at H
    have c7b0 : decide (t550 ≤ 1) = false := decide_eq_false c7
    clear c7
    by_cases c8 : a1 > 65536
    ·
     rw [if_pos c8] at H
     exact absurd H (by simp)
    ·
     rw [if_neg c8] at H
     have c8b0 : decide (65536 < a1) = false := decide_eq_false c8
     clear c8
     by_cases c9 : t550 > 65536
     ·
      rw [if_pos c9] at H
      exact absurd H (by simp)
     ·
      rw [if_neg c9] at H
      have c9b0 : decide (65536 < t550) = false := decide_eq_false c9
      clear c9
      by_cases c10 : (wrap64 ((wrap64 (t550 - 1)) * a1)) ≥ 65536
      ·
       rw [if_pos c10] at H
       exact absurd H (by simp)
      ·
       rw [if_neg c10] at H
       have c10b0 : decide (65536 ≤ (wrap64 ((wrap64 (t550 - 1)) * a1))) = false := decide_eq_false c10
       clear c10
       replace H := Option.bind_eq_some_iff.mp H
       obtain ⟨t551, A110, H⟩ := H
       replace H : ((bits_Len.f (IntKind.u64.wrap (a1))).bind fun t554 => (bignat_Pow.l0 k t547 a1 t551 (wrap64 (t554 - 1)))) = some (r1, r2) := H
       have A11 := Aside0.mk A110
       clear A110
       replace H := Option.bind_eq_some_iff.mp H
       obtain ⟨t554, A120, H⟩ := H
       replace H : (bignat_Pow.l0 k t547 a1 t551 (wrap64 (t554 - 1))) = some (r1, r2) := H
       have A12 := Aside0.mk A120
       clear A120
       have H' := Aside0.mk H
       clear H
       go_enter Tryd.func57, Tryd.ntmps57
       go_wp2_with (first | ((with_reducible refine gate_callee (f := 71) rfl ?_); refine goesL_ (some 10) rfl rfl Tryd.func71 (by kernel_rfl) rfl #[.slice A0 l0.length c0] rfl (by first | rfl | (go_simp; first | done | rfl | omega)) ?_; (with_reducible refine (bignat_trim.calls k (fun k_ => k_ < w.heap.size) _ _ l0 t547 _ ?side1 A3.out).mono ?_); (case side1 => exact Kd.V_mk HC0.out (Kd.F_below (Kd.C_F (Kd.heap_int .u32) HR0.out) (zb HB rfl))); rintro e w13 ⟨v548, rfl, ho0, hb⟩; refine ⟨_, rfl, ?_⟩; have n0_ := Aside0.mk (Kd.V_lower (Kd.V_mono (ok' := fun k_ => True) ho0 (fun k_ hk_ => trivial)) (below_size (zb HB rfl))); have n1_ := Aside0.mk (below_step (zb HB rfl) hb); clear HB; have HO549 := n0_; have HB := n1_; clear n0_ n1_; obtain ⟨Ao14, co14, eo14⟩ := Kd.V_slice HO549.out; subst eo14) | ((with_reducible refine gate_callee (f := 70) rfl ?_); refine goesL_ (some 12) rfl rfl Tryd.func70 (by kernel_rfl) rfl #[.slice Ao14 t547.length co14] rfl (by first | rfl | (go_simp; first | done | rfl | omega)) ?_; (with_reducible refine (bignat_BitLen.calls k _ _ t547 t550 _ ?side1 ?side2 A4.out).mono ?_); (case side1 => repeat first | exact (Kd.V_reads' HO549.out).2.2 | refine Kd.C_drewN ?_ _ | refine Kd.C_alloc ?_ _ | refine Kd.C_drew ?_); (case side2 => exact (Kd.V_reads' HO549.out).2.1); rintro e w15 ⟨rfl, hb⟩; refine ⟨_, rfl, ?_⟩; have n0_ := Aside0.mk (Kd.V_below (zv HO549 rfl) hb); have n1_ := Aside0.mk (below_step (zb HB rfl) hb); clear HO549; clear HB; have HO549 := n0_; have HB := n1_; clear n0_ n1_) | ((with_reducible refine gate_callee (f := 22) rfl ?_); refine goesL_ (some 39) rfl rfl Tryd.func22 (by kernel_rfl) rfl #[.int .u64 1] rfl (by first | rfl | (go_simp; first | done | rfl | omega)) ?_; (with_reducible refine (bignat_FromUint64.calls 1 t551 _ A11.out).mono ?_); rintro e w16 ⟨v552, rfl, ho0, hb⟩; refine ⟨_, rfl, ?_⟩; have n0_ := Aside0.mk (Kd.V_elder' (zv HO549 rfl) (Kd.R_base ho0) hb); have n1_ := Aside0.mk (Kd.R_lower ho0 (below_size (zb HB rfl))); have n2_ := Aside0.mk (below_step (zb HB rfl) hb); clear HO549; clear HB; have HO549 := n0_; have HO553 := n1_; have HB := n2_; clear n0_ n1_ n2_) | ((with_reducible refine gate_callee (f := 86) rfl ?_); refine goesL_ (some 42) rfl rfl Tryd.func86 (by kernel_rfl) rfl #[.int .u64 (IntKind.u64.wrap (a1))] rfl (by first | rfl | (go_simp; first | done | rfl | omega)) ?_; (with_reducible refine (bits_Len.calls (IntKind.u64.wrap (a1)) t554 _ A12.out).mono ?_); rintro e w' ⟨rfl, ⟨nd, rfl⟩⟩; refine ⟨_, rfl, ?_⟩))
       go_loopg [7, 8] k (fun kq v7 v8 w' => ∃ (x7_1 : List Int) (x8_1 : Int), v8 = .int .i64 x8_1 ∧ Aside0 (bignat_Pow.l0 kq t547 a1 x7_1 x8_1 = some (r1, r2)) ∧ Aside0 (kq ≤ k) ∧ Aside0 (Kd.V (Kd.int .u32) 37 w' w.heap.size (fun k_ => some k_ ≠ (v7 : Value).ownBlock) (.slice Ao14 t547.length co14) t547) ∧ Aside0 (Kd.R (Kd.int .u32) 37 w' w.heap.size (fun _ => True) v7 x7_1) ∧ Aside0 (Below w.heap.size w w'))
       case atStart => exact ⟨(t551), (wrap64 (t554 - 1)), (by first | rfl | (simp [*]; done)), H', ⟨Nat.le_refl _⟩, ⟨by (with_reducible repeat (first | apply Kd.V_alloc | apply Kd.V_drewN | apply Kd.V_drew)); exact Kd.V_mono HO549.out (fun _ hk => hk.2)⟩, ⟨by (with_reducible repeat (first | apply Kd.R_alloc | apply Kd.R_drewN | apply Kd.R_drew)); exact HO553.out⟩, ⟨by repeat (first | (with_reducible first | exact HB.out | apply below_alloc | apply pw_below_drewN | apply below_drew1) | exact HB.out)⟩⟩
       case round =>
        clear H'
        try clear c1
        try clear c2
        try clear p2
        try clear c5
        try clear c5b0
        try clear c6
        try clear c6b0
        try clear c6b1
        try clear p6
        try clear c7
        try clear c7b0
        try clear c8
        try clear c8b0
        try clear c9
        try clear c9b0
        try clear c10
        try clear c10b0
        obtain ⟨x7_1, x8_1, rfl, HA, HK1, HO_0, HO_7, HB⟩ := hrel
        cases gk with
        | zero => exact absurd HA.out (by simp [bignat_Pow.l0])
        | succ k1 =>
         have H := HA.out
         clear HA
         simp only [bignat_Pow.l0] at H
         by_cases c17 : x8_1 ≥ 0
         ·
          rw [if_pos c17] at H
          have c17b0 : decide (0 ≤ x8_1) = true := decide_eq_true c17
          clear c17
          replace H := Option.bind_eq_some_iff.mp H
          obtain ⟨t556, A180, H⟩ := H
          replace H : (if 0 ≤ x8_1 then (if (Go.bits .and .i64 (shr .i64 a1 x8_1) 1) = 1 then ((bignat_Mul.f k1 t556 t547).bind fun t559 => (bignat_Pow.l0 k1 t547 a1 t559 (wrap64 (x8_1 - 1)))) else (none)) else (none)) = some (r1, r2) := H
          have A18 := Aside0.mk A180
          clear A180
          by_cases c19 : 0 ≤ x8_1
          ·
           rw [if_pos c19] at H
           have c19b0 := eq_true c19
           have c19b1 : decide (0 ≤ x8_1) = true := decide_eq_true c19
           clear c19
           obtain ⟨ji20, hji20⟩ : ∃ j_ : Int, (shr .i64 a1 x8_1) = j_ := ⟨_, rfl⟩
           replace H : (if (Go.bits .and .i64 (ji20) 1) = 1 then ((bignat_Mul.f k1 t556 t547).bind fun t559 => (bignat_Pow.l0 k1 t547 a1 t559 (wrap64 (x8_1 - 1)))) else (none)) = some (r1, r2) := by first | (rw [hji20] at H; exact H) | (simp only [hji20] at H ⊢; exact H)
           (try rw [hji20] at A18)
           have hji20_ : (a1 / 2 ^ min x8_1.toNat 64) = ji20 := hji20
           have hji20z : x8_1 ≤ 64 → (a1 / 2 ^ x8_1.toNat) = ji20 := shr_small hji20
           by_cases c21 : (Go.bits .and .i64 (ji20) 1) = 1
           ·
            rw [if_pos c21] at H
            have c21b0 : ((Go.bits .and .i64 (ji20) 1) == 1) = true := beq_iff_eq.mpr c21
            have c21b1 : ((Go.bits .and .i64 (ji20) 1) != 1) = false := bne_eq_false_iff_eq.mpr c21
            clear c21
            replace H := Option.bind_eq_some_iff.mp H
            obtain ⟨t559, A220, H⟩ := H
            replace H : (bignat_Pow.l0 k1 t547 a1 t559 (wrap64 (x8_1 - 1))) = some (r1, r2) := H
            have A22 := Aside0.mk A220
            clear A220
            have H' := Aside0.mk H
            clear H
            obtain ⟨Ao23, co23, eo23⟩ := Kd.R_slice HO_7.out
            subst eo23
            go_wp2_with (first | ((with_reducible refine gate_callee (f := 33) rfl ?_); refine goesL_ (some 50) rfl rfl Tryd.func33 (by kernel_rfl) rfl #[.slice Ao23 x7_1.length co23, .slice Ao23 x7_1.length co23] rfl (by first | rfl | (go_simp; first | done | rfl | omega)) ?_; (with_reducible refine (bignat_Mul.calls k1 _ _ x7_1 _ _ x7_1 t556 _ ?side1 ?side2 ?side3 ?side4 A18.out).mono ?_); (case side1 => repeat first | exact (Kd.R_reads' HO_7.out).2.2 | refine Kd.C_drewN ?_ _ | refine Kd.C_alloc ?_ _ | refine Kd.C_drew ?_); (case side2 => exact (Kd.R_reads' HO_7.out).2.1); (case side3 => repeat first | exact (Kd.R_reads' HO_7.out).2.2 | refine Kd.C_drewN ?_ _ | refine Kd.C_alloc ?_ _ | refine Kd.C_drew ?_); (case side4 => exact (Kd.R_reads' HO_7.out).2.1); rintro e w24 ⟨v557, rfl, ho0, hb⟩; refine ⟨_, rfl, ?_⟩; have n0_ := Aside0.mk (Kd.V_elder' (zv HO_0 rfl) (Kd.R_base ho0) hb); have n1_ := Aside0.mk (Kd.R_elder' (zr HO_7 rfl) (Kd.R_base ho0) hb); have n2_ := Aside0.mk (Kd.R_lower (Kd.R_new' ho0 (Kd.R_lt (zr HO_7 rfl))) (below_size (zb HB rfl))); have n3_ := Aside0.mk (below_step (zb HB rfl) hb); clear HO_0; clear HO_7; clear HB; have HO_0 := n0_; have HO_7 := n1_; have HO558 := n2_; have HB := n3_; clear n0_ n1_ n2_ n3_; obtain ⟨Ao25, co25, eo25⟩ := Kd.R_slice HO558.out; subst eo25) | ((with_reducible refine gate_callee (f := 33) rfl ?_); refine goesL_ (some 58) rfl rfl Tryd.func33 (by kernel_rfl) rfl #[.slice Ao25 t556.length co25, .slice Ao14 t547.length co14] rfl (by first | rfl | (go_simp; first | done | rfl | omega)) ?_; (with_reducible refine (bignat_Mul.calls k1 _ _ t556 _ _ t547 t559 _ ?side1 ?side2 ?side3 ?side4 A22.out).mono ?_); (case side1 => repeat first | exact (Kd.R_reads' HO558.out).2.2 | refine Kd.C_drewN ?_ _ | refine Kd.C_alloc ?_ _ | refine Kd.C_drew ?_); (case side2 => exact (Kd.R_reads' HO558.out).2.1); (case side3 => repeat first | exact (Kd.V_reads' HO_0.out).2.2 | refine Kd.C_drewN ?_ _ | refine Kd.C_alloc ?_ _ | refine Kd.C_drew ?_); (case side4 => exact (Kd.V_reads' HO_0.out).2.1); rintro e w26 ⟨v560, rfl, ho0, hb⟩; refine ⟨_, rfl, ?_⟩; have n0_ := Aside0.mk (Kd.V_elder' (zv HO_0 rfl) (Kd.R_base ho0) hb); have n1_ := Aside0.mk (Kd.R_elder' (zr HO_7 rfl) (Kd.R_base ho0) hb); have n2_ := Aside0.mk (Kd.R_elder' (zr HO558 rfl) (Kd.R_base ho0) hb); have n3_ := Aside0.mk (Kd.R_lower (Kd.R_new' (Kd.R_new' ho0 (Kd.R_lt (zr HO_7 rfl))) (Kd.R_lt (zr HO558 rfl))) (below_size (zb HB rfl))); have n4_ := Aside0.mk (below_step (zb HB rfl) hb); clear HO_0; clear HO_7; clear HO558; clear HB; have HO_0 := n0_; have HO_7 := n1_; have HO558 := n2_; have HO561 := n3_; have HB := n4_; clear n0_ n1_ n2_ n3_ n4_))
            go_roundg k1
            case measure => have := HK1.out; omega
            case rel => exact ⟨(t559), (wrap64 (x8_1 - 1)), (by first | rfl | (simp [*]; done)), H', ⟨by have := HK1.out; omega⟩, ⟨by (with_reducible repeat (first | apply Kd.V_alloc | apply Kd.V_drewN | apply Kd.V_drew)); exact Kd.V_mono HO_0.out (fun _ hk => hk.2)⟩, ⟨by (with_reducible repeat (first | apply Kd.R_alloc | apply Kd.R_drewN | apply Kd.R_drew)); exact Kd.R_mono HO561.out (fun _ hk => trivial)⟩, ⟨by repeat (first | (with_reducible first | exact HB.out | apply below_alloc | apply pw_below_drewN | apply below_drew1) | exact HB.out)⟩⟩
           ·
            rw [if_neg c21] at H
            exact absurd H (by simp)
          ·
           rw [if_neg c19] at H
           exact absurd H (by simp)
         ·
          rw [if_neg c17] at H
          have c17b0 : decide (0 ≤ x8_1) = false := decide_eq_false c17
          clear c17
          replace H := Option.bind_eq_some_iff.mp H
          obtain ⟨t555, A270, H⟩ := H
          replace H : (if t555 > 65536 then (none) else (some (x7_1, 0))) = some (r1, r2) := H
          have A27 := Aside0.mk A270
          clear A270
          by_cases c28 : t555 > 65536
          ·
           rw [if_pos c28] at H
           exact absurd H (by simp)
          ·
           rw [if_neg c28] at H
           have c28b0 : decide (65536 < t555) = false := decide_eq_false c28
           clear c28
           simp only [Option.some.injEq, Prod.mk.injEq] at H
           obtain ⟨rfl, rfl⟩ := H
           obtain ⟨Ao29, co29, eo29⟩ := Kd.R_slice HO_7.out
           subst eo29
           go_wp2_with (first | ((with_reducible refine gate_callee (f := 70) rfl ?_); refine goesL_ (some 60) rfl rfl Tryd.func70 (by kernel_rfl) rfl #[.slice Ao29 x7_1.length co29] rfl (by first | rfl | (go_simp; first | done | rfl | omega)) ?_; (with_reducible refine (bignat_BitLen.calls k1 _ _ x7_1 t555 _ ?side1 ?side2 A27.out).mono ?_); (case side1 => repeat first | exact (Kd.R_reads' HO_7.out).2.2 | refine Kd.C_drewN ?_ _ | refine Kd.C_alloc ?_ _ | refine Kd.C_drew ?_); (case side2 => exact (Kd.R_reads' HO_7.out).2.1); rintro e w30 ⟨rfl, hb⟩; refine ⟨_, rfl, ?_⟩; have n0_ := Aside0.mk (Kd.V_below (zv HO_0 rfl) hb); have n1_ := Aside0.mk (Kd.R_below (zr HO_7 rfl) hb); have n2_ := Aside0.mk (below_step (zb HB rfl) hb); clear HO_0; clear HO_7; clear HB; have HO_0 := n0_; have HO_7 := n1_; have HB := n2_; clear n0_ n1_ n2_))
           go_ret2
           exact ⟨_, by first | rfl | (simp [*, errW_none, errW_some] <;> rfl), by (with_reducible repeat (first | apply Kd.R_alloc | apply Kd.R_drewN | apply Kd.R_drew)); exact HO_7.out, by repeat (first | (with_reducible first | exact HB.out | apply below_alloc | apply pw_below_drewN | apply below_drew1) | exact HB.out)⟩

def rational_Parse.f (k : Nat) (a0 : ByteArray) : Option (Bool × List Int × List Int × Int) := if (a0.size : Int) > 4000 then (none) else ((strings_CutPrefix.f a0 (⟨#[45]⟩ : ByteArray)).bind fun bt563 => ((strings_Cut.f bt563.1 (⟨#[47]⟩ : ByteArray)).bind fun bt565 => (if bt565.2.2 = true then (none) else ((strings_Cut.f bt563.1 (⟨#[46]⟩ : ByteArray)).bind fun bt568 => (if bt568.2.2 = true then ((rational_digits.f k bt568.1).bind fun t571 => (if t571 = true then ((rational_digits.f k bt568.2.1).bind fun t572 => (if t572 = true then ((bignat_Pow.f k (([10] : List Int)) (bt568.2.1.size : Int)).bind fun bt576 => (if bt568.1.size + bt568.2.1.size ≤ 9223372036854775807 then ((rational_number.f k (bt568.1 ++ bt568.2.1)).bind fun t580 => ((rational_reduce.f k bt563.2 t580 bt576.1).bind fun bt583 => (some (bt583.1, bt583.2.1, bt583.2.2, 0)))) else (none))) else (none))) else (none))) else (none))))))
theorem rational_Parse.mono : ∀ a0 k, LeO (rational_Parse.f k a0) (rational_Parse.f (k + 1) a0) := by
 intro a0 k
 unfold rational_Parse.f
 repeat' first
   | (with_reducible exact bignat_Pow.mono _ _ _)
   | (with_reducible exact rational_digits.mono _ _)
   | (with_reducible exact rational_number.mono _ _)
   | (with_reducible exact rational_reduce.mono _ _ _ _)
   | (with_reducible exact LeO.refl _)
   | (with_reducible exact LeO.none _)
   | (with_reducible refine LeO.ite ?_ ?_)
   | (with_reducible refine LeO.bind ?_ (fun _ => ?_))
   | exact LeO.none _
   | refine LeO.ite ?_ ?_
   | refine LeO.bind ?_ (fun _ => ?_)
set_option maxHeartbeats 8000000 in
set_option maxRecDepth 100000 in
theorem rational_Parse.calls (k : Nat) (a0 : ByteArray) (r1 : Bool) (r2 : List Int) (r3 : List Int) (r4 : Int) (w : World) (h : rational_Parse.f k a0 = some (r1, r2, r3, r4)) :
  Calls Tryd.prog 16 #[.string a0] w fun e w' => ∃ v1_ v2_ : Value, e = .returned (.tuple #[.agg #[.bool r1, v1_, v2_], .int .i64 r4]) ∧ Kd.R (Kd.int .u32) 37 w' w.heap.size (fun k_ => some k_ ≠ (v2_ : Value).ownBlock) v1_ r2 ∧ Kd.R (Kd.int .u32) 37 w' w.heap.size (fun k_ => some k_ ≠ (v1_ : Value).ownBlock) v2_ r3 ∧ Below w.heap.size w w' := by
 have hu25 := Tryd.underlying25
 have HB := Aside0.mk (Below.refl w.heap.size w)
 have H : (if (a0.size : Int) > 4000 then (none) else ((strings_CutPrefix.f a0 (⟨#[45]⟩ : ByteArray)).bind fun bt563 => ((strings_Cut.f bt563.1 (⟨#[47]⟩ : ByteArray)).bind fun bt565 => (if bt565.2.2 = true then (none) else ((strings_Cut.f bt563.1 (⟨#[46]⟩ : ByteArray)).bind fun bt568 => (if bt568.2.2 = true then ((rational_digits.f k bt568.1).bind fun t571 => (if t571 = true then ((rational_digits.f k bt568.2.1).bind fun t572 => (if t572 = true then ((bignat_Pow.f k (([10] : List Int)) (bt568.2.1.size : Int)).bind fun bt576 => (if bt568.1.size + bt568.2.1.size ≤ 9223372036854775807 then ((rational_number.f k (bt568.1 ++ bt568.2.1)).bind fun t580 => ((rational_reduce.f k bt563.2 t580 bt576.1).bind fun bt583 => (some (bt583.1, bt583.2.1, bt583.2.2, 0)))) else (none))) else (none))) else (none))) else (none))))))) = some (r1, r2, r3, r4) := h
 clear h
 by_cases c2 : (a0.size : Int) > 4000
 ·
  rw [if_pos c2] at H
  exact absurd H (by simp)
 ·
  rw [if_neg c2] at H
  have c2b0 : decide (4000 < (a0.size : Int)) = false := decide_eq_false c2
  have c2b1 : decide (4000 < a0.size) = false := decide_eq_false (by omega)
  clear c2
  replace H := Option.bind_eq_some_iff.mp H
  obtain ⟨⟨t563, t564⟩, A30, H⟩ := H
  replace H : ((strings_Cut.f t563 (⟨#[47]⟩ : ByteArray)).bind fun bt565 => (if bt565.2.2 = true then (none) else ((strings_Cut.f t563 (⟨#[46]⟩ : ByteArray)).bind fun bt568 => (if bt568.2.2 = true then ((rational_digits.f k bt568.1).bind fun t571 => (if t571 = true then ((rational_digits.f k bt568.2.1).bind fun t572 => (if t572 = true then ((bignat_Pow.f k (([10] : List Int)) (bt568.2.1.size : Int)).bind fun bt576 => (if bt568.1.size + bt568.2.1.size ≤ 9223372036854775807 then ((rational_number.f k (bt568.1 ++ bt568.2.1)).bind fun t580 => ((rational_reduce.f k t564 t580 bt576.1).bind fun bt583 => (some (bt583.1, bt583.2.1, bt583.2.2, 0)))) else (none))) else (none))) else (none))) else (none))))) = some (r1, r2, r3, r4) := H
  have A3 := Aside0.mk A30
  clear A30
  replace H := Option.bind_eq_some_iff.mp H
  obtain ⟨⟨t565, t566, t567⟩, A40, H⟩ := H
  replace H : (if t567 = true then (none) else ((strings_Cut.f t563 (⟨#[46]⟩ : ByteArray)).bind fun bt568 => (if bt568.2.2 = true then ((rational_digits.f k bt568.1).bind fun t571 => (if t571 = true then ((rational_digits.f k bt568.2.1).bind fun t572 => (if t572 = true then ((bignat_Pow.f k (([10] : List Int)) (bt568.2.1.size : Int)).bind fun bt576 => (if bt568.1.size + bt568.2.1.size ≤ 9223372036854775807 then ((rational_number.f k (bt568.1 ++ bt568.2.1)).bind fun t580 => ((rational_reduce.f k t564 t580 bt576.1).bind fun bt583 => (some (bt583.1, bt583.2.1, bt583.2.2, 0)))) else (none))) else (none))) else (none))) else (none)))) = some (r1, r2, r3, r4) := H
  have A4 := Aside0.mk A40
  clear A40
  by_cases c5 : t567 = true
  ·
   subst c5
   have H1 : (none) = some (r1, r2, r3, r4) := by rw [if_pos rfl] at H; exact H
   clear H
   have H := H1
   clear H1
   exact absurd H (by simp)
  ·
   replace c5 := Bool.eq_false_iff.mpr c5
   subst c5
   have H1 : ((strings_Cut.f t563 (⟨#[46]⟩ : ByteArray)).bind fun bt568 => (if bt568.2.2 = true then ((rational_digits.f k bt568.1).bind fun t571 => (if t571 = true then ((rational_digits.f k bt568.2.1).bind fun t572 => (if t572 = true then ((bignat_Pow.f k (([10] : List Int)) (bt568.2.1.size : Int)).bind fun bt576 => (if bt568.1.size + bt568.2.1.size ≤ 9223372036854775807 then ((rational_number.f k (bt568.1 ++ bt568.2.1)).bind fun t580 => ((rational_reduce.f k t564 t580 bt576.1).bind fun bt583 => (some (bt583.1, bt583.2.1, bt583.2.2, 0)))) else (none))) else (none))) else (none))) else (none))) = some (r1, r2, r3, r4) := by rw [if_neg (show ¬ (false = true) by decide)] at H; exact H
   clear H
   have H := H1
   clear H1
   replace H := Option.bind_eq_some_iff.mp H
   obtain ⟨⟨t568, t569, t570⟩, A60, H⟩ := H
   replace H : (if t570 = true then ((rational_digits.f k t568).bind fun t571 => (if t571 = true then ((rational_digits.f k t569).bind fun t572 => (if t572 = true then ((bignat_Pow.f k (([10] : List Int)) (t569.size : Int)).bind fun bt576 => (if t568.size + t569.size ≤ 9223372036854775807 then ((rational_number.f k (t568 ++ t569)).bind fun t580 => ((rational_reduce.f k t564 t580 bt576.1).bind fun bt583 => (some (bt583.1, bt583.2.1, bt583.2.2, 0)))) else (none))) else (none))) else (none))) else (none)) = some (r1, r2, r3, r4) := H
   have A6 := Aside0.mk A60
   clear A60
   by_cases c7 : t570 = true
   ·
    subst c7
    have H1 : ((rational_digits.f k t568).bind fun t571 => (if t571 = true then ((rational_digits.f k t569).bind fun t572 => (if t572 = true then ((bignat_Pow.f k (([10] : List Int)) (t569.size : Int)).bind fun bt576 => (if t568.size + t569.size ≤ 9223372036854775807 then ((rational_number.f k (t568 ++ t569)).bind fun t580 => ((rational_reduce.f k t564 t580 bt576.1).bind fun bt583 => (some (bt583.1, bt583.2.1, bt583.2.2, 0)))) else (none))) else (none))) else (none))) = some (r1, r2, r3, r4) := by rw [if_pos rfl] at H; exact H
    clear H
    have H := H1
    clear H1
    replace H := Option.bind_eq_some_iff.mp H
    obtain ⟨t571, A80, H⟩ := H
    replace H : (if t571 = true then ((rational_digits.f k t569).bind fun t572 => (if t572 = true then ((bignat_Pow.f k (([10] : List Int)) (t569.size : Int)).bind fun bt576 => (if t568.size + t569.size ≤ 9223372036854775807 then ((rational_number.f k (t568 ++ t569)).bind fun t580 => ((rational_reduce.f k t564 t580 bt576.1).bind fun bt583 => (some (bt583.1, bt583.2.1, bt583.2.2, 0)))) else (none))) else (none))) else (none)) = some (r1, r2, r3, r4) := H
    have A8 := Aside0.mk A80
    clear A80
    by_cases c9 : t571 = true
    ·
     subst c9
     have H1 : ((rational_digits.f k t569).bind fun t572 => (if t572 = true then ((bignat_Pow.f k (([10] : List Int)) (t569.size : Int)).bind fun bt576 => (if t568.size + t569.size ≤ 9223372036854775807 then ((rational_number.f k (t568 ++ t569)).bind fun t580 => ((rational_reduce.f k t564 t580 bt576.1).bind fun bt583 => (some (bt583.1, bt583.2.1, bt583.2.2, 0)))) else (none))) else (none))) = some (r1, r2, r3, r4) := by rw [if_pos rfl] at H; exact H
     clear H
     have H := H1
     clear H1
     replace H := Option.bind_eq_some_iff.mp H
     obtain ⟨t572, A100, H⟩ := H
     replace H : (if t572 = true then ((bignat_Pow.f k (([10] : List Int)) (t569.size : Int)).bind fun bt576 => (if t568.size + t569.size ≤ 9223372036854775807 then ((rational_number.f k (t568 ++ t569)).bind fun t580 => ((rational_reduce.f k t564 t580 bt576.1).bind fun bt583 => (some (bt583.1, bt583.2.1, bt583.2.2, 0)))) else (none))) else (none)) = some (r1, r2, r3, r4) := H
     have A10 := Aside0.mk A100
     clear A100
     by_cases c11 : t572 = true
     ·
      subst c11
      have H1 : ((bignat_Pow.f k (([10] : List Int)) (t569.size : Int)).bind fun bt576 => (if t568.size + t569.size ≤ 9223372036854775807 then ((rational_number.f k (t568 ++ t569)).bind fun t580 => ((rational_reduce.f k t564 t580 bt576.1).bind fun bt583 => (some (bt583.1, bt583.2.1, bt583.2.2, 0)))) else (none))) = some (r1, r2, r3, r4) := by rw [if_pos rfl] at H; exact H
      clear H
      have H := H1
      clear H1
      obtain ⟨y573, hy573⟩ : ∃ y_ : List Int, y_ = (([10] : List Int)) := ⟨_, rfl⟩
      replace H : ((bignat_Pow.f k y573 (t569.size : Int)).bind fun bt576 => (if t568.size + t569.size ≤ 9223372036854775807 then ((rational_number.f k (t568 ++ t569)).bind fun t580 => ((rational_reduce.f k t564 t580 bt576.1).bind fun bt583 => (some (bt583.1, bt583.2.1, bt583.2.2, 0)))) else (none))) = some (r1, r2, r3, r4) := by first | (rw [hy573]; with_reducible exact H) | (have H2_ := (Option.bind_some _ _).symm.trans H; rw [hy573]; with_reducible exact H2_) | (have H2_ := (Option.bind_some _ _).symm.trans H; with_reducible exact H2_) | with_reducible exact H | (rw [hy573]; exact H) | exact H
      have Ny573 := Aside0.mk hy573
      clear hy573
      replace H := Option.bind_eq_some_iff.mp H
      obtain ⟨⟨t576, t577⟩, A120, H⟩ := H
      replace H : (if t568.size + t569.size ≤ 9223372036854775807 then ((rational_number.f k (t568 ++ t569)).bind fun t580 => ((rational_reduce.f k t564 t580 t576).bind fun bt583 => (some (bt583.1, bt583.2.1, bt583.2.2, 0)))) else (none)) = some (r1, r2, r3, r4) := H
      have A12 := Aside0.mk A120
      clear A120
      by_cases c13 : t568.size + t569.size ≤ 9223372036854775807
      ·
       rw [if_pos c13] at H
       have c13b0 := eq_true c13
       have c13b1 : decide (t568.size + t569.size ≤ 9223372036854775807) = true := decide_eq_true c13
       try have c13b2 : (9223372036854775807 < t568.size + t569.size) = False := eq_false (Nat.not_lt.2 c13)
       replace H := Option.bind_eq_some_iff.mp H
       obtain ⟨t580, A140, H⟩ := H
       replace H : ((rational_reduce.f k t564 t580 t576).bind fun bt583 => (some (bt583.1, bt583.2.1, bt583.2.2, 0))) = some (r1, r2, r3, r4) := H
       have A14 := Aside0.mk A140
       clear A140
       replace H := Option.bind_eq_some_iff.mp H
       obtain ⟨⟨t583, t584, t587⟩, A150, H⟩ := H
       replace H : (some (t583, t584, t587, 0)) = some (r1, r2, r3, r4) := H
       have A15 := Aside0.mk A150
       clear A150
       simp only [Option.some.injEq, Prod.mk.injEq] at H
       obtain ⟨rfl, rfl, rfl, rfl⟩ := H
       go_enter Tryd.func16, Tryd.ntmps16
       have M410_0 : Aside0 True := ⟨trivial⟩
       have M410_1 : Aside0 True := ⟨trivial⟩
       go_wp2_with (first | ((with_reducible refine gate_dst (N := 2) rfl ?_); refine box_event ?hg (N := 2) ?hd (cs := #[.bool false, .slice none 0 0, .slice none 0 0]) (t := 25) ?hr ?_; (case hd => rfl); (case hg => rfl); (case hr => first | (go_simp; done) | (go_simp; rfl)); intro gb562 hg w16 hbox hb; have n0_ := Aside0.mk (below_step (zb HB rfl) hb); have n1_ := Aside0.mk (hbox); have n2_ := Aside0.mk ((by rw [hg]; exact (below_size (zb HB rfl)) : w.heap.size ≤ gb562)); have n3_ := Aside0.mk ((by rw [hg]; exact (below_size (zb HB rfl)) : w.heap.size ≤ gb562)); clear HB; have HB := n0_; have BK562 := n1_; have GW562 := n2_; have GE562 := n3_; clear n0_ n1_ n2_ n3_; clear hb hbox hg) | ((with_reducible refine gate_callee (f := 52) rfl ?_); refine goesL_ (some 21) rfl rfl Tryd.func52 (by kernel_rfl) rfl #[.string a0, .string (⟨#[45]⟩ : ByteArray)] rfl (by first | rfl | (go_simp; first | done | rfl | omega)) ?_; (with_reducible refine (strings_CutPrefix.calls a0 (⟨#[45]⟩ : ByteArray) t563 t564 _ A3.out).mono ?_); rintro e w' ⟨rfl, ⟨nd, rfl⟩⟩; refine ⟨_, rfl, ?_⟩; (try (rw [drewN_self w16]; generalize hq_ : World.drewN w16 _ = w16; have n0_ : Aside0 (w16.heap[gb562]? = some (.cells #[.bool false, .slice none 0 0, .slice none 0 0] 25 (0, 0))) := ⟨by rw [← hq_]; exact BK562.out⟩; have n1_ : Aside0 (Below w.heap.size w w16) := ⟨by rw [← hq_]; exact (zb HB rfl)⟩; clear BK562 HB hq_; have BK562 := n0_; have HB := n1_; clear n0_ n1_))) | ((with_reducible refine gate_callee (f := 53) rfl ?_); refine goesL_ (some 26) rfl rfl Tryd.func53 (by kernel_rfl) rfl #[.string t563, .string (⟨#[47]⟩ : ByteArray)] rfl (by first | rfl | (go_simp; first | done | rfl | omega)) ?_; (with_reducible refine (strings_Cut.calls t563 (⟨#[47]⟩ : ByteArray) t565 t566 false _ A4.out).mono ?_); rintro e w' ⟨rfl, ⟨nd, rfl⟩⟩; refine ⟨_, rfl, ?_⟩; (try (rw [drewN_self w16]; generalize hq_ : World.drewN w16 _ = w16; have n0_ : Aside0 (w16.heap[gb562]? = some (.cells #[.bool false, .slice none 0 0, .slice none 0 0] 25 (0, 0))) := ⟨by rw [← hq_]; exact BK562.out⟩; have n1_ : Aside0 (Below w.heap.size w w16) := ⟨by rw [← hq_]; exact (zb HB rfl)⟩; clear BK562 HB hq_; have BK562 := n0_; have HB := n1_; clear n0_ n1_))) | ((with_reducible refine gate_callee (f := 53) rfl ?_); refine goesL_ (some 34) rfl rfl Tryd.func53 (by kernel_rfl) rfl #[.string t563, .string (⟨#[46]⟩ : ByteArray)] rfl (by first | rfl | (go_simp; first | done | rfl | omega)) ?_; (with_reducible refine (strings_Cut.calls t563 (⟨#[46]⟩ : ByteArray) t568 t569 true _ A6.out).mono ?_); rintro e w' ⟨rfl, ⟨nd, rfl⟩⟩; refine ⟨_, rfl, ?_⟩; (try (rw [drewN_self w16]; generalize hq_ : World.drewN w16 _ = w16; have n0_ : Aside0 (w16.heap[gb562]? = some (.cells #[.bool false, .slice none 0 0, .slice none 0 0] 25 (0, 0))) := ⟨by rw [← hq_]; exact BK562.out⟩; have n1_ : Aside0 (Below w.heap.size w w16) := ⟨by rw [← hq_]; exact (zb HB rfl)⟩; clear BK562 HB hq_; have BK562 := n0_; have HB := n1_; clear n0_ n1_))) | (go_at_call 54; clear M410_0; (with_reducible refine (rational_digits.calls k t568 true _ A8.out).mono ?_); rintro e w' ⟨rfl, ⟨nd, rfl⟩⟩; (try (rw [drewN_self w16]; generalize hq_ : World.drewN w16 _ = w16; have n0_ : Aside0 (w16.heap[gb562]? = some (.cells #[.bool false, .slice none 0 0, .slice none 0 0] 25 (0, 0))) := ⟨by rw [← hq_]; exact BK562.out⟩; have n1_ : Aside0 (Below w.heap.size w w16) := ⟨by rw [← hq_]; exact (zb HB rfl)⟩; clear BK562 HB hq_; have BK562 := n0_; have HB := n1_; clear n0_ n1_))) | (go_at_call 54; clear M410_1; (with_reducible refine (rational_digits.calls k t569 true _ A10.out).mono ?_); rintro e w' ⟨rfl, ⟨nd, rfl⟩⟩; (try (rw [drewN_self w16]; generalize hq_ : World.drewN w16 _ = w16; have n0_ : Aside0 (w16.heap[gb562]? = some (.cells #[.bool false, .slice none 0 0, .slice none 0 0] 25 (0, 0))) := ⟨by rw [← hq_]; exact BK562.out⟩; have n1_ : Aside0 (Below w.heap.size w w16) := ⟨by rw [← hq_]; exact (zb HB rfl)⟩; clear BK562 HB hq_; have BK562 := n0_; have HB := n1_; clear n0_ n1_))) | ((with_reducible refine gate_dst (N := 65) rfl ?_); refine Kd.R_lit (Kd.int .u32) _ 37 ?hg (N := 65) ?hd (xs := ([10] : List Int)) (inner := [.int .u32 10]) (ok := fun _ => True) (okp := fun _ => True) ?hr ?hp (fun _ hk => hk) trivial (Below.refl _ _) (Nat.le_refl _) (by simp) ?_; (case hd => rfl); (case hg => rfl); (case hr => first | (go_simp; done) | (go_simp; rfl)); (case hp => exact (Reps.one (show Kd.M (Kd.int .u32) _ _ _ 10 [.int .u32 10] from rfl) (Reps.none _ _))); intro v574 w17 ho18 hb hg_ hnew_; clear hg_ hnew_; (first | rw [← Ny573.out] at ho18 | (simp only [Int.reduceToNat] at ho18; rw [← Ny573.out] at ho18)); have n0_ := Aside0.mk (Kd.R_lower ho18 (below_size (by repeat (first | (with_reducible first | exact HB.out | apply below_alloc | apply pw_below_drewN | apply below_drew1 | refine below_set ?_ GE562.out) | exact HB.out)))); have n1_ := Aside0.mk (blk_below (g := gb562) (o := .cells #[.bool false, .slice none 0 0, .slice none 0 0] 25 (0, 0)) (by (with_reducible repeat (first | refine blk_drewN ?_ _ | refine blk_drew ?_ | refine blk_alloc ?_ _)); exact BK562.out) hb); have n2_ := Aside0.mk (below_step (by repeat (first | (with_reducible first | exact HB.out | apply below_alloc | apply pw_below_drewN | apply below_drew1 | refine below_set ?_ GE562.out) | exact HB.out)) hb); clear BK562; clear HB; have HO575 := n0_; have BK562 := n1_; have HB := n2_; clear n0_ n1_ n2_; clear hb ho18; obtain ⟨Ao19, co19, eo19⟩ := Kd.R_slice HO575.out; subst eo19) | ((with_reducible refine gate_callee (f := 57) rfl ?_); refine goesL_ (some 68) rfl rfl Tryd.func57 (by kernel_rfl) rfl #[.slice Ao19 y573.length co19, .int .i64 (t569.size : Int)] rfl (by first | rfl | (go_simp; first | done | rfl | omega)) ?_; (with_reducible refine (bignat_Pow.calls k _ _ y573 (t569.size : Int) t576 t577 _ ?side1 ?side2 A12.out).mono ?_); (case side1 => repeat first | exact (Kd.R_reads' HO575.out).2.2 | refine Kd.C_drewN ?_ _ | refine Kd.C_alloc ?_ _ | refine Kd.C_drew ?_); (case side2 => exact (Kd.R_reads' HO575.out).2.1); rintro e w20 ⟨v578, rfl, ho0, hb⟩; refine ⟨_, rfl, ?_⟩; have n0_ := Aside0.mk (Kd.R_elder' (zr HO575 rfl) (Kd.R_base ho0) hb); have n1_ := Aside0.mk (Kd.R_lower (Kd.R_new' ho0 (Kd.R_lt (zr HO575 rfl))) (below_size (zb HB rfl))); have n2_ := Aside0.mk (blk_below BK562.out hb); have n3_ := Aside0.mk (below_step (zb HB rfl) hb); clear HO575; clear BK562; clear HB; have HO575 := n0_; have HO579 := n1_; have BK562 := n2_; have HB := n3_; clear n0_ n1_ n2_ n3_) | ((with_reducible refine gate_callee (f := 55) rfl ?_); refine goesL_ (some 75) rfl rfl Tryd.func55 (by kernel_rfl) rfl #[.string (t568 ++ t569)] rfl (by first | rfl | (go_simp; first | done | rfl | omega)) ?_; (with_reducible refine (rational_number.calls k (t568 ++ t569) t580 _ A14.out).mono ?_); rintro e w21 ⟨v581, rfl, ho0, hb⟩; refine ⟨_, rfl, ?_⟩; have n0_ := Aside0.mk (Kd.R_elder' (zr HO575 rfl) (Kd.R_base ho0) hb); have n1_ := Aside0.mk (Kd.R_elder' (zr HO579 rfl) (Kd.R_base ho0) hb); have n2_ := Aside0.mk (Kd.R_lower (Kd.R_new' (Kd.R_new' ho0 (Kd.R_lt (zr HO575 rfl))) (Kd.R_lt (zr HO579 rfl))) (below_size (zb HB rfl))); have n3_ := Aside0.mk (blk_below BK562.out hb); have n4_ := Aside0.mk (below_step (zb HB rfl) hb); clear HO575; clear HO579; clear BK562; clear HB; have HO575 := n0_; have HO579 := n1_; have HO582 := n2_; have BK562 := n3_; have HB := n4_; clear n0_ n1_ n2_ n3_ n4_; obtain ⟨Ao22, co22, eo22⟩ := Kd.R_slice HO582.out; subst eo22; obtain ⟨Ao23, co23, eo23⟩ := Kd.R_slice HO579.out; subst eo23) | ((with_reducible refine gate_callee (f := 46) rfl ?_); refine goesL_ (some 77) rfl rfl Tryd.func46 (by kernel_rfl) rfl #[.bool t564, .slice Ao22 t580.length co22, .slice Ao23 t576.length co23] rfl (by first | rfl | (go_simp; first | done | rfl | omega)) ?_; (with_reducible refine (rational_reduce.calls k t564 _ _ t580 _ _ t576 t583 t584 t587 _ ?side1 ?side2 ?side3 ?side4 A15.out).mono ?_); (case side1 => repeat first | exact (Kd.R_reads' HO582.out).2.2 | refine Kd.C_drewN ?_ _ | refine Kd.C_alloc ?_ _ | refine Kd.C_drew ?_); (case side2 => exact (Kd.R_reads' HO582.out).2.1); (case side3 => repeat first | exact (Kd.R_reads' HO579.out).2.2 | refine Kd.C_drewN ?_ _ | refine Kd.C_alloc ?_ _ | refine Kd.C_drew ?_); (case side4 => exact (Kd.R_reads' HO579.out).2.1); rintro e w24 ⟨v585, v588, rfl, ho0, ho1, hb⟩; refine ⟨_, rfl, ?_⟩; have n0_ := Aside0.mk (Kd.R_mono (Kd.R_told (Kd.R_told (Kd.R_old (zr HO575 rfl) hb) (Kd.R_base ho0)) (Kd.R_base ho1)) (fun _ h_ => h_.1)); have n1_ := Aside0.mk (Kd.R_mono (Kd.R_told (Kd.R_told (Kd.R_old (zr HO579 rfl) hb) (Kd.R_base ho0)) (Kd.R_base ho1)) (fun _ h_ => h_.1)); have n2_ := Aside0.mk (Kd.R_mono (Kd.R_told (Kd.R_told (Kd.R_old (zr HO582 rfl) hb) (Kd.R_base ho0)) (Kd.R_base ho1)) (fun _ h_ => h_.1)); have n3_ := Aside0.mk (Kd.R_lower (Kd.R_new' (Kd.R_new' (Kd.R_new' ho0 (Kd.R_lt (zr HO575 rfl))) (Kd.R_lt (zr HO579 rfl))) (Kd.R_lt (zr HO582 rfl))) (below_size (zb HB rfl))); have n4_ := Aside0.mk (Kd.R_lower (Kd.R_new' (Kd.R_new' (Kd.R_new' ho1 (Kd.R_lt (zr HO575 rfl))) (Kd.R_lt (zr HO579 rfl))) (Kd.R_lt (zr HO582 rfl))) (below_size (zb HB rfl))); have n5_ := Aside0.mk (blk_below BK562.out hb); have n6_ := Aside0.mk (below_step (zb HB rfl) hb); clear HO575; clear HO579; clear HO582; clear BK562; clear HB; have HO575 := n0_; have HO579 := n1_; have HO582 := n2_; have HO586 := n3_; have HO589 := n4_; have BK562 := n5_; have HB := n6_; clear n0_ n1_ n2_ n3_ n4_ n5_ n6_; have hcz25_0 : w24.cell? ⟨gb562, 0, none⟩ = some (.bool false) := (blk_cell BK562.out 0).trans rfl; have hcz25_1 : w24.cell? ⟨gb562, 1, none⟩ = some (.slice none 0 0) := (blk_cell BK562.out 1).trans rfl; have hcz25_2 : w24.cell? ⟨gb562, 2, none⟩ = some (.slice none 0 0) := (blk_cell BK562.out 2).trans rfl; have hfz25_0 := blk_frozen BK562.out 0; have hfz25_1 := blk_frozen BK562.out 1; have hfz25_2 := blk_frozen BK562.out 2; obtain ⟨Ao26, co26, eo26⟩ := Kd.R_slice HO586.out; subst eo26; obtain ⟨Ao27, co27, eo27⟩ := Kd.R_slice HO589.out; subst eo27))
       refine bodyPost_ret (results_ct rfl _ _ gb562 25 #[.bool t583, .slice Ao26 t584.length co26, .slice Ao27 t587.length co27] (0, 0) _ rfl (by (with_reducible repeat (first | refine blk_drewN ?_ _ | refine blk_drew ?_ | refine blk_alloc ?_ _)); refine blk_put (cs := #[.bool t583, .slice Ao26 t584.length co26, .slice none 0 0]) ?_ 2 _ rfl; (with_reducible repeat (first | refine blk_drewN ?_ _ | refine blk_drew ?_ | refine blk_alloc ?_ _)); refine blk_put (cs := #[.bool t583, .slice none 0 0, .slice none 0 0]) ?_ 1 _ rfl; (with_reducible repeat (first | refine blk_drewN ?_ _ | refine blk_drew ?_ | refine blk_alloc ?_ _)); refine blk_put (cs := #[.bool false, .slice none 0 0, .slice none 0 0]) ?_ 0 _ rfl; (with_reducible repeat (first | refine blk_drewN ?_ _ | refine blk_drew ?_ | refine blk_alloc ?_ _)); exact BK562.out) Tryd.underlying25 rfl (by kernel_rfl)) rfl ?_
       exact ⟨_, _, by first | rfl | (simp [*, errW_none, errW_some] <;> rfl), by (with_reducible repeat (first | apply Kd.R_alloc | apply Kd.R_drewN | apply Kd.R_drew)); exact Kd.R_mono (Kd.R_far (p := ⟨gb562, 2, none⟩) (Kd.R_far (p := ⟨gb562, 1, none⟩) (Kd.R_far (p := ⟨gb562, 0, none⟩) (Kd.R_types HO586.out BK562.out (by decide)) (fun _ hk => hk.2) (.bool t583)) (fun _ hk => hk.2) (.slice Ao26 t584.length co26)) (fun _ hk => hk.2) (.slice Ao27 t587.length co27)) (fun _ hk => hk.1.1.1.1), by (with_reducible repeat (first | apply Kd.R_alloc | apply Kd.R_drewN | apply Kd.R_drew)); exact Kd.R_mono (Kd.R_far (p := ⟨gb562, 2, none⟩) (Kd.R_far (p := ⟨gb562, 1, none⟩) (Kd.R_far (p := ⟨gb562, 0, none⟩) (Kd.R_types HO589.out BK562.out (by decide)) (fun _ hk => hk.2) (.bool t583)) (fun _ hk => hk.2) (.slice Ao26 t584.length co26)) (fun _ hk => hk.2) (.slice Ao27 t587.length co27)) (fun _ hk => hk.1.1.1.1), by repeat (first | (with_reducible first | exact HB.out | apply below_alloc | apply pw_below_drewN | apply below_drew1 | refine below_set ?_ GE562.out) | exact HB.out)⟩
      ·
       rw [if_neg c13] at H
       exact absurd H (by simp)
     ·
      replace c11 := Bool.eq_false_iff.mpr c11
      subst c11
      have H1 : (none) = some (r1, r2, r3, r4) := by rw [if_neg (show ¬ (false = true) by decide)] at H; exact H
      clear H
      have H := H1
      clear H1
      exact absurd H (by simp)
    ·
     replace c9 := Bool.eq_false_iff.mpr c9
     subst c9
     have H1 : (none) = some (r1, r2, r3, r4) := by rw [if_neg (show ¬ (false = true) by decide)] at H; exact H
     clear H
     have H := H1
     clear H1
     exact absurd H (by simp)
   ·
    replace c7 := Bool.eq_false_iff.mpr c7
    subst c7
    have H1 : (none) = some (r1, r2, r3, r4) := by rw [if_neg (show ¬ (false = true) by decide)] at H; exact H
    clear H
    have H := H1
    clear H1
    exact absurd H (by simp)

def rational_Normalize.f (k : Nat) (a0_0 : Bool) (l0_1 : List Int) (l0_2 : List Int) : Option (Bool × List Int × List Int) := (rational_reduce.f k a0_0 l0_1 l0_2).bind fun bt592 => (some (bt592.1, bt592.2.1, bt592.2.2))
theorem rational_Normalize.mono : ∀ a0 a1 a2 k, LeO (rational_Normalize.f k a0 a1 a2) (rational_Normalize.f (k + 1) a0 a1 a2) := by
 intro a0 a1 a2 k
 unfold rational_Normalize.f
 repeat' first
   | (with_reducible exact rational_reduce.mono _ _ _ _)
   | (with_reducible exact LeO.refl _)
   | (with_reducible exact LeO.none _)
   | (with_reducible refine LeO.ite ?_ ?_)
   | (with_reducible refine LeO.bind ?_ (fun _ => ?_))
   | exact LeO.none _
   | refine LeO.ite ?_ ?_
   | refine LeO.bind ?_ (fun _ => ?_)
set_option maxHeartbeats 8000000 in
set_option maxRecDepth 100000 in
theorem rational_Normalize.calls (k : Nat) (a0_0 : Bool) (A0_1 : Option Addr) (c0_1 : Nat) (l0_1 : List Int) (A0_2 : Option Addr) (c0_2 : Nat) (l0_2 : List Int) (r1 : Bool) (r2 : List Int) (r3 : List Int) (w : World) (hr0_1 : Kd.C (Kd.int .u32) w A0_1 l0_1.length l0_1) (hc0_1 : l0_1.length ≤ c0_1) (hr0_2 : Kd.C (Kd.int .u32) w A0_2 l0_2.length l0_2) (hc0_2 : l0_2.length ≤ c0_2) (h : rational_Normalize.f k a0_0 l0_1 l0_2 = some (r1, r2, r3)) :
  Calls Tryd.prog 20 #[.agg #[.bool a0_0, .slice A0_1 l0_1.length c0_1, .slice A0_2 l0_2.length c0_2]] w fun e w' => ∃ v1_ v2_ : Value, e = .returned (.agg #[.bool r1, v1_, v2_]) ∧ Kd.R (Kd.int .u32) 37 w' w.heap.size (fun k_ => some k_ ≠ (v2_ : Value).ownBlock) v1_ r2 ∧ Kd.R (Kd.int .u32) 37 w' w.heap.size (fun k_ => some k_ ≠ (v1_ : Value).ownBlock) v2_ r3 ∧ Below w.heap.size w w' := by
 have hu25 := Tryd.underlying25
 have HR0_1 := Aside0.mk hr0_1
 have HC0_1 := Aside0.mk hc0_1
 clear hr0_1 hc0_1
 have HR0_2 := Aside0.mk hr0_2
 have HC0_2 := Aside0.mk hc0_2
 clear hr0_2 hc0_2
 have HB := Aside0.mk (Below.refl w.heap.size w)
 have H : ((rational_reduce.f k a0_0 l0_1 l0_2).bind fun bt592 => (some (bt592.1, bt592.2.1, bt592.2.2))) = some (r1, r2, r3) := h
 clear h
 replace H := Option.bind_eq_some_iff.mp H
 obtain ⟨⟨t592, t593, t596⟩, A20, H⟩ := H
 replace H : (some (t592, t593, t596)) = some (r1, r2, r3) := H
 have A2 := Aside0.mk A20
 clear A20
 simp only [Option.some.injEq, Prod.mk.injEq] at H
 obtain ⟨rfl, rfl, rfl⟩ := H
 go_enter Tryd.func20, Tryd.ntmps20
 go_wp2_with (first | ((with_reducible refine gate_dst (N := 1) rfl ?_); refine box_event ?hg (N := 1) ?hd (cs := #[.bool a0_0, .slice A0_1 l0_1.length c0_1, .slice A0_2 l0_2.length c0_2]) (t := 25) ?hr ?_; (case hd => rfl); (case hg => rfl); (case hr => first | (go_simp; done) | (go_simp; rfl)); intro gb590 hg w3 hbox hb; have n0_ := Aside0.mk (below_step (zb HB rfl) hb); have n1_ := Aside0.mk (hbox); have n2_ := Aside0.mk ((by rw [hg]; exact (below_size (zb HB rfl)) : w.heap.size ≤ gb590)); have n3_ := Aside0.mk ((by rw [hg]; exact (below_size (zb HB rfl)) : w.heap.size ≤ gb590)); clear HB; have HB := n0_; have BK590 := n1_; have GW590 := n2_; have GE590 := n3_; clear n0_ n1_ n2_ n3_; clear hb hbox hg) | ((with_reducible refine gate_dst (N := 2) rfl ?_); refine box_event ?hg (N := 2) ?hd (cs := #[.bool false, .slice none 0 0, .slice none 0 0]) (t := 25) ?hr ?_; (case hd => rfl); (case hg => rfl); (case hr => first | (go_simp; done) | (go_simp; rfl)); intro gb591 hg w4 hbox hb; have n0_ := Aside0.mk (blk_below BK590.out hb); have n1_ := Aside0.mk (below_step (zb HB rfl) hb); have n2_ := Aside0.mk (hbox); have n3_ := Aside0.mk ((by rw [hg]; exact (below_size (zb HB rfl)) : w.heap.size ≤ gb591)); have n4_ := Aside0.mk ((by rw [hg]; exact (below_size (zb HB rfl)) : w.heap.size ≤ gb591)); have n5_ := Aside0.mk ((by rw [hg]; exact Nat.ne_of_lt (blk_lt BK590.out) : gb590 ≠ gb591)); have n6_ := Aside0.mk ((by rw [hg]; exact Nat.ne_of_gt (blk_lt BK590.out) : gb591 ≠ gb590)); clear BK590; clear HB; have BK590 := n0_; have HB := n1_; have BK591 := n2_; have GW591 := n3_; have GE591 := n4_; have NB590_591 := n5_; have NB591_590 := n6_; clear n0_ n1_ n2_ n3_ n4_ n5_ n6_; clear hb hbox hg; have hnb5 := NB590_591.out; have hnc5 := NB591_590.out; have hcz6_0 : w4.cell? ⟨gb590, 0, none⟩ = some (.bool a0_0) := (blk_cell BK590.out 0).trans rfl; have hcz6_1 : w4.cell? ⟨gb590, 1, none⟩ = some (.slice A0_1 l0_1.length c0_1) := (blk_cell BK590.out 1).trans rfl; have hcz6_2 : w4.cell? ⟨gb590, 2, none⟩ = some (.slice A0_2 l0_2.length c0_2) := (blk_cell BK590.out 2).trans rfl; have hfz6_0 := blk_frozen BK590.out 0; have hfz6_1 := blk_frozen BK590.out 1; have hfz6_2 := blk_frozen BK590.out 2) | ((with_reducible refine gate_callee (f := 46) rfl ?_); refine goesL_ (some 9) rfl rfl Tryd.func46 (by kernel_rfl) rfl #[.bool a0_0, .slice A0_1 l0_1.length c0_1, .slice A0_2 l0_2.length c0_2] rfl (by first | rfl | (go_simp; first | done | rfl | omega)) ?_; (with_reducible refine (rational_reduce.calls k a0_0 _ _ l0_1 _ _ l0_2 t592 t593 t596 _ ?side1 ?side2 ?side3 ?side4 A2.out).mono ?_); (case side1 => repeat first | exact (Kd.C_below HR0_1.out HB.out) | refine Kd.C_drewN ?_ _ | refine Kd.C_alloc ?_ _ | refine Kd.C_drew ?_); (case side2 => exact HC0_1.out); (case side3 => repeat first | exact (Kd.C_below HR0_2.out HB.out) | refine Kd.C_drewN ?_ _ | refine Kd.C_alloc ?_ _ | refine Kd.C_drew ?_); (case side4 => exact HC0_2.out); rintro e w7 ⟨v594, v597, rfl, ho0, ho1, hb⟩; refine ⟨_, rfl, ?_⟩; have n0_ := Aside0.mk (Kd.R_lower ho0 (below_size (zb HB rfl))); have n1_ := Aside0.mk (Kd.R_lower ho1 (below_size (zb HB rfl))); have n2_ := Aside0.mk (blk_below BK590.out hb); have n3_ := Aside0.mk (blk_below BK591.out hb); have n4_ := Aside0.mk (below_step (zb HB rfl) hb); clear BK590; clear BK591; clear HB; have HO595 := n0_; have HO598 := n1_; have BK590 := n2_; have BK591 := n3_; have HB := n4_; clear n0_ n1_ n2_ n3_ n4_; have hcz8_0 : w7.cell? ⟨gb591, 0, none⟩ = some (.bool false) := (blk_cell BK591.out 0).trans rfl; have hcz8_1 : w7.cell? ⟨gb591, 1, none⟩ = some (.slice none 0 0) := (blk_cell BK591.out 1).trans rfl; have hcz8_2 : w7.cell? ⟨gb591, 2, none⟩ = some (.slice none 0 0) := (blk_cell BK591.out 2).trans rfl; have hfz8_0 := blk_frozen BK591.out 0; have hfz8_1 := blk_frozen BK591.out 1; have hfz8_2 := blk_frozen BK591.out 2; obtain ⟨Ao9, co9, eo9⟩ := Kd.R_slice HO595.out; subst eo9; obtain ⟨Ao10, co10, eo10⟩ := Kd.R_slice HO598.out; subst eo10))
 refine bodyPost_ret (results_cell_row rfl _ _ gb591 25 #[.bool t592, .slice Ao9 t593.length co9, .slice Ao10 t596.length co10] (0, 0) _ rfl (by (with_reducible repeat (first | refine blk_drewN ?_ _ | refine blk_drew ?_ | refine blk_alloc ?_ _)); refine blk_put (cs := #[.bool t592, .slice Ao9 t593.length co9, .slice none 0 0]) ?_ 2 _ rfl; (with_reducible repeat (first | refine blk_drewN ?_ _ | refine blk_drew ?_ | refine blk_alloc ?_ _)); refine blk_put (cs := #[.bool t592, .slice none 0 0, .slice none 0 0]) ?_ 1 _ rfl; (with_reducible repeat (first | refine blk_drewN ?_ _ | refine blk_drew ?_ | refine blk_alloc ?_ _)); refine blk_put (cs := #[.bool false, .slice none 0 0, .slice none 0 0]) ?_ 0 _ rfl; (with_reducible repeat (first | refine blk_drewN ?_ _ | refine blk_drew ?_ | refine blk_alloc ?_ _)); exact BK591.out) Tryd.underlying25 rfl (by kernel_rfl)) rfl ?_
 exact ⟨_, _, by first | rfl | (simp [*, errW_none, errW_some] <;> rfl), by (with_reducible repeat (first | apply Kd.R_alloc | apply Kd.R_drewN | apply Kd.R_drew)); exact Kd.R_mono (Kd.R_far (p := ⟨gb591, 2, none⟩) (Kd.R_far (p := ⟨gb591, 1, none⟩) (Kd.R_far (p := ⟨gb591, 0, none⟩) (Kd.R_types HO595.out BK591.out (by decide)) (fun _ hk => hk.2) (.bool t592)) (fun _ hk => hk.2) (.slice Ao9 t593.length co9)) (fun _ hk => hk.2) (.slice Ao10 t596.length co10)) (fun _ hk => hk.1), by (with_reducible repeat (first | apply Kd.R_alloc | apply Kd.R_drewN | apply Kd.R_drew)); exact Kd.R_mono (Kd.R_far (p := ⟨gb591, 2, none⟩) (Kd.R_far (p := ⟨gb591, 1, none⟩) (Kd.R_far (p := ⟨gb591, 0, none⟩) (Kd.R_types HO598.out BK591.out (by decide)) (fun _ hk => hk.2) (.bool t592)) (fun _ hk => hk.2) (.slice Ao9 t593.length co9)) (fun _ hk => hk.2) (.slice Ao10 t596.length co10)) (fun _ hk => hk.1), by repeat (first | (with_reducible first | exact HB.out | apply below_alloc | apply pw_below_drewN | apply below_drew1 | refine below_set ?_ GE590.out | refine below_set ?_ GE591.out) | exact HB.out)⟩

end Go.Proofs.YtoeldfopjalpkaaDoor.Q

