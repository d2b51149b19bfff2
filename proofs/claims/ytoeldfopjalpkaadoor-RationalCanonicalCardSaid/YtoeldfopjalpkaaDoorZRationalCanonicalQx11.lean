/- Lemmas for the proof of one law of this seat (Qx11). -/
import Derived.Test.YtoeldfopjalpkaaDoorZRationalCanonicalQx0
import Derived.Test.YtoeldfopjalpkaaDoorZRationalCanonicalQx1
import Derived.Test.YtoeldfopjalpkaaDoorZRationalCanonicalQx2
import Derived.Test.YtoeldfopjalpkaaDoorZRationalCanonicalQx6
import Derived.Test.YtoeldfopjalpkaaDoorZRationalCanonicalQx8
import Derived.Test.YtoeldfopjalpkaaDoorZRationalCanonicalQx10
import Derived.Test.YtoeldfopjalpkaaDoorZRationalCanonicalZip
namespace Go.Proofs.YtoeldfopjalpkaaDoor.Q
open Go.RowKit Go.Proofs.YtoeldfopjalpkaaDoorW.PrintWords Go.Proofs.YtoeldfopjalpkaaDoorW.PrintLast Go.Proofs.YtoeldfopjalpkaaDoorW.PrintMore
attribute [local go_sem] max2_int min2_int max_two min_two max_three min_three max_four min_four   -- for this text's walks alone
set_option linter.unusedVariables false
set_option linter.unusedSimpArgs false

def bignat_BitLen.f (k : Nat) (l0 : List Int) : Option (Int) := (bignat_trim.f k l0).bind fun t360 => (if (t360.length : Int) = 0 then (some 0) else (if 0 ≤ (wrap64 ((t360.length : Int) - 1)) then (if (wrap64 ((t360.length : Int) - 1)) < (t360.length : Int) then ((bits_Len32.f (rd t360 (wrap64 ((t360.length : Int) - 1)))).bind fun t364 => (some (wrap64 ((wrap64 (32 * (wrap64 ((t360.length : Int) - 1)))) + t364)))) else (none)) else (none)))
theorem bignat_BitLen.mono : ∀ a0 k, LeO (bignat_BitLen.f k a0) (bignat_BitLen.f (k + 1) a0) := by
 intro a0 k
 unfold bignat_BitLen.f
 exact zm1 bignat_trim.mono
set_option maxHeartbeats 8000000 in
set_option maxRecDepth 100000 in
theorem bignat_BitLen.calls (k : Nat) (A0 : Option Addr) (c0 : Nat) (l0 : List Int) (r : Int) (w : World) (hr0 : Kd.C (Kd.int .u32) w A0 l0.length l0) (hc0 : l0.length ≤ c0) (h : bignat_BitLen.f k l0 = some r) :
 Calls Tryd.prog 70 #[.slice A0 l0.length c0] w fun e w' => e = .returned (.int .i64 r) ∧ Below w.heap.size w w' := by
 have HR0 := zA hr0
 have HC0 := zA hc0
 clear hr0 hc0
 have HB := zA (Below.refl w.heap.size w)
 have H : ((bignat_trim.f k l0).bind fun t360 => (if (t360.length : Int) = 0 then (some 0) else (if 0 ≤ (wrap64 ((t360.length : Int) - 1)) then (if (wrap64 ((t360.length : Int) - 1)) < (t360.length : Int) then ((bits_Len32.f (rd t360 (wrap64 ((t360.length : Int) - 1)))).bind fun t364 => (some (wrap64 ((wrap64 (32 * (wrap64 ((t360.length : Int) - 1)))) + t364)))) else (none)) else (none)))) = some r := h
 clear h
 obtain ⟨t360, A20, H⟩ := zi H
 replace H : (if (t360.length : Int) = 0 then (some 0) else (if 0 ≤ (wrap64 ((t360.length : Int) - 1)) then (if (wrap64 ((t360.length : Int) - 1)) < (t360.length : Int) then ((bits_Len32.f (rd t360 (wrap64 ((t360.length : Int) - 1)))).bind fun t364 => (some (wrap64 ((wrap64 (32 * (wrap64 ((t360.length : Int) - 1)))) + t364)))) else (none)) else (none))) = some r := H
 have A2 := zA A20
 clear A20
 by_cases c3 : (t360.length : Int) = 0
 ·
  rw [if_pos c3] at H
  have c3b0 := beq_iff_eq.mpr c3
  have c3b1 := bne_eq_false_iff_eq.mpr c3
  clear c3
  obtain rfl := Option.some.inj H
  go_enter Tryd.func70, Tryd.ntmps70
  go_wp2_with (first | ((with_reducible refine gate_callee (f := 71) rfl ?_); refine goesL_ (some 4) rfl rfl Tryd.func71 zk rfl #[.slice A0 l0.length c0] rfl zX ?_; (with_reducible refine (bignat_trim.calls k (fun k_ => k_ < w.heap.size) _ _ l0 t360 _ ?side1 A2.out).mono ?_); (case side1 => exact Kd.V_mk HC0.out (Kd.F_below (Kd.C_F (Kd.heap_int .u32) HR0.out) (zb HB rfl))); rintro e w4 ⟨v361, rfl, ho0, hb⟩; refine ⟨_, rfl, ?_⟩; have HO362 := zA (Kd.V_lower (Kd.V_mono (ok' := fun k_ => True) ho0 (fun k_ hk_ => trivial)) (below_size (zb HB rfl))); replace HB := zbb HB hb rfl; obtain ⟨Ao5, co5, eo5⟩ := Kd.V_slice HO362.out; subst eo5))
  go_ret
  exact ⟨zE, zH⟩
 rw [if_neg c3] at H
 have c3b0 := beq_eq_false_iff_ne.mpr c3
 have c3b1 := bne_iff_ne.mpr c3
 have c3b2 : ¬ (t360 = []) := fun h_ => c3 (by rw [h_]; rfl)
 obtain ⟨ji6, hji6⟩ : ∃ j_ : Int, (wrap64 ((t360.length : Int) - 1)) = j_ := ⟨_, rfl⟩
 replace H : (if 0 ≤ (ji6) then (if (ji6) < (t360.length : Int) then ((bits_Len32.f (rd t360 (ji6))).bind fun t364 => (some (wrap64 ((wrap64 (32 * (ji6))) + t364)))) else (none)) else (none)) = some r := by first | (rw [hji6] at H; exact H) | (simp only [hji6] at H ⊢; exact H)
 (try rw [hji6] at A2)
 have hji6w : (IntKind.i64.wrap ((t360.length : Int) - 1)) = ji6 := (i64_w _).trans hji6
 by_cases c7 : 0 ≤ (ji6)
 ·
  rw [if_pos c7] at H
  have c7b0 := decide_eq_true c7
  clear c7
  by_cases c8 : (ji6) < (t360.length : Int)
  ·
   rw [if_pos c8] at H
   have c8b0 := decide_eq_true c8
   clear c8
   obtain ⟨t364, A90, H⟩ := zi H
   replace H : (some (wrap64 ((wrap64 (32 * (ji6))) + t364))) = some r := H
   have A9 := zA A90
   clear A90
   obtain rfl := Option.some.inj H
   go_enter Tryd.func70, Tryd.ntmps70
   go_wp2_with (first | ((with_reducible refine gate_callee (f := 71) rfl ?_); refine goesL_ (some 4) rfl rfl Tryd.func71 zk rfl #[.slice A0 l0.length c0] rfl zX ?_; (with_reducible refine (bignat_trim.calls k (fun k_ => k_ < w.heap.size) _ _ l0 t360 _ ?side1 A2.out).mono ?_); (case side1 => exact Kd.V_mk HC0.out (Kd.F_below (Kd.C_F (Kd.heap_int .u32) HR0.out) (zb HB rfl))); rintro e w10 ⟨v361, rfl, ho0, hb⟩; refine ⟨_, rfl, ?_⟩; have HO362 := zA (Kd.V_lower (Kd.V_mono (ok' := fun k_ => True) ho0 (fun k_ hk_ => trivial)) (below_size (zb HB rfl))); replace HB := zbb HB hb rfl; obtain ⟨Ao11, co11, eo11⟩ := Kd.V_slice HO362.out; subst eo11; have p363 : 0 ≤ ((ji6) : Int) := zD; have q363 : (ji6) < (t360.length : Int) := zD; obtain ⟨ad363, e363, hx363_0⟩ := Kd.at_int (Kd.V_reads' HO362.out).2.2 (ji6) p363 q363; cases e363; replace p363 := eq_true p363; replace q363 := eq_true q363) | ((with_reducible refine gate_callee (f := 89) rfl ?_); refine goesL_ (some 18) rfl rfl Tryd.func89 zk rfl #[.int .u32 (rd t360 (ji6))] rfl (by (try simp only [List.map_toArray, List.map_cons, List.map_nil]); first | done | (simp only [hji6]; rfl) | rfl | (simp only [List.length_drop, List.length_take]; rfl) | (go_simp; done) | (go_simp; rfl) | (go_simp; (try simp only [IntKind.wrap_u8, IntKind.wrap_u32, IntKind.wrap_u64]); omega)) ?_; (with_reducible refine (bits_Len32.calls (rd t360 (ji6)) t364 _ A9.out).mono ?_); rintro e w' ⟨rfl, ⟨nd, rfl⟩⟩; refine ⟨_, rfl, ?_⟩))
   go_ret
   exact ⟨by first | rfl | (simp [errW_none, errW_some] <;> rfl) | (simp only [← hji6]; first | rfl | (simp [errW_none, errW_some] <;> rfl)) | (simp [*, errW_none, errW_some] <;> rfl), zH⟩
  rw [if_neg c8] at H
  cases H
 rw [if_neg c7] at H
 cases H

def bits_Len64.f (a0 : Int) : Option (Int) := if a0 ≥ 4294967296 then (none) else (if a0 ≥ 65536 then (none) else (if a0 ≥ 256 then (none) else (if 0 ≤ ((a0) % 256) then (if ((a0) % 256) < 256 then (some (wrap64 (0 + (wrap64 (bt (⟨#[0, 1, 2, 2, 3, 3, 3, 3, 4, 4, 4, 4, 4, 4, 4, 4, 5, 5, 5, 5, 5, 5, 5, 5, 5, 5, 5, 5, 5, 5, 5, 5, 6, 6, 6, 6, 6, 6, 6, 6, 6, 6, 6, 6, 6, 6, 6, 6, 6, 6, 6, 6, 6, 6, 6, 6, 6, 6, 6, 6, 6, 6, 6, 6, 7, 7, 7, 7, 7, 7, 7, 7, 7, 7, 7, 7, 7, 7, 7, 7, 7, 7, 7, 7, 7, 7, 7, 7, 7, 7, 7, 7, 7, 7, 7, 7, 7, 7, 7, 7, 7, 7, 7, 7, 7, 7, 7, 7, 7, 7, 7, 7, 7, 7, 7, 7, 7, 7, 7, 7, 7, 7, 7, 7, 7, 7, 7, 7, 8, 8, 8, 8, 8, 8, 8, 8, 8, 8, 8, 8, 8, 8, 8, 8, 8, 8, 8, 8, 8, 8, 8, 8, 8, 8, 8, 8, 8, 8, 8, 8, 8, 8, 8, 8, 8, 8, 8, 8, 8, 8, 8, 8, 8, 8, 8, 8, 8, 8, 8, 8, 8, 8, 8, 8, 8, 8, 8, 8, 8, 8, 8, 8, 8, 8, 8, 8, 8, 8, 8, 8, 8, 8, 8, 8, 8, 8, 8, 8, 8, 8, 8, 8, 8, 8, 8, 8, 8, 8, 8, 8, 8, 8, 8, 8, 8, 8, 8, 8, 8, 8, 8, 8, 8, 8, 8, 8, 8, 8, 8, 8, 8, 8, 8, 8, 8, 8, 8, 8, 8, 8, 8, 8, 8, 8, 8, 8]⟩ : ByteArray) ((a0) % 256)))))) else (none)) else (none))))
set_option maxHeartbeats 8000000 in
set_option maxRecDepth 100000 in
theorem bits_Len64.calls (a0 : Int) (r : Int) (w : World) (h : bits_Len64.f a0 = some r) :
 Calls Tryd.prog 100 #[.int .u64 a0] w fun e w' => e = .returned (.int .i64 r) ∧ Drawn0 w w' := by
 have H : (if a0 ≥ 4294967296 then (none) else (if a0 ≥ 65536 then (none) else (if a0 ≥ 256 then (none) else (if 0 ≤ ((a0) % 256) then (if ((a0) % 256) < 256 then (some (wrap64 (0 + (wrap64 (bt (⟨#[0, 1, 2, 2, 3, 3, 3, 3, 4, 4, 4, 4, 4, 4, 4, 4, 5, 5, 5, 5, 5, 5, 5, 5, 5, 5, 5, 5, 5, 5, 5, 5, 6, 6, 6, 6, 6, 6, 6, 6, 6, 6, 6, 6, 6, 6, 6, 6, 6, 6, 6, 6, 6, 6, 6, 6, 6, 6, 6, 6, 6, 6, 6, 6, 7, 7, 7, 7, 7, 7, 7, 7, 7, 7, 7, 7, 7, 7, 7, 7, 7, 7, 7, 7, 7, 7, 7, 7, 7, 7, 7, 7, 7, 7, 7, 7, 7, 7, 7, 7, 7, 7, 7, 7, 7, 7, 7, 7, 7, 7, 7, 7, 7, 7, 7, 7, 7, 7, 7, 7, 7, 7, 7, 7, 7, 7, 7, 7, 8, 8, 8, 8, 8, 8, 8, 8, 8, 8, 8, 8, 8, 8, 8, 8, 8, 8, 8, 8, 8, 8, 8, 8, 8, 8, 8, 8, 8, 8, 8, 8, 8, 8, 8, 8, 8, 8, 8, 8, 8, 8, 8, 8, 8, 8, 8, 8, 8, 8, 8, 8, 8, 8, 8, 8, 8, 8, 8, 8, 8, 8, 8, 8, 8, 8, 8, 8, 8, 8, 8, 8, 8, 8, 8, 8, 8, 8, 8, 8, 8, 8, 8, 8, 8, 8, 8, 8, 8, 8, 8, 8, 8, 8, 8, 8, 8, 8, 8, 8, 8, 8, 8, 8, 8, 8, 8, 8, 8, 8, 8, 8, 8, 8, 8, 8, 8, 8, 8, 8, 8, 8, 8, 8, 8, 8, 8, 8]⟩ : ByteArray) ((a0) % 256)))))) else (none)) else (none))))) = some r := h
 clear h
 by_cases c2 : a0 ≥ 4294967296
 ·
  rw [if_pos c2] at H
  cases H
 rw [if_neg c2] at H
 have c2b0 : decide (4294967296 ≤ a0) = false := decide_eq_false c2
 clear c2
 by_cases c3 : a0 ≥ 65536
 ·
  rw [if_pos c3] at H
  cases H
 rw [if_neg c3] at H
 have c3b0 : decide (65536 ≤ a0) = false := decide_eq_false c3
 clear c3
 by_cases c4 : a0 ≥ 256
 ·
  rw [if_pos c4] at H
  cases H
 rw [if_neg c4] at H
 have c4b0 : decide (256 ≤ a0) = false := decide_eq_false c4
 clear c4
 obtain ⟨ji5, hji5⟩ : ∃ j_ : Int, ((a0) % 256) = j_ := ⟨_, rfl⟩
 replace H : (if 0 ≤ (ji5) then (if (ji5) < 256 then (some (wrap64 (0 + (wrap64 (bt (⟨#[0, 1, 2, 2, 3, 3, 3, 3, 4, 4, 4, 4, 4, 4, 4, 4, 5, 5, 5, 5, 5, 5, 5, 5, 5, 5, 5, 5, 5, 5, 5, 5, 6, 6, 6, 6, 6, 6, 6, 6, 6, 6, 6, 6, 6, 6, 6, 6, 6, 6, 6, 6, 6, 6, 6, 6, 6, 6, 6, 6, 6, 6, 6, 6, 7, 7, 7, 7, 7, 7, 7, 7, 7, 7, 7, 7, 7, 7, 7, 7, 7, 7, 7, 7, 7, 7, 7, 7, 7, 7, 7, 7, 7, 7, 7, 7, 7, 7, 7, 7, 7, 7, 7, 7, 7, 7, 7, 7, 7, 7, 7, 7, 7, 7, 7, 7, 7, 7, 7, 7, 7, 7, 7, 7, 7, 7, 7, 7, 8, 8, 8, 8, 8, 8, 8, 8, 8, 8, 8, 8, 8, 8, 8, 8, 8, 8, 8, 8, 8, 8, 8, 8, 8, 8, 8, 8, 8, 8, 8, 8, 8, 8, 8, 8, 8, 8, 8, 8, 8, 8, 8, 8, 8, 8, 8, 8, 8, 8, 8, 8, 8, 8, 8, 8, 8, 8, 8, 8, 8, 8, 8, 8, 8, 8, 8, 8, 8, 8, 8, 8, 8, 8, 8, 8, 8, 8, 8, 8, 8, 8, 8, 8, 8, 8, 8, 8, 8, 8, 8, 8, 8, 8, 8, 8, 8, 8, 8, 8, 8, 8, 8, 8, 8, 8, 8, 8, 8, 8, 8, 8, 8, 8, 8, 8, 8, 8, 8, 8, 8, 8, 8, 8, 8, 8, 8, 8]⟩ : ByteArray) (ji5)))))) else (none)) else (none)) = some r := by first | (rw [hji5] at H; exact H) | (simp only [hji5] at H ⊢; exact H)
 by_cases c6 : 0 ≤ (ji5)
 ·
  rw [if_pos c6] at H
  have c6b0 := decide_eq_true c6
  clear c6
  by_cases c7 : (ji5) < 256
  ·
   rw [if_pos c7] at H
   have c7b0 := decide_eq_true c7
   clear c7
   obtain rfl := Option.some.inj H
   have p8 : 0 ≤ ((ji5) : Int) := zD
   have q8 : (ji5) < (256 : Int) := zD
   have hx8 := bt_at (⟨#[0, 1, 2, 2, 3, 3, 3, 3, 4, 4, 4, 4, 4, 4, 4, 4, 5, 5, 5, 5, 5, 5, 5, 5, 5, 5, 5, 5, 5, 5, 5, 5, 6, 6, 6, 6, 6, 6, 6, 6, 6, 6, 6, 6, 6, 6, 6, 6, 6, 6, 6, 6, 6, 6, 6, 6, 6, 6, 6, 6, 6, 6, 6, 6, 7, 7, 7, 7, 7, 7, 7, 7, 7, 7, 7, 7, 7, 7, 7, 7, 7, 7, 7, 7, 7, 7, 7, 7, 7, 7, 7, 7, 7, 7, 7, 7, 7, 7, 7, 7, 7, 7, 7, 7, 7, 7, 7, 7, 7, 7, 7, 7, 7, 7, 7, 7, 7, 7, 7, 7, 7, 7, 7, 7, 7, 7, 7, 7, 8, 8, 8, 8, 8, 8, 8, 8, 8, 8, 8, 8, 8, 8, 8, 8, 8, 8, 8, 8, 8, 8, 8, 8, 8, 8, 8, 8, 8, 8, 8, 8, 8, 8, 8, 8, 8, 8, 8, 8, 8, 8, 8, 8, 8, 8, 8, 8, 8, 8, 8, 8, 8, 8, 8, 8, 8, 8, 8, 8, 8, 8, 8, 8, 8, 8, 8, 8, 8, 8, 8, 8, 8, 8, 8, 8, 8, 8, 8, 8, 8, 8, 8, 8, 8, 8, 8, 8, 8, 8, 8, 8, 8, 8, 8, 8, 8, 8, 8, 8, 8, 8, 8, 8, 8, 8, 8, 8, 8, 8, 8, 8, 8, 8, 8, 8, 8, 8, 8, 8, 8, 8, 8, 8, 8, 8, 8, 8]⟩ : ByteArray) (ji5)
   replace p8 := eq_true p8
   replace q8 := eq_true q8
   go_enter Tryd.func100, Tryd.ntmps100
   go_wp2
   go_ret
   exact ⟨by first | rfl | (simp; done) | (simp only [← hji5] <;> (first | rfl | simp)) | (simp [*]; done), zW⟩
  rw [if_neg c7] at H
  cases H
 rw [if_neg c6] at H
 cases H

def bits_Len.f (a0 : Int) : Option (Int) := (bits_Len64.f a0).bind fun t365 => (some t365)
set_option maxHeartbeats 8000000 in
set_option maxRecDepth 100000 in
theorem bits_Len.calls (a0 : Int) (r : Int) (w : World) (h : bits_Len.f a0 = some r) :
 Calls Tryd.prog 86 #[.int .u64 a0] w fun e w' => e = .returned (.int .i64 r) ∧ Drawn0 w w' := by
 have H : ((bits_Len64.f a0).bind fun t365 => (some t365)) = some r := h
 clear h
 obtain ⟨t365, A20, H⟩ := zi H
 replace H : (some t365) = some r := H
 have A2 := zA A20
 clear A20
 obtain rfl := Option.some.inj H
 go_enter Tryd.func86, Tryd.ntmps86
 go_wp2_with (first | ((with_reducible refine gate_callee (f := 100) rfl ?_); refine goesL_ (some 7) rfl rfl Tryd.func100 zk rfl #[.int .u64 a0] rfl zX ?_; (with_reducible refine (bits_Len64.calls a0 t365 _ A2.out).mono ?_); rintro e w' ⟨rfl, ⟨nd, rfl⟩⟩; refine ⟨_, rfl, ?_⟩))
 go_ret
 exact ⟨zS, zW⟩

def bignat_Pow.l0 : Nat → List Int → Int → List Int → Int → Option (List Int × Int)
 | 0, _, _, _, _ => none
 | k + 1, x0, x1, x7, x8 => if x8 ≥ 0 then ((bignat_Mul.f k x7 x7).bind fun t375 => (if 0 ≤ x8 then (if (Go.bits .and .i64 (shr .i64 x1 x8) 1) = 1 then ((bignat_Mul.f k t375 x0).bind fun t378 => (bignat_Pow.l0 k x0 x1 t378 (wrap64 (x8 - 1)))) else (none)) else (none))) else ((bignat_BitLen.f k x7).bind fun t374 => (if t374 > 65536 then (none) else (some (x7, 0))))
def bignat_Pow.f (k : Nat) (l0 : List Int) (a1 : Int) : Option (List Int × Int) := (bignat_trim.f k l0).bind fun t366 => ((bignat_BitLen.f k t366).bind fun t369 => (if a1 < 0 then (none) else (if a1 = 0 then (none) else (if t369 ≤ 1 then (none) else (if a1 > 65536 then (none) else (if t369 > 65536 then (none) else (if (wrap64 ((wrap64 (t369 - 1)) * a1)) ≥ 65536 then (none) else ((bignat_FromUint64.f 1).bind fun t370 => ((bits_Len.f (IntKind.u64.wrap (a1))).bind fun t373 => (bignat_Pow.l0 k t366 a1 t370 (wrap64 (t373 - 1))))))))))))
theorem bignat_Pow.mono_l : ∀ k, (∀ y0 y1 y2 y3, LeO (bignat_Pow.l0 k y0 y1 y2 y3) (bignat_Pow.l0 (k + 1) y0 y1 y2 y3))
 | 0 => fun _ _ _ _ r h => by simp [bignat_Pow.l0] at h
 | k + 1 => by
  have ih0 := bignat_Pow.mono_l k
  intro y0 y1 y2 y3
  unfold bignat_Pow.l0
  exact zm4 ih0 bignat_BitLen.mono bignat_Mul.mono bignat_trim.mono
theorem bignat_Pow.mono : ∀ a0 a1 k, LeO (bignat_Pow.f k a0 a1) (bignat_Pow.f (k + 1) a0 a1) := by
 intro a0 a1 k
 have ih0 := bignat_Pow.mono_l k
 unfold bignat_Pow.f
 exact zm4 ih0 bignat_BitLen.mono bignat_Mul.mono bignat_trim.mono
set_option maxHeartbeats 8000000 in
set_option maxRecDepth 100000 in
theorem bignat_Pow.calls (k : Nat) (A0 : Option Addr) (c0 : Nat) (l0 : List Int) (a1 : Int) (r1 : List Int) (r2 : Int) (w : World) (hr0 : Kd.C (Kd.int .u32) w A0 l0.length l0) (hc0 : l0.length ≤ c0) (h : bignat_Pow.f k l0 a1 = some (r1, r2)) :
 Calls Tryd.prog 57 #[.slice A0 l0.length c0, .int .i64 a1] w fun e w' => ∃ v0_ : Value, e = .returned (.tuple #[v0_, .int .i64 r2]) ∧ Kd.R (Kd.int .u32) 37 w' w.heap.size (fun _ => True) v0_ r1 ∧ Below w.heap.size w w' := by
 have HR0 := zA hr0
 have HC0 := zA hc0
 clear hr0 hc0
 have HB := zA (Below.refl w.heap.size w)
 have H : ((bignat_trim.f k l0).bind fun t366 => ((bignat_BitLen.f k t366).bind fun t369 => (if a1 < 0 then (none) else (if a1 = 0 then (none) else (if t369 ≤ 1 then (none) else (if a1 > 65536 then (none) else (if t369 > 65536 then (none) else (if (wrap64 ((wrap64 (t369 - 1)) * a1)) ≥ 65536 then (none) else ((bignat_FromUint64.f 1).bind fun t370 => ((bits_Len.f (IntKind.u64.wrap (a1))).bind fun t373 => (bignat_Pow.l0 k t366 a1 t370 (wrap64 (t373 - 1))))))))))))) = some (r1, r2) := h
 clear h
 obtain ⟨t366, A30, H⟩ := zi H
 replace H : ((bignat_BitLen.f k t366).bind fun t369 => (if a1 < 0 then (none) else (if a1 = 0 then (none) else (if t369 ≤ 1 then (none) else (if a1 > 65536 then (none) else (if t369 > 65536 then (none) else (if (wrap64 ((wrap64 (t369 - 1)) * a1)) ≥ 65536 then (none) else ((bignat_FromUint64.f 1).bind fun t370 => ((bits_Len.f (IntKind.u64.wrap (a1))).bind fun t373 => (bignat_Pow.l0 k t366 a1 t370 (wrap64 (t373 - 1)))))))))))) = some (r1, r2) := H
 have A3 := zA A30
 clear A30
 obtain ⟨t369, A40, H⟩ := zi H
 replace H : (if a1 < 0 then (none) else (if a1 = 0 then (none) else (if t369 ≤ 1 then (none) else (if a1 > 65536 then (none) else (if t369 > 65536 then (none) else (if (wrap64 ((wrap64 (t369 - 1)) * a1)) ≥ 65536 then (none) else ((bignat_FromUint64.f 1).bind fun t370 => ((bits_Len.f (IntKind.u64.wrap (a1))).bind fun t373 => (bignat_Pow.l0 k t366 a1 t370 (wrap64 (t373 - 1))))))))))) = some (r1, r2) := H
 have A4 := zA A40
 clear A40
 by_cases c5 : a1 < 0
 ·
  rw [if_pos c5] at H
  cases H
 rw [if_neg c5] at H
 have c5b0 := decide_eq_false c5
 clear c5
 by_cases c6 : a1 = 0
 ·
  rw [if_pos c6] at H
  cases H
 rw [if_neg c6] at H
 have c6b0 := beq_eq_false_iff_ne.mpr c6
 have c6b1 := bne_iff_ne.mpr c6
 by_cases c7 : t369 ≤ 1
 ·
  rw [if_pos c7] at H
  cases H
 rw [if_neg c7] at H
 have c7b0 := decide_eq_false c7
 clear c7
 by_cases c8 : a1 > 65536
 ·
  rw [if_pos c8] at H
  cases H
 rw [if_neg c8] at H
 have c8b0 : decide (65536 < a1) = false := decide_eq_false c8
 clear c8
 by_cases c9 : t369 > 65536
 ·
  rw [if_pos c9] at H
  cases H
 rw [if_neg c9] at H
 have c9b0 : decide (65536 < t369) = false := decide_eq_false c9
 clear c9
 by_cases c10 : (wrap64 ((wrap64 (t369 - 1)) * a1)) ≥ 65536
 ·
  rw [if_pos c10] at H
  cases H
 rw [if_neg c10] at H
 have c10b0 : decide (65536 ≤ (wrap64 ((wrap64 (t369 - 1)) * a1))) = false := decide_eq_false c10
 clear c10
 obtain ⟨t370, A110, H⟩ := zi H
 replace H : ((bits_Len.f (IntKind.u64.wrap (a1))).bind fun t373 => (bignat_Pow.l0 k t366 a1 t370 (wrap64 (t373 - 1)))) = some (r1, r2) := H
 have A11 := zA A110
 clear A110
 obtain ⟨t373, A120, H⟩ := zi H
 replace H : (bignat_Pow.l0 k t366 a1 t370 (wrap64 (t373 - 1))) = some (r1, r2) := H
 have A12 := zA A120
 clear A120
 have H' := zA H
 clear H
 go_enter Tryd.func57, Tryd.ntmps57
 go_wp2_with (first | ((with_reducible refine gate_callee (f := 71) rfl ?_); refine goesL_ (some 10) rfl rfl Tryd.func71 zk rfl #[.slice A0 l0.length c0] rfl zX ?_; (with_reducible refine (bignat_trim.calls k (fun k_ => k_ < w.heap.size) _ _ l0 t366 _ ?side1 A3.out).mono ?_); (case side1 => exact Kd.V_mk HC0.out (Kd.F_below (Kd.C_F (Kd.heap_int .u32) HR0.out) (zb HB rfl))); rintro e w13 ⟨v367, rfl, ho0, hb⟩; refine ⟨_, rfl, ?_⟩; have HO368 := zA (Kd.V_lower (Kd.V_mono (ok' := fun k_ => True) ho0 (fun k_ hk_ => trivial)) (below_size (zb HB rfl))); replace HB := zbb HB hb rfl; obtain ⟨Ao14, co14, eo14⟩ := Kd.V_slice HO368.out; subst eo14) | ((with_reducible refine gate_callee (f := 70) rfl ?_); refine goesL_ (some 12) rfl rfl Tryd.func70 zk rfl #[.slice Ao14 t366.length co14] rfl zX ?_; (with_reducible refine (bignat_BitLen.calls k _ _ t366 t369 _ ?side1 ?side2 A4.out).mono ?_); (case side1 => exact zC (Kd.V_reads' HO368.out).2.2); (case side2 => exact (Kd.V_reads' HO368.out).2.1); rintro e w15 ⟨rfl, hb⟩; refine ⟨_, rfl, ?_⟩; replace HO368 := zA (Kd.V_below (zv HO368 rfl) hb); replace HB := zbb HB hb rfl) | ((with_reducible refine gate_callee (f := 22) rfl ?_); refine goesL_ (some 39) rfl rfl Tryd.func22 zk rfl #[.int .u64 1] rfl zX ?_; (with_reducible refine (bignat_FromUint64.calls 1 t370 _ A11.out).mono ?_); rintro e w16 ⟨v371, rfl, ho0, hb⟩; refine ⟨_, rfl, ?_⟩; replace HO368 := zA (Kd.V_elder' (zv HO368 rfl) (Kd.R_base ho0) hb); have HO372 := zA (Kd.R_lower ho0 (below_size (zb HB rfl))); replace HB := zbb HB hb rfl) | ((with_reducible refine gate_callee (f := 86) rfl ?_); refine goesL_ (some 42) rfl rfl Tryd.func86 zk rfl #[.int .u64 (IntKind.u64.wrap (a1))] rfl zX ?_; (with_reducible refine (bits_Len.calls (IntKind.u64.wrap (a1)) t373 _ A12.out).mono ?_); rintro e w' ⟨rfl, ⟨nd, rfl⟩⟩; refine ⟨_, rfl, ?_⟩))
 go_loopg [7, 8] k (fun kq v7 v8 w' => ∃ (x7_1 : List Int) (x8_1 : Int), v8 = .int .i64 x8_1 ∧ Aside0 (bignat_Pow.l0 kq t366 a1 x7_1 x8_1 = some (r1, r2)) ∧ Aside0 (kq ≤ k) ∧ Aside0 (Kd.V (Kd.int .u32) 37 w' w.heap.size (fun k_ => some k_ ≠ (v7 : Value).ownBlock) (.slice Ao14 t366.length co14) t366) ∧ Aside0 (Kd.R (Kd.int .u32) 37 w' w.heap.size (fun _ => True) v7 x7_1) ∧ Aside0 (Below w.heap.size w w'))
 case atStart => exact ⟨(t370), (wrap64 (t373 - 1)), zS, H', ⟨Nat.le_refl _⟩, ⟨zVM HO368.out (fun _ hk => hk.2)⟩, ⟨zR HO372.out⟩, ⟨zH⟩⟩
 case round =>
  clear H'
  try clear c1
  try clear c2
  try clear p2
  try clear c5
  try clear c5b0
  try clear c6
  try clear c6b0
  try clear c6b1
  try clear p6
  try clear c7
  try clear c7b0
  try clear c8
  try clear c8b0
  try clear c9
  try clear c9b0
  try clear c10
  try clear c10b0
  obtain ⟨x7_1, x8_1, rfl, HA, HK1, HO_0, HO_7, HB⟩ := hrel
  cases gk with
  | zero => exact absurd HA.out (by simp [bignat_Pow.l0])
  | succ k1 =>
   have H := HA.out
   clear HA
   simp only [bignat_Pow.l0] at H
   by_cases c17 : x8_1 ≥ 0
   ·
    rw [if_pos c17] at H
    have c17b0 : decide (0 ≤ x8_1) = true := decide_eq_true c17
    clear c17
    obtain ⟨t375, A180, H⟩ := zi H
    replace H : (if 0 ≤ x8_1 then (if (Go.bits .and .i64 (shr .i64 a1 x8_1) 1) = 1 then ((bignat_Mul.f k1 t375 t366).bind fun t378 => (bignat_Pow.l0 k1 t366 a1 t378 (wrap64 (x8_1 - 1)))) else (none)) else (none)) = some (r1, r2) := H
    have A18 := zA A180
    clear A180
    by_cases c19 : 0 ≤ x8_1
    ·
     rw [if_pos c19] at H
     have c19b0 := eq_true c19
     have c19b1 := decide_eq_true c19
     clear c19
     obtain ⟨ji20, hji20⟩ : ∃ j_ : Int, (shr .i64 a1 x8_1) = j_ := ⟨_, rfl⟩
     replace H : (if (Go.bits .and .i64 (ji20) 1) = 1 then ((bignat_Mul.f k1 t375 t366).bind fun t378 => (bignat_Pow.l0 k1 t366 a1 t378 (wrap64 (x8_1 - 1)))) else (none)) = some (r1, r2) := by first | (rw [hji20] at H; exact H) | (simp only [hji20] at H ⊢; exact H)
     (try rw [hji20] at A18)
     have hji20_ : (a1 / 2 ^ min x8_1.toNat 64) = ji20 := hji20
     have hji20z : x8_1 ≤ 64 → (a1 / 2 ^ x8_1.toNat) = ji20 := shr_small hji20
     by_cases c21 : (Go.bits .and .i64 (ji20) 1) = 1
     ·
      rw [if_pos c21] at H
      have c21b0 := beq_iff_eq.mpr c21
      have c21b1 := bne_eq_false_iff_eq.mpr c21
      clear c21
      obtain ⟨t378, A220, H⟩ := zi H
      replace H : (bignat_Pow.l0 k1 t366 a1 t378 (wrap64 (x8_1 - 1))) = some (r1, r2) := H
      have A22 := zA A220
      clear A220
      have H' := zA H
      clear H
      obtain ⟨Ao23, co23, eo23⟩ := Kd.R_slice HO_7.out
      subst eo23
      go_wp2_with (first | ((with_reducible refine gate_callee (f := 33) rfl ?_); refine goesL_ (some 50) rfl rfl Tryd.func33 zk rfl #[.slice Ao23 x7_1.length co23, .slice Ao23 x7_1.length co23] rfl zX ?_; (with_reducible refine (bignat_Mul.calls k1 _ _ x7_1 _ _ x7_1 t375 _ ?side1 ?side2 ?side3 ?side4 A18.out).mono ?_); (case side1 => exact zC (Kd.R_reads' HO_7.out).2.2); (case side2 => exact (Kd.R_reads' HO_7.out).2.1); (case side3 => exact zC (Kd.R_reads' HO_7.out).2.2); (case side4 => exact (Kd.R_reads' HO_7.out).2.1); rintro e w24 ⟨v376, rfl, ho0, hb⟩; refine ⟨_, rfl, ?_⟩; replace HO_0 := zA (Kd.V_elder' (zv HO_0 rfl) (Kd.R_base ho0) hb); have HO377 := zA (Kd.R_lower (Kd.R_new' ho0 (Kd.R_lt (zr HO_7 rfl))) (below_size (zb HB rfl))); replace HO_7 := zA (Kd.R_elder' (zr HO_7 rfl) (Kd.R_base ho0) hb); replace HB := zbb HB hb rfl; obtain ⟨Ao25, co25, eo25⟩ := Kd.R_slice HO377.out; subst eo25) | ((with_reducible refine gate_callee (f := 33) rfl ?_); refine goesL_ (some 58) rfl rfl Tryd.func33 zk rfl #[.slice Ao25 t375.length co25, .slice Ao14 t366.length co14] rfl zX ?_; (with_reducible refine (bignat_Mul.calls k1 _ _ t375 _ _ t366 t378 _ ?side1 ?side2 ?side3 ?side4 A22.out).mono ?_); (case side1 => exact zC (Kd.R_reads' HO377.out).2.2); (case side2 => exact (Kd.R_reads' HO377.out).2.1); (case side3 => exact zC (Kd.V_reads' HO_0.out).2.2); (case side4 => exact (Kd.V_reads' HO_0.out).2.1); rintro e w26 ⟨v379, rfl, ho0, hb⟩; refine ⟨_, rfl, ?_⟩; replace HO_0 := zA (Kd.V_elder' (zv HO_0 rfl) (Kd.R_base ho0) hb); have HO380 := zA (Kd.R_lower (Kd.R_new' (Kd.R_new' ho0 (Kd.R_lt (zr HO_7 rfl))) (Kd.R_lt (zr HO377 rfl))) (below_size (zb HB rfl))); replace HO_7 := zA (Kd.R_elder' (zr HO_7 rfl) (Kd.R_base ho0) hb); replace HO377 := zA (Kd.R_elder' (zr HO377 rfl) (Kd.R_base ho0) hb); replace HB := zbb HB hb rfl))
      go_roundg k1
      case measure => have := HK1.out; omega
      case rel => exact ⟨(t378), (wrap64 (x8_1 - 1)), zS, H', ⟨by have := HK1.out; omega⟩, ⟨zVM HO_0.out (fun _ hk => hk.2)⟩, ⟨zRM HO380.out (fun _ hk => trivial)⟩, ⟨zH⟩⟩
     rw [if_neg c21] at H
     cases H
    rw [if_neg c19] at H
    cases H
   rw [if_neg c17] at H
   have c17b0 : decide (0 ≤ x8_1) = false := decide_eq_false c17
   clear c17
   obtain ⟨t374, A270, H⟩ := zi H
   replace H : (if t374 > 65536 then (none) else (some (x7_1, 0))) = some (r1, r2) := H
   have A27 := zA A270
   clear A270
   by_cases c28 : t374 > 65536
   ·
    rw [if_pos c28] at H
    cases H
   rw [if_neg c28] at H
   have c28b0 : decide (65536 < t374) = false := decide_eq_false c28
   clear c28
   simp only [Option.some.injEq, Prod.mk.injEq] at H
   obtain ⟨rfl, rfl⟩ := H
   obtain ⟨Ao29, co29, eo29⟩ := Kd.R_slice HO_7.out
   subst eo29
   go_wp2_with (first | ((with_reducible refine gate_callee (f := 70) rfl ?_); refine goesL_ (some 60) rfl rfl Tryd.func70 zk rfl #[.slice Ao29 x7_1.length co29] rfl zX ?_; (with_reducible refine (bignat_BitLen.calls k1 _ _ x7_1 t374 _ ?side1 ?side2 A27.out).mono ?_); (case side1 => exact zC (Kd.R_reads' HO_7.out).2.2); (case side2 => exact (Kd.R_reads' HO_7.out).2.1); rintro e w30 ⟨rfl, hb⟩; refine ⟨_, rfl, ?_⟩; replace HO_0 := zA (Kd.V_below (zv HO_0 rfl) hb); replace HO_7 := zrb HO_7 hb rfl; replace HB := zbb HB hb rfl))
   go_ret2
   exact ⟨_, zE, zR HO_7.out, zH⟩

def rational_Parse.f (k : Nat) (a0 : ByteArray) : Option (Bool × List Int × List Int × Int) := if (a0.size : Int) > 4000 then (none) else ((strings_CutPrefix.f a0 (⟨#[45]⟩ : ByteArray)).bind fun bt382 => ((strings_Cut.f bt382.1 (⟨#[47]⟩ : ByteArray)).bind fun bt384 => (if bt384.2.2 = true then (none) else ((strings_Cut.f bt382.1 (⟨#[46]⟩ : ByteArray)).bind fun bt387 => (if bt387.2.2 = true then ((rational_digits.f k bt387.1).bind fun t390 => (if t390 = true then ((rational_digits.f k bt387.2.1).bind fun t391 => (if t391 = true then ((bignat_Pow.f k (([10] : List Int)) (bt387.2.1.size : Int)).bind fun bt395 => (if bt387.1.size + bt387.2.1.size ≤ 9223372036854775807 then ((rational_number.f k (bt387.1 ++ bt387.2.1)).bind fun t399 => ((rational_reduce.f k bt382.2 t399 bt395.1).bind fun bt402 => (some (bt402.1, bt402.2.1, bt402.2.2, 0)))) else (none))) else (none))) else (none))) else (none))))))
theorem rational_Parse.mono : ∀ a0 k, LeO (rational_Parse.f k a0) (rational_Parse.f (k + 1) a0) := by
 intro a0 k
 unfold rational_Parse.f
 exact zm4 bignat_Pow.mono rational_digits.mono rational_number.mono rational_reduce.mono
set_option maxHeartbeats 8000000 in
set_option maxRecDepth 100000 in
theorem rational_Parse.calls (k : Nat) (a0 : ByteArray) (r1 : Bool) (r2 : List Int) (r3 : List Int) (r4 : Int) (w : World) (h : rational_Parse.f k a0 = some (r1, r2, r3, r4)) :
 Calls Tryd.prog 16 #[.string a0] w fun e w' => ∃ v1_ v2_ : Value, e = .returned (.tuple #[.agg #[.bool r1, v1_, v2_], .int .i64 r4]) ∧ Kd.R (Kd.int .u32) 37 w' w.heap.size (fun k_ => some k_ ≠ (v2_ : Value).ownBlock) v1_ r2 ∧ Kd.R (Kd.int .u32) 37 w' w.heap.size (fun k_ => some k_ ≠ (v1_ : Value).ownBlock) v2_ r3 ∧ Below w.heap.size w w' := by
 have hu25 := Tryd.underlying25
 have HB := zA (Below.refl w.heap.size w)
 have H : (if (a0.size : Int) > 4000 then (none) else ((strings_CutPrefix.f a0 (⟨#[45]⟩ : ByteArray)).bind fun bt382 => ((strings_Cut.f bt382.1 (⟨#[47]⟩ : ByteArray)).bind fun bt384 => (if bt384.2.2 = true then (none) else ((strings_Cut.f bt382.1 (⟨#[46]⟩ : ByteArray)).bind fun bt387 => (if bt387.2.2 = true then ((rational_digits.f k bt387.1).bind fun t390 => (if t390 = true then ((rational_digits.f k bt387.2.1).bind fun t391 => (if t391 = true then ((bignat_Pow.f k (([10] : List Int)) (bt387.2.1.size : Int)).bind fun bt395 => (if bt387.1.size + bt387.2.1.size ≤ 9223372036854775807 then ((rational_number.f k (bt387.1 ++ bt387.2.1)).bind fun t399 => ((rational_reduce.f k bt382.2 t399 bt395.1).bind fun bt402 => (some (bt402.1, bt402.2.1, bt402.2.2, 0)))) else (none))) else (none))) else (none))) else (none))))))) = some (r1, r2, r3, r4) := h
 clear h
 by_cases c2 : (a0.size : Int) > 4000
 ·
  rw [if_pos c2] at H
  cases H
 rw [if_neg c2] at H
 have c2b0 : decide (4000 < (a0.size : Int)) = false := decide_eq_false c2
 have c2b1 : decide (4000 < a0.size) = false := decide_eq_false (by omega)
 clear c2
 obtain ⟨⟨t382, t383⟩, A30, H⟩ := zi H
 replace H : ((strings_Cut.f t382 (⟨#[47]⟩ : ByteArray)).bind fun bt384 => (if bt384.2.2 = true then (none) else ((strings_Cut.f t382 (⟨#[46]⟩ : ByteArray)).bind fun bt387 => (if bt387.2.2 = true then ((rational_digits.f k bt387.1).bind fun t390 => (if t390 = true then ((rational_digits.f k bt387.2.1).bind fun t391 => (if t391 = true then ((bignat_Pow.f k (([10] : List Int)) (bt387.2.1.size : Int)).bind fun bt395 => (if bt387.1.size + bt387.2.1.size ≤ 9223372036854775807 then ((rational_number.f k (bt387.1 ++ bt387.2.1)).bind fun t399 => ((rational_reduce.f k t383 t399 bt395.1).bind fun bt402 => (some (bt402.1, bt402.2.1, bt402.2.2, 0)))) else (none))) else (none))) else (none))) else (none))))) = some (r1, r2, r3, r4) := H
 have A3 := zA A30
 clear A30
 obtain ⟨⟨t384, t385, t386⟩, A40, H⟩ := zi H
 replace H : (if t386 = true then (none) else ((strings_Cut.f t382 (⟨#[46]⟩ : ByteArray)).bind fun bt387 => (if bt387.2.2 = true then ((rational_digits.f k bt387.1).bind fun t390 => (if t390 = true then ((rational_digits.f k bt387.2.1).bind fun t391 => (if t391 = true then ((bignat_Pow.f k (([10] : List Int)) (bt387.2.1.size : Int)).bind fun bt395 => (if bt387.1.size + bt387.2.1.size ≤ 9223372036854775807 then ((rational_number.f k (bt387.1 ++ bt387.2.1)).bind fun t399 => ((rational_reduce.f k t383 t399 bt395.1).bind fun bt402 => (some (bt402.1, bt402.2.1, bt402.2.2, 0)))) else (none))) else (none))) else (none))) else (none)))) = some (r1, r2, r3, r4) := H
 have A4 := zA A40
 clear A40
 by_cases c5 : t386 = true
 ·
  subst c5
  have H1 : (none) = some (r1, r2, r3, r4) := by rw [if_pos rfl] at H; exact H
  clear H
  have H := H1
  clear H1
  cases H
 replace c5 := Bool.eq_false_iff.mpr c5
 subst c5
 have H1 : ((strings_Cut.f t382 (⟨#[46]⟩ : ByteArray)).bind fun bt387 => (if bt387.2.2 = true then ((rational_digits.f k bt387.1).bind fun t390 => (if t390 = true then ((rational_digits.f k bt387.2.1).bind fun t391 => (if t391 = true then ((bignat_Pow.f k (([10] : List Int)) (bt387.2.1.size : Int)).bind fun bt395 => (if bt387.1.size + bt387.2.1.size ≤ 9223372036854775807 then ((rational_number.f k (bt387.1 ++ bt387.2.1)).bind fun t399 => ((rational_reduce.f k t383 t399 bt395.1).bind fun bt402 => (some (bt402.1, bt402.2.1, bt402.2.2, 0)))) else (none))) else (none))) else (none))) else (none))) = some (r1, r2, r3, r4) := by rw [if_neg (show ¬ (false = true) by decide)] at H; exact H
 clear H
 have H := H1
 clear H1
 obtain ⟨⟨t387, t388, t389⟩, A60, H⟩ := zi H
 replace H : (if t389 = true then ((rational_digits.f k t387).bind fun t390 => (if t390 = true then ((rational_digits.f k t388).bind fun t391 => (if t391 = true then ((bignat_Pow.f k (([10] : List Int)) (t388.size : Int)).bind fun bt395 => (if t387.size + t388.size ≤ 9223372036854775807 then ((rational_number.f k (t387 ++ t388)).bind fun t399 => ((rational_reduce.f k t383 t399 bt395.1).bind fun bt402 => (some (bt402.1, bt402.2.1, bt402.2.2, 0)))) else (none))) else (none))) else (none))) else (none)) = some (r1, r2, r3, r4) := H
 have A6 := zA A60
 clear A60
 by_cases c7 : t389 = true
 ·
  subst c7
  have H1 : ((rational_digits.f k t387).bind fun t390 => (if t390 = true then ((rational_digits.f k t388).bind fun t391 => (if t391 = true then ((bignat_Pow.f k (([10] : List Int)) (t388.size : Int)).bind fun bt395 => (if t387.size + t388.size ≤ 9223372036854775807 then ((rational_number.f k (t387 ++ t388)).bind fun t399 => ((rational_reduce.f k t383 t399 bt395.1).bind fun bt402 => (some (bt402.1, bt402.2.1, bt402.2.2, 0)))) else (none))) else (none))) else (none))) = some (r1, r2, r3, r4) := by rw [if_pos rfl] at H; exact H
  clear H
  have H := H1
  clear H1
  obtain ⟨t390, A80, H⟩ := zi H
  replace H : (if t390 = true then ((rational_digits.f k t388).bind fun t391 => (if t391 = true then ((bignat_Pow.f k (([10] : List Int)) (t388.size : Int)).bind fun bt395 => (if t387.size + t388.size ≤ 9223372036854775807 then ((rational_number.f k (t387 ++ t388)).bind fun t399 => ((rational_reduce.f k t383 t399 bt395.1).bind fun bt402 => (some (bt402.1, bt402.2.1, bt402.2.2, 0)))) else (none))) else (none))) else (none)) = some (r1, r2, r3, r4) := H
  have A8 := zA A80
  clear A80
  by_cases c9 : t390 = true
  ·
   subst c9
   have H1 : ((rational_digits.f k t388).bind fun t391 => (if t391 = true then ((bignat_Pow.f k (([10] : List Int)) (t388.size : Int)).bind fun bt395 => (if t387.size + t388.size ≤ 9223372036854775807 then ((rational_number.f k (t387 ++ t388)).bind fun t399 => ((rational_reduce.f k t383 t399 bt395.1).bind fun bt402 => (some (bt402.1, bt402.2.1, bt402.2.2, 0)))) else (none))) else (none))) = some (r1, r2, r3, r4) := by rw [if_pos rfl] at H; exact H
   clear H
   have H := H1
   clear H1
   obtain ⟨t391, A100, H⟩ := zi H
   replace H : (if t391 = true then ((bignat_Pow.f k (([10] : List Int)) (t388.size : Int)).bind fun bt395 => (if t387.size + t388.size ≤ 9223372036854775807 then ((rational_number.f k (t387 ++ t388)).bind fun t399 => ((rational_reduce.f k t383 t399 bt395.1).bind fun bt402 => (some (bt402.1, bt402.2.1, bt402.2.2, 0)))) else (none))) else (none)) = some (r1, r2, r3, r4) := H
   have A10 := zA A100
   clear A100
   by_cases c11 : t391 = true
   ·
    subst c11
    have H1 : ((bignat_Pow.f k (([10] : List Int)) (t388.size : Int)).bind fun bt395 => (if t387.size + t388.size ≤ 9223372036854775807 then ((rational_number.f k (t387 ++ t388)).bind fun t399 => ((rational_reduce.f k t383 t399 bt395.1).bind fun bt402 => (some (bt402.1, bt402.2.1, bt402.2.2, 0)))) else (none))) = some (r1, r2, r3, r4) := by rw [if_pos rfl] at H; exact H
    clear H
    have H := H1
    clear H1
    obtain ⟨y392, hy392⟩ : ∃ y_ : List Int, y_ = (([10] : List Int)) := ⟨_, rfl⟩
    replace H : ((bignat_Pow.f k y392 (t388.size : Int)).bind fun bt395 => (if t387.size + t388.size ≤ 9223372036854775807 then ((rational_number.f k (t387 ++ t388)).bind fun t399 => ((rational_reduce.f k t383 t399 bt395.1).bind fun bt402 => (some (bt402.1, bt402.2.1, bt402.2.2, 0)))) else (none))) = some (r1, r2, r3, r4) := by first | (rw [hy392]; with_reducible exact H) | (have H2_ := (Option.bind_some _ _).symm.trans H; rw [hy392]; with_reducible exact H2_) | (have H2_ := (Option.bind_some _ _).symm.trans H; with_reducible exact H2_) | with_reducible exact H | (rw [hy392]; exact H) | exact H
    have Ny392 := zA hy392
    clear hy392
    obtain ⟨⟨t395, t396⟩, A120, H⟩ := zi H
    replace H : (if t387.size + t388.size ≤ 9223372036854775807 then ((rational_number.f k (t387 ++ t388)).bind fun t399 => ((rational_reduce.f k t383 t399 t395).bind fun bt402 => (some (bt402.1, bt402.2.1, bt402.2.2, 0)))) else (none)) = some (r1, r2, r3, r4) := H
    have A12 := zA A120
    clear A120
    by_cases c13 : t387.size + t388.size ≤ 9223372036854775807
    ·
     rw [if_pos c13] at H
     have c13b0 := eq_true c13
     have c13b1 := decide_eq_true c13
     try have c13b2 : (9223372036854775807 < t387.size + t388.size) = False := eq_false (Nat.not_lt.2 c13)
     obtain ⟨t399, A140, H⟩ := zi H
     replace H : ((rational_reduce.f k t383 t399 t395).bind fun bt402 => (some (bt402.1, bt402.2.1, bt402.2.2, 0))) = some (r1, r2, r3, r4) := H
     have A14 := zA A140
     clear A140
     obtain ⟨⟨t402, t403, t406⟩, A150, H⟩ := zi H
     replace H : (some (t402, t403, t406, 0)) = some (r1, r2, r3, r4) := H
     have A15 := zA A150
     clear A150
     simp only [Option.some.injEq, Prod.mk.injEq] at H
     obtain ⟨rfl, rfl, rfl, rfl⟩ := H
     go_enter Tryd.func16, Tryd.ntmps16
     have M481_0 : Aside0 True := ⟨trivial⟩
     have M481_1 : Aside0 True := ⟨trivial⟩
     go_wp2_with (first | ((with_reducible refine gate_dst (N := 2) rfl ?_); refine box_event ?hg (N := 2) ?hd (cs := #[.bool false, .slice none 0 0, .slice none 0 0]) (t := 25) ?hr ?_; (case hd => rfl); (case hg => rfl); (case hr => first | (go_simp; done) | (go_simp; rfl)); intro gb381 hg w16 hbox hb; have BK381 := zA (hbox); have GW381 := zA ((by rw [hg]; exact (below_size (zb HB rfl)) : w.heap.size ≤ gb381)); have GE381 := zA ((by rw [hg]; exact (below_size (zb HB rfl)) : w.heap.size ≤ gb381)); replace HB := zbb HB hb rfl; clear hb hbox hg) | ((with_reducible refine gate_callee (f := 52) rfl ?_); refine goesL_ (some 21) rfl rfl Tryd.func52 zk rfl #[.string a0, .string (⟨#[45]⟩ : ByteArray)] rfl zX ?_; (with_reducible refine (strings_CutPrefix.calls a0 (⟨#[45]⟩ : ByteArray) t382 t383 _ A3.out).mono ?_); rintro e w' ⟨rfl, ⟨nd, rfl⟩⟩; refine ⟨_, rfl, ?_⟩; (try (rw [drewN_self w16]; generalize hq_ : World.drewN w16 _ = w16; have n0_ : Aside0 (w16.heap[gb381]? = some (.cells #[.bool false, .slice none 0 0, .slice none 0 0] 25 (0, 0))) := ⟨by rw [← hq_]; exact BK381.out⟩; have n1_ : Aside0 (Below w.heap.size w w16) := ⟨by rw [← hq_]; exact (zb HB rfl)⟩; clear BK381 HB hq_; have BK381 := n0_; have HB := n1_; clear n0_ n1_))) | ((with_reducible refine gate_callee (f := 53) rfl ?_); refine goesL_ (some 26) rfl rfl Tryd.func53 zk rfl #[.string t382, .string (⟨#[47]⟩ : ByteArray)] rfl zX ?_; (with_reducible refine (strings_Cut.calls t382 (⟨#[47]⟩ : ByteArray) t384 t385 false _ A4.out).mono ?_); rintro e w' ⟨rfl, ⟨nd, rfl⟩⟩; refine ⟨_, rfl, ?_⟩; (try (rw [drewN_self w16]; generalize hq_ : World.drewN w16 _ = w16; have n0_ : Aside0 (w16.heap[gb381]? = some (.cells #[.bool false, .slice none 0 0, .slice none 0 0] 25 (0, 0))) := ⟨by rw [← hq_]; exact BK381.out⟩; have n1_ : Aside0 (Below w.heap.size w w16) := ⟨by rw [← hq_]; exact (zb HB rfl)⟩; clear BK381 HB hq_; have BK381 := n0_; have HB := n1_; clear n0_ n1_))) | ((with_reducible refine gate_callee (f := 53) rfl ?_); refine goesL_ (some 34) rfl rfl Tryd.func53 zk rfl #[.string t382, .string (⟨#[46]⟩ : ByteArray)] rfl zX ?_; (with_reducible refine (strings_Cut.calls t382 (⟨#[46]⟩ : ByteArray) t387 t388 true _ A6.out).mono ?_); rintro e w' ⟨rfl, ⟨nd, rfl⟩⟩; refine ⟨_, rfl, ?_⟩; (try (rw [drewN_self w16]; generalize hq_ : World.drewN w16 _ = w16; have n0_ : Aside0 (w16.heap[gb381]? = some (.cells #[.bool false, .slice none 0 0, .slice none 0 0] 25 (0, 0))) := ⟨by rw [← hq_]; exact BK381.out⟩; have n1_ : Aside0 (Below w.heap.size w w16) := ⟨by rw [← hq_]; exact (zb HB rfl)⟩; clear BK381 HB hq_; have BK381 := n0_; have HB := n1_; clear n0_ n1_))) | (go_at_call 54; clear M481_0; (with_reducible refine (rational_digits.calls k t387 true _ A8.out).mono ?_); rintro e w' ⟨rfl, ⟨nd, rfl⟩⟩; (try (rw [drewN_self w16]; generalize hq_ : World.drewN w16 _ = w16; have n0_ : Aside0 (w16.heap[gb381]? = some (.cells #[.bool false, .slice none 0 0, .slice none 0 0] 25 (0, 0))) := ⟨by rw [← hq_]; exact BK381.out⟩; have n1_ : Aside0 (Below w.heap.size w w16) := ⟨by rw [← hq_]; exact (zb HB rfl)⟩; clear BK381 HB hq_; have BK381 := n0_; have HB := n1_; clear n0_ n1_))) | (go_at_call 54; clear M481_1; (with_reducible refine (rational_digits.calls k t388 true _ A10.out).mono ?_); rintro e w' ⟨rfl, ⟨nd, rfl⟩⟩; (try (rw [drewN_self w16]; generalize hq_ : World.drewN w16 _ = w16; have n0_ : Aside0 (w16.heap[gb381]? = some (.cells #[.bool false, .slice none 0 0, .slice none 0 0] 25 (0, 0))) := ⟨by rw [← hq_]; exact BK381.out⟩; have n1_ : Aside0 (Below w.heap.size w w16) := ⟨by rw [← hq_]; exact (zb HB rfl)⟩; clear BK381 HB hq_; have BK381 := n0_; have HB := n1_; clear n0_ n1_))) | ((with_reducible refine gate_dst (N := 65) rfl ?_); refine Kd.R_lit (Kd.int .u32) _ 37 ?hg (N := 65) ?hd (xs := ([10] : List Int)) (inner := [.int .u32 10]) (ok := fun _ => True) (okp := fun _ => True) ?hr ?hp (fun _ hk => hk) trivial (Below.refl _ _) (Nat.le_refl _) (by simp) ?_; (case hd => rfl); (case hg => rfl); (case hr => first | (go_simp; done) | (go_simp; rfl)); (case hp => exact (Reps.one (show Kd.M (Kd.int .u32) _ _ _ 10 [.int .u32 10] from rfl) (Reps.none _ _))); intro v393 w17 ho18 hb hg_ hnew_; clear hg_ hnew_; (first | rw [← Ny392.out] at ho18 | (simp only [Int.reduceToNat] at ho18; rw [← Ny392.out] at ho18)); have HO394 := zA (Kd.R_lower ho18 (below_size (zG1 GE381.out))); replace BK381 := zA (blk_below (zB BK381.out) hb); replace HB := zA (below_step (zG1 GE381.out) hb); clear hb ho18; obtain ⟨Ao19, co19, eo19⟩ := Kd.R_slice HO394.out; subst eo19) | ((with_reducible refine gate_callee (f := 57) rfl ?_); refine goesL_ (some 68) rfl rfl Tryd.func57 zk rfl #[.slice Ao19 y392.length co19, .int .i64 (t388.size : Int)] rfl zX ?_; (with_reducible refine (bignat_Pow.calls k _ _ y392 (t388.size : Int) t395 t396 _ ?side1 ?side2 A12.out).mono ?_); (case side1 => exact zC (Kd.R_reads' HO394.out).2.2); (case side2 => exact (Kd.R_reads' HO394.out).2.1); rintro e w20 ⟨v397, rfl, ho0, hb⟩; refine ⟨_, rfl, ?_⟩; have HO398 := zA (Kd.R_lower (Kd.R_new' ho0 (Kd.R_lt (zr HO394 rfl))) (below_size (zb HB rfl))); replace HO394 := zA (Kd.R_elder' (zr HO394 rfl) (Kd.R_base ho0) hb); replace BK381 := zkb BK381 hb; replace HB := zbb HB hb rfl) | ((with_reducible refine gate_callee (f := 55) rfl ?_); refine goesL_ (some 75) rfl rfl Tryd.func55 zk rfl #[.string (t387 ++ t388)] rfl zX ?_; (with_reducible refine (rational_number.calls k (t387 ++ t388) t399 _ A14.out).mono ?_); rintro e w21 ⟨v400, rfl, ho0, hb⟩; refine ⟨_, rfl, ?_⟩; have HO401 := zA (Kd.R_lower (Kd.R_new' (Kd.R_new' ho0 (Kd.R_lt (zr HO394 rfl))) (Kd.R_lt (zr HO398 rfl))) (below_size (zb HB rfl))); replace HO394 := zA (Kd.R_elder' (zr HO394 rfl) (Kd.R_base ho0) hb); replace HO398 := zA (Kd.R_elder' (zr HO398 rfl) (Kd.R_base ho0) hb); replace BK381 := zkb BK381 hb; replace HB := zbb HB hb rfl; obtain ⟨Ao22, co22, eo22⟩ := Kd.R_slice HO401.out; subst eo22; obtain ⟨Ao23, co23, eo23⟩ := Kd.R_slice HO398.out; subst eo23) | ((with_reducible refine gate_callee (f := 46) rfl ?_); refine goesL_ (some 77) rfl rfl Tryd.func46 zk rfl #[.bool t383, .slice Ao22 t399.length co22, .slice Ao23 t395.length co23] rfl zX ?_; (with_reducible refine (rational_reduce.calls k t383 _ _ t399 _ _ t395 t402 t403 t406 _ ?side1 ?side2 ?side3 ?side4 A15.out).mono ?_); (case side1 => exact zC (Kd.R_reads' HO401.out).2.2); (case side2 => exact (Kd.R_reads' HO401.out).2.1); (case side3 => exact zC (Kd.R_reads' HO398.out).2.2); (case side4 => exact (Kd.R_reads' HO398.out).2.1); rintro e w24 ⟨v404, v407, rfl, ho0, ho1, hb⟩; refine ⟨_, rfl, ?_⟩; have HO405 := zA (Kd.R_lower (Kd.R_new' (Kd.R_new' (Kd.R_new' ho0 (Kd.R_lt (zr HO394 rfl))) (Kd.R_lt (zr HO398 rfl))) (Kd.R_lt (zr HO401 rfl))) (below_size (zb HB rfl))); have HO408 := zA (Kd.R_lower (Kd.R_new' (Kd.R_new' (Kd.R_new' ho1 (Kd.R_lt (zr HO394 rfl))) (Kd.R_lt (zr HO398 rfl))) (Kd.R_lt (zr HO401 rfl))) (below_size (zb HB rfl))); replace HO394 := zA (Kd.R_mono (Kd.R_told (Kd.R_told (Kd.R_old (zr HO394 rfl) hb) (Kd.R_base ho0)) (Kd.R_base ho1)) (fun _ h_ => h_.1)); replace HO398 := zA (Kd.R_mono (Kd.R_told (Kd.R_told (Kd.R_old (zr HO398 rfl) hb) (Kd.R_base ho0)) (Kd.R_base ho1)) (fun _ h_ => h_.1)); replace HO401 := zA (Kd.R_mono (Kd.R_told (Kd.R_told (Kd.R_old (zr HO401 rfl) hb) (Kd.R_base ho0)) (Kd.R_base ho1)) (fun _ h_ => h_.1)); replace BK381 := zkb BK381 hb; replace HB := zbb HB hb rfl; have hcz25_0 := zc BK381 0 (v := .bool false) rfl; have hcz25_1 := zc BK381 1 (v := .slice none 0 0) rfl; have hcz25_2 := zc BK381 2 (v := .slice none 0 0) rfl; have hfz25_0 := zF BK381 0; have hfz25_1 := zF BK381 1; have hfz25_2 := zF BK381 2; obtain ⟨Ao26, co26, eo26⟩ := Kd.R_slice HO405.out; subst eo26; obtain ⟨Ao27, co27, eo27⟩ := Kd.R_slice HO408.out; subst eo27))
     refine bodyPost_ret (results_ct rfl _ _ gb381 25 #[.bool t402, .slice Ao26 t403.length co26, .slice Ao27 t406.length co27] (0, 0) _ rfl (by (with_reducible repeat (first | refine blk_drewN ?_ _ | refine blk_drew ?_ | refine blk_alloc ?_ _)); refine blk_put (cs := #[.bool t402, .slice Ao26 t403.length co26, .slice none 0 0]) ?_ 2 _ rfl; (with_reducible repeat (first | refine blk_drewN ?_ _ | refine blk_drew ?_ | refine blk_alloc ?_ _)); refine blk_put (cs := #[.bool t402, .slice none 0 0, .slice none 0 0]) ?_ 1 _ rfl; (with_reducible repeat (first | refine blk_drewN ?_ _ | refine blk_drew ?_ | refine blk_alloc ?_ _)); refine blk_put (cs := #[.bool false, .slice none 0 0, .slice none 0 0]) ?_ 0 _ rfl; (with_reducible repeat (first | refine blk_drewN ?_ _ | refine blk_drew ?_ | refine blk_alloc ?_ _)); exact BK381.out) Tryd.underlying25 rfl zk) rfl ?_
     exact ⟨_, _, zE, zRM (Kd.R_far (p := ⟨gb381, 2, none⟩) (Kd.R_far (p := ⟨gb381, 1, none⟩) (Kd.R_far (p := ⟨gb381, 0, none⟩) (Kd.R_types HO405.out BK381.out (by decide)) (fun _ hk => hk.2) (.bool t402)) (fun _ hk => hk.2) (.slice Ao26 t403.length co26)) (fun _ hk => hk.2) (.slice Ao27 t406.length co27)) (fun _ hk => hk.1.1.1.1), zRM (Kd.R_far (p := ⟨gb381, 2, none⟩) (Kd.R_far (p := ⟨gb381, 1, none⟩) (Kd.R_far (p := ⟨gb381, 0, none⟩) (Kd.R_types HO408.out BK381.out (by decide)) (fun _ hk => hk.2) (.bool t402)) (fun _ hk => hk.2) (.slice Ao26 t403.length co26)) (fun _ hk => hk.2) (.slice Ao27 t406.length co27)) (fun _ hk => hk.1.1.1.1), zG1 GE381.out⟩
    rw [if_neg c13] at H
    cases H
   replace c11 := Bool.eq_false_iff.mpr c11
   subst c11
   have H1 : (none) = some (r1, r2, r3, r4) := by rw [if_neg (show ¬ (false = true) by decide)] at H; exact H
   clear H
   have H := H1
   clear H1
   cases H
  replace c9 := Bool.eq_false_iff.mpr c9
  subst c9
  have H1 : (none) = some (r1, r2, r3, r4) := by rw [if_neg (show ¬ (false = true) by decide)] at H; exact H
  clear H
  have H := H1
  clear H1
  cases H
 replace c7 := Bool.eq_false_iff.mpr c7
 subst c7
 have H1 : (none) = some (r1, r2, r3, r4) := by rw [if_neg (show ¬ (false = true) by decide)] at H; exact H
 clear H
 have H := H1
 clear H1
 cases H

def rational_Normalize.f (k : Nat) (a0_0 : Bool) (l0_1 : List Int) (l0_2 : List Int) : Option (Bool × List Int × List Int) := (rational_reduce.f k a0_0 l0_1 l0_2).bind fun bt411 => (some (bt411.1, bt411.2.1, bt411.2.2))
theorem rational_Normalize.mono : ∀ a0 a1 a2 k, LeO (rational_Normalize.f k a0 a1 a2) (rational_Normalize.f (k + 1) a0 a1 a2) := by
 intro a0 a1 a2 k
 unfold rational_Normalize.f
 exact zm1 rational_reduce.mono
set_option maxHeartbeats 8000000 in
set_option maxRecDepth 100000 in
theorem rational_Normalize.calls (k : Nat) (a0_0 : Bool) (A0_1 : Option Addr) (c0_1 : Nat) (l0_1 : List Int) (A0_2 : Option Addr) (c0_2 : Nat) (l0_2 : List Int) (r1 : Bool) (r2 : List Int) (r3 : List Int) (w : World) (hr0_1 : Kd.C (Kd.int .u32) w A0_1 l0_1.length l0_1) (hc0_1 : l0_1.length ≤ c0_1) (hr0_2 : Kd.C (Kd.int .u32) w A0_2 l0_2.length l0_2) (hc0_2 : l0_2.length ≤ c0_2) (h : rational_Normalize.f k a0_0 l0_1 l0_2 = some (r1, r2, r3)) :
 Calls Tryd.prog 20 #[.agg #[.bool a0_0, .slice A0_1 l0_1.length c0_1, .slice A0_2 l0_2.length c0_2]] w fun e w' => ∃ v1_ v2_ : Value, e = .returned (.agg #[.bool r1, v1_, v2_]) ∧ Kd.R (Kd.int .u32) 37 w' w.heap.size (fun k_ => some k_ ≠ (v2_ : Value).ownBlock) v1_ r2 ∧ Kd.R (Kd.int .u32) 37 w' w.heap.size (fun k_ => some k_ ≠ (v1_ : Value).ownBlock) v2_ r3 ∧ Below w.heap.size w w' := by
 have hu25 := Tryd.underlying25
 have HR0_1 := zA hr0_1
 have HC0_1 := zA hc0_1
 clear hr0_1 hc0_1
 have HR0_2 := zA hr0_2
 have HC0_2 := zA hc0_2
 clear hr0_2 hc0_2
 have HB := zA (Below.refl w.heap.size w)
 have H : ((rational_reduce.f k a0_0 l0_1 l0_2).bind fun bt411 => (some (bt411.1, bt411.2.1, bt411.2.2))) = some (r1, r2, r3) := h
 clear h
 obtain ⟨⟨t411, t412, t415⟩, A20, H⟩ := zi H
 replace H : (some (t411, t412, t415)) = some (r1, r2, r3) := H
 have A2 := zA A20
 clear A20
 simp only [Option.some.injEq, Prod.mk.injEq] at H
 obtain ⟨rfl, rfl, rfl⟩ := H
 go_enter Tryd.func20, Tryd.ntmps20
 go_wp2_with (first | ((with_reducible refine gate_dst (N := 1) rfl ?_); refine box_event ?hg (N := 1) ?hd (cs := #[.bool a0_0, .slice A0_1 l0_1.length c0_1, .slice A0_2 l0_2.length c0_2]) (t := 25) ?hr ?_; (case hd => rfl); (case hg => rfl); (case hr => first | (go_simp; done) | (go_simp; rfl)); intro gb409 hg w3 hbox hb; have BK409 := zA (hbox); have GW409 := zA ((by rw [hg]; exact (below_size (zb HB rfl)) : w.heap.size ≤ gb409)); have GE409 := zA ((by rw [hg]; exact (below_size (zb HB rfl)) : w.heap.size ≤ gb409)); replace HB := zbb HB hb rfl; clear hb hbox hg) | ((with_reducible refine gate_dst (N := 2) rfl ?_); refine box_event ?hg (N := 2) ?hd (cs := #[.bool false, .slice none 0 0, .slice none 0 0]) (t := 25) ?hr ?_; (case hd => rfl); (case hg => rfl); (case hr => first | (go_simp; done) | (go_simp; rfl)); intro gb410 hg w4 hbox hb; have BK410 := zA (hbox); have GW410 := zA ((by rw [hg]; exact (below_size (zb HB rfl)) : w.heap.size ≤ gb410)); have GE410 := zA ((by rw [hg]; exact (below_size (zb HB rfl)) : w.heap.size ≤ gb410)); replace HB := zbb HB hb rfl; have NB409_410 := zA ((by rw [hg]; exact Nat.ne_of_lt (blk_lt BK409.out) : gb409 ≠ gb410)); have NB410_409 := zA ((by rw [hg]; exact Nat.ne_of_gt (blk_lt BK409.out) : gb410 ≠ gb409)); replace BK409 := zkb BK409 hb; clear hb hbox hg; have hnb5 := NB409_410.out; have hnc5 := NB410_409.out; have hcz6_0 := zc BK409 0 (v := .bool a0_0) rfl; have hcz6_1 := zc BK409 1 (v := .slice A0_1 l0_1.length c0_1) rfl; have hcz6_2 := zc BK409 2 (v := .slice A0_2 l0_2.length c0_2) rfl; have hfz6_0 := zF BK409 0; have hfz6_1 := zF BK409 1; have hfz6_2 := zF BK409 2) | ((with_reducible refine gate_callee (f := 46) rfl ?_); refine goesL_ (some 9) rfl rfl Tryd.func46 zk rfl #[.bool a0_0, .slice A0_1 l0_1.length c0_1, .slice A0_2 l0_2.length c0_2] rfl zX ?_; (with_reducible refine (rational_reduce.calls k a0_0 _ _ l0_1 _ _ l0_2 t411 t412 t415 _ ?side1 ?side2 ?side3 ?side4 A2.out).mono ?_); (case side1 => exact zC (Kd.C_below HR0_1.out HB.out)); (case side2 => exact HC0_1.out); (case side3 => exact zC (Kd.C_below HR0_2.out HB.out)); (case side4 => exact HC0_2.out); rintro e w7 ⟨v413, v416, rfl, ho0, ho1, hb⟩; refine ⟨_, rfl, ?_⟩; have HO414 := zA (Kd.R_lower ho0 (below_size (zb HB rfl))); have HO417 := zA (Kd.R_lower ho1 (below_size (zb HB rfl))); replace BK409 := zkb BK409 hb; replace BK410 := zkb BK410 hb; replace HB := zbb HB hb rfl; have hcz8_0 := zc BK410 0 (v := .bool false) rfl; have hcz8_1 := zc BK410 1 (v := .slice none 0 0) rfl; have hcz8_2 := zc BK410 2 (v := .slice none 0 0) rfl; have hfz8_0 := zF BK410 0; have hfz8_1 := zF BK410 1; have hfz8_2 := zF BK410 2; obtain ⟨Ao9, co9, eo9⟩ := Kd.R_slice HO414.out; subst eo9; obtain ⟨Ao10, co10, eo10⟩ := Kd.R_slice HO417.out; subst eo10))
 refine bodyPost_ret (results_cell_row rfl _ _ gb410 25 #[.bool t411, .slice Ao9 t412.length co9, .slice Ao10 t415.length co10] (0, 0) _ rfl (by (with_reducible repeat (first | refine blk_drewN ?_ _ | refine blk_drew ?_ | refine blk_alloc ?_ _)); refine blk_put (cs := #[.bool t411, .slice Ao9 t412.length co9, .slice none 0 0]) ?_ 2 _ rfl; (with_reducible repeat (first | refine blk_drewN ?_ _ | refine blk_drew ?_ | refine blk_alloc ?_ _)); refine blk_put (cs := #[.bool t411, .slice none 0 0, .slice none 0 0]) ?_ 1 _ rfl; (with_reducible repeat (first | refine blk_drewN ?_ _ | refine blk_drew ?_ | refine blk_alloc ?_ _)); refine blk_put (cs := #[.bool false, .slice none 0 0, .slice none 0 0]) ?_ 0 _ rfl; (with_reducible repeat (first | refine blk_drewN ?_ _ | refine blk_drew ?_ | refine blk_alloc ?_ _)); exact BK410.out) Tryd.underlying25 rfl zk) rfl ?_
 exact ⟨_, _, zE, zRM (Kd.R_far (p := ⟨gb410, 2, none⟩) (Kd.R_far (p := ⟨gb410, 1, none⟩) (Kd.R_far (p := ⟨gb410, 0, none⟩) (Kd.R_types HO414.out BK410.out (by decide)) (fun _ hk => hk.2) (.bool t411)) (fun _ hk => hk.2) (.slice Ao9 t412.length co9)) (fun _ hk => hk.2) (.slice Ao10 t415.length co10)) (fun _ hk => hk.1), zRM (Kd.R_far (p := ⟨gb410, 2, none⟩) (Kd.R_far (p := ⟨gb410, 1, none⟩) (Kd.R_far (p := ⟨gb410, 0, none⟩) (Kd.R_types HO417.out BK410.out (by decide)) (fun _ hk => hk.2) (.bool t411)) (fun _ hk => hk.2) (.slice Ao9 t412.length co9)) (fun _ hk => hk.2) (.slice Ao10 t415.length co10)) (fun _ hk => hk.1), zG2 GE409.out GE410.out⟩

mutual
def bignat_Format.l0 : Nat → List Int → List Int → Option (ByteArray)
 | 0, _, _ => none
 | k + 1, x0, x3 => if (x0.length : Int) > 0 then ((bignat_divSmall.f k x0 1000000000).bind fun bt421 => (bignat_Format.l1 k bt421.1 x3 bt421.2 0)) else (bignat_Format.l2 k x3 0 (wrap64 ((x3.length : Int) - 1)))
def bignat_Format.l1 : Nat → List Int → List Int → Int → Int → Option (ByteArray)
 | 0, _, _, _, _ => none
 | k + 1, x0, x3, x4, x5 => if x5 < 9 then (if (x0.length : Int) > 0 then (if x3.length < 140737488355328 then (bignat_Format.l1 k x0 (x3 ++ [(48 + (Int.tmod x4 10)) % 256]) ((Int.tdiv x4 10) % 4294967296) (wrap64 (x5 + 1))) else (none)) else (if x4 > 0 then (if x3.length < 140737488355328 then (bignat_Format.l1 k x0 (x3 ++ [(48 + (Int.tmod x4 10)) % 256]) ((Int.tdiv x4 10) % 4294967296) (wrap64 (x5 + 1))) else (none)) else (bignat_Format.l0 k x0 x3))) else (bignat_Format.l0 k x0 x3)
def bignat_Format.l2 : Nat → List Int → Int → Int → Option (ByteArray)
 | 0, _, _, _ => none
 | k + 1, x3, x6, x7 => if x6 < x7 then (none) else (some (strOfNums x3))
end
def bignat_Format.f (k : Nat) (l0 : List Int) : Option (ByteArray) := (bignat_clone.f k l0).bind fun t418 => (if (t418.length : Int) = 0 then (none) else (bignat_Format.l0 k t418 ([] : List Int)))
theorem bignat_Format.mono_l : ∀ k, (∀ y0 y1, LeO (bignat_Format.l0 k y0 y1) (bignat_Format.l0 (k + 1) y0 y1)) ∧ (∀ y0 y1 y2 y3, LeO (bignat_Format.l1 k y0 y1 y2 y3) (bignat_Format.l1 (k + 1) y0 y1 y2 y3)) ∧ (∀ y0 y1 y2, LeO (bignat_Format.l2 k y0 y1 y2) (bignat_Format.l2 (k + 1) y0 y1 y2))
 | 0 => ⟨fun _ _ r h => by simp [bignat_Format.l0] at h, fun _ _ _ _ r h => by simp [bignat_Format.l1] at h, fun _ _ _ r h => by simp [bignat_Format.l2] at h⟩
 | k + 1 => by
  obtain ⟨ih0, ih1, ih2⟩ := bignat_Format.mono_l k
  refine ⟨?_, ?_, ?_⟩
  ·
   intro y0 y1
   unfold bignat_Format.l0
   exact zm5 ih0 ih1 ih2 bignat_clone.mono bignat_divSmall.mono
  ·
   intro y0 y1 y2 y3
   unfold bignat_Format.l1
   exact zm5 ih0 ih1 ih2 bignat_clone.mono bignat_divSmall.mono
  intro y0 y1 y2
  unfold bignat_Format.l2
  exact zm5 ih0 ih1 ih2 bignat_clone.mono bignat_divSmall.mono
theorem bignat_Format.mono : ∀ a0 k, LeO (bignat_Format.f k a0) (bignat_Format.f (k + 1) a0) := by
 intro a0 k
 obtain ⟨ih0, ih1, ih2⟩ := bignat_Format.mono_l k
 unfold bignat_Format.f
 exact zm5 ih0 ih1 ih2 bignat_clone.mono bignat_divSmall.mono
set_option maxHeartbeats 8000000 in
set_option maxRecDepth 100000 in
theorem bignat_Format.calls (k : Nat) (A0 : Option Addr) (c0 : Nat) (l0 : List Int) (r : ByteArray) (w : World) (hr0 : Kd.C (Kd.int .u32) w A0 l0.length l0) (hc0 : l0.length ≤ c0) (h : bignat_Format.f k l0 = some r) :
 Calls Tryd.prog 21 #[.slice A0 l0.length c0] w fun e w' => e = .returned (.string r) ∧ Below w.heap.size w w' := by
 have HR0 := zA hr0
 have HC0 := zA hc0
 clear hr0 hc0
 have HB := zA (Below.refl w.heap.size w)
 have H : ((bignat_clone.f k l0).bind fun t418 => (if (t418.length : Int) = 0 then (none) else (bignat_Format.l0 k t418 ([] : List Int)))) = some r := h
 clear h
 obtain ⟨t418, A20, H⟩ := zi H
 replace H : (if (t418.length : Int) = 0 then (none) else (bignat_Format.l0 k t418 ([] : List Int))) = some r := H
 have A2 := zA A20
 clear A20
 by_cases c3 : (t418.length : Int) = 0
 ·
  rw [if_pos c3] at H
  cases H
 rw [if_neg c3] at H
 have c3b0 := beq_eq_false_iff_ne.mpr c3
 have c3b1 := bne_iff_ne.mpr c3
 have c3b2 : ¬ (t418 = []) := fun h_ => c3 (by rw [h_]; rfl)
 have H' := zA H
 clear H
 go_enter Tryd.func21, Tryd.ntmps21
 go_wp2_with (first | ((with_reducible refine gate_callee (f := 64) rfl ?_); refine goesL_ (some 9) rfl rfl Tryd.func64 zk rfl #[.slice A0 l0.length c0] rfl zX ?_; (with_reducible refine (bignat_clone.calls k _ _ l0 t418 _ ?side1 ?side2 A2.out).mono ?_); (case side1 => exact zC HR0.out); (case side2 => exact HC0.out); rintro e w4 ⟨v419, rfl, ho0, hb⟩; refine ⟨_, rfl, ?_⟩; have HO420 := zA (Kd.R_lower ho0 (below_size (zb HB rfl))); replace HB := zbb HB hb rfl; obtain ⟨Ao5, co5, eo5⟩ := Kd.R_slice HO420.out; subst eo5))
 go_loopg [0, 3] k (fun kq v0 v3 w' => ∃ (x0_1 : List Int) (x3_1 : List Int), Aside0 (bignat_Format.l0 kq x0_1 x3_1 = some r) ∧ Aside0 (kq ≤ k) ∧ Aside0 (Kd.R (Kd.int .u32) 37 w' w.heap.size (fun _ => True) v0 x0_1) ∧ Aside0 (Kd.R (Kd.int .u8) 5 w' w.heap.size (fun _ => True) v3 x3_1) ∧ Aside0 (Below w.heap.size w w'))
 case atStart => exact ⟨(t418), (([] : List Int)), H', ⟨Nat.le_refl _⟩, ⟨zR HO420.out⟩, ⟨by first | exact Kd.R_nil _ _ _ _ _ | exact Kd.V_nil _ _ _ _ _⟩, ⟨zH⟩⟩
 case round =>
  clear H'
  try clear c2
  try clear p2
  try clear c3
  try clear c3b0
  try clear c3b1
  try clear c3b2
  obtain ⟨x0_1, x3_1, HA, HK1, HO_0, HO_3, HB⟩ := hrel
  cases gk with
  | zero => exact absurd HA.out (by simp [bignat_Format.l0])
  | succ k1 =>
   have H := HA.out
   clear HA
   simp only [bignat_Format.l0] at H
   by_cases c6 : (x0_1.length : Int) > 0
   ·
    rw [if_pos c6] at H
    have c6b0 : decide (0 < (x0_1.length : Int)) = true := decide_eq_true c6
    have c6b1 : decide (0 < x0_1.length) = true := decide_eq_true (by omega)
    clear c6
    obtain ⟨⟨t421, t422⟩, A70, H⟩ := zi H
    replace H : (bignat_Format.l1 k1 t421 x3_1 t422 0) = some r := H
    have A7 := zA A70
    clear A70
    have H' := zA H
    clear H
    obtain ⟨Ao8, co8, eo8⟩ := Kd.R_slice HO_0.out
    subst eo8
    go_wp2_with (first | ((with_reducible refine gate_callee (f := 65) rfl ?_); refine goesL_ (some 18) rfl rfl Tryd.func65 zk rfl #[.slice Ao8 x0_1.length co8, .int .u32 1000000000] rfl zX ?_; (with_reducible refine (bignat_divSmall.calls k1 _ _ x0_1 1000000000 t421 t422 _ ?side1 ?side2 A7.out).mono ?_); (case side1 => exact zC (Kd.R_reads' HO_0.out).2.2); (case side2 => exact (Kd.R_reads' HO_0.out).2.1); rintro e w9 ⟨v423, rfl, ho0, hb⟩; refine ⟨_, rfl, ?_⟩; replace HO_3 := zrb HO_3 hb rfl; have HO424 := zA (Kd.R_lower (Kd.R_new' ho0 (Kd.R_lt (zr HO_0 rfl))) (below_size (zb HB rfl))); replace HO_0 := zA (Kd.R_elder' (zr HO_0 rfl) (Kd.R_base ho0) hb); replace HB := zbb HB hb rfl))
    go_loopg [3, 4, 5] k1 (fun kq v3 v4 v5 w' => ∃ (x3_2 : List Int) (x4_2 : Int) (x5_2 : Int), v4 = .int .u32 x4_2 ∧ v5 = .int .i64 x5_2 ∧ Aside0 (bignat_Format.l1 kq t421 x3_2 x4_2 x5_2 = some r) ∧ Aside0 (kq ≤ k1) ∧ Aside0 (Kd.R (Kd.int .u32) 37 w' w.heap.size (fun _ => True) v423 t421) ∧ Aside0 (Kd.R (Kd.int .u8) 5 w' w.heap.size (fun _ => True) v3 x3_2) ∧ Aside0 (Below w.heap.size w w'))
    case atStart => exact ⟨(x3_1), (t422), (0), zS, zS, H', ⟨Nat.le_refl _⟩, ⟨zRM HO424.out (fun _ hk => trivial)⟩, ⟨zR HO_3.out⟩, ⟨zH⟩⟩
    case round =>
     clear H'
     try clear c2
     try clear p2
     try clear c3
     try clear c3b0
     try clear c3b1
     try clear c3b2
     try clear c6
     try clear c6b0
     try clear c6b1
     try clear p2
     obtain ⟨x3_2, x4_2, x5_2, rfl, rfl, HA, HK2, HO_0, HO_3, HB⟩ := hrel
     cases gk with
     | zero => exact absurd HA.out (by simp [bignat_Format.l1])
     | succ k2 =>
      have H := HA.out
      clear HA
      simp only [bignat_Format.l1] at H
      by_cases c10 : x5_2 < 9
      ·
       rw [if_pos c10] at H
       have c10b0 := decide_eq_true c10
       clear c10
       by_cases c11 : (t421.length : Int) > 0
       ·
        rw [if_pos c11] at H
        have c11b0 : decide (0 < (t421.length : Int)) = true := decide_eq_true c11
        have c11b1 : decide (0 < t421.length) = true := decide_eq_true (by omega)
        clear c11
        by_cases c12 : x3_2.length < 140737488355328
        ·
         rw [if_pos c12] at H
         have LMc12 := zA c12
         clear c12
         obtain ⟨y425, hy425⟩ : ∃ y_ : List Int, y_ = (x3_2 ++ [(48 + (Int.tmod x4_2 10)) % 256]) := ⟨_, rfl⟩
         replace H : (bignat_Format.l1 k2 t421 y425 ((Int.tdiv x4_2 10) % 4294967296) (wrap64 (x5_2 + 1))) = some r := by first | (rw [hy425]; with_reducible exact H) | (have H2_ := (Option.bind_some _ _).symm.trans H; rw [hy425]; with_reducible exact H2_) | (have H2_ := (Option.bind_some _ _).symm.trans H; with_reducible exact H2_) | with_reducible exact H | (rw [hy425]; exact H) | exact H
         have Ny425 := zA hy425
         clear hy425
         have H' := zA H
         clear H
         obtain ⟨Ao13, co13, eo13⟩ := Kd.R_slice HO_0.out
         subst eo13
         go_wp2_with (first | ((with_reducible refine gate_builtin (b := .append) (xs := #[.tmp 34, .tmp 39]) rfl ?_); (try (refine gate_guard (by rfl) ?_; dsimp only)); at_builtin; refine Kd.R_append (Kd.int .u8) (w0 := w) w.heap.size rfl (.tmp 34) (.tmp 39) 71 5 (.int .u8 0) 1 rfl Tryd.underlying71 info5 rfl (by decide) (by omega) u3 x3_2 ((48 + (Int.tmod x4_2 10)) % 256) [.int .u8 ((48 + (Int.tmod x4_2 10)) % 256)] (fun _ => True) (fun _ => False) rfl rfl ?aP (fun _ hk => hk.elim) ?aF ?aO ?aB ?aS ?aL ?_; (case aP => exact rfl); (case aB => exact zH); (case aF => exact (fun _ _ => trivial)); (case aO => exact (zR HO_3.out)); (case aS => exact (below_size zH)); (case aL => have := LMc12.out; omega); intro v426 w14 ho hb hg hat; rw [← Ny425.out] at ho; replace HO_0 := zA (Kd.R_over' (zR HO_0.out) (Kd.R_typed (zR HO_3.out)) (by decide) hg); replace HB := zA (hb); have HO427 := zA (ho); clear HO_3; clear ho hb hg hat))
         go_roundg k2
         case measure => have := HK1.out; have := HK2.out; omega
         case rel => exact ⟨(y425), ((Int.tdiv x4_2 10) % 4294967296), (wrap64 (x5_2 + 1)), zS, zS, H', ⟨by have := HK1.out; have := HK2.out; omega⟩, ⟨zR HO_0.out⟩, ⟨zR HO427.out⟩, ⟨zH⟩⟩
        rw [if_neg c12] at H
        cases H
       rw [if_neg c11] at H
       have c11b0 : decide (0 < (t421.length : Int)) = false := decide_eq_false c11
       have c11b1 : decide (0 < t421.length) = false := decide_eq_false (by omega)
       clear c11
       by_cases c15 : x4_2 > 0
       ·
        rw [if_pos c15] at H
        have c15b0 : decide (0 < x4_2) = true := decide_eq_true c15
        clear c15
        by_cases c16 : x3_2.length < 140737488355328
        ·
         rw [if_pos c16] at H
         have LMc16 := zA c16
         clear c16
         obtain ⟨y428, hy428⟩ : ∃ y_ : List Int, y_ = (x3_2 ++ [(48 + (Int.tmod x4_2 10)) % 256]) := ⟨_, rfl⟩
         replace H : (bignat_Format.l1 k2 t421 y428 ((Int.tdiv x4_2 10) % 4294967296) (wrap64 (x5_2 + 1))) = some r := by first | (rw [hy428]; with_reducible exact H) | (have H2_ := (Option.bind_some _ _).symm.trans H; rw [hy428]; with_reducible exact H2_) | (have H2_ := (Option.bind_some _ _).symm.trans H; with_reducible exact H2_) | with_reducible exact H | (rw [hy428]; exact H) | exact H
         have Ny428 := zA hy428
         clear hy428
         have H' := zA H
         clear H
         obtain ⟨Ao17, co17, eo17⟩ := Kd.R_slice HO_0.out
         subst eo17
         go_wp2_with (first | ((with_reducible refine gate_builtin (b := .append) (xs := #[.tmp 34, .tmp 39]) rfl ?_); (try (refine gate_guard (by rfl) ?_; dsimp only)); at_builtin; refine Kd.R_append (Kd.int .u8) (w0 := w) w.heap.size rfl (.tmp 34) (.tmp 39) 71 5 (.int .u8 0) 1 rfl Tryd.underlying71 info5 rfl (by decide) (by omega) u3 x3_2 ((48 + (Int.tmod x4_2 10)) % 256) [.int .u8 ((48 + (Int.tmod x4_2 10)) % 256)] (fun _ => True) (fun _ => False) rfl rfl ?aP (fun _ hk => hk.elim) ?aF ?aO ?aB ?aS ?aL ?_; (case aP => exact rfl); (case aB => exact zH); (case aF => exact (fun _ _ => trivial)); (case aO => exact (zR HO_3.out)); (case aS => exact (below_size zH)); (case aL => have := LMc16.out; omega); intro v429 w18 ho hb hg hat; rw [← Ny428.out] at ho; replace HO_0 := zA (Kd.R_over' (zR HO_0.out) (Kd.R_typed (zR HO_3.out)) (by decide) hg); replace HB := zA (hb); have HO430 := zA (ho); clear HO_3; clear ho hb hg hat))
         go_roundg k2
         case measure => have := HK1.out; have := HK2.out; omega
         case rel => exact ⟨(y428), ((Int.tdiv x4_2 10) % 4294967296), (wrap64 (x5_2 + 1)), zS, zS, H', ⟨by have := HK1.out; have := HK2.out; omega⟩, ⟨zR HO_0.out⟩, ⟨zR HO430.out⟩, ⟨zH⟩⟩
        rw [if_neg c16] at H
        cases H
       rw [if_neg c15] at H
       have c15b0 : decide (0 < x4_2) = false := decide_eq_false c15
       clear c15
       have H' := zA H
       clear H
       obtain ⟨Ao19, co19, eo19⟩ := Kd.R_slice HO_0.out
       subst eo19
       go_wp2
       go_roundg k2
       case measure => have := HK1.out; have := HK2.out; omega
       case rel => exact ⟨(t421), (x3_2), H', ⟨by have := HK1.out; have := HK2.out; omega⟩, ⟨zR HO_0.out⟩, ⟨zR HO_3.out⟩, ⟨zH⟩⟩
      rw [if_neg c10] at H
      have c10b0 := decide_eq_false c10
      clear c10
      have H' := zA H
      clear H
      go_wp2
      go_roundg k2
      case measure => have := HK1.out; have := HK2.out; omega
      case rel => exact ⟨(t421), (x3_2), H', ⟨by have := HK1.out; have := HK2.out; omega⟩, ⟨zR HO_0.out⟩, ⟨zR HO_3.out⟩, ⟨zH⟩⟩
   rw [if_neg c6] at H
   have c6b0 : decide (0 < (x0_1.length : Int)) = false := decide_eq_false c6
   have c6b1 : decide (0 < x0_1.length) = false := decide_eq_false (by omega)
   clear c6
   have H' := zA H
   clear H
   obtain ⟨Ao20, co20, eo20⟩ := Kd.R_slice HO_0.out
   subst eo20
   obtain ⟨Ao21, co21, eo21⟩ := Kd.R_slice HO_3.out
   subst eo21
   go_wp2
   go_loopg [6, 7] k1 (fun kq v6 v7 w' => ∃ (x3_2 : List Int) (x6_2 : Int) (x7_2 : Int), v6 = .int .i64 x6_2 ∧ v7 = .int .i64 x7_2 ∧ Aside0 (bignat_Format.l2 kq x3_2 x6_2 x7_2 = some r) ∧ Aside0 (kq ≤ k1) ∧ Aside0 (Kd.R (Kd.int .u8) 5 w' w.heap.size (fun _ => True) (.slice Ao21 x3_1.length co21) x3_2) ∧ Aside0 (Below w.heap.size w w'))
   case atStart => exact ⟨(x3_1), (0), (wrap64 ((x3_1.length : Int) - 1)), zS, zS, H', ⟨Nat.le_refl _⟩, ⟨zR HO_3.out⟩, ⟨zH⟩⟩
   case round =>
    clear H'
    try clear c1
    try clear c2
    try clear p2
    try clear c3
    try clear c3b0
    try clear c3b1
    try clear c3b2
    try clear c6
    try clear c6b0
    try clear c6b1
    try clear p6
    try clear c10
    try clear c10b0
    try clear c11
    try clear c11b0
    try clear c11b1
    try clear c12
    try clear c15
    try clear c15b0
    try clear c16
    try clear c21
    try clear p2
    obtain ⟨x3_2, x6_2, x7_2, rfl, rfl, HA, HK2, HO_3, HB⟩ := hrel
    have hl3_2 := (Kd.R_reads' HO_3.out).1
    rw [hl3_2] at HO_3
    (try simp only [hl3_2])
    cases gk with
    | zero => exact absurd HA.out (by simp [bignat_Format.l2])
    | succ k2 =>
     have H := HA.out
     clear HA
     simp only [bignat_Format.l2] at H
     by_cases c22 : x6_2 < x7_2
     ·
      rw [if_pos c22] at H
      cases H
     rw [if_neg c22] at H
     have c22b0 := decide_eq_false c22
     clear c22
     obtain rfl := Option.some.inj H
     have hcv23 := own_string (P := Tryd.prog) Tryd.underlying71 Tryd.underlying5 Tryd.underlying9 (Kd.own_of_R HO_3.out)
     go_wp2
     go_ret
     exact ⟨zE, zH⟩

end Go.Proofs.YtoeldfopjalpkaaDoor.Q

