/- Lemmas for the proof of one law of this seat (Qx15). -/
import Derived.Test.YtjiaplnpgjicgaaZBignatArithQx0
import Derived.Test.YtjiaplnpgjicgaaZBignatArithQx1
import Derived.Test.YtjiaplnpgjicgaaZBignatArithQx3
import Derived.Test.YtjiaplnpgjicgaaZBignatArithQx6
import Derived.Test.YtjiaplnpgjicgaaZBignatArithQx7
import Derived.Test.YtjiaplnpgjicgaaZBignatArithQx10
import Derived.Test.YtjiaplnpgjicgaaZBignatArithSq
namespace Go.Proofs.Ytjiaplnpgjicgaa.Q
open Go.RowKit Go.Proofs.YtjiaplnpgjicgaaW.PrintWords Go.Proofs.YtjiaplnpgjicgaaW.PrintLast Go.Proofs.YtjiaplnpgjicgaaW.PrintMore
attribute [local go_sem] max2_int min2_int max_two min_two max_three min_three max_four min_four   -- for this text's walks alone
set_option linter.unusedVariables false
set_option linter.unusedSimpArgs false

def bits_Len64.j0 : Nat → Int → Int → Option (Int)
 | 0, _, _ => none
 | k + 1, x0, x2 => if x0 ≥ 65536 then (if (x0 / 65536) ≥ 256 then (if 0 ≤ (((x0 / 65536) / 256) % 256) then (if (((x0 / 65536) / 256) % 256) < 256 then (some (wrap64 ((wrap64 ((wrap64 (x2 + 16)) + 8)) + (wrap64 (bt (⟨#[0, 1, 2, 2, 3, 3, 3, 3, 4, 4, 4, 4, 4, 4, 4, 4, 5, 5, 5, 5, 5, 5, 5, 5, 5, 5, 5, 5, 5, 5, 5, 5, 6, 6, 6, 6, 6, 6, 6, 6, 6, 6, 6, 6, 6, 6, 6, 6, 6, 6, 6, 6, 6, 6, 6, 6, 6, 6, 6, 6, 6, 6, 6, 6, 7, 7, 7, 7, 7, 7, 7, 7, 7, 7, 7, 7, 7, 7, 7, 7, 7, 7, 7, 7, 7, 7, 7, 7, 7, 7, 7, 7, 7, 7, 7, 7, 7, 7, 7, 7, 7, 7, 7, 7, 7, 7, 7, 7, 7, 7, 7, 7, 7, 7, 7, 7, 7, 7, 7, 7, 7, 7, 7, 7, 7, 7, 7, 7, 8, 8, 8, 8, 8, 8, 8, 8, 8, 8, 8, 8, 8, 8, 8, 8, 8, 8, 8, 8, 8, 8, 8, 8, 8, 8, 8, 8, 8, 8, 8, 8, 8, 8, 8, 8, 8, 8, 8, 8, 8, 8, 8, 8, 8, 8, 8, 8, 8, 8, 8, 8, 8, 8, 8, 8, 8, 8, 8, 8, 8, 8, 8, 8, 8, 8, 8, 8, 8, 8, 8, 8, 8, 8, 8, 8, 8, 8, 8, 8, 8, 8, 8, 8, 8, 8, 8, 8, 8, 8, 8, 8, 8, 8, 8, 8, 8, 8, 8, 8, 8, 8, 8, 8, 8, 8, 8, 8, 8, 8, 8, 8, 8, 8, 8, 8, 8, 8, 8, 8, 8, 8, 8, 8, 8, 8, 8, 8]⟩ : ByteArray) (((x0 / 65536) / 256) % 256)))))) else (none)) else (none)) else (if 0 ≤ ((x0 / 65536) % 256) then (if ((x0 / 65536) % 256) < 256 then (some (wrap64 ((wrap64 (x2 + 16)) + (wrap64 (bt (⟨#[0, 1, 2, 2, 3, 3, 3, 3, 4, 4, 4, 4, 4, 4, 4, 4, 5, 5, 5, 5, 5, 5, 5, 5, 5, 5, 5, 5, 5, 5, 5, 5, 6, 6, 6, 6, 6, 6, 6, 6, 6, 6, 6, 6, 6, 6, 6, 6, 6, 6, 6, 6, 6, 6, 6, 6, 6, 6, 6, 6, 6, 6, 6, 6, 7, 7, 7, 7, 7, 7, 7, 7, 7, 7, 7, 7, 7, 7, 7, 7, 7, 7, 7, 7, 7, 7, 7, 7, 7, 7, 7, 7, 7, 7, 7, 7, 7, 7, 7, 7, 7, 7, 7, 7, 7, 7, 7, 7, 7, 7, 7, 7, 7, 7, 7, 7, 7, 7, 7, 7, 7, 7, 7, 7, 7, 7, 7, 7, 8, 8, 8, 8, 8, 8, 8, 8, 8, 8, 8, 8, 8, 8, 8, 8, 8, 8, 8, 8, 8, 8, 8, 8, 8, 8, 8, 8, 8, 8, 8, 8, 8, 8, 8, 8, 8, 8, 8, 8, 8, 8, 8, 8, 8, 8, 8, 8, 8, 8, 8, 8, 8, 8, 8, 8, 8, 8, 8, 8, 8, 8, 8, 8, 8, 8, 8, 8, 8, 8, 8, 8, 8, 8, 8, 8, 8, 8, 8, 8, 8, 8, 8, 8, 8, 8, 8, 8, 8, 8, 8, 8, 8, 8, 8, 8, 8, 8, 8, 8, 8, 8, 8, 8, 8, 8, 8, 8, 8, 8, 8, 8, 8, 8, 8, 8, 8, 8, 8, 8, 8, 8, 8, 8, 8, 8, 8, 8]⟩ : ByteArray) ((x0 / 65536) % 256)))))) else (none)) else (none))) else (if x0 ≥ 256 then (if 0 ≤ ((x0 / 256) % 256) then (if ((x0 / 256) % 256) < 256 then (some (wrap64 ((wrap64 (x2 + 8)) + (wrap64 (bt (⟨#[0, 1, 2, 2, 3, 3, 3, 3, 4, 4, 4, 4, 4, 4, 4, 4, 5, 5, 5, 5, 5, 5, 5, 5, 5, 5, 5, 5, 5, 5, 5, 5, 6, 6, 6, 6, 6, 6, 6, 6, 6, 6, 6, 6, 6, 6, 6, 6, 6, 6, 6, 6, 6, 6, 6, 6, 6, 6, 6, 6, 6, 6, 6, 6, 7, 7, 7, 7, 7, 7, 7, 7, 7, 7, 7, 7, 7, 7, 7, 7, 7, 7, 7, 7, 7, 7, 7, 7, 7, 7, 7, 7, 7, 7, 7, 7, 7, 7, 7, 7, 7, 7, 7, 7, 7, 7, 7, 7, 7, 7, 7, 7, 7, 7, 7, 7, 7, 7, 7, 7, 7, 7, 7, 7, 7, 7, 7, 7, 8, 8, 8, 8, 8, 8, 8, 8, 8, 8, 8, 8, 8, 8, 8, 8, 8, 8, 8, 8, 8, 8, 8, 8, 8, 8, 8, 8, 8, 8, 8, 8, 8, 8, 8, 8, 8, 8, 8, 8, 8, 8, 8, 8, 8, 8, 8, 8, 8, 8, 8, 8, 8, 8, 8, 8, 8, 8, 8, 8, 8, 8, 8, 8, 8, 8, 8, 8, 8, 8, 8, 8, 8, 8, 8, 8, 8, 8, 8, 8, 8, 8, 8, 8, 8, 8, 8, 8, 8, 8, 8, 8, 8, 8, 8, 8, 8, 8, 8, 8, 8, 8, 8, 8, 8, 8, 8, 8, 8, 8, 8, 8, 8, 8, 8, 8, 8, 8, 8, 8, 8, 8, 8, 8, 8, 8, 8, 8]⟩ : ByteArray) ((x0 / 256) % 256)))))) else (none)) else (none)) else (if 0 ≤ ((x0) % 256) then (if ((x0) % 256) < 256 then (some (wrap64 (x2 + (wrap64 (bt (⟨#[0, 1, 2, 2, 3, 3, 3, 3, 4, 4, 4, 4, 4, 4, 4, 4, 5, 5, 5, 5, 5, 5, 5, 5, 5, 5, 5, 5, 5, 5, 5, 5, 6, 6, 6, 6, 6, 6, 6, 6, 6, 6, 6, 6, 6, 6, 6, 6, 6, 6, 6, 6, 6, 6, 6, 6, 6, 6, 6, 6, 6, 6, 6, 6, 7, 7, 7, 7, 7, 7, 7, 7, 7, 7, 7, 7, 7, 7, 7, 7, 7, 7, 7, 7, 7, 7, 7, 7, 7, 7, 7, 7, 7, 7, 7, 7, 7, 7, 7, 7, 7, 7, 7, 7, 7, 7, 7, 7, 7, 7, 7, 7, 7, 7, 7, 7, 7, 7, 7, 7, 7, 7, 7, 7, 7, 7, 7, 7, 8, 8, 8, 8, 8, 8, 8, 8, 8, 8, 8, 8, 8, 8, 8, 8, 8, 8, 8, 8, 8, 8, 8, 8, 8, 8, 8, 8, 8, 8, 8, 8, 8, 8, 8, 8, 8, 8, 8, 8, 8, 8, 8, 8, 8, 8, 8, 8, 8, 8, 8, 8, 8, 8, 8, 8, 8, 8, 8, 8, 8, 8, 8, 8, 8, 8, 8, 8, 8, 8, 8, 8, 8, 8, 8, 8, 8, 8, 8, 8, 8, 8, 8, 8, 8, 8, 8, 8, 8, 8, 8, 8, 8, 8, 8, 8, 8, 8, 8, 8, 8, 8, 8, 8, 8, 8, 8, 8, 8, 8, 8, 8, 8, 8, 8, 8, 8, 8, 8, 8, 8, 8, 8, 8, 8, 8, 8, 8]⟩ : ByteArray) ((x0) % 256)))))) else (none)) else (none)))
def bits_Len64.f (k : Nat) (a0 : Int) : Option (Int) := if a0 ≥ 4294967296 then (bits_Len64.j0 k (a0 / 4294967296) 32) else (bits_Len64.j0 k a0 0)
theorem bits_Len64.mono_l : ∀ k, (∀ y0 y1, LeO (bits_Len64.j0 k y0 y1) (bits_Len64.j0 (k + 1) y0 y1))
 | 0 => fun _ _ r h => by simp [bits_Len64.j0] at h
 | k + 1 => by
  have ih0 := bits_Len64.mono_l k
  ·
   intro y0 y1
   unfold bits_Len64.j0
   repeat' first
   | (with_reducible exact ih0 _ _)
   | (with_reducible exact LeO.refl _)
   | (with_reducible exact LeO.none _)
   | (with_reducible refine LeO.ite ?_ ?_)
   | (with_reducible refine LeO.bind ?_ (fun _ => ?_))
   | exact ih0 _ _
   | exact LeO.none _
   | refine LeO.ite ?_ ?_
   | refine LeO.bind ?_ (fun _ => ?_)
theorem bits_Len64.mono : ∀ a0 k, LeO (bits_Len64.f k a0) (bits_Len64.f (k + 1) a0) := by
 intro a0 k
 have ih0 := bits_Len64.mono_l k
 unfold bits_Len64.f
 repeat' first
   | (with_reducible exact ih0 _ _)
   | (with_reducible exact LeO.refl _)
   | (with_reducible exact LeO.none _)
   | (with_reducible refine LeO.ite ?_ ?_)
   | (with_reducible refine LeO.bind ?_ (fun _ => ?_))
   | exact ih0 _ _
   | exact LeO.none _
   | refine LeO.ite ?_ ?_
   | refine LeO.bind ?_ (fun _ => ?_)

def bits_Len.f (k : Nat) (a0 : Int) : Option (Int) := (bits_Len64.f k a0).bind fun t737 => (some t737)
theorem bits_Len.mono : ∀ a0 k, LeO (bits_Len.f k a0) (bits_Len.f (k + 1) a0) := by
 intro a0 k
 unfold bits_Len.f
 repeat' first
   | (with_reducible exact bits_Len64.mono _ _)
   | (with_reducible exact LeO.refl _)
   | (with_reducible exact LeO.none _)
   | (with_reducible refine LeO.ite ?_ ?_)
   | (with_reducible refine LeO.bind ?_ (fun _ => ?_))
   | exact bits_Len64.mono _ _
   | exact LeO.none _
   | refine LeO.ite ?_ ?_
   | refine LeO.bind ?_ (fun _ => ?_)

def bignat_Pow.l0 : Nat → List Int → Int → List Int → Int → Option (List Int × Int)
 | 0, _, _, _, _ => none
 | k + 1, x0, x1, x7, x8 => if x8 ≥ 0 then ((bignat_Mul.f k x7 x7).bind fun t753 => (if 0 ≤ x8 then (if (Go.bits .and .i64 (shr .i64 x1 x8) 1) = 1 then ((bignat_Mul.f k t753 x0).bind fun t756 => (bignat_Pow.l0 k x0 x1 t756 (wrap64 (x8 - 1)))) else (bignat_Pow.l0 k x0 x1 t753 (wrap64 (x8 - 1)))) else (none))) else ((bignat_BitLen.f k x7).bind fun t752 => (if t752 > 65536 then (some (([] : List Int), 4)) else (some (x7, 0))))
def bignat_Pow.f (k : Nat) (l0 : List Int) (a1 : Int) : Option (List Int × Int) := (bignat_trim.f k l0).bind fun t738 => ((bignat_BitLen.f k t738).bind fun t741 => (if a1 < 0 then (some (([] : List Int), 1)) else (if a1 = 0 then ((bignat_FromUint64.f 1).bind fun t742 => (some (t742, 0))) else (if t741 ≤ 1 then ((bignat_clone.f k t738).bind fun t745 => (some (t745, 0))) else (if a1 > 65536 then (some (([] : List Int), 4)) else (if t741 > 65536 then (some (([] : List Int), 4)) else (if (wrap64 ((wrap64 (t741 - 1)) * a1)) ≥ 65536 then (some (([] : List Int), 4)) else ((bignat_FromUint64.f 1).bind fun t748 => ((bits_Len.f k (IntKind.u64.wrap (a1))).bind fun t751 => (bignat_Pow.l0 k t738 a1 t748 (wrap64 (t751 - 1))))))))))))
theorem bignat_Pow.mono_l : ∀ k, (∀ y0 y1 y2 y3, LeO (bignat_Pow.l0 k y0 y1 y2 y3) (bignat_Pow.l0 (k + 1) y0 y1 y2 y3))
 | 0 => fun _ _ _ _ r h => by simp [bignat_Pow.l0] at h
 | k + 1 => by
  have ih0 := bignat_Pow.mono_l k
  ·
   intro y0 y1 y2 y3
   unfold bignat_Pow.l0
   repeat' first
   | (with_reducible exact ih0 _ _ _ _)
   | (with_reducible exact bignat_BitLen.mono _ _)
   | (with_reducible exact bignat_Mul.mono _ _ _)
   | (with_reducible exact bignat_clone.mono _ _)
   | (with_reducible exact bignat_trim.mono _ _)
   | (with_reducible exact bits_Len.mono _ _)
   | (with_reducible exact LeO.refl _)
   | (with_reducible exact LeO.none _)
   | (with_reducible refine LeO.ite ?_ ?_)
   | (with_reducible refine LeO.bind ?_ (fun _ => ?_))
   | exact ih0 _ _ _ _
   | exact bignat_BitLen.mono _ _
   | exact bignat_Mul.mono _ _ _
   | exact bignat_clone.mono _ _
   | exact bignat_trim.mono _ _
   | exact bits_Len.mono _ _
   | exact LeO.none _
   | refine LeO.ite ?_ ?_
   | refine LeO.bind ?_ (fun _ => ?_)
theorem bignat_Pow.mono : ∀ a0 a1 k, LeO (bignat_Pow.f k a0 a1) (bignat_Pow.f (k + 1) a0 a1) := by
 intro a0 a1 k
 have ih0 := bignat_Pow.mono_l k
 unfold bignat_Pow.f
 repeat' first
   | (with_reducible exact ih0 _ _ _ _)
   | (with_reducible exact bignat_BitLen.mono _ _)
   | (with_reducible exact bignat_Mul.mono _ _ _)
   | (with_reducible exact bignat_clone.mono _ _)
   | (with_reducible exact bignat_trim.mono _ _)
   | (with_reducible exact bits_Len.mono _ _)
   | (with_reducible exact LeO.refl _)
   | (with_reducible exact LeO.none _)
   | (with_reducible refine LeO.ite ?_ ?_)
   | (with_reducible refine LeO.bind ?_ (fun _ => ?_))
   | exact ih0 _ _ _ _
   | exact bignat_BitLen.mono _ _
   | exact bignat_Mul.mono _ _ _
   | exact bignat_clone.mono _ _
   | exact bignat_trim.mono _ _
   | exact bits_Len.mono _ _
   | exact LeO.none _
   | refine LeO.ite ?_ ?_
   | refine LeO.bind ?_ (fun _ => ?_)

def credenceref1_NatBits.l0 : Nat → Int → Int → Option (Int)
 | 0, _, _ => none
 | k + 1, x4, x5 => if x5 > 0 then (credenceref1_NatBits.l0 k (wrap64 (x4 + 1)) (x5 / 2)) else (some x4)
def credenceref1_NatBits.f (k : Nat) (l0 : List Int) : Option (Int) := (credenceref1_NatNorm.f k l0).bind fun t759 => (if (t759.length : Int) = 0 then (some 0) else (if 0 ≤ (wrap64 ((t759.length : Int) - 1)) then (if (wrap64 ((t759.length : Int) - 1)) < (t759.length : Int) then (credenceref1_NatBits.l0 k (wrap64 (32 * (wrap64 ((t759.length : Int) - 1)))) (rd t759 (wrap64 ((t759.length : Int) - 1)))) else (none)) else (none)))
theorem credenceref1_NatBits.mono_l : ∀ k, (∀ y0 y1, LeO (credenceref1_NatBits.l0 k y0 y1) (credenceref1_NatBits.l0 (k + 1) y0 y1))
 | 0 => fun _ _ r h => by simp [credenceref1_NatBits.l0] at h
 | k + 1 => by
  have ih0 := credenceref1_NatBits.mono_l k
  ·
   intro y0 y1
   unfold credenceref1_NatBits.l0
   repeat' first
   | (with_reducible exact ih0 _ _)
   | (with_reducible exact credenceref1_NatNorm.mono _ _)
   | (with_reducible exact LeO.refl _)
   | (with_reducible exact LeO.none _)
   | (with_reducible refine LeO.ite ?_ ?_)
   | (with_reducible refine LeO.bind ?_ (fun _ => ?_))
   | exact ih0 _ _
   | exact credenceref1_NatNorm.mono _ _
   | exact LeO.none _
   | refine LeO.ite ?_ ?_
   | refine LeO.bind ?_ (fun _ => ?_)
theorem credenceref1_NatBits.mono : ∀ a0 k, LeO (credenceref1_NatBits.f k a0) (credenceref1_NatBits.f (k + 1) a0) := by
 intro a0 k
 have ih0 := credenceref1_NatBits.mono_l k
 unfold credenceref1_NatBits.f
 repeat' first
   | (with_reducible exact ih0 _ _)
   | (with_reducible exact credenceref1_NatNorm.mono _ _)
   | (with_reducible exact LeO.refl _)
   | (with_reducible exact LeO.none _)
   | (with_reducible refine LeO.ite ?_ ?_)
   | (with_reducible refine LeO.bind ?_ (fun _ => ?_))
   | exact ih0 _ _
   | exact credenceref1_NatNorm.mono _ _
   | exact LeO.none _
   | refine LeO.ite ?_ ?_
   | refine LeO.bind ?_ (fun _ => ?_)
set_option maxHeartbeats 8000000 in
set_option maxRecDepth 100000 in
theorem credenceref1_NatBits.calls (k : Nat) (A0 : Option Addr) (c0 : Nat) (l0 : List Int) (r : Int) (w : World) (hr0 : Kd.C (Kd.int .u32) w A0 l0.length l0) (hc0 : l0.length ≤ c0) (h : credenceref1_NatBits.f k l0 = some r) :
  Calls Try.prog 36 #[.slice A0 l0.length c0] w fun e w' => e = .returned (.int .i64 r) ∧ Below w.heap.size w w' := by
 have HR0 := Aside0.mk hr0
 have HC0 := Aside0.mk hc0
 clear hr0 hc0
 have HB := Aside0.mk (Below.refl w.heap.size w)
 have H : ((credenceref1_NatNorm.f k l0).bind fun t759 => (if (t759.length : Int) = 0 then (some 0) else (if 0 ≤ (wrap64 ((t759.length : Int) - 1)) then (if (wrap64 ((t759.length : Int) - 1)) < (t759.length : Int) then (credenceref1_NatBits.l0 k (wrap64 (32 * (wrap64 ((t759.length : Int) - 1)))) (rd t759 (wrap64 ((t759.length : Int) - 1)))) else (none)) else (none)))) = some r := h
 clear h
 replace H := Option.bind_eq_some_iff.mp H
 obtain ⟨t759, A20, H⟩ := H
 replace H : (if (t759.length : Int) = 0 then (some 0) else (if 0 ≤ (wrap64 ((t759.length : Int) - 1)) then (if (wrap64 ((t759.length : Int) - 1)) < (t759.length : Int) then (credenceref1_NatBits.l0 k (wrap64 (32 * (wrap64 ((t759.length : Int) - 1)))) (rd t759 (wrap64 ((t759.length : Int) - 1)))) else (none)) else (none))) = some r := H
 have A2 := Aside0.mk A20
 clear A20
 by_cases c3 : (t759.length : Int) = 0
 ·
  rw [if_pos c3] at H
  have c3b0 : ((t759.length : Int) == 0) = true := beq_iff_eq.mpr c3
  have c3b1 : ((t759.length : Int) != 0) = false := bne_eq_false_iff_eq.mpr c3
  clear c3
  obtain rfl := Option.some.inj H
  go_enter Try.func36, Try.ntmps36
  go_wp2_with (first | ((with_reducible refine gate_callee (f := 35) rfl ?_); refine goesL_ (some 7) rfl rfl Try.func35 (by kernel_rfl) rfl #[.slice A0 l0.length c0] rfl (by first | rfl | (go_simp; first | done | rfl | ((try simp only [IntKind.wrap_u8, IntKind.wrap_u32, IntKind.wrap_u64]); omega))) ?_; (with_reducible refine (credenceref1_NatNorm.calls k _ _ l0 t759 _ ?side1 ?side2 A2.out).mono ?_); (case side1 => repeat first | exact HR0.out | refine Kd.C_drewN ?_ _ | refine Kd.C_alloc ?_ _ | refine Kd.C_drew ?_); (case side2 => exact HC0.out); rintro e w4 ⟨v760, rfl, ho0, hb⟩; refine ⟨_, rfl, ?_⟩; have n0_ := Aside0.mk (Kd.R_lower ho0 (below_size (zb HB rfl))); have n1_ := Aside0.mk (below_step (zb HB rfl) hb); clear HB; have HO761 := n0_; have HB := n1_; clear n0_ n1_; obtain ⟨Ao5, co5, eo5⟩ := Kd.R_slice HO761.out; subst eo5))
  go_ret
  exact ⟨by first | rfl | (simp [*, errW_none, errW_some] <;> rfl), by repeat (first | (with_reducible first | exact HB.out | apply below_alloc | apply pw_below_drewN | apply below_drew1) | exact HB.out)⟩
 ·
  rw [if_neg c3] at H
  have c3b0 : ((t759.length : Int) == 0) = false := beq_eq_false_iff_ne.mpr c3
  have c3b1 : ((t759.length : Int) != 0) = true := bne_iff_ne.mpr c3
  have c3b2 : ¬ (t759 = []) := fun h_ => c3 (by rw [h_]; rfl)
  obtain ⟨ji6, hji6⟩ : ∃ j_ : Int, (wrap64 ((t759.length : Int) - 1)) = j_ := ⟨_, rfl⟩
  replace H : (if 0 ≤ (ji6) then (if (ji6) < (t759.length : Int) then (credenceref1_NatBits.l0 k (wrap64 (32 * (ji6))) (rd t759 (ji6))) else (none)) else (none)) = some r := by first | (rw [hji6] at H; exact H) | (simp only [hji6] at H ⊢; exact H)
  (try rw [hji6] at A2)
  have hji6w : (IntKind.i64.wrap ((t759.length : Int) - 1)) = ji6 := (i64_w _).trans hji6
  by_cases c7 : 0 ≤ (ji6)
  ·
   rw [if_pos c7] at H
   have c7b0 : decide (0 ≤ (ji6)) = true := decide_eq_true c7
   clear c7
   by_cases c8 : (ji6) < (t759.length : Int)
   ·
    rw [if_pos c8] at H
    have c8b0 : decide ((ji6) < (t759.length : Int)) = true := decide_eq_true c8
    clear c8
    have H' := Aside0.mk H
    clear H
    go_enter Try.func36, Try.ntmps36
    go_wp2_with (first | ((with_reducible refine gate_callee (f := 35) rfl ?_); refine goesL_ (some 7) rfl rfl Try.func35 (by kernel_rfl) rfl #[.slice A0 l0.length c0] rfl (by first | rfl | (go_simp; first | done | rfl | ((try simp only [IntKind.wrap_u8, IntKind.wrap_u32, IntKind.wrap_u64]); omega))) ?_; (with_reducible refine (credenceref1_NatNorm.calls k _ _ l0 t759 _ ?side1 ?side2 A2.out).mono ?_); (case side1 => repeat first | exact HR0.out | refine Kd.C_drewN ?_ _ | refine Kd.C_alloc ?_ _ | refine Kd.C_drew ?_); (case side2 => exact HC0.out); rintro e w9 ⟨v760, rfl, ho0, hb⟩; refine ⟨_, rfl, ?_⟩; have n0_ := Aside0.mk (Kd.R_lower ho0 (below_size (zb HB rfl))); have n1_ := Aside0.mk (below_step (zb HB rfl) hb); clear HB; have HO761 := n0_; have HB := n1_; clear n0_ n1_; obtain ⟨Ao10, co10, eo10⟩ := Kd.R_slice HO761.out; subst eo10; have p762 : 0 ≤ ((ji6) : Int) := of_decide_eq_true (by first | (with_reducible assumption) | assumption); have q762 : (ji6) < (t759.length : Int) := of_decide_eq_true (by first | (with_reducible assumption) | assumption); obtain ⟨ad762, e762, hx762_0⟩ := Kd.at_int (Kd.R_reads' HO761.out).2.2 (ji6) p762 q762; cases e762; replace p762 := eq_true p762; replace q762 := eq_true q762))
    go_loopg [4, 5] k (fun kq v4 v5 w' => ∃ (x4_1 : Int) (x5_1 : Int), v4 = .int .i64 x4_1 ∧ v5 = .int .u32 x5_1 ∧ Aside0 (credenceref1_NatBits.l0 kq x4_1 x5_1 = some r) ∧ Aside0 (kq ≤ k) ∧ Aside0 (Below w.heap.size w w'))
    case atStart => exact ⟨(wrap64 (32 * (ji6))), (rd t759 (ji6)), (by first | rfl | (simp; done) | (simp only [← hji6] <;> (first | rfl | simp)) | (simp [*]; done)), (by first | rfl | (simp; done) | (simp only [← hji6] <;> (first | rfl | simp)) | (simp [*]; done)), H', ⟨Nat.le_refl _⟩, ⟨by repeat (first | (with_reducible first | exact HB.out | apply below_alloc | apply pw_below_drewN | apply below_drew1) | exact HB.out)⟩⟩
    case round =>
     clear H'
     try clear p2
     try clear c3
     try clear c3b0
     try clear c3b1
     try clear c3b2
     try clear p6
     try clear c7
     try clear c7b0
     try clear p7
     try clear q7
     try clear hx7
     try clear c8
     try clear c8b0
     try clear hx762_0
     try clear p762
     try clear q762
     obtain ⟨x4_1, x5_1, rfl, rfl, HA, HK1, HB⟩ := hrel
     cases gk with
     | zero => exact absurd HA.out (by simp [credenceref1_NatBits.l0])
     | succ k1 =>
      have H := HA.out
      clear HA
      simp only [credenceref1_NatBits.l0] at H
      by_cases c11 : x5_1 > 0
      ·
       rw [if_pos c11] at H
       have c11b0 : decide (0 < x5_1) = true := decide_eq_true c11
       clear c11
       have H' := Aside0.mk H
       clear H
       go_wp2
       go_roundg k1
       case measure => have := HK1.out; omega
       case rel => exact ⟨(wrap64 (x4_1 + 1)), (x5_1 / 2), (by first | rfl | (simp [*]; done)), (by first | rfl | (simp [*]; done)), H', ⟨by have := HK1.out; omega⟩, ⟨by repeat (first | (with_reducible first | exact HB.out | apply below_alloc | apply pw_below_drewN | apply below_drew1) | exact HB.out)⟩⟩
      ·
       rw [if_neg c11] at H
       have c11b0 : decide (0 < x5_1) = false := decide_eq_false c11
       clear c11
       obtain rfl := Option.some.inj H
       go_wp2
       go_ret
       exact ⟨by first | rfl | (simp [errW_none, errW_some] <;> rfl) | (simp only [← hji6]; first | rfl | (simp [errW_none, errW_some] <;> rfl)) | (simp [*, errW_none, errW_some] <;> rfl), by repeat (first | (with_reducible first | exact HB.out | apply below_alloc | apply pw_below_drewN | apply below_drew1) | exact HB.out)⟩
   ·
    rw [if_neg c8] at H
    exact absurd H (by simp)
  ·
   rw [if_neg c7] at H
   exact absurd H (by simp)

end Go.Proofs.Ytjiaplnpgjicgaa.Q

