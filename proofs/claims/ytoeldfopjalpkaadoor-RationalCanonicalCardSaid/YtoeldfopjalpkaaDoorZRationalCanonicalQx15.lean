/- Lemmas for the proof of one law of this seat (Qx15). -/
import Derived.Test.YtoeldfopjalpkaaDoorZRationalCanonicalQx0
import Derived.Test.YtoeldfopjalpkaaDoorZRationalCanonicalQx1
import Derived.Test.YtoeldfopjalpkaaDoorZRationalCanonicalQx10
import Derived.Test.YtoeldfopjalpkaaDoorZRationalCanonicalQx11
import Derived.Test.YtoeldfopjalpkaaDoorZRationalCanonicalQx13
import Derived.Test.YtoeldfopjalpkaaDoorZRationalCanonicalQx14
import Derived.Test.YtoeldfopjalpkaaDoorZRationalCanonicalZip
namespace Go.Proofs.YtoeldfopjalpkaaDoor.Q
open Go.RowKit Go.Proofs.YtoeldfopjalpkaaDoorW.PrintWords Go.Proofs.YtoeldfopjalpkaaDoorW.PrintLast Go.Proofs.YtoeldfopjalpkaaDoorW.PrintMore
attribute [local go_sem] max2_int min2_int max_two min_two max_three min_three max_four min_four   -- for this text's walks alone
set_option linter.unusedVariables false
set_option linter.unusedSimpArgs false

def credencelaw2_RationalCanonical.j0 : Nat → Bool → List Int → List Int → Int → Bool → Option (Bool)
 | 0, _, _, _, _, _ => none
 | k + 1, x0, x1, x2, x3, x20 => if x20 = true then (some true) else ((credencelaw2_raw.f k x0 x1 x2).bind fun bt653 => ((bignat_FromUint64.f (IntKind.u64.wrap ((IntKind.u64.wrap (x3)) + 1))).bind fun t661 => ((bignat_Mul.f k bt653.2.1 t661).bind fun t664 => ((bignat_Mul.f k bt653.2.2 t661).bind fun t667 => ((rational_Normalize.f k bt653.1 bt653.2.1 bt653.2.2).bind fun bt671 => ((rational_IsCanonical.f k bt671.1 bt671.2.1 bt671.2.2).bind fun t679 => (if t679 = true then ((rational_Normalize.f k x0 t664 t667).bind fun bt680 => ((credencelaw2_same.f k bt680.1 bt680.2.1 bt680.2.2 bt671.1 bt671.2.1 bt671.2.2).bind fun t687 => (if t687 = true then ((rational_Normalize.f k bt671.1 bt671.2.1 bt671.2.2).bind fun bt688 => ((credencelaw2_same.f k bt688.1 bt688.2.1 bt688.2.2 bt671.1 bt671.2.1 bt671.2.2).bind fun t695 => (if t695 = true then ((rational_Mul.f k bt653.1 bt653.2.1 bt653.2.2 x0 t664 t667).bind fun bt696 => ((rational_IsCanonical.f k bt696.1 bt696.2.1 bt696.2.2).bind fun t703 => (if t703 = true then ((rational_Sub.f k bt653.1 bt653.2.1 bt653.2.2 x0 t664 t667).bind fun bt704 => ((rational_IsCanonical.f k bt704.1 bt704.2.1 bt704.2.2).bind fun t711 => (if t711 = true then ((rational_Sub.f k bt653.1 bt653.2.1 bt653.2.2 x0 t664 t667).bind fun bt712 => ((rational_Sign.f k bt712.1 bt712.2.1 bt712.2.2).bind fun t719 => (if t719 = 0 then (if (bt671.2.2.length : Int) > 0 then ((credencelaw2_known.f k).bind fun t720 => (some t720)) else (none)) else (none)))) else (none)))) else (none)))) else (none)))) else (none)))) else (none))))))))
def credencelaw2_RationalCanonical.f (k : Nat) (a0 : Bool) (l1 : List Int) (l2 : List Int) (a3 : Int) : Option (Bool) := if (l1.length : Int) > 4 then (credencelaw2_RationalCanonical.j0 k a0 l1 l2 a3 true) else (credencelaw2_RationalCanonical.j0 k a0 l1 l2 a3 (decide ((l2.length : Int) > 4)))
def credencelaw2_RationalCanonical.T5 : Bool × List (List Nat × List Nat) := (true, [([], []), ([], []), ([1], [1]), ([], []), ([2, 3], [2, 3]), ([], []), ([5], [5]), ([], []), ([6, 7, 4], [6, 7]), ([0, 4, 8], [0, 4, 8]), ([], []), ([10, 9, 8, 0, 1, 2, 3, 4, 5, 6, 7, 8, 9, 10], [9, 10])])
def credencelaw2_RationalCanonical.B5 : List Nat := [0, 0, 2, 0, 14, 0, 32, 0, 254, 511, 0, 2047]
theorem credencelaw2_RationalCanonical.tab5 : rtab .any (opsOf Tryd.f9 5) = credencelaw2_RationalCanonical.T5 := by kernel_rfl
theorem credencelaw2_RationalCanonical.bits5 : waitsOk credencelaw2_RationalCanonical.T5.2 credencelaw2_RationalCanonical.B5 = true := by kernel_rfl
def credencelaw2_RationalCanonical.T7 : Bool × List (List Nat × List Nat) := (true, [([], []), ([0], [0]), ([1, 1], [1]), ([2], [2]), ([3, 2, 2], [2, 3]), ([2], [2]), ([4, 5, 4, 2], [2, 4, 5]), ([2, 6], [2, 6]), ([7, 6], [7]), ([8], [8]), ([9, 8, 8], [8, 9]), ([8], [8]), ([10, 11, 10, 8], [8, 10, 11]), ([8, 12], [8, 12]), ([13, 12], [13]), ([14], [14]), ([14], [14]), ([15, 16, 14, 14], [14, 15, 16]), ([17, 17, 14], [14, 17]), ([14, 18], [14, 18]), ([19, 18], [19]), ([20], [20]), ([20], [20]), ([21, 22, 20, 20], [20, 21, 22]), ([23, 23, 20], [20, 23]), ([20, 24], [20, 24]), ([25, 24], [25]), ([26], [26]), ([26], [26]), ([27, 28, 26, 26], [26, 27, 28]), ([29, 29, 26], [26, 29]), ([30, 26], [26, 30]), ([26, 31], [26, 31]), ([32, 30], [32]), ([33], [33]), ([34, 33], [33, 34]), ([35, 33], [33, 35]), ([36, 33], [33, 36]), ([33, 37], [33, 37]), ([38, 33], [38]), ([39, 39], [39]), ([39, 40], [39, 40]), ([41, 40, 0, 1, 2, 3, 4, 5, 6, 7, 8, 9, 10, 11, 12, 13, 14, 15, 16, 17, 18, 19, 20, 21, 22, 23, 24, 25, 26, 27, 28, 29, 30, 31, 32, 33, 34, 35, 36, 37, 38, 39, 40, 41], [41])])
def credencelaw2_RationalCanonical.B7 : List Nat := [0, 1, 3, 7, 15, 7, 63, 127, 255, 511, 1023, 511, 4095, 8191, 16383, 32767, 32767, 131071, 262143, 524287, 1048575, 2097151, 2097151, 8388607, 16777215, 33554431, 67108863, 134217727, 134217727, 536870911, 1073741823, 2147483647, 4294967295, 8589934591, 17179869183, 34359738367, 68719476735, 137438953471, 274877906943, 549755813887, 1099511627775, 2199023255551, 4398046511103]
theorem credencelaw2_RationalCanonical.tab7 : rtab .any (opsOf Tryd.f9 7) = credencelaw2_RationalCanonical.T7 := by kernel_rfl
theorem credencelaw2_RationalCanonical.bits7 : waitsOk credencelaw2_RationalCanonical.T7.2 credencelaw2_RationalCanonical.B7 = true := by kernel_rfl
set_option maxHeartbeats 8000000 in
set_option maxRecDepth 100000 in
theorem credencelaw2_RationalCanonical.calls (k : Nat) (a0 : Bool) (A1 : Option Addr) (c1 : Nat) (l1 : List Int) (A2 : Option Addr) (c2 : Nat) (l2 : List Int) (a3 : Int) (r : Bool) (w : World) (hr1 : Kd.C (Kd.int .u32) w A1 l1.length l1) (hc1 : l1.length ≤ c1) (hr2 : Kd.C (Kd.int .u32) w A2 l2.length l2) (hc2 : l2.length ≤ c2) (h : credencelaw2_RationalCanonical.f k a0 l1 l2 a3 = some r) :
 Calls Tryd.prog 9 #[.bool a0, .slice A1 l1.length c1, .slice A2 l2.length c2, .int .u32 a3] w fun e w' => e = .returned (.bool r) ∧ Below w.heap.size w w' := by
 have hu25 := Tryd.underlying25
 have HR1 := zA hr1
 have HC1 := zA hc1
 clear hr1 hc1
 have HR2 := zA hr2
 have HC2 := zA hc2
 clear hr2 hc2
 have HB := zA (Below.refl w.heap.size w)
 have H : (if (l1.length : Int) > 4 then (credencelaw2_RationalCanonical.j0 k a0 l1 l2 a3 true) else (credencelaw2_RationalCanonical.j0 k a0 l1 l2 a3 (decide ((l2.length : Int) > 4)))) = some r := h
 clear h
 have HC5 := zA H
 clear H
 go_enter Tryd.func9, Tryd.ntmps9
 go_upto_region 1 with (fail)
 go_cut [20] (fun v20 wc => ∃ (kq : Nat) (x20_4 : Bool), v20 = .bool x20_4 ∧ Aside0 (credencelaw2_RationalCanonical.j0 kq a0 l1 l2 a3 x20_4 = some r) ∧ Aside0 (kq ≤ k) ∧ Aside0 (Below w.heap.size w wc))
 case first =>
  have H := HC5.out
  clear HC5
  by_cases c6 : (l1.length : Int) > 4
  ·
   rw [if_pos c6] at H
   have c6b0 : decide (4 < (l1.length : Int)) = true := decide_eq_true c6
   have c6b1 : decide (4 < l1.length) = true := decide_eq_true (by omega)
   clear c6
   (first | rw [c6b0] | rw [c6b1] | (simp only [i64_w, i32_w]; rw [c6b0]) | skip)
   have H' := zA H
   clear H
   go_wp2
   go_meet
   case rel => exact ⟨_, (true), zS, H', ⟨by first | omega | exact Nat.le_refl _⟩, ⟨zH⟩⟩
  rw [if_neg c6] at H
  have c6b0 : decide (4 < (l1.length : Int)) = false := decide_eq_false c6
  have c6b1 : decide (4 < l1.length) = false := decide_eq_false (by omega)
  clear c6
  (first | rw [c6b0] | rw [c6b1] | (simp only [i64_w, i32_w]; rw [c6b0]) | skip)
  have H' := zA H
  clear H
  go_wp2
  go_meet
  case rel => exact ⟨_, (decide ((l2.length : Int) > 4)), zS, H', ⟨by first | omega | exact Nat.le_refl _⟩, ⟨zH⟩⟩
 case rest =>
  clear HC5
  try clear c1
  try clear c2
  try clear p2
  try clear c6
  try clear c6b0
  try clear c6b1
  obtain ⟨kq, x20_4, rfl, HA, HJ4, HB⟩ := hcut
  cases kq with
  | zero => exact absurd HA.out (by simp [credencelaw2_RationalCanonical.j0])
  | succ kj4 =>
   have H := HA.out
   clear HA
   simp only [credencelaw2_RationalCanonical.j0] at H
   by_cases c7 : x20_4 = true
   ·
    subst c7
    have H1 : (some true) = some r := by rw [if_pos rfl] at H; exact H
    clear H
    have H := H1
    clear H1
    obtain rfl := Option.some.inj H
    go_wp2
    go_ret
    exact ⟨zE, zH⟩
   replace c7 := Bool.eq_false_iff.mpr c7
   subst c7
   have H1 : ((credencelaw2_raw.f kj4 a0 l1 l2).bind fun bt653 => ((bignat_FromUint64.f (IntKind.u64.wrap ((IntKind.u64.wrap (a3)) + 1))).bind fun t661 => ((bignat_Mul.f kj4 bt653.2.1 t661).bind fun t664 => ((bignat_Mul.f kj4 bt653.2.2 t661).bind fun t667 => ((rational_Normalize.f kj4 bt653.1 bt653.2.1 bt653.2.2).bind fun bt671 => ((rational_IsCanonical.f kj4 bt671.1 bt671.2.1 bt671.2.2).bind fun t679 => (if t679 = true then ((rational_Normalize.f kj4 a0 t664 t667).bind fun bt680 => ((credencelaw2_same.f kj4 bt680.1 bt680.2.1 bt680.2.2 bt671.1 bt671.2.1 bt671.2.2).bind fun t687 => (if t687 = true then ((rational_Normalize.f kj4 bt671.1 bt671.2.1 bt671.2.2).bind fun bt688 => ((credencelaw2_same.f kj4 bt688.1 bt688.2.1 bt688.2.2 bt671.1 bt671.2.1 bt671.2.2).bind fun t695 => (if t695 = true then ((rational_Mul.f kj4 bt653.1 bt653.2.1 bt653.2.2 a0 t664 t667).bind fun bt696 => ((rational_IsCanonical.f kj4 bt696.1 bt696.2.1 bt696.2.2).bind fun t703 => (if t703 = true then ((rational_Sub.f kj4 bt653.1 bt653.2.1 bt653.2.2 a0 t664 t667).bind fun bt704 => ((rational_IsCanonical.f kj4 bt704.1 bt704.2.1 bt704.2.2).bind fun t711 => (if t711 = true then ((rational_Sub.f kj4 bt653.1 bt653.2.1 bt653.2.2 a0 t664 t667).bind fun bt712 => ((rational_Sign.f kj4 bt712.1 bt712.2.1 bt712.2.2).bind fun t719 => (if t719 = 0 then (if (bt671.2.2.length : Int) > 0 then ((credencelaw2_known.f kj4).bind fun t720 => (some t720)) else (none)) else (none)))) else (none)))) else (none)))) else (none)))) else (none)))) else (none)))))))) = some r := by rw [if_neg (show ¬ (false = true) by decide)] at H; exact H
   clear H
   have H := H1
   clear H1
   obtain ⟨⟨t653, t654, t657⟩, A80, H⟩ := zi H
   replace H : ((bignat_FromUint64.f (IntKind.u64.wrap ((IntKind.u64.wrap (a3)) + 1))).bind fun t661 => ((bignat_Mul.f kj4 t654 t661).bind fun t664 => ((bignat_Mul.f kj4 t657 t661).bind fun t667 => ((rational_Normalize.f kj4 t653 t654 t657).bind fun bt671 => ((rational_IsCanonical.f kj4 bt671.1 bt671.2.1 bt671.2.2).bind fun t679 => (if t679 = true then ((rational_Normalize.f kj4 a0 t664 t667).bind fun bt680 => ((credencelaw2_same.f kj4 bt680.1 bt680.2.1 bt680.2.2 bt671.1 bt671.2.1 bt671.2.2).bind fun t687 => (if t687 = true then ((rational_Normalize.f kj4 bt671.1 bt671.2.1 bt671.2.2).bind fun bt688 => ((credencelaw2_same.f kj4 bt688.1 bt688.2.1 bt688.2.2 bt671.1 bt671.2.1 bt671.2.2).bind fun t695 => (if t695 = true then ((rational_Mul.f kj4 t653 t654 t657 a0 t664 t667).bind fun bt696 => ((rational_IsCanonical.f kj4 bt696.1 bt696.2.1 bt696.2.2).bind fun t703 => (if t703 = true then ((rational_Sub.f kj4 t653 t654 t657 a0 t664 t667).bind fun bt704 => ((rational_IsCanonical.f kj4 bt704.1 bt704.2.1 bt704.2.2).bind fun t711 => (if t711 = true then ((rational_Sub.f kj4 t653 t654 t657 a0 t664 t667).bind fun bt712 => ((rational_Sign.f kj4 bt712.1 bt712.2.1 bt712.2.2).bind fun t719 => (if t719 = 0 then (if (bt671.2.2.length : Int) > 0 then ((credencelaw2_known.f kj4).bind fun t720 => (some t720)) else (none)) else (none)))) else (none)))) else (none)))) else (none)))) else (none)))) else (none))))))) = some r := H
   have A8 := zA A80
   clear A80
   obtain ⟨t661, A90, H⟩ := zi H
   replace H : ((bignat_Mul.f kj4 t654 t661).bind fun t664 => ((bignat_Mul.f kj4 t657 t661).bind fun t667 => ((rational_Normalize.f kj4 t653 t654 t657).bind fun bt671 => ((rational_IsCanonical.f kj4 bt671.1 bt671.2.1 bt671.2.2).bind fun t679 => (if t679 = true then ((rational_Normalize.f kj4 a0 t664 t667).bind fun bt680 => ((credencelaw2_same.f kj4 bt680.1 bt680.2.1 bt680.2.2 bt671.1 bt671.2.1 bt671.2.2).bind fun t687 => (if t687 = true then ((rational_Normalize.f kj4 bt671.1 bt671.2.1 bt671.2.2).bind fun bt688 => ((credencelaw2_same.f kj4 bt688.1 bt688.2.1 bt688.2.2 bt671.1 bt671.2.1 bt671.2.2).bind fun t695 => (if t695 = true then ((rational_Mul.f kj4 t653 t654 t657 a0 t664 t667).bind fun bt696 => ((rational_IsCanonical.f kj4 bt696.1 bt696.2.1 bt696.2.2).bind fun t703 => (if t703 = true then ((rational_Sub.f kj4 t653 t654 t657 a0 t664 t667).bind fun bt704 => ((rational_IsCanonical.f kj4 bt704.1 bt704.2.1 bt704.2.2).bind fun t711 => (if t711 = true then ((rational_Sub.f kj4 t653 t654 t657 a0 t664 t667).bind fun bt712 => ((rational_Sign.f kj4 bt712.1 bt712.2.1 bt712.2.2).bind fun t719 => (if t719 = 0 then (if (bt671.2.2.length : Int) > 0 then ((credencelaw2_known.f kj4).bind fun t720 => (some t720)) else (none)) else (none)))) else (none)))) else (none)))) else (none)))) else (none)))) else (none)))))) = some r := H
   have A9 := zA A90
   clear A90
   obtain ⟨t664, A100, H⟩ := zi H
   replace H : ((bignat_Mul.f kj4 t657 t661).bind fun t667 => ((rational_Normalize.f kj4 t653 t654 t657).bind fun bt671 => ((rational_IsCanonical.f kj4 bt671.1 bt671.2.1 bt671.2.2).bind fun t679 => (if t679 = true then ((rational_Normalize.f kj4 a0 t664 t667).bind fun bt680 => ((credencelaw2_same.f kj4 bt680.1 bt680.2.1 bt680.2.2 bt671.1 bt671.2.1 bt671.2.2).bind fun t687 => (if t687 = true then ((rational_Normalize.f kj4 bt671.1 bt671.2.1 bt671.2.2).bind fun bt688 => ((credencelaw2_same.f kj4 bt688.1 bt688.2.1 bt688.2.2 bt671.1 bt671.2.1 bt671.2.2).bind fun t695 => (if t695 = true then ((rational_Mul.f kj4 t653 t654 t657 a0 t664 t667).bind fun bt696 => ((rational_IsCanonical.f kj4 bt696.1 bt696.2.1 bt696.2.2).bind fun t703 => (if t703 = true then ((rational_Sub.f kj4 t653 t654 t657 a0 t664 t667).bind fun bt704 => ((rational_IsCanonical.f kj4 bt704.1 bt704.2.1 bt704.2.2).bind fun t711 => (if t711 = true then ((rational_Sub.f kj4 t653 t654 t657 a0 t664 t667).bind fun bt712 => ((rational_Sign.f kj4 bt712.1 bt712.2.1 bt712.2.2).bind fun t719 => (if t719 = 0 then (if (bt671.2.2.length : Int) > 0 then ((credencelaw2_known.f kj4).bind fun t720 => (some t720)) else (none)) else (none)))) else (none)))) else (none)))) else (none)))) else (none)))) else (none))))) = some r := H
   have A10 := zA A100
   clear A100
   obtain ⟨t667, A110, H⟩ := zi H
   replace H : ((rational_Normalize.f kj4 t653 t654 t657).bind fun bt671 => ((rational_IsCanonical.f kj4 bt671.1 bt671.2.1 bt671.2.2).bind fun t679 => (if t679 = true then ((rational_Normalize.f kj4 a0 t664 t667).bind fun bt680 => ((credencelaw2_same.f kj4 bt680.1 bt680.2.1 bt680.2.2 bt671.1 bt671.2.1 bt671.2.2).bind fun t687 => (if t687 = true then ((rational_Normalize.f kj4 bt671.1 bt671.2.1 bt671.2.2).bind fun bt688 => ((credencelaw2_same.f kj4 bt688.1 bt688.2.1 bt688.2.2 bt671.1 bt671.2.1 bt671.2.2).bind fun t695 => (if t695 = true then ((rational_Mul.f kj4 t653 t654 t657 a0 t664 t667).bind fun bt696 => ((rational_IsCanonical.f kj4 bt696.1 bt696.2.1 bt696.2.2).bind fun t703 => (if t703 = true then ((rational_Sub.f kj4 t653 t654 t657 a0 t664 t667).bind fun bt704 => ((rational_IsCanonical.f kj4 bt704.1 bt704.2.1 bt704.2.2).bind fun t711 => (if t711 = true then ((rational_Sub.f kj4 t653 t654 t657 a0 t664 t667).bind fun bt712 => ((rational_Sign.f kj4 bt712.1 bt712.2.1 bt712.2.2).bind fun t719 => (if t719 = 0 then (if (bt671.2.2.length : Int) > 0 then ((credencelaw2_known.f kj4).bind fun t720 => (some t720)) else (none)) else (none)))) else (none)))) else (none)))) else (none)))) else (none)))) else (none)))) = some r := H
   have A11 := zA A110
   clear A110
   obtain ⟨⟨t671, t672, t675⟩, A120, H⟩ := zi H
   replace H : ((rational_IsCanonical.f kj4 t671 t672 t675).bind fun t679 => (if t679 = true then ((rational_Normalize.f kj4 a0 t664 t667).bind fun bt680 => ((credencelaw2_same.f kj4 bt680.1 bt680.2.1 bt680.2.2 t671 t672 t675).bind fun t687 => (if t687 = true then ((rational_Normalize.f kj4 t671 t672 t675).bind fun bt688 => ((credencelaw2_same.f kj4 bt688.1 bt688.2.1 bt688.2.2 t671 t672 t675).bind fun t695 => (if t695 = true then ((rational_Mul.f kj4 t653 t654 t657 a0 t664 t667).bind fun bt696 => ((rational_IsCanonical.f kj4 bt696.1 bt696.2.1 bt696.2.2).bind fun t703 => (if t703 = true then ((rational_Sub.f kj4 t653 t654 t657 a0 t664 t667).bind fun bt704 => ((rational_IsCanonical.f kj4 bt704.1 bt704.2.1 bt704.2.2).bind fun t711 => (if t711 = true then ((rational_Sub.f kj4 t653 t654 t657 a0 t664 t667).bind fun bt712 => ((rational_Sign.f kj4 bt712.1 bt712.2.1 bt712.2.2).bind fun t719 => (if t719 = 0 then (if (t675.length : Int) > 0 then ((credencelaw2_known.f kj4).bind fun t720 => (some t720)) else (none)) else (none)))) else (none)))) else (none)))) else (none)))) else (none)))) else (none))) = some r := H
   have A12 := zA A120
   clear A120
   obtain ⟨t679, A130, H⟩ := zi H
   replace H : (if t679 = true then ((rational_Normalize.f kj4 a0 t664 t667).bind fun bt680 => ((credencelaw2_same.f kj4 bt680.1 bt680.2.1 bt680.2.2 t671 t672 t675).bind fun t687 => (if t687 = true then ((rational_Normalize.f kj4 t671 t672 t675).bind fun bt688 => ((credencelaw2_same.f kj4 bt688.1 bt688.2.1 bt688.2.2 t671 t672 t675).bind fun t695 => (if t695 = true then ((rational_Mul.f kj4 t653 t654 t657 a0 t664 t667).bind fun bt696 => ((rational_IsCanonical.f kj4 bt696.1 bt696.2.1 bt696.2.2).bind fun t703 => (if t703 = true then ((rational_Sub.f kj4 t653 t654 t657 a0 t664 t667).bind fun bt704 => ((rational_IsCanonical.f kj4 bt704.1 bt704.2.1 bt704.2.2).bind fun t711 => (if t711 = true then ((rational_Sub.f kj4 t653 t654 t657 a0 t664 t667).bind fun bt712 => ((rational_Sign.f kj4 bt712.1 bt712.2.1 bt712.2.2).bind fun t719 => (if t719 = 0 then (if (t675.length : Int) > 0 then ((credencelaw2_known.f kj4).bind fun t720 => (some t720)) else (none)) else (none)))) else (none)))) else (none)))) else (none)))) else (none)))) else (none)) = some r := H
   have A13 := zA A130
   clear A130
   by_cases c14 : t679 = true
   ·
    subst c14
    have H1 : ((rational_Normalize.f kj4 a0 t664 t667).bind fun bt680 => ((credencelaw2_same.f kj4 bt680.1 bt680.2.1 bt680.2.2 t671 t672 t675).bind fun t687 => (if t687 = true then ((rational_Normalize.f kj4 t671 t672 t675).bind fun bt688 => ((credencelaw2_same.f kj4 bt688.1 bt688.2.1 bt688.2.2 t671 t672 t675).bind fun t695 => (if t695 = true then ((rational_Mul.f kj4 t653 t654 t657 a0 t664 t667).bind fun bt696 => ((rational_IsCanonical.f kj4 bt696.1 bt696.2.1 bt696.2.2).bind fun t703 => (if t703 = true then ((rational_Sub.f kj4 t653 t654 t657 a0 t664 t667).bind fun bt704 => ((rational_IsCanonical.f kj4 bt704.1 bt704.2.1 bt704.2.2).bind fun t711 => (if t711 = true then ((rational_Sub.f kj4 t653 t654 t657 a0 t664 t667).bind fun bt712 => ((rational_Sign.f kj4 bt712.1 bt712.2.1 bt712.2.2).bind fun t719 => (if t719 = 0 then (if (t675.length : Int) > 0 then ((credencelaw2_known.f kj4).bind fun t720 => (some t720)) else (none)) else (none)))) else (none)))) else (none)))) else (none)))) else (none)))) = some r := by rw [if_pos rfl] at H; exact H
    clear H
    have H := H1
    clear H1
    obtain ⟨⟨t680, t681, t684⟩, A150, H⟩ := zi H
    replace H : ((credencelaw2_same.f kj4 t680 t681 t684 t671 t672 t675).bind fun t687 => (if t687 = true then ((rational_Normalize.f kj4 t671 t672 t675).bind fun bt688 => ((credencelaw2_same.f kj4 bt688.1 bt688.2.1 bt688.2.2 t671 t672 t675).bind fun t695 => (if t695 = true then ((rational_Mul.f kj4 t653 t654 t657 a0 t664 t667).bind fun bt696 => ((rational_IsCanonical.f kj4 bt696.1 bt696.2.1 bt696.2.2).bind fun t703 => (if t703 = true then ((rational_Sub.f kj4 t653 t654 t657 a0 t664 t667).bind fun bt704 => ((rational_IsCanonical.f kj4 bt704.1 bt704.2.1 bt704.2.2).bind fun t711 => (if t711 = true then ((rational_Sub.f kj4 t653 t654 t657 a0 t664 t667).bind fun bt712 => ((rational_Sign.f kj4 bt712.1 bt712.2.1 bt712.2.2).bind fun t719 => (if t719 = 0 then (if (t675.length : Int) > 0 then ((credencelaw2_known.f kj4).bind fun t720 => (some t720)) else (none)) else (none)))) else (none)))) else (none)))) else (none)))) else (none))) = some r := H
    have A15 := zA A150
    clear A150
    obtain ⟨t687, A160, H⟩ := zi H
    replace H : (if t687 = true then ((rational_Normalize.f kj4 t671 t672 t675).bind fun bt688 => ((credencelaw2_same.f kj4 bt688.1 bt688.2.1 bt688.2.2 t671 t672 t675).bind fun t695 => (if t695 = true then ((rational_Mul.f kj4 t653 t654 t657 a0 t664 t667).bind fun bt696 => ((rational_IsCanonical.f kj4 bt696.1 bt696.2.1 bt696.2.2).bind fun t703 => (if t703 = true then ((rational_Sub.f kj4 t653 t654 t657 a0 t664 t667).bind fun bt704 => ((rational_IsCanonical.f kj4 bt704.1 bt704.2.1 bt704.2.2).bind fun t711 => (if t711 = true then ((rational_Sub.f kj4 t653 t654 t657 a0 t664 t667).bind fun bt712 => ((rational_Sign.f kj4 bt712.1 bt712.2.1 bt712.2.2).bind fun t719 => (if t719 = 0 then (if (t675.length : Int) > 0 then ((credencelaw2_known.f kj4).bind fun t720 => (some t720)) else (none)) else (none)))) else (none)))) else (none)))) else (none)))) else (none)) = some r := H
    have A16 := zA A160
    clear A160
    by_cases c17 : t687 = true
    ·
     subst c17
     have H1 : ((rational_Normalize.f kj4 t671 t672 t675).bind fun bt688 => ((credencelaw2_same.f kj4 bt688.1 bt688.2.1 bt688.2.2 t671 t672 t675).bind fun t695 => (if t695 = true then ((rational_Mul.f kj4 t653 t654 t657 a0 t664 t667).bind fun bt696 => ((rational_IsCanonical.f kj4 bt696.1 bt696.2.1 bt696.2.2).bind fun t703 => (if t703 = true then ((rational_Sub.f kj4 t653 t654 t657 a0 t664 t667).bind fun bt704 => ((rational_IsCanonical.f kj4 bt704.1 bt704.2.1 bt704.2.2).bind fun t711 => (if t711 = true then ((rational_Sub.f kj4 t653 t654 t657 a0 t664 t667).bind fun bt712 => ((rational_Sign.f kj4 bt712.1 bt712.2.1 bt712.2.2).bind fun t719 => (if t719 = 0 then (if (t675.length : Int) > 0 then ((credencelaw2_known.f kj4).bind fun t720 => (some t720)) else (none)) else (none)))) else (none)))) else (none)))) else (none)))) = some r := by rw [if_pos rfl] at H; exact H
     clear H
     have H := H1
     clear H1
     obtain ⟨⟨t688, t689, t692⟩, A180, H⟩ := zi H
     replace H : ((credencelaw2_same.f kj4 t688 t689 t692 t671 t672 t675).bind fun t695 => (if t695 = true then ((rational_Mul.f kj4 t653 t654 t657 a0 t664 t667).bind fun bt696 => ((rational_IsCanonical.f kj4 bt696.1 bt696.2.1 bt696.2.2).bind fun t703 => (if t703 = true then ((rational_Sub.f kj4 t653 t654 t657 a0 t664 t667).bind fun bt704 => ((rational_IsCanonical.f kj4 bt704.1 bt704.2.1 bt704.2.2).bind fun t711 => (if t711 = true then ((rational_Sub.f kj4 t653 t654 t657 a0 t664 t667).bind fun bt712 => ((rational_Sign.f kj4 bt712.1 bt712.2.1 bt712.2.2).bind fun t719 => (if t719 = 0 then (if (t675.length : Int) > 0 then ((credencelaw2_known.f kj4).bind fun t720 => (some t720)) else (none)) else (none)))) else (none)))) else (none)))) else (none))) = some r := H
     have A18 := zA A180
     clear A180
     obtain ⟨t695, A190, H⟩ := zi H
     replace H : (if t695 = true then ((rational_Mul.f kj4 t653 t654 t657 a0 t664 t667).bind fun bt696 => ((rational_IsCanonical.f kj4 bt696.1 bt696.2.1 bt696.2.2).bind fun t703 => (if t703 = true then ((rational_Sub.f kj4 t653 t654 t657 a0 t664 t667).bind fun bt704 => ((rational_IsCanonical.f kj4 bt704.1 bt704.2.1 bt704.2.2).bind fun t711 => (if t711 = true then ((rational_Sub.f kj4 t653 t654 t657 a0 t664 t667).bind fun bt712 => ((rational_Sign.f kj4 bt712.1 bt712.2.1 bt712.2.2).bind fun t719 => (if t719 = 0 then (if (t675.length : Int) > 0 then ((credencelaw2_known.f kj4).bind fun t720 => (some t720)) else (none)) else (none)))) else (none)))) else (none)))) else (none)) = some r := H
     have A19 := zA A190
     clear A190
     by_cases c20 : t695 = true
     ·
      subst c20
      have H1 : ((rational_Mul.f kj4 t653 t654 t657 a0 t664 t667).bind fun bt696 => ((rational_IsCanonical.f kj4 bt696.1 bt696.2.1 bt696.2.2).bind fun t703 => (if t703 = true then ((rational_Sub.f kj4 t653 t654 t657 a0 t664 t667).bind fun bt704 => ((rational_IsCanonical.f kj4 bt704.1 bt704.2.1 bt704.2.2).bind fun t711 => (if t711 = true then ((rational_Sub.f kj4 t653 t654 t657 a0 t664 t667).bind fun bt712 => ((rational_Sign.f kj4 bt712.1 bt712.2.1 bt712.2.2).bind fun t719 => (if t719 = 0 then (if (t675.length : Int) > 0 then ((credencelaw2_known.f kj4).bind fun t720 => (some t720)) else (none)) else (none)))) else (none)))) else (none)))) = some r := by rw [if_pos rfl] at H; exact H
      clear H
      have H := H1
      clear H1
      obtain ⟨⟨t696, t697, t700⟩, A210, H⟩ := zi H
      replace H : ((rational_IsCanonical.f kj4 t696 t697 t700).bind fun t703 => (if t703 = true then ((rational_Sub.f kj4 t653 t654 t657 a0 t664 t667).bind fun bt704 => ((rational_IsCanonical.f kj4 bt704.1 bt704.2.1 bt704.2.2).bind fun t711 => (if t711 = true then ((rational_Sub.f kj4 t653 t654 t657 a0 t664 t667).bind fun bt712 => ((rational_Sign.f kj4 bt712.1 bt712.2.1 bt712.2.2).bind fun t719 => (if t719 = 0 then (if (t675.length : Int) > 0 then ((credencelaw2_known.f kj4).bind fun t720 => (some t720)) else (none)) else (none)))) else (none)))) else (none))) = some r := H
      have A21 := zA A210
      clear A210
      obtain ⟨t703, A220, H⟩ := zi H
      replace H : (if t703 = true then ((rational_Sub.f kj4 t653 t654 t657 a0 t664 t667).bind fun bt704 => ((rational_IsCanonical.f kj4 bt704.1 bt704.2.1 bt704.2.2).bind fun t711 => (if t711 = true then ((rational_Sub.f kj4 t653 t654 t657 a0 t664 t667).bind fun bt712 => ((rational_Sign.f kj4 bt712.1 bt712.2.1 bt712.2.2).bind fun t719 => (if t719 = 0 then (if (t675.length : Int) > 0 then ((credencelaw2_known.f kj4).bind fun t720 => (some t720)) else (none)) else (none)))) else (none)))) else (none)) = some r := H
      have A22 := zA A220
      clear A220
      by_cases c23 : t703 = true
      ·
       subst c23
       have H1 : ((rational_Sub.f kj4 t653 t654 t657 a0 t664 t667).bind fun bt704 => ((rational_IsCanonical.f kj4 bt704.1 bt704.2.1 bt704.2.2).bind fun t711 => (if t711 = true then ((rational_Sub.f kj4 t653 t654 t657 a0 t664 t667).bind fun bt712 => ((rational_Sign.f kj4 bt712.1 bt712.2.1 bt712.2.2).bind fun t719 => (if t719 = 0 then (if (t675.length : Int) > 0 then ((credencelaw2_known.f kj4).bind fun t720 => (some t720)) else (none)) else (none)))) else (none)))) = some r := by rw [if_pos rfl] at H; exact H
       clear H
       have H := H1
       clear H1
       obtain ⟨⟨t704, t705, t708⟩, A240, H⟩ := zi H
       replace H : ((rational_IsCanonical.f kj4 t704 t705 t708).bind fun t711 => (if t711 = true then ((rational_Sub.f kj4 t653 t654 t657 a0 t664 t667).bind fun bt712 => ((rational_Sign.f kj4 bt712.1 bt712.2.1 bt712.2.2).bind fun t719 => (if t719 = 0 then (if (t675.length : Int) > 0 then ((credencelaw2_known.f kj4).bind fun t720 => (some t720)) else (none)) else (none)))) else (none))) = some r := H
       have A24 := zA A240
       clear A240
       obtain ⟨t711, A250, H⟩ := zi H
       replace H : (if t711 = true then ((rational_Sub.f kj4 t653 t654 t657 a0 t664 t667).bind fun bt712 => ((rational_Sign.f kj4 bt712.1 bt712.2.1 bt712.2.2).bind fun t719 => (if t719 = 0 then (if (t675.length : Int) > 0 then ((credencelaw2_known.f kj4).bind fun t720 => (some t720)) else (none)) else (none)))) else (none)) = some r := H
       have A25 := zA A250
       clear A250
       by_cases c26 : t711 = true
       ·
        subst c26
        have H1 : ((rational_Sub.f kj4 t653 t654 t657 a0 t664 t667).bind fun bt712 => ((rational_Sign.f kj4 bt712.1 bt712.2.1 bt712.2.2).bind fun t719 => (if t719 = 0 then (if (t675.length : Int) > 0 then ((credencelaw2_known.f kj4).bind fun t720 => (some t720)) else (none)) else (none)))) = some r := by rw [if_pos rfl] at H; exact H
        clear H
        have H := H1
        clear H1
        obtain ⟨⟨t712, t713, t716⟩, A270, H⟩ := zi H
        replace H : ((rational_Sign.f kj4 t712 t713 t716).bind fun t719 => (if t719 = 0 then (if (t675.length : Int) > 0 then ((credencelaw2_known.f kj4).bind fun t720 => (some t720)) else (none)) else (none))) = some r := H
        have A27 := zA A270
        clear A270
        obtain ⟨t719, A280, H⟩ := zi H
        replace H : (if t719 = 0 then (if (t675.length : Int) > 0 then ((credencelaw2_known.f kj4).bind fun t720 => (some t720)) else (none)) else (none)) = some r := H
        have A28 := zA A280
        clear A280
        by_cases c29 : t719 = 0
        ·
         rw [if_pos c29] at H
         have c29b0 := beq_iff_eq.mpr c29
         have c29b1 := bne_eq_false_iff_eq.mpr c29
         clear c29
         by_cases c30 : (t675.length : Int) > 0
         ·
          rw [if_pos c30] at H
          have c30b0 : decide (0 < (t675.length : Int)) = true := decide_eq_true c30
          have c30b1 : decide (0 < t675.length) = true := decide_eq_true (by omega)
          clear c30
          obtain ⟨t720, A310, H⟩ := zi H
          replace H : (some t720) = some r := H
          have A31 := zA A310
          clear A310
          obtain rfl := Option.some.inj H
          try go_wp2_with (first | ((with_reducible refine gate_callee (f := 15) rfl ?_); refine goesL_ (some 24) rfl rfl Tryd.func15 zk rfl #[.bool a0, .slice A1 l1.length c1, .slice A2 l2.length c2] rfl zX ?_; (with_reducible refine (credencelaw2_raw.calls kj4 a0 _ _ l1 _ _ l2 t653 t654 t657 _ ?side1 ?side2 ?side3 ?side4 A8.out).mono ?_); (case side1 => exact zC (Kd.C_below HR1.out HB.out)); (case side2 => exact HC1.out); (case side3 => exact zC (Kd.C_below HR2.out HB.out)); (case side4 => exact HC2.out); rintro e w32 ⟨v655, v658, rfl, ho0, ho1, hb⟩; refine ⟨_, rfl, ?_⟩; have HO656 := zA (Kd.R_lower ho0 (below_size (zb HB rfl))); have HO659 := zA (Kd.R_lower ho1 (below_size (zb HB rfl))); replace HB := zbb HB hb rfl) | ((with_reducible refine gate_dst (N := 9) rfl ?_); (try (refine gate_guard (by rfl) ?_; dsimp only)); refine box_event ?hg (N := 9) ?hd (cs := #[.bool false, .slice none 0 0, .slice none 0 0]) (t := 25) ?hr ?_; (case hd => rfl); (case hg => rfl); (case hr => first | (go_simp; done) | (go_simp; rfl)); intro gb660 hg w33 hbox hb; replace HO656 := zrb HO656 hb rfl; replace HO659 := zrb HO659 hb rfl; have BK660 := zA (hbox); have GW660 := zA ((by rw [hg]; exact (below_size (zb HB rfl)) : w.heap.size ≤ gb660)); have GE660 := zA ((by rw [hg]; exact (below_size (zb HB rfl)) : w.heap.size ≤ gb660)); replace HB := zbb HB hb rfl; clear hb hbox hg; have hcz34_0 := zc BK660 0 (v := .bool false) rfl; have hcz34_1 := zc BK660 1 (v := .slice none 0 0) rfl; have hcz34_2 := zc BK660 2 (v := .slice none 0 0) rfl; have hfz34_0 := zF BK660 0; have hfz34_1 := zF BK660 1; have hfz34_2 := zF BK660 2; obtain ⟨Ao35, co35, eo35⟩ := Kd.R_slice HO656.out; subst eo35; obtain ⟨Ao36, co36, eo36⟩ := Kd.R_slice HO659.out; subst eo36) | ((with_reducible refine gate_callee (f := 22) rfl ?_); refine goesL_ (some 28) rfl rfl Tryd.func22 zk rfl #[.int .u64 (IntKind.u64.wrap ((IntKind.u64.wrap (a3)) + 1))] rfl zX ?_; (with_reducible refine (bignat_FromUint64.calls (IntKind.u64.wrap ((IntKind.u64.wrap (a3)) + 1)) t661 _ A9.out).mono ?_); rintro e w37 ⟨v662, rfl, ho0, hb⟩; refine ⟨_, rfl, ?_⟩; have HO663 := zA (Kd.R_lower (Kd.R_new' (Kd.R_new' ho0 (Kd.R_lt (zR ((Kd.R_mono (Kd.R_far (p := ⟨gb660, 2, none⟩) (Kd.R_far (p := ⟨gb660, 1, none⟩) (Kd.R_far (p := ⟨gb660, 0, none⟩) (Kd.R_types HO656.out BK660.out (by decide)) (fun _ hk => hk.2) (.bool t653)) (fun _ hk => hk.2) (.slice Ao35 t654.length co35)) (fun _ hk => hk.2) (.slice Ao36 t657.length co36)) (fun _ h_ => h_.1)))))) (Kd.R_lt (zR ((Kd.R_mono (Kd.R_far (p := ⟨gb660, 2, none⟩) (Kd.R_far (p := ⟨gb660, 1, none⟩) (Kd.R_far (p := ⟨gb660, 0, none⟩) (Kd.R_types HO659.out BK660.out (by decide)) (fun _ hk => hk.2) (.bool t653)) (fun _ hk => hk.2) (.slice Ao35 t654.length co35)) (fun _ hk => hk.2) (.slice Ao36 t657.length co36)) (fun _ h_ => h_.1)))))) (below_size (zG1 GE660.out))); replace HO656 := zA (Kd.R_elder' (zR ((Kd.R_mono (Kd.R_far (p := ⟨gb660, 2, none⟩) (Kd.R_far (p := ⟨gb660, 1, none⟩) (Kd.R_far (p := ⟨gb660, 0, none⟩) (Kd.R_types HO656.out BK660.out (by decide)) (fun _ hk => hk.2) (.bool t653)) (fun _ hk => hk.2) (.slice Ao35 t654.length co35)) (fun _ hk => hk.2) (.slice Ao36 t657.length co36)) (fun _ h_ => h_.1)))) (Kd.R_base ho0) hb); replace HO659 := zA (Kd.R_elder' (zR ((Kd.R_mono (Kd.R_far (p := ⟨gb660, 2, none⟩) (Kd.R_far (p := ⟨gb660, 1, none⟩) (Kd.R_far (p := ⟨gb660, 0, none⟩) (Kd.R_types HO659.out BK660.out (by decide)) (fun _ hk => hk.2) (.bool t653)) (fun _ hk => hk.2) (.slice Ao35 t654.length co35)) (fun _ hk => hk.2) (.slice Ao36 t657.length co36)) (fun _ h_ => h_.1)))) (Kd.R_base ho0) hb); replace BK660 := zA (blk_below (g := gb660) (o := .cells #[.bool t653, .slice Ao35 t654.length co35, .slice Ao36 t657.length co36] 25 (0, 0)) (by (with_reducible repeat (first | refine blk_drewN ?_ _ | refine blk_drew ?_ | refine blk_alloc ?_ _)); refine blk_put (cs := #[.bool t653, .slice Ao35 t654.length co35, .slice none 0 0]) ?_ 2 _ rfl; (with_reducible repeat (first | refine blk_drewN ?_ _ | refine blk_drew ?_ | refine blk_alloc ?_ _)); refine blk_put (cs := #[.bool t653, .slice none 0 0, .slice none 0 0]) ?_ 1 _ rfl; (with_reducible repeat (first | refine blk_drewN ?_ _ | refine blk_drew ?_ | refine blk_alloc ?_ _)); refine blk_put (cs := #[.bool false, .slice none 0 0, .slice none 0 0]) ?_ 0 _ rfl; (with_reducible repeat (first | refine blk_drewN ?_ _ | refine blk_drew ?_ | refine blk_alloc ?_ _)); exact BK660.out) hb); replace HB := zA (below_step (zG1 GE660.out) hb); obtain ⟨Ao38, co38, eo38⟩ := Kd.R_slice HO663.out; subst eo38))
          replace HO656 := zA (Kd.R_drew HO656.out)
          replace HO659 := zA (Kd.R_drew HO659.out)
          replace HO663 := zA (Kd.R_drew HO663.out)
          replace BK660 := zA (blk_drew BK660.out)
          replace HB := zA (below_drew1 HB.out)
          refine start_ (n := 12) (S := fun w' => w'.cell? ⟨gb660, 0, none⟩ = some (.bool t653) ∧ w'.cell? ⟨gb660, 1, none⟩ = some (.slice Ao35 t654.length co35) ∧ w'.cell? ⟨gb660, 2, none⟩ = some (.slice Ao36 t657.length co36)) (ds := []) #[false, false, false, false, false, false, false, false, false, false, false, false] zk rfl rfl ⟨zc BK660 0 rfl, zc BK660 1 rfl, zc BK660 2 rfl⟩ (fun hHeld => ?_); refine with_tabW credencelaw2_RationalCanonical.tab5 credencelaw2_RationalCanonical.bits5 (fun HT_ HW_ => ?_)
          generalize w37.drew = w39 at HO656 HO659 HO663 BK660 HB hHeld ⊢
          refine zp 0 29 HT_ ?_
          refine zp 1 30 HT_ ?_
          refine zp 3 32 HT_ ?_
          refine zp 5 34 HT_ ?_
          refine zp 7 36 HT_ ?_
          refine take_ (i := 2) (N := some 31) (v := ?_) (a' := ?_) #[true, true, true, true, false, true, false, true, false, false, false, false] rfl rfl (take_ofW HT_.out HW_.out zk) (fun _ _ _ h => h) (Or.inl ⟨by rfl, ?_⟩) hHeld ?_ ?_
          rotate_left
          ·
           rintro w' ⟨s0, s1, s2⟩
           go_simp
           with_reducible rfl
          rotate_left
          ·
           simp only [Act.put, List.setIfInBounds_toArray, List.set_cons_zero, List.set_cons_succ, i64_w, i32_w]
           rfl
          refine take_ (i := 6) (N := some 35) (v := ?_) (a' := ?_) #[true, true, true, true, false, true, true, true, false, false, false, false] rfl rfl (take_ofW HT_.out HW_.out zk) (fun _ _ _ h => h) (Or.inl ⟨by rfl, ?_⟩) hHeld ?_ ?_
          rotate_left
          ·
           rintro w' ⟨s0, s1, s2⟩
           go_simp
           with_reducible rfl
          rotate_left
          ·
           simp only [Act.put, List.setIfInBounds_toArray, List.set_cons_zero, List.set_cons_succ, i64_w, i32_w]
           rfl
          refine join_ (σ := Value × Value × Nat) 1 #[true, true, true, true, true, true, true, true, true, true, true, false] (fun s_ => [(33, s_.1), (37, s_.2.1), (11, .pointer (some ⟨s_.2.2, 0, none⟩)), (38, .agg #[.bool a0, s_.1, s_.2.1])]) (fun s_ w' => (w'.cell? ⟨gb660, 0, none⟩ = some (.bool t653) ∧ w'.cell? ⟨gb660, 1, none⟩ = some (.slice Ao35 t654.length co35) ∧ w'.cell? ⟨gb660, 2, none⟩ = some (.slice Ao36 t657.length co36)) ∧ (Kd.R (Kd.int .u32) 37 w' w.heap.size (fun k_ => some k_ ≠ (.slice Ao36 t657.length co36 : Value).ownBlock ∧ some k_ ≠ (.slice Ao38 t661.length co38 : Value).ownBlock ∧ some k_ ≠ (s_.1 : Value).ownBlock ∧ some k_ ≠ (s_.2.1 : Value).ownBlock) (.slice Ao35 t654.length co35) t654) ∧ (Kd.R (Kd.int .u32) 37 w' w.heap.size (fun k_ => some k_ ≠ (.slice Ao35 t654.length co35 : Value).ownBlock ∧ some k_ ≠ (.slice Ao38 t661.length co38 : Value).ownBlock ∧ some k_ ≠ (s_.1 : Value).ownBlock ∧ some k_ ≠ (s_.2.1 : Value).ownBlock) (.slice Ao36 t657.length co36) t657) ∧ (Kd.R (Kd.int .u32) 37 w' w.heap.size (fun k_ => some k_ ≠ (.slice Ao35 t654.length co35 : Value).ownBlock ∧ some k_ ≠ (.slice Ao36 t657.length co36 : Value).ownBlock ∧ some k_ ≠ (s_.1 : Value).ownBlock ∧ some k_ ≠ (s_.2.1 : Value).ownBlock) (.slice Ao38 t661.length co38) t661) ∧ (Kd.R (Kd.int .u32) 37 w' w.heap.size (fun k_ => some k_ ≠ (.slice Ao35 t654.length co35 : Value).ownBlock ∧ some k_ ≠ (.slice Ao36 t657.length co36 : Value).ownBlock ∧ some k_ ≠ (.slice Ao38 t661.length co38 : Value).ownBlock ∧ some k_ ≠ (s_.2.1 : Value).ownBlock) s_.1 t664) ∧ (Kd.R (Kd.int .u32) 37 w' w.heap.size (fun k_ => some k_ ≠ (.slice Ao35 t654.length co35 : Value).ownBlock ∧ some k_ ≠ (.slice Ao36 t657.length co36 : Value).ownBlock ∧ some k_ ≠ (.slice Ao38 t661.length co38 : Value).ownBlock ∧ some k_ ≠ (s_.1 : Value).ownBlock) s_.2.1 t667) ∧ (w'.heap[gb660]? = some (.cells #[.bool t653, .slice Ao35 t654.length co35, .slice Ao36 t657.length co36] 25 (0, 0))) ∧ (w'.heap[s_.2.2]? = some (.cells #[.bool false, .slice none 0 0, .slice none 0 0] 25 (0, 0))) ∧ (w.heap.size ≤ s_.2.2) ∧ (w.heap.size ≤ s_.2.2) ∧ (gb660 ≠ s_.2.2) ∧ (s_.2.2 ≠ gb660) ∧ (Below w.heap.size w w')) ?_ ?_
          rotate_left
          ·
           intro hCont
           refine two_ (i := 4) (j := 10) (Ni := some 33) (Nj := some 11) #[true, true, true, true, true, true, true, true, false, false, false, false] #[true, true, true, true, false, true, true, true, false, false, true, false] rfl rfl rfl rfl (two_of HT_.out zk) (by decide) (by decide) (fun K hK => ?_) (fun K hK => ?_)
           ·
            skip
            refine goes_ Tryd.func33 zk rfl #[.slice Ao35 t654.length co35, .slice Ao38 t661.length co38] (by rfl) rfl rfl zX ?_
            with_reducible refine (bignat_Mul.calls kj4 _ _ t654 _ _ t661 t664 _ ?side1 ?side2 ?side3 ?side4 A10.out).mono ?_
            (case side1 => exact zC (Kd.R_reads' HO656.out).2.2)
            (case side2 => exact (Kd.R_reads' HO656.out).2.1)
            (case side3 => exact zC (Kd.R_reads' HO663.out).2.2)
            (case side4 => exact (Kd.R_reads' HO663.out).2.1)
            rintro e w40 ⟨v665, rfl, ho0, hb⟩
            refine ⟨_, rfl, ?_⟩
            have HO666 := zA (Kd.R_lower (Kd.R_new' (Kd.R_new' (Kd.R_new' ho0 (Kd.R_lt (zr HO656 rfl))) (Kd.R_lt (zr HO659 rfl))) (Kd.R_lt (zr HO663 rfl))) (below_size (zb HB rfl)))
            replace HO656 := zA (Kd.R_elder' (zr HO656 rfl) (Kd.R_base ho0) hb)
            replace HO659 := zA (Kd.R_elder' (zr HO659 rfl) (Kd.R_base ho0) hb)
            replace HO663 := zA (Kd.R_elder' (zr HO663 rfl) (Kd.R_base ho0) hb)
            replace BK660 := zkb BK660 hb
            replace HB := zbb HB hb rfl
            refine hK.out _ _ ⟨zc BK660 0 rfl, zc BK660 1 rfl, zc BK660 2 rfl⟩ (fun hHeld => ?_)
            clear hK K
            refine norm_ (a' := ?_) ?_ ?_
            rotate_left
            ·
             show Act.put _ (some 33) _ = _
             simp only [Act.put, List.setIfInBounds_toArray, List.set_cons_zero, List.set_cons_succ, i64_w, i32_w]
             rfl
            refine two_ (i := 8) (j := 10) (Ni := some 37) (Nj := some 11) #[true, true, true, true, true, true, true, true, true, false, false, false] #[true, true, true, true, true, true, true, true, false, false, true, false] rfl rfl rfl rfl (two_of HT_.out zk) (by decide) (by decide) (fun K hK => ?_) (fun K hK => ?_)
            ·
             skip
             refine goes_ Tryd.func33 zk rfl #[.slice Ao36 t657.length co36, .slice Ao38 t661.length co38] (by rfl) rfl rfl zX ?_
             with_reducible refine (bignat_Mul.calls kj4 _ _ t657 _ _ t661 t667 _ ?side1 ?side2 ?side3 ?side4 A11.out).mono ?_
             (case side1 => exact zC (Kd.R_reads' HO659.out).2.2)
             (case side2 => exact (Kd.R_reads' HO659.out).2.1)
             (case side3 => exact zC (Kd.R_reads' HO663.out).2.2)
             (case side4 => exact (Kd.R_reads' HO663.out).2.1)
             rintro e w41 ⟨v668, rfl, ho0, hb⟩
             refine ⟨_, rfl, ?_⟩
             have HO669 := zA (Kd.R_lower (Kd.R_new' (Kd.R_new' (Kd.R_new' (Kd.R_new' ho0 (Kd.R_lt (zr HO656 rfl))) (Kd.R_lt (zr HO659 rfl))) (Kd.R_lt (zr HO663 rfl))) (Kd.R_lt (zr HO666 rfl))) (below_size (zb HB rfl)))
             replace HO656 := zA (Kd.R_elder' (zr HO656 rfl) (Kd.R_base ho0) hb)
             replace HO659 := zA (Kd.R_elder' (zr HO659 rfl) (Kd.R_base ho0) hb)
             replace HO663 := zA (Kd.R_elder' (zr HO663 rfl) (Kd.R_base ho0) hb)
             replace HO666 := zA (Kd.R_elder' (zr HO666 rfl) (Kd.R_base ho0) hb)
             replace BK660 := zkb BK660 hb
             replace HB := zbb HB hb rfl
             obtain ⟨Ao42, co42, eo42⟩ := Kd.R_slice HO669.out
             (first | subst eo42 | (injection eo42 with f1_ f2_ f3_; have f4_ := f1_.symm; have f5_ := f3_.symm; clear f1_ f2_ f3_; subst f4_; subst f5_))
             obtain ⟨Ao43, co43, eo43⟩ := Kd.R_slice HO666.out
             (first | subst eo43 | (injection eo43 with f1_ f2_ f3_; have f4_ := f1_.symm; have f5_ := f3_.symm; clear f1_ f2_ f3_; subst f4_; subst f5_))
             refine hK.out _ _ ⟨zc BK660 0 rfl, zc BK660 1 rfl, zc BK660 2 rfl⟩ (fun hHeld => ?_)
             clear hK K
             refine norm_ (a' := ?_) ?_ ?_
             rotate_left
             ·
              show Act.put _ (some 37) _ = _
              simp only [Act.put, List.setIfInBounds_toArray, List.set_cons_zero, List.set_cons_succ, i64_w, i32_w]
              rfl
             refine zp 9 38 HT_ ?_
             refine one_ (i := 10) (N := some 11) #[true, true, true, true, true, true, true, true, true, true, true, false] rfl rfl (one_of HT_.out zk) (by decide) (fun K hK => ?_)
             refine box_step ?hg (N := 11) ?hd (cs := #[.bool false, .slice none 0 0, .slice none 0 0]) (t := 25) ?hr ?_; (case hd => rfl); (case hg => rfl); (case hr => first | (go_simp; done) | (go_simp; rfl))
             intro gb670 hg w44 hbox hb
             replace HO656 := zrb HO656 hb rfl
             replace HO659 := zrb HO659 hb rfl
             replace HO663 := zrb HO663 hb rfl
             replace HO666 := zrb HO666 hb rfl
             replace HO669 := zrb HO669 hb rfl
             have BK670 := zA (hbox)
             have GW670 := zA ((by rw [hg]; exact (below_size (zG1 GE660.out)) : w.heap.size ≤ gb670))
             have GE670 := zA ((by rw [hg]; exact (below_size (zG1 GE660.out)) : w.heap.size ≤ gb670))
             replace HB := zbb HB hb rfl
             have NB660_670 := zA ((by rw [hg]; exact Nat.ne_of_lt (blk_lt (zB BK660.out)) : gb660 ≠ gb670))
             have NB670_660 := zA ((by rw [hg]; exact Nat.ne_of_gt (blk_lt (zB BK660.out)) : gb670 ≠ gb660))
             replace BK660 := zkb BK660 hb
             clear hb hbox hg
             refine hK.out _ _ ⟨zc BK660 0 rfl, zc BK660 1 rfl, zc BK660 2 rfl⟩ (fun hHeld => ?_)
             clear hK K
             refine norm_ (a' := ?_) ?_ ?_
             rotate_left
             ·
              show Act.put _ (some 11) _ = _
              simp only [Act.put, List.setIfInBounds_toArray, List.set_cons_zero, List.set_cons_succ, i64_w, i32_w]
              rfl
             exact norm_ (by simp only [putAll, Act.put, List.setIfInBounds_toArray, List.set_cons_zero, List.set_cons_succ]) (hCont (.slice Ao43 t664.length co43, .slice Ao42 t667.length co42, gb670) _ ⟨hHeld, (zRM HO656.out (fun _ hk => ⟨hk.1.1.1, ⟨hk.1.1.2, ⟨hk.1.2, hk.2⟩⟩⟩)), (zRM HO659.out (fun _ hk => ⟨hk.1.1.1, ⟨hk.1.1.2, ⟨hk.1.2, hk.2⟩⟩⟩)), (zRM HO663.out (fun _ hk => ⟨hk.1.1.1.2, ⟨hk.1.1.2, ⟨hk.1.2, hk.2⟩⟩⟩)), (zRM HO666.out (fun _ hk => ⟨hk.1.1.1.2, ⟨hk.1.1.2, ⟨hk.1.2, hk.2⟩⟩⟩)), (zRM HO669.out (fun _ hk => ⟨hk.1.1.1.2, ⟨hk.1.1.2, ⟨hk.1.2, hk.2⟩⟩⟩)), BK660.out, BK670.out, GW670.out, GE670.out, NB660_670.out, NB670_660.out, (zb HB rfl)⟩)
            skip
            refine box_step ?hg (N := 11) ?hd (cs := #[.bool false, .slice none 0 0, .slice none 0 0]) (t := 25) ?hr ?_; (case hd => rfl); (case hg => rfl); (case hr => first | (go_simp; done) | (go_simp; rfl))
            intro gb670 hg w41 hbox hb
            replace HO656 := zrb HO656 hb rfl
            replace HO659 := zrb HO659 hb rfl
            replace HO663 := zrb HO663 hb rfl
            replace HO666 := zrb HO666 hb rfl
            have BK670 := zA (hbox)
            have GW670 := zA ((by rw [hg]; exact (below_size (zG1 GE660.out)) : w.heap.size ≤ gb670))
            have GE670 := zA ((by rw [hg]; exact (below_size (zG1 GE660.out)) : w.heap.size ≤ gb670))
            replace HB := zbb HB hb rfl
            have NB660_670 := zA ((by rw [hg]; exact Nat.ne_of_lt (blk_lt (zB BK660.out)) : gb660 ≠ gb670))
            have NB670_660 := zA ((by rw [hg]; exact Nat.ne_of_gt (blk_lt (zB BK660.out)) : gb670 ≠ gb660))
            replace BK660 := zkb BK660 hb
            clear hb hbox hg
            refine hK.out _ _ ⟨zc BK660 0 rfl, zc BK660 1 rfl, zc BK660 2 rfl⟩ (fun hHeld => ?_)
            clear hK K
            refine norm_ (a' := ?_) ?_ ?_
            rotate_left
            ·
             show Act.put _ (some 11) _ = _
             simp only [Act.put, List.setIfInBounds_toArray, List.set_cons_zero, List.set_cons_succ, i64_w, i32_w]
             rfl
            refine one_ (i := 8) (N := some 37) #[true, true, true, true, true, true, true, true, true, false, true, false] rfl rfl (one_of HT_.out zk) (by decide) (fun K hK => ?_)
            refine goes_ Tryd.func33 zk rfl #[.slice Ao36 t657.length co36, .slice Ao38 t661.length co38] (by rfl) rfl rfl zX ?_
            with_reducible refine (bignat_Mul.calls kj4 _ _ t657 _ _ t661 t667 _ ?side1 ?side2 ?side3 ?side4 A11.out).mono ?_
            (case side1 => exact zC (Kd.R_reads' HO659.out).2.2)
            (case side2 => exact (Kd.R_reads' HO659.out).2.1)
            (case side3 => exact zC (Kd.R_reads' HO663.out).2.2)
            (case side4 => exact (Kd.R_reads' HO663.out).2.1)
            rintro e w42 ⟨v668, rfl, ho0, hb⟩
            refine ⟨_, rfl, ?_⟩
            have HO669 := zA (Kd.R_lower (Kd.R_new' (Kd.R_new' (Kd.R_new' (Kd.R_new' ho0 (Kd.R_lt (zr HO656 rfl))) (Kd.R_lt (zr HO659 rfl))) (Kd.R_lt (zr HO663 rfl))) (Kd.R_lt (zr HO666 rfl))) (below_size (zb HB rfl)))
            replace HO656 := zA (Kd.R_elder' (zr HO656 rfl) (Kd.R_base ho0) hb)
            replace HO659 := zA (Kd.R_elder' (zr HO659 rfl) (Kd.R_base ho0) hb)
            replace HO663 := zA (Kd.R_elder' (zr HO663 rfl) (Kd.R_base ho0) hb)
            replace HO666 := zA (Kd.R_elder' (zr HO666 rfl) (Kd.R_base ho0) hb)
            replace BK660 := zkb BK660 hb
            replace BK670 := zkb BK670 hb
            replace HB := zbb HB hb rfl
            obtain ⟨Ao43, co43, eo43⟩ := Kd.R_slice HO669.out
            (first | subst eo43 | (injection eo43 with f1_ f2_ f3_; have f4_ := f1_.symm; have f5_ := f3_.symm; clear f1_ f2_ f3_; subst f4_; subst f5_))
            obtain ⟨Ao44, co44, eo44⟩ := Kd.R_slice HO666.out
            (first | subst eo44 | (injection eo44 with f1_ f2_ f3_; have f4_ := f1_.symm; have f5_ := f3_.symm; clear f1_ f2_ f3_; subst f4_; subst f5_))
            refine hK.out _ _ ⟨zc BK660 0 rfl, zc BK660 1 rfl, zc BK660 2 rfl⟩ (fun hHeld => ?_)
            clear hK K
            refine norm_ (a' := ?_) ?_ ?_
            rotate_left
            ·
             show Act.put _ (some 37) _ = _
             simp only [Act.put, List.setIfInBounds_toArray, List.set_cons_zero, List.set_cons_succ, i64_w, i32_w]
             rfl
            refine zp 9 38 HT_ ?_
            exact norm_ (by simp only [putAll, Act.put, List.setIfInBounds_toArray, List.set_cons_zero, List.set_cons_succ]) (hCont (.slice Ao44 t664.length co44, .slice Ao43 t667.length co43, gb670) _ ⟨hHeld, (zRM HO656.out (fun _ hk => ⟨hk.1.1.1, ⟨hk.1.1.2, ⟨hk.1.2, hk.2⟩⟩⟩)), (zRM HO659.out (fun _ hk => ⟨hk.1.1.1, ⟨hk.1.1.2, ⟨hk.1.2, hk.2⟩⟩⟩)), (zRM HO663.out (fun _ hk => ⟨hk.1.1.1.2, ⟨hk.1.1.2, ⟨hk.1.2, hk.2⟩⟩⟩)), (zRM HO666.out (fun _ hk => ⟨hk.1.1.1.2, ⟨hk.1.1.2, ⟨hk.1.2, hk.2⟩⟩⟩)), (zRM HO669.out (fun _ hk => ⟨hk.1.1.1.2, ⟨hk.1.1.2, ⟨hk.1.2, hk.2⟩⟩⟩)), BK660.out, BK670.out, GW670.out, GE670.out, NB660_670.out, NB670_660.out, (zb HB rfl)⟩)
           skip
           refine box_step ?hg (N := 11) ?hd (cs := #[.bool false, .slice none 0 0, .slice none 0 0]) (t := 25) ?hr ?_; (case hd => rfl); (case hg => rfl); (case hr => first | (go_simp; done) | (go_simp; rfl))
           intro gb670 hg w40 hbox hb
           replace HO656 := zrb HO656 hb rfl
           replace HO659 := zrb HO659 hb rfl
           replace HO663 := zrb HO663 hb rfl
           have BK670 := zA (hbox)
           have GW670 := zA ((by rw [hg]; exact (below_size (zG1 GE660.out)) : w.heap.size ≤ gb670))
           have GE670 := zA ((by rw [hg]; exact (below_size (zG1 GE660.out)) : w.heap.size ≤ gb670))
           replace HB := zbb HB hb rfl
           have NB660_670 := zA ((by rw [hg]; exact Nat.ne_of_lt (blk_lt (zB BK660.out)) : gb660 ≠ gb670))
           have NB670_660 := zA ((by rw [hg]; exact Nat.ne_of_gt (blk_lt (zB BK660.out)) : gb670 ≠ gb660))
           replace BK660 := zkb BK660 hb
           clear hb hbox hg
           refine hK.out _ _ ⟨zc BK660 0 rfl, zc BK660 1 rfl, zc BK660 2 rfl⟩ (fun hHeld => ?_)
           clear hK K
           refine norm_ (a' := ?_) ?_ ?_
           rotate_left
           ·
            show Act.put _ (some 11) _ = _
            simp only [Act.put, List.setIfInBounds_toArray, List.set_cons_zero, List.set_cons_succ, i64_w, i32_w]
            rfl
           refine one_ (i := 4) (N := some 33) #[true, true, true, true, true, true, true, true, false, false, true, false] rfl rfl (one_of HT_.out zk) (by decide) (fun K hK => ?_)
           refine goes_ Tryd.func33 zk rfl #[.slice Ao35 t654.length co35, .slice Ao38 t661.length co38] (by rfl) rfl rfl zX ?_
           with_reducible refine (bignat_Mul.calls kj4 _ _ t654 _ _ t661 t664 _ ?side1 ?side2 ?side3 ?side4 A10.out).mono ?_
           (case side1 => exact zC (Kd.R_reads' HO656.out).2.2)
           (case side2 => exact (Kd.R_reads' HO656.out).2.1)
           (case side3 => exact zC (Kd.R_reads' HO663.out).2.2)
           (case side4 => exact (Kd.R_reads' HO663.out).2.1)
           rintro e w41 ⟨v665, rfl, ho0, hb⟩
           refine ⟨_, rfl, ?_⟩
           have HO666 := zA (Kd.R_lower (Kd.R_new' (Kd.R_new' (Kd.R_new' ho0 (Kd.R_lt (zr HO656 rfl))) (Kd.R_lt (zr HO659 rfl))) (Kd.R_lt (zr HO663 rfl))) (below_size (zb HB rfl)))
           replace HO656 := zA (Kd.R_elder' (zr HO656 rfl) (Kd.R_base ho0) hb)
           replace HO659 := zA (Kd.R_elder' (zr HO659 rfl) (Kd.R_base ho0) hb)
           replace HO663 := zA (Kd.R_elder' (zr HO663 rfl) (Kd.R_base ho0) hb)
           replace BK660 := zkb BK660 hb
           replace BK670 := zkb BK670 hb
           replace HB := zbb HB hb rfl
           refine hK.out _ _ ⟨zc BK660 0 rfl, zc BK660 1 rfl, zc BK660 2 rfl⟩ (fun hHeld => ?_)
           clear hK K
           refine norm_ (a' := ?_) ?_ ?_
           rotate_left
           ·
            show Act.put _ (some 33) _ = _
            simp only [Act.put, List.setIfInBounds_toArray, List.set_cons_zero, List.set_cons_succ, i64_w, i32_w]
            rfl
           refine one_ (i := 8) (N := some 37) #[true, true, true, true, true, true, true, true, true, false, true, false] rfl rfl (one_of HT_.out zk) (by decide) (fun K hK => ?_)
           refine goes_ Tryd.func33 zk rfl #[.slice Ao36 t657.length co36, .slice Ao38 t661.length co38] (by rfl) rfl rfl zX ?_
           with_reducible refine (bignat_Mul.calls kj4 _ _ t657 _ _ t661 t667 _ ?side1 ?side2 ?side3 ?side4 A11.out).mono ?_
           (case side1 => exact zC (Kd.R_reads' HO659.out).2.2)
           (case side2 => exact (Kd.R_reads' HO659.out).2.1)
           (case side3 => exact zC (Kd.R_reads' HO663.out).2.2)
           (case side4 => exact (Kd.R_reads' HO663.out).2.1)
           rintro e w42 ⟨v668, rfl, ho0, hb⟩
           refine ⟨_, rfl, ?_⟩
           have HO669 := zA (Kd.R_lower (Kd.R_new' (Kd.R_new' (Kd.R_new' (Kd.R_new' ho0 (Kd.R_lt (zr HO656 rfl))) (Kd.R_lt (zr HO659 rfl))) (Kd.R_lt (zr HO663 rfl))) (Kd.R_lt (zr HO666 rfl))) (below_size (zb HB rfl)))
           replace HO656 := zA (Kd.R_elder' (zr HO656 rfl) (Kd.R_base ho0) hb)
           replace HO659 := zA (Kd.R_elder' (zr HO659 rfl) (Kd.R_base ho0) hb)
           replace HO663 := zA (Kd.R_elder' (zr HO663 rfl) (Kd.R_base ho0) hb)
           replace HO666 := zA (Kd.R_elder' (zr HO666 rfl) (Kd.R_base ho0) hb)
           replace BK660 := zkb BK660 hb
           replace BK670 := zkb BK670 hb
           replace HB := zbb HB hb rfl
           obtain ⟨Ao43, co43, eo43⟩ := Kd.R_slice HO669.out
           (first | subst eo43 | (injection eo43 with f1_ f2_ f3_; have f4_ := f1_.symm; have f5_ := f3_.symm; clear f1_ f2_ f3_; subst f4_; subst f5_))
           obtain ⟨Ao44, co44, eo44⟩ := Kd.R_slice HO666.out
           (first | subst eo44 | (injection eo44 with f1_ f2_ f3_; have f4_ := f1_.symm; have f5_ := f3_.symm; clear f1_ f2_ f3_; subst f4_; subst f5_))
           refine hK.out _ _ ⟨zc BK660 0 rfl, zc BK660 1 rfl, zc BK660 2 rfl⟩ (fun hHeld => ?_)
           clear hK K
           refine norm_ (a' := ?_) ?_ ?_
           rotate_left
           ·
            show Act.put _ (some 37) _ = _
            simp only [Act.put, List.setIfInBounds_toArray, List.set_cons_zero, List.set_cons_succ, i64_w, i32_w]
            rfl
           refine zp 9 38 HT_ ?_
           exact norm_ (by simp only [putAll, Act.put, List.setIfInBounds_toArray, List.set_cons_zero, List.set_cons_succ]) (hCont (.slice Ao44 t664.length co44, .slice Ao43 t667.length co43, gb670) _ ⟨hHeld, (zRM HO656.out (fun _ hk => ⟨hk.1.1.1, ⟨hk.1.1.2, ⟨hk.1.2, hk.2⟩⟩⟩)), (zRM HO659.out (fun _ hk => ⟨hk.1.1.1, ⟨hk.1.1.2, ⟨hk.1.2, hk.2⟩⟩⟩)), (zRM HO663.out (fun _ hk => ⟨hk.1.1.1.2, ⟨hk.1.1.2, ⟨hk.1.2, hk.2⟩⟩⟩)), (zRM HO666.out (fun _ hk => ⟨hk.1.1.1.2, ⟨hk.1.1.2, ⟨hk.1.2, hk.2⟩⟩⟩)), (zRM HO669.out (fun _ hk => ⟨hk.1.1.1.2, ⟨hk.1.1.2, ⟨hk.1.2, hk.2⟩⟩⟩)), BK660.out, BK670.out, GW670.out, GE670.out, NB660_670.out, NB670_660.out, (zb HB rfl)⟩)
          rintro ⟨v665, v668, gb670⟩ w45 ⟨hS_, h0_, h1_, h2_, h3_, h4_, h5_, h6_, h7_, h8_, h9_, h10_, h11_⟩
          replace HO656 : Aside0 (Kd.R (Kd.int .u32) 37 w45 w.heap.size (fun k_ => some k_ ≠ (.slice Ao36 t657.length co36 : Value).ownBlock ∧ some k_ ≠ (.slice Ao38 t661.length co38 : Value).ownBlock ∧ some k_ ≠ (v665 : Value).ownBlock ∧ some k_ ≠ (v668 : Value).ownBlock) (.slice Ao35 t654.length co35) t654) := ⟨h0_⟩
          replace HO659 : Aside0 (Kd.R (Kd.int .u32) 37 w45 w.heap.size (fun k_ => some k_ ≠ (.slice Ao35 t654.length co35 : Value).ownBlock ∧ some k_ ≠ (.slice Ao38 t661.length co38 : Value).ownBlock ∧ some k_ ≠ (v665 : Value).ownBlock ∧ some k_ ≠ (v668 : Value).ownBlock) (.slice Ao36 t657.length co36) t657) := ⟨h1_⟩
          replace HO663 : Aside0 (Kd.R (Kd.int .u32) 37 w45 w.heap.size (fun k_ => some k_ ≠ (.slice Ao35 t654.length co35 : Value).ownBlock ∧ some k_ ≠ (.slice Ao36 t657.length co36 : Value).ownBlock ∧ some k_ ≠ (v665 : Value).ownBlock ∧ some k_ ≠ (v668 : Value).ownBlock) (.slice Ao38 t661.length co38) t661) := ⟨h2_⟩
          have HO666 : Aside0 (Kd.R (Kd.int .u32) 37 w45 w.heap.size (fun k_ => some k_ ≠ (.slice Ao35 t654.length co35 : Value).ownBlock ∧ some k_ ≠ (.slice Ao36 t657.length co36 : Value).ownBlock ∧ some k_ ≠ (.slice Ao38 t661.length co38 : Value).ownBlock ∧ some k_ ≠ (v668 : Value).ownBlock) v665 t664) := ⟨h3_⟩
          have HO669 : Aside0 (Kd.R (Kd.int .u32) 37 w45 w.heap.size (fun k_ => some k_ ≠ (.slice Ao35 t654.length co35 : Value).ownBlock ∧ some k_ ≠ (.slice Ao36 t657.length co36 : Value).ownBlock ∧ some k_ ≠ (.slice Ao38 t661.length co38 : Value).ownBlock ∧ some k_ ≠ (v665 : Value).ownBlock) v668 t667) := ⟨h4_⟩
          replace BK660 : Aside0 (w45.heap[gb660]? = some (.cells #[.bool t653, .slice Ao35 t654.length co35, .slice Ao36 t657.length co36] 25 (0, 0))) := ⟨h5_⟩
          have BK670 : Aside0 (w45.heap[gb670]? = some (.cells #[.bool false, .slice none 0 0, .slice none 0 0] 25 (0, 0))) := ⟨h6_⟩
          have GW670 : Aside0 (w.heap.size ≤ gb670) := ⟨h7_⟩
          have GE670 : Aside0 (w.heap.size ≤ gb670) := ⟨h8_⟩
          have NB660_670 : Aside0 (gb660 ≠ gb670) := ⟨h9_⟩
          have NB670_660 : Aside0 (gb670 ≠ gb660) := ⟨h10_⟩
          replace HB : Aside0 (Below w.heap.size w w45) := ⟨h11_⟩
          clear h0_ h1_ h2_ h3_ h4_ h5_ h6_ h7_ h8_ h9_ h10_ h11_
          have hHeld : w45.cell? ⟨gb660, 0, none⟩ = some (.bool t653) ∧ w45.cell? ⟨gb660, 1, none⟩ = some (.slice Ao35 t654.length co35) ∧ w45.cell? ⟨gb660, 2, none⟩ = some (.slice Ao36 t657.length co36) := hS_
          obtain ⟨Ao46, co46, eo46⟩ := Kd.R_slice HO669.out
          (first | subst eo46 | (injection eo46 with f1_ f2_ f3_; have f4_ := f1_.symm; have f5_ := f3_.symm; clear f1_ f2_ f3_; subst f4_; subst f5_))
          obtain ⟨Ao47, co47, eo47⟩ := Kd.R_slice HO666.out
          (first | subst eo47 | (injection eo47 with f1_ f2_ f3_; have f4_ := f1_.symm; have f5_ := f3_.symm; clear f1_ f2_ f3_; subst f4_; subst f5_))
          refine norm_ (a' := ?_) ?_ ?_
          rotate_left
          ·
           simp only [putAll, Act.put, List.setIfInBounds_toArray, List.set_cons_zero, List.set_cons_succ]
           rfl
          refine one_ (i := 11) (N := none) #[true, true, true, true, true, true, true, true, true, true, true, true] rfl rfl (one_of HT_.out zk) (by decide) (fun K hK => ?_)
          have hs48 : w45.cell? ⟨gb670, 0, none⟩ = some (.bool false) := zc BK670 0 rfl
          have hfs48 := zF BK670 0
          have hns48_0 := NB660_670.out
          have hms48_0 := NB670_660.out
          have hs49 : w45.cell? ⟨gb670, 1, none⟩ = some (.slice none 0 0) := zc BK670 1 rfl
          have hfs49 := zF BK670 1
          have hns49_0 := NB660_670.out
          have hms49_0 := NB670_660.out
          have hs50 : w45.cell? ⟨gb670, 2, none⟩ = some (.slice none 0 0) := zc BK670 2 rfl
          have hfs50 := zF BK670 2
          have hns50_0 := NB660_670.out
          have hms50_0 := NB670_660.out
          refine skip_ (w1 := ?_) (by rfl) rfl ?_ ?_
          rotate_left
          ·
           go_simp
           rfl
          refine hK.out _ _ ⟨((cell_far (p := ⟨gb670, _, none⟩) NB660_670.out _).trans (((cell_far (p := ⟨gb670, _, none⟩) NB660_670.out _).trans (((cell_far (p := ⟨gb670, _, none⟩) NB660_670.out _).trans (hHeld.1)))))), ((cell_far (p := ⟨gb670, _, none⟩) NB660_670.out _).trans (((cell_far (p := ⟨gb670, _, none⟩) NB660_670.out _).trans (((cell_far (p := ⟨gb670, _, none⟩) NB660_670.out _).trans (hHeld.2.1)))))), ((cell_far (p := ⟨gb670, _, none⟩) NB660_670.out _).trans (((cell_far (p := ⟨gb670, _, none⟩) NB660_670.out _).trans (((cell_far (p := ⟨gb670, _, none⟩) NB660_670.out _).trans (hHeld.2.2))))))⟩ (fun hHeld => ?_)
          clear hK K
          refine done_ (done_of HT_.out zk) ?_
          have hnb51 := NB660_670.out
          have hnc51 := NB670_660.out
          have hcz52_0 := zc BK660 0 (v := .bool t653) rfl
          have hcz52_1 := zc BK660 1 (v := .slice Ao35 t654.length co35) rfl
          have hcz52_2 := zc BK660 2 (v := .slice Ao36 t657.length co36) rfl
          have hfz52_0 := zF BK660 0
          have hfz52_1 := zF BK660 1
          have hfz52_2 := zF BK660 2
          try go_wp2_with (first | ((with_reducible refine gate_callee (f := 20) rfl ?_); refine goesL_ (some 40) rfl rfl Tryd.func20 zk rfl #[.agg #[.bool t653, .slice Ao35 t654.length co35, .slice Ao36 t657.length co36]] rfl zX ?_; (with_reducible refine (rational_Normalize.calls kj4 t653 _ _ t654 _ _ t657 t671 t672 t675 _ ?side1 ?side2 ?side3 ?side4 A12.out).mono ?_); (case side1 => refine (Kd.R_reads' (e := 37) (base := w.heap.size) (ok := fun k_ => (some k_ ≠ (.slice Ao36 t657.length co36 : Value).ownBlock ∧ (some k_ ≠ (.slice Ao38 t661.length co38 : Value).ownBlock ∧ (some k_ ≠ (.slice Ao47 t664.length co47 : Value).ownBlock ∧ some k_ ≠ (.slice Ao46 t667.length co46 : Value).ownBlock)))) (n := t654.length) (c := co35) ?_).2.2; exact (zR ((Kd.R_mono (Kd.R_far (p := ⟨gb670, 2, none⟩) (Kd.R_far (p := ⟨gb670, 1, none⟩) (Kd.R_far (p := ⟨gb670, 0, none⟩) (Kd.R_types HO656.out BK670.out (by decide)) (fun _ hk => hk.2) (.bool a0)) (fun _ hk => hk.2) (.slice Ao47 t664.length co47)) (fun _ hk => hk.2) (.slice Ao46 t667.length co46)) (fun _ h_ => h_.1))))); (case side2 => exact (Kd.R_reads' HO656.out).2.1); (case side3 => refine (Kd.R_reads' (e := 37) (base := w.heap.size) (ok := fun k_ => (some k_ ≠ (.slice Ao35 t654.length co35 : Value).ownBlock ∧ (some k_ ≠ (.slice Ao38 t661.length co38 : Value).ownBlock ∧ (some k_ ≠ (.slice Ao47 t664.length co47 : Value).ownBlock ∧ some k_ ≠ (.slice Ao46 t667.length co46 : Value).ownBlock)))) (n := t657.length) (c := co36) ?_).2.2; exact (zR ((Kd.R_mono (Kd.R_far (p := ⟨gb670, 2, none⟩) (Kd.R_far (p := ⟨gb670, 1, none⟩) (Kd.R_far (p := ⟨gb670, 0, none⟩) (Kd.R_types HO659.out BK670.out (by decide)) (fun _ hk => hk.2) (.bool a0)) (fun _ hk => hk.2) (.slice Ao47 t664.length co47)) (fun _ hk => hk.2) (.slice Ao46 t667.length co46)) (fun _ h_ => h_.1))))); (case side4 => exact (Kd.R_reads' HO659.out).2.1); rintro e w53 ⟨v673, v676, rfl, ho0, ho1, hb⟩; refine ⟨_, rfl, ?_⟩; have HO674 := zA (Kd.R_lower (Kd.R_new' (Kd.R_new' (Kd.R_new' (Kd.R_new' (Kd.R_new' ho0 (Kd.R_lt (zR ((Kd.R_mono (Kd.R_far (p := ⟨gb670, 2, none⟩) (Kd.R_far (p := ⟨gb670, 1, none⟩) (Kd.R_far (p := ⟨gb670, 0, none⟩) (Kd.R_types HO656.out BK670.out (by decide)) (fun _ hk => hk.2) (.bool a0)) (fun _ hk => hk.2) (.slice Ao47 t664.length co47)) (fun _ hk => hk.2) (.slice Ao46 t667.length co46)) (fun _ h_ => h_.1)))))) (Kd.R_lt (zR ((Kd.R_mono (Kd.R_far (p := ⟨gb670, 2, none⟩) (Kd.R_far (p := ⟨gb670, 1, none⟩) (Kd.R_far (p := ⟨gb670, 0, none⟩) (Kd.R_types HO659.out BK670.out (by decide)) (fun _ hk => hk.2) (.bool a0)) (fun _ hk => hk.2) (.slice Ao47 t664.length co47)) (fun _ hk => hk.2) (.slice Ao46 t667.length co46)) (fun _ h_ => h_.1)))))) (Kd.R_lt (zR ((Kd.R_mono (Kd.R_far (p := ⟨gb670, 2, none⟩) (Kd.R_far (p := ⟨gb670, 1, none⟩) (Kd.R_far (p := ⟨gb670, 0, none⟩) (Kd.R_types HO663.out BK670.out (by decide)) (fun _ hk => hk.2) (.bool a0)) (fun _ hk => hk.2) (.slice Ao47 t664.length co47)) (fun _ hk => hk.2) (.slice Ao46 t667.length co46)) (fun _ h_ => h_.1)))))) (Kd.R_lt (zR ((Kd.R_mono (Kd.R_far (p := ⟨gb670, 2, none⟩) (Kd.R_far (p := ⟨gb670, 1, none⟩) (Kd.R_far (p := ⟨gb670, 0, none⟩) (Kd.R_types HO666.out BK670.out (by decide)) (fun _ hk => hk.2) (.bool a0)) (fun _ hk => hk.2) (.slice Ao47 t664.length co47)) (fun _ hk => hk.2) (.slice Ao46 t667.length co46)) (fun _ h_ => h_.1)))))) (Kd.R_lt (zR ((Kd.R_mono (Kd.R_far (p := ⟨gb670, 2, none⟩) (Kd.R_far (p := ⟨gb670, 1, none⟩) (Kd.R_far (p := ⟨gb670, 0, none⟩) (Kd.R_types HO669.out BK670.out (by decide)) (fun _ hk => hk.2) (.bool a0)) (fun _ hk => hk.2) (.slice Ao47 t664.length co47)) (fun _ hk => hk.2) (.slice Ao46 t667.length co46)) (fun _ h_ => h_.1)))))) (below_size (zG2 GE660.out GE670.out))); have HO677 := zA (Kd.R_lower (Kd.R_new' (Kd.R_new' (Kd.R_new' (Kd.R_new' (Kd.R_new' ho1 (Kd.R_lt (zR ((Kd.R_mono (Kd.R_far (p := ⟨gb670, 2, none⟩) (Kd.R_far (p := ⟨gb670, 1, none⟩) (Kd.R_far (p := ⟨gb670, 0, none⟩) (Kd.R_types HO656.out BK670.out (by decide)) (fun _ hk => hk.2) (.bool a0)) (fun _ hk => hk.2) (.slice Ao47 t664.length co47)) (fun _ hk => hk.2) (.slice Ao46 t667.length co46)) (fun _ h_ => h_.1)))))) (Kd.R_lt (zR ((Kd.R_mono (Kd.R_far (p := ⟨gb670, 2, none⟩) (Kd.R_far (p := ⟨gb670, 1, none⟩) (Kd.R_far (p := ⟨gb670, 0, none⟩) (Kd.R_types HO659.out BK670.out (by decide)) (fun _ hk => hk.2) (.bool a0)) (fun _ hk => hk.2) (.slice Ao47 t664.length co47)) (fun _ hk => hk.2) (.slice Ao46 t667.length co46)) (fun _ h_ => h_.1)))))) (Kd.R_lt (zR ((Kd.R_mono (Kd.R_far (p := ⟨gb670, 2, none⟩) (Kd.R_far (p := ⟨gb670, 1, none⟩) (Kd.R_far (p := ⟨gb670, 0, none⟩) (Kd.R_types HO663.out BK670.out (by decide)) (fun _ hk => hk.2) (.bool a0)) (fun _ hk => hk.2) (.slice Ao47 t664.length co47)) (fun _ hk => hk.2) (.slice Ao46 t667.length co46)) (fun _ h_ => h_.1)))))) (Kd.R_lt (zR ((Kd.R_mono (Kd.R_far (p := ⟨gb670, 2, none⟩) (Kd.R_far (p := ⟨gb670, 1, none⟩) (Kd.R_far (p := ⟨gb670, 0, none⟩) (Kd.R_types HO666.out BK670.out (by decide)) (fun _ hk => hk.2) (.bool a0)) (fun _ hk => hk.2) (.slice Ao47 t664.length co47)) (fun _ hk => hk.2) (.slice Ao46 t667.length co46)) (fun _ h_ => h_.1)))))) (Kd.R_lt (zR ((Kd.R_mono (Kd.R_far (p := ⟨gb670, 2, none⟩) (Kd.R_far (p := ⟨gb670, 1, none⟩) (Kd.R_far (p := ⟨gb670, 0, none⟩) (Kd.R_types HO669.out BK670.out (by decide)) (fun _ hk => hk.2) (.bool a0)) (fun _ hk => hk.2) (.slice Ao47 t664.length co47)) (fun _ hk => hk.2) (.slice Ao46 t667.length co46)) (fun _ h_ => h_.1)))))) (below_size (zG2 GE660.out GE670.out))); replace HO656 := zA (Kd.R_mono (Kd.R_told (Kd.R_told (Kd.R_old (zR ((Kd.R_mono (Kd.R_far (p := ⟨gb670, 2, none⟩) (Kd.R_far (p := ⟨gb670, 1, none⟩) (Kd.R_far (p := ⟨gb670, 0, none⟩) (Kd.R_types HO656.out BK670.out (by decide)) (fun _ hk => hk.2) (.bool a0)) (fun _ hk => hk.2) (.slice Ao47 t664.length co47)) (fun _ hk => hk.2) (.slice Ao46 t667.length co46)) (fun _ h_ => h_.1)))) hb) (Kd.R_base ho0)) (Kd.R_base ho1)) (fun _ h_ => h_.1)); replace HO659 := zA (Kd.R_mono (Kd.R_told (Kd.R_told (Kd.R_old (zR ((Kd.R_mono (Kd.R_far (p := ⟨gb670, 2, none⟩) (Kd.R_far (p := ⟨gb670, 1, none⟩) (Kd.R_far (p := ⟨gb670, 0, none⟩) (Kd.R_types HO659.out BK670.out (by decide)) (fun _ hk => hk.2) (.bool a0)) (fun _ hk => hk.2) (.slice Ao47 t664.length co47)) (fun _ hk => hk.2) (.slice Ao46 t667.length co46)) (fun _ h_ => h_.1)))) hb) (Kd.R_base ho0)) (Kd.R_base ho1)) (fun _ h_ => h_.1)); replace HO663 := zA (Kd.R_mono (Kd.R_told (Kd.R_told (Kd.R_old (zR ((Kd.R_mono (Kd.R_far (p := ⟨gb670, 2, none⟩) (Kd.R_far (p := ⟨gb670, 1, none⟩) (Kd.R_far (p := ⟨gb670, 0, none⟩) (Kd.R_types HO663.out BK670.out (by decide)) (fun _ hk => hk.2) (.bool a0)) (fun _ hk => hk.2) (.slice Ao47 t664.length co47)) (fun _ hk => hk.2) (.slice Ao46 t667.length co46)) (fun _ h_ => h_.1)))) hb) (Kd.R_base ho0)) (Kd.R_base ho1)) (fun _ h_ => h_.1)); replace HO666 := zA (Kd.R_mono (Kd.R_told (Kd.R_told (Kd.R_old (zR ((Kd.R_mono (Kd.R_far (p := ⟨gb670, 2, none⟩) (Kd.R_far (p := ⟨gb670, 1, none⟩) (Kd.R_far (p := ⟨gb670, 0, none⟩) (Kd.R_types HO666.out BK670.out (by decide)) (fun _ hk => hk.2) (.bool a0)) (fun _ hk => hk.2) (.slice Ao47 t664.length co47)) (fun _ hk => hk.2) (.slice Ao46 t667.length co46)) (fun _ h_ => h_.1)))) hb) (Kd.R_base ho0)) (Kd.R_base ho1)) (fun _ h_ => h_.1)); replace HO669 := zA (Kd.R_mono (Kd.R_told (Kd.R_told (Kd.R_old (zR ((Kd.R_mono (Kd.R_far (p := ⟨gb670, 2, none⟩) (Kd.R_far (p := ⟨gb670, 1, none⟩) (Kd.R_far (p := ⟨gb670, 0, none⟩) (Kd.R_types HO669.out BK670.out (by decide)) (fun _ hk => hk.2) (.bool a0)) (fun _ hk => hk.2) (.slice Ao47 t664.length co47)) (fun _ hk => hk.2) (.slice Ao46 t667.length co46)) (fun _ h_ => h_.1)))) hb) (Kd.R_base ho0)) (Kd.R_base ho1)) (fun _ h_ => h_.1)); replace BK660 := zA (blk_below (g := gb660) (o := .cells #[.bool t653, .slice Ao35 t654.length co35, .slice Ao36 t657.length co36] 25 (0, 0)) (by (with_reducible repeat (first | refine blk_drewN ?_ _ | refine blk_drew ?_ | refine blk_alloc ?_ _)); refine blk_far ?_ NB660_670.out _; (with_reducible repeat (first | refine blk_drewN ?_ _ | refine blk_drew ?_ | refine blk_alloc ?_ _)); refine blk_far ?_ NB660_670.out _; (with_reducible repeat (first | refine blk_drewN ?_ _ | refine blk_drew ?_ | refine blk_alloc ?_ _)); refine blk_far ?_ NB660_670.out _; (with_reducible repeat (first | refine blk_drewN ?_ _ | refine blk_drew ?_ | refine blk_alloc ?_ _)); exact BK660.out) hb); replace BK670 := zA (blk_below (g := gb670) (o := .cells #[.bool a0, .slice Ao47 t664.length co47, .slice Ao46 t667.length co46] 25 (0, 0)) (by (with_reducible repeat (first | refine blk_drewN ?_ _ | refine blk_drew ?_ | refine blk_alloc ?_ _)); refine blk_put (cs := #[.bool a0, .slice Ao47 t664.length co47, .slice none 0 0]) ?_ 2 _ rfl; (with_reducible repeat (first | refine blk_drewN ?_ _ | refine blk_drew ?_ | refine blk_alloc ?_ _)); refine blk_put (cs := #[.bool a0, .slice none 0 0, .slice none 0 0]) ?_ 1 _ rfl; (with_reducible repeat (first | refine blk_drewN ?_ _ | refine blk_drew ?_ | refine blk_alloc ?_ _)); refine blk_put (cs := #[.bool false, .slice none 0 0, .slice none 0 0]) ?_ 0 _ rfl; (with_reducible repeat (first | refine blk_drewN ?_ _ | refine blk_drew ?_ | refine blk_alloc ?_ _)); exact BK670.out) hb); replace HB := zA (below_step (zG2 GE660.out GE670.out) hb)) | ((with_reducible refine gate_dst (N := 12) rfl ?_); (try (refine gate_guard (by rfl) ?_; dsimp only)); refine box_event ?hg (N := 12) ?hd (cs := #[.bool false, .slice none 0 0, .slice none 0 0]) (t := 25) ?hr ?_; (case hd => rfl); (case hg => rfl); (case hr => first | (go_simp; done) | (go_simp; rfl)); intro gb678 hg w54 hbox hb; replace HO656 := zrb HO656 hb rfl; replace HO659 := zrb HO659 hb rfl; replace HO663 := zrb HO663 hb rfl; replace HO666 := zrb HO666 hb rfl; replace HO669 := zrb HO669 hb rfl; replace HO674 := zrb HO674 hb rfl; replace HO677 := zrb HO677 hb rfl; have BK678 := zA (hbox); have GW678 := zA ((by rw [hg]; exact (below_size (zb HB rfl)) : w.heap.size ≤ gb678)); have GE678 := zA ((by rw [hg]; exact (below_size (zb HB rfl)) : w.heap.size ≤ gb678)); replace HB := zbb HB hb rfl; have NB660_678 := zA ((by rw [hg]; exact Nat.ne_of_lt (blk_lt BK660.out) : gb660 ≠ gb678)); have NB678_660 := zA ((by rw [hg]; exact Nat.ne_of_gt (blk_lt BK660.out) : gb678 ≠ gb660)); replace BK660 := zkb BK660 hb; have NB670_678 := zA ((by rw [hg]; exact Nat.ne_of_lt (blk_lt BK670.out) : gb670 ≠ gb678)); have NB678_670 := zA ((by rw [hg]; exact Nat.ne_of_gt (blk_lt BK670.out) : gb678 ≠ gb670)); replace BK670 := zkb BK670 hb; clear hb hbox hg; have hnb55 := NB678_660.out; have hnc55 := NB660_678.out; have hnb56 := NB678_670.out; have hnc56 := NB670_678.out; have hcz57_0 := zc BK678 0 (v := .bool false) rfl; have hcz57_1 := zc BK678 1 (v := .slice none 0 0) rfl; have hcz57_2 := zc BK678 2 (v := .slice none 0 0) rfl; have hfz57_0 := zF BK678 0; have hfz57_1 := zF BK678 1; have hfz57_2 := zF BK678 2; obtain ⟨Ao58, co58, eo58⟩ := Kd.R_slice HO674.out; subst eo58; obtain ⟨Ao59, co59, eo59⟩ := Kd.R_slice HO677.out; subst eo59))
          have n0_ : Aside0 (Kd.R (Kd.int .u32) 37 (((w54.setCell ⟨gb678, 0, none⟩ (.bool t671)).setCell ⟨gb678, 1, none⟩ (.slice Ao58 t672.length co58)).setCell ⟨gb678, 2, none⟩ (.slice Ao59 t675.length co59)) w.heap.size (fun k_ => some k_ ≠ (.slice Ao36 t657.length co36 : Value).ownBlock ∧ some k_ ≠ (.slice Ao38 t661.length co38 : Value).ownBlock ∧ some k_ ≠ (.slice Ao47 t664.length co47 : Value).ownBlock ∧ some k_ ≠ (.slice Ao46 t667.length co46 : Value).ownBlock ∧ some k_ ≠ (.slice Ao58 t672.length co58 : Value).ownBlock ∧ some k_ ≠ (.slice Ao59 t675.length co59 : Value).ownBlock) (.slice Ao35 t654.length co35) t654) := ⟨zRM (Kd.R_far (p := ⟨gb678, 2, none⟩) (Kd.R_far (p := ⟨gb678, 1, none⟩) (Kd.R_far (p := ⟨gb678, 0, none⟩) (Kd.R_types HO656.out BK678.out (by decide)) (fun _ hk => hk.2) (.bool t671)) (fun _ hk => hk.2) (.slice Ao58 t672.length co58)) (fun _ hk => hk.2) (.slice Ao59 t675.length co59)) (fun _ hk => ⟨hk.1.1.1.1, ⟨hk.1.1.1.2.1, ⟨hk.1.1.1.2.2.1, ⟨hk.1.1.1.2.2.2, ⟨hk.1.1.2, hk.1.2⟩⟩⟩⟩⟩)⟩
          have n1_ : Aside0 (Kd.R (Kd.int .u32) 37 (((w54.setCell ⟨gb678, 0, none⟩ (.bool t671)).setCell ⟨gb678, 1, none⟩ (.slice Ao58 t672.length co58)).setCell ⟨gb678, 2, none⟩ (.slice Ao59 t675.length co59)) w.heap.size (fun k_ => some k_ ≠ (.slice Ao35 t654.length co35 : Value).ownBlock ∧ some k_ ≠ (.slice Ao38 t661.length co38 : Value).ownBlock ∧ some k_ ≠ (.slice Ao47 t664.length co47 : Value).ownBlock ∧ some k_ ≠ (.slice Ao46 t667.length co46 : Value).ownBlock ∧ some k_ ≠ (.slice Ao58 t672.length co58 : Value).ownBlock ∧ some k_ ≠ (.slice Ao59 t675.length co59 : Value).ownBlock) (.slice Ao36 t657.length co36) t657) := ⟨zRM (Kd.R_far (p := ⟨gb678, 2, none⟩) (Kd.R_far (p := ⟨gb678, 1, none⟩) (Kd.R_far (p := ⟨gb678, 0, none⟩) (Kd.R_types HO659.out BK678.out (by decide)) (fun _ hk => hk.2) (.bool t671)) (fun _ hk => hk.2) (.slice Ao58 t672.length co58)) (fun _ hk => hk.2) (.slice Ao59 t675.length co59)) (fun _ hk => ⟨hk.1.1.1.1, ⟨hk.1.1.1.2.1, ⟨hk.1.1.1.2.2.1, ⟨hk.1.1.1.2.2.2, ⟨hk.1.1.2, hk.1.2⟩⟩⟩⟩⟩)⟩
          have n2_ : Aside0 (Kd.R (Kd.int .u32) 37 (((w54.setCell ⟨gb678, 0, none⟩ (.bool t671)).setCell ⟨gb678, 1, none⟩ (.slice Ao58 t672.length co58)).setCell ⟨gb678, 2, none⟩ (.slice Ao59 t675.length co59)) w.heap.size (fun k_ => some k_ ≠ (.slice Ao35 t654.length co35 : Value).ownBlock ∧ some k_ ≠ (.slice Ao36 t657.length co36 : Value).ownBlock ∧ some k_ ≠ (.slice Ao47 t664.length co47 : Value).ownBlock ∧ some k_ ≠ (.slice Ao46 t667.length co46 : Value).ownBlock ∧ some k_ ≠ (.slice Ao58 t672.length co58 : Value).ownBlock ∧ some k_ ≠ (.slice Ao59 t675.length co59 : Value).ownBlock) (.slice Ao38 t661.length co38) t661) := ⟨zRM (Kd.R_far (p := ⟨gb678, 2, none⟩) (Kd.R_far (p := ⟨gb678, 1, none⟩) (Kd.R_far (p := ⟨gb678, 0, none⟩) (Kd.R_types HO663.out BK678.out (by decide)) (fun _ hk => hk.2) (.bool t671)) (fun _ hk => hk.2) (.slice Ao58 t672.length co58)) (fun _ hk => hk.2) (.slice Ao59 t675.length co59)) (fun _ hk => ⟨hk.1.1.1.1, ⟨hk.1.1.1.2.1, ⟨hk.1.1.1.2.2.1, ⟨hk.1.1.1.2.2.2, ⟨hk.1.1.2, hk.1.2⟩⟩⟩⟩⟩)⟩
          have n3_ : Aside0 (Kd.R (Kd.int .u32) 37 (((w54.setCell ⟨gb678, 0, none⟩ (.bool t671)).setCell ⟨gb678, 1, none⟩ (.slice Ao58 t672.length co58)).setCell ⟨gb678, 2, none⟩ (.slice Ao59 t675.length co59)) w.heap.size (fun k_ => some k_ ≠ (.slice Ao35 t654.length co35 : Value).ownBlock ∧ some k_ ≠ (.slice Ao36 t657.length co36 : Value).ownBlock ∧ some k_ ≠ (.slice Ao38 t661.length co38 : Value).ownBlock ∧ some k_ ≠ (.slice Ao46 t667.length co46 : Value).ownBlock ∧ some k_ ≠ (.slice Ao58 t672.length co58 : Value).ownBlock ∧ some k_ ≠ (.slice Ao59 t675.length co59 : Value).ownBlock) (.slice Ao47 t664.length co47) t664) := ⟨zRM (Kd.R_far (p := ⟨gb678, 2, none⟩) (Kd.R_far (p := ⟨gb678, 1, none⟩) (Kd.R_far (p := ⟨gb678, 0, none⟩) (Kd.R_types HO666.out BK678.out (by decide)) (fun _ hk => hk.2) (.bool t671)) (fun _ hk => hk.2) (.slice Ao58 t672.length co58)) (fun _ hk => hk.2) (.slice Ao59 t675.length co59)) (fun _ hk => ⟨hk.1.1.1.1, ⟨hk.1.1.1.2.1, ⟨hk.1.1.1.2.2.1, ⟨hk.1.1.1.2.2.2, ⟨hk.1.1.2, hk.1.2⟩⟩⟩⟩⟩)⟩
          have n4_ : Aside0 (Kd.R (Kd.int .u32) 37 (((w54.setCell ⟨gb678, 0, none⟩ (.bool t671)).setCell ⟨gb678, 1, none⟩ (.slice Ao58 t672.length co58)).setCell ⟨gb678, 2, none⟩ (.slice Ao59 t675.length co59)) w.heap.size (fun k_ => some k_ ≠ (.slice Ao35 t654.length co35 : Value).ownBlock ∧ some k_ ≠ (.slice Ao36 t657.length co36 : Value).ownBlock ∧ some k_ ≠ (.slice Ao38 t661.length co38 : Value).ownBlock ∧ some k_ ≠ (.slice Ao47 t664.length co47 : Value).ownBlock ∧ some k_ ≠ (.slice Ao58 t672.length co58 : Value).ownBlock ∧ some k_ ≠ (.slice Ao59 t675.length co59 : Value).ownBlock) (.slice Ao46 t667.length co46) t667) := ⟨zRM (Kd.R_far (p := ⟨gb678, 2, none⟩) (Kd.R_far (p := ⟨gb678, 1, none⟩) (Kd.R_far (p := ⟨gb678, 0, none⟩) (Kd.R_types HO669.out BK678.out (by decide)) (fun _ hk => hk.2) (.bool t671)) (fun _ hk => hk.2) (.slice Ao58 t672.length co58)) (fun _ hk => hk.2) (.slice Ao59 t675.length co59)) (fun _ hk => ⟨hk.1.1.1.1, ⟨hk.1.1.1.2.1, ⟨hk.1.1.1.2.2.1, ⟨hk.1.1.1.2.2.2, ⟨hk.1.1.2, hk.1.2⟩⟩⟩⟩⟩)⟩
          have n5_ : Aside0 (Kd.R (Kd.int .u32) 37 (((w54.setCell ⟨gb678, 0, none⟩ (.bool t671)).setCell ⟨gb678, 1, none⟩ (.slice Ao58 t672.length co58)).setCell ⟨gb678, 2, none⟩ (.slice Ao59 t675.length co59)) w.heap.size (fun k_ => some k_ ≠ (.slice Ao35 t654.length co35 : Value).ownBlock ∧ some k_ ≠ (.slice Ao36 t657.length co36 : Value).ownBlock ∧ some k_ ≠ (.slice Ao38 t661.length co38 : Value).ownBlock ∧ some k_ ≠ (.slice Ao47 t664.length co47 : Value).ownBlock ∧ some k_ ≠ (.slice Ao46 t667.length co46 : Value).ownBlock ∧ some k_ ≠ (.slice Ao59 t675.length co59 : Value).ownBlock) (.slice Ao58 t672.length co58) t672) := ⟨zRM (Kd.R_far (p := ⟨gb678, 2, none⟩) (Kd.R_far (p := ⟨gb678, 1, none⟩) (Kd.R_far (p := ⟨gb678, 0, none⟩) (Kd.R_types HO674.out BK678.out (by decide)) (fun _ hk => hk.2) (.bool t671)) (fun _ hk => hk.2) (.slice Ao58 t672.length co58)) (fun _ hk => hk.2) (.slice Ao59 t675.length co59)) (fun _ hk => ⟨hk.1.1.1.1.1.2, ⟨hk.1.1.1.1.2, ⟨hk.1.1.1.2, ⟨hk.1.1.2, ⟨hk.1.2, hk.1.1.1.1.1.1⟩⟩⟩⟩⟩)⟩
          have n6_ : Aside0 (Kd.R (Kd.int .u32) 37 (((w54.setCell ⟨gb678, 0, none⟩ (.bool t671)).setCell ⟨gb678, 1, none⟩ (.slice Ao58 t672.length co58)).setCell ⟨gb678, 2, none⟩ (.slice Ao59 t675.length co59)) w.heap.size (fun k_ => some k_ ≠ (.slice Ao35 t654.length co35 : Value).ownBlock ∧ some k_ ≠ (.slice Ao36 t657.length co36 : Value).ownBlock ∧ some k_ ≠ (.slice Ao38 t661.length co38 : Value).ownBlock ∧ some k_ ≠ (.slice Ao47 t664.length co47 : Value).ownBlock ∧ some k_ ≠ (.slice Ao46 t667.length co46 : Value).ownBlock ∧ some k_ ≠ (.slice Ao58 t672.length co58 : Value).ownBlock) (.slice Ao59 t675.length co59) t675) := ⟨zRM (Kd.R_far (p := ⟨gb678, 2, none⟩) (Kd.R_far (p := ⟨gb678, 1, none⟩) (Kd.R_far (p := ⟨gb678, 0, none⟩) (Kd.R_types HO677.out BK678.out (by decide)) (fun _ hk => hk.2) (.bool t671)) (fun _ hk => hk.2) (.slice Ao58 t672.length co58)) (fun _ hk => hk.2) (.slice Ao59 t675.length co59)) (fun _ hk => ⟨hk.1.1.1.1.1.2, ⟨hk.1.1.1.1.2, ⟨hk.1.1.1.2, ⟨hk.1.1.2, ⟨hk.1.2, hk.1.1.1.1.1.1⟩⟩⟩⟩⟩)⟩
          have n7_ : Aside0 ((((w54.setCell ⟨gb678, 0, none⟩ (.bool t671)).setCell ⟨gb678, 1, none⟩ (.slice Ao58 t672.length co58)).setCell ⟨gb678, 2, none⟩ (.slice Ao59 t675.length co59)).heap[gb660]? = some (.cells #[.bool t653, .slice Ao35 t654.length co35, .slice Ao36 t657.length co36] 25 (0, 0))) := ⟨by (with_reducible repeat (first | refine blk_drewN ?_ _ | refine blk_drew ?_ | refine blk_alloc ?_ _)); refine blk_far ?_ NB660_678.out _; (with_reducible repeat (first | refine blk_drewN ?_ _ | refine blk_drew ?_ | refine blk_alloc ?_ _)); refine blk_far ?_ NB660_678.out _; (with_reducible repeat (first | refine blk_drewN ?_ _ | refine blk_drew ?_ | refine blk_alloc ?_ _)); refine blk_far ?_ NB660_678.out _; (with_reducible repeat (first | refine blk_drewN ?_ _ | refine blk_drew ?_ | refine blk_alloc ?_ _)); exact BK660.out⟩
          have n8_ : Aside0 ((((w54.setCell ⟨gb678, 0, none⟩ (.bool t671)).setCell ⟨gb678, 1, none⟩ (.slice Ao58 t672.length co58)).setCell ⟨gb678, 2, none⟩ (.slice Ao59 t675.length co59)).heap[gb670]? = some (.cells #[.bool a0, .slice Ao47 t664.length co47, .slice Ao46 t667.length co46] 25 (0, 0))) := ⟨by (with_reducible repeat (first | refine blk_drewN ?_ _ | refine blk_drew ?_ | refine blk_alloc ?_ _)); refine blk_far ?_ NB670_678.out _; (with_reducible repeat (first | refine blk_drewN ?_ _ | refine blk_drew ?_ | refine blk_alloc ?_ _)); refine blk_far ?_ NB670_678.out _; (with_reducible repeat (first | refine blk_drewN ?_ _ | refine blk_drew ?_ | refine blk_alloc ?_ _)); refine blk_far ?_ NB670_678.out _; (with_reducible repeat (first | refine blk_drewN ?_ _ | refine blk_drew ?_ | refine blk_alloc ?_ _)); exact BK670.out⟩
          have n9_ : Aside0 ((((w54.setCell ⟨gb678, 0, none⟩ (.bool t671)).setCell ⟨gb678, 1, none⟩ (.slice Ao58 t672.length co58)).setCell ⟨gb678, 2, none⟩ (.slice Ao59 t675.length co59)).heap[gb678]? = some (.cells #[.bool t671, .slice Ao58 t672.length co58, .slice Ao59 t675.length co59] 25 (0, 0))) := ⟨by (with_reducible repeat (first | refine blk_drewN ?_ _ | refine blk_drew ?_ | refine blk_alloc ?_ _)); refine blk_put (cs := #[.bool t671, .slice Ao58 t672.length co58, .slice none 0 0]) ?_ 2 _ rfl; (with_reducible repeat (first | refine blk_drewN ?_ _ | refine blk_drew ?_ | refine blk_alloc ?_ _)); refine blk_put (cs := #[.bool t671, .slice none 0 0, .slice none 0 0]) ?_ 1 _ rfl; (with_reducible repeat (first | refine blk_drewN ?_ _ | refine blk_drew ?_ | refine blk_alloc ?_ _)); refine blk_put (cs := #[.bool false, .slice none 0 0, .slice none 0 0]) ?_ 0 _ rfl; (with_reducible repeat (first | refine blk_drewN ?_ _ | refine blk_drew ?_ | refine blk_alloc ?_ _)); exact BK678.out⟩
          have n10_ : Aside0 (Below w.heap.size w (((w54.setCell ⟨gb678, 0, none⟩ (.bool t671)).setCell ⟨gb678, 1, none⟩ (.slice Ao58 t672.length co58)).setCell ⟨gb678, 2, none⟩ (.slice Ao59 t675.length co59))) := ⟨by repeat (first | (with_reducible first | exact HB.out | apply below_alloc | apply pw_below_drewN | apply below_drew1 | refine below_set ?_ GE660.out | refine below_set ?_ GE670.out | refine below_set ?_ GE678.out) | exact HB.out)⟩
          (try clear HO656)
          (try clear HO659)
          (try clear HO663)
          (try clear HO666)
          (try clear HO669)
          (try clear HO674)
          (try clear HO677)
          (try clear BK660)
          (try clear BK670)
          (try clear BK678)
          (try clear HB)
          generalize (((w54.setCell ⟨gb678, 0, none⟩ (.bool t671)).setCell ⟨gb678, 1, none⟩ (.slice Ao58 t672.length co58)).setCell ⟨gb678, 2, none⟩ (.slice Ao59 t675.length co59)) = w60 at n0_ n1_ n2_ n3_ n4_ n5_ n6_ n7_ n8_ n9_ n10_ ⊢
          have HO656 := n0_
          have HO659 := n1_
          have HO663 := n2_
          have HO666 := n3_
          have HO669 := n4_
          have HO674 := n5_
          have HO677 := n6_
          have BK660 := n7_
          have BK670 := n8_
          have BK678 := n9_
          have HB := n10_
          clear n0_ n1_ n2_ n3_ n4_ n5_ n6_ n7_ n8_ n9_ n10_
          replace HO656 := zA (Kd.R_drew HO656.out)
          replace HO659 := zA (Kd.R_drew HO659.out)
          replace HO663 := zA (Kd.R_drew HO663.out)
          replace HO666 := zA (Kd.R_drew HO666.out)
          replace HO669 := zA (Kd.R_drew HO669.out)
          replace HO674 := zA (Kd.R_drew HO674.out)
          replace HO677 := zA (Kd.R_drew HO677.out)
          replace BK660 := zA (blk_drew BK660.out)
          replace BK670 := zA (blk_drew BK670.out)
          replace BK678 := zA (blk_drew BK678.out)
          replace HB := zA (below_drew1 HB.out)
          refine start_ (n := 43) (S := fun w' => w'.cell? ⟨gb678, 0, none⟩ = some (.bool t671) ∧ w'.cell? ⟨gb678, 1, none⟩ = some (.slice Ao58 t672.length co58) ∧ w'.cell? ⟨gb678, 2, none⟩ = some (.slice Ao59 t675.length co59) ∧ w'.cell? ⟨gb670, 0, none⟩ = some (.bool a0) ∧ w'.cell? ⟨gb670, 1, none⟩ = some (.slice Ao47 t664.length co47) ∧ w'.cell? ⟨gb670, 2, none⟩ = some (.slice Ao46 t667.length co46) ∧ w'.cell? ⟨gb660, 0, none⟩ = some (.bool t653) ∧ w'.cell? ⟨gb660, 1, none⟩ = some (.slice Ao35 t654.length co35) ∧ w'.cell? ⟨gb660, 2, none⟩ = some (.slice Ao36 t657.length co36)) (ds := []) #[false, false, false, false, false, false, false, false, false, false, false, false, false, false, false, false, false, false, false, false, false, false, false, false, false, false, false, false, false, false, false, false, false, false, false, false, false, false, false, false, false, false, false] zk rfl rfl ⟨zc BK678 0 rfl, zc BK678 1 rfl, zc BK678 2 rfl, zc BK670 0 rfl, zc BK670 1 rfl, zc BK670 2 rfl, zc BK660 0 rfl, zc BK660 1 rfl, zc BK660 2 rfl⟩ (fun hHeld => ?_); refine with_tabW credencelaw2_RationalCanonical.tab7 credencelaw2_RationalCanonical.bits7 (fun HT_ HW_ => ?_)
          generalize w60.drew = w61 at HO656 HO659 HO663 HO666 HO669 HO674 HO677 BK660 BK670 BK678 HB hHeld ⊢
          refine take_ (i := 0) (N := some 41) (v := ?_) (a' := ?_) #[true, false, false, false, false, false, false, false, false, false, false, false, false, false, false, false, false, false, false, false, false, false, false, false, false, false, false, false, false, false, false, false, false, false, false, false, false, false, false, false, false, false, false] rfl rfl (take_ofW HT_.out HW_.out zk) (fun _ _ _ h => h) (Or.inl ⟨by rfl, ?_⟩) hHeld ?_ ?_
          rotate_left
          ·
           rintro w' ⟨s0, s1, s2, s3, s4, s5, s6, s7, s8⟩
           go_simp
           with_reducible rfl
          rotate_left
          ·
           simp only [Act.put, List.setIfInBounds_toArray, List.set_cons_zero, List.set_cons_succ, i64_w, i32_w]
           rfl
          refine one_ (i := 1) (N := some 42) #[true, true, false, false, false, false, false, false, false, false, false, false, false, false, false, false, false, false, false, false, false, false, false, false, false, false, false, false, false, false, false, false, false, false, false, false, false, false, false, false, false, false, false] rfl rfl (one_of HT_.out zk) (by decide) (fun K hK => ?_)
          refine goes_ Tryd.func34 zk rfl #[.agg #[.bool t671, .slice Ao58 t672.length co58, .slice Ao59 t675.length co59]] (by rfl) rfl rfl zX ?_
          with_reducible refine (rational_IsCanonical.calls kj4 t671 _ _ t672 _ _ t675 true _ ?side1 ?side2 ?side3 ?side4 A13.out).mono ?_
          (case side1 => exact zC (Kd.R_reads' HO674.out).2.2)
          (case side2 => exact (Kd.R_reads' HO674.out).2.1)
          (case side3 => exact zC (Kd.R_reads' HO677.out).2.2)
          (case side4 => exact (Kd.R_reads' HO677.out).2.1)
          rintro e w62 ⟨rfl, hb⟩
          refine ⟨_, rfl, ?_⟩
          replace HO656 := zrb HO656 hb rfl
          replace HO659 := zrb HO659 hb rfl
          replace HO663 := zrb HO663 hb rfl
          replace HO666 := zrb HO666 hb rfl
          replace HO669 := zrb HO669 hb rfl
          replace HO674 := zrb HO674 hb rfl
          replace HO677 := zrb HO677 hb rfl
          replace BK660 := zkb BK660 hb
          replace BK670 := zkb BK670 hb
          replace BK678 := zkb BK678 hb
          replace HB := zbb HB hb rfl
          refine hK.out _ _ ⟨zc BK678 0 rfl, zc BK678 1 rfl, zc BK678 2 rfl, zc BK670 0 rfl, zc BK670 1 rfl, zc BK670 2 rfl, zc BK660 0 rfl, zc BK660 1 rfl, zc BK660 2 rfl⟩ (fun hHeld => ?_)
          clear hK K
          refine norm_ (a' := ?_) ?_ ?_
          rotate_left
          ·
           show Act.put _ (some 42) _ = _
           simp only [Act.put, List.setIfInBounds_toArray, List.set_cons_zero, List.set_cons_succ, i64_w, i32_w]
           rfl
          refine zp 2 43 HT_ ?_
          refine take_ (i := 3) (N := some 44) (v := ?_) (a' := ?_) #[true, true, true, true, false, false, false, false, false, false, false, false, false, false, false, false, false, false, false, false, false, false, false, false, false, false, false, false, false, false, false, false, false, false, false, false, false, false, false, false, false, false, false] rfl rfl (take_ofW HT_.out HW_.out zk) (fun _ _ _ h => h) (Or.inl ⟨by rfl, ?_⟩) hHeld ?_ ?_
          rotate_left
          ·
           rintro w' ⟨s0, s1, s2, s3, s4, s5, s6, s7, s8⟩
           go_simp
           with_reducible rfl
          rotate_left
          ·
           simp only [Act.put, List.setIfInBounds_toArray, List.set_cons_zero, List.set_cons_succ, i64_w, i32_w]
           rfl
          refine take_ (i := 5) (N := some 46) (v := ?_) (a' := ?_) #[true, true, true, true, false, true, false, false, false, false, false, false, false, false, false, false, false, false, false, false, false, false, false, false, false, false, false, false, false, false, false, false, false, false, false, false, false, false, false, false, false, false, false] rfl rfl (take_ofW HT_.out HW_.out zk) (fun _ _ _ h => h) (Or.inl ⟨by rfl, ?_⟩) hHeld ?_ ?_
          rotate_left
          ·
           rintro w' ⟨s0, s1, s2, s3, s4, s5, s6, s7, s8⟩
           go_simp
           with_reducible rfl
          rotate_left
          ·
           simp only [Act.put, List.setIfInBounds_toArray, List.set_cons_zero, List.set_cons_succ, i64_w, i32_w]
           rfl
          refine one_ (i := 4) (N := some 45) #[true, true, true, true, true, true, false, false, false, false, false, false, false, false, false, false, false, false, false, false, false, false, false, false, false, false, false, false, false, false, false, false, false, false, false, false, false, false, false, false, false, false, false] rfl rfl (one_of HT_.out zk) (by decide) (fun K hK => ?_)
          refine goes_ Tryd.func20 zk rfl #[.agg #[.bool a0, .slice Ao47 t664.length co47, .slice Ao46 t667.length co46]] (by rfl) rfl rfl zX ?_
          with_reducible refine (rational_Normalize.calls kj4 a0 _ _ t664 _ _ t667 t680 t681 t684 _ ?side1 ?side2 ?side3 ?side4 A15.out).mono ?_
          (case side1 => exact zC (Kd.R_reads' HO666.out).2.2)
          (case side2 => exact (Kd.R_reads' HO666.out).2.1)
          (case side3 => exact zC (Kd.R_reads' HO669.out).2.2)
          (case side4 => exact (Kd.R_reads' HO669.out).2.1)
          rintro e w63 ⟨v682, v685, rfl, ho0, ho1, hb⟩
          refine ⟨_, rfl, ?_⟩
          have HO683 := zA (Kd.R_lower (Kd.R_new' (Kd.R_new' (Kd.R_new' (Kd.R_new' (Kd.R_new' (Kd.R_new' (Kd.R_new' ho0 (Kd.R_lt (zr HO656 rfl))) (Kd.R_lt (zr HO659 rfl))) (Kd.R_lt (zr HO663 rfl))) (Kd.R_lt (zr HO666 rfl))) (Kd.R_lt (zr HO669 rfl))) (Kd.R_lt (zr HO674 rfl))) (Kd.R_lt (zr HO677 rfl))) (below_size (zb HB rfl)))
          have HO686 := zA (Kd.R_lower (Kd.R_new' (Kd.R_new' (Kd.R_new' (Kd.R_new' (Kd.R_new' (Kd.R_new' (Kd.R_new' ho1 (Kd.R_lt (zr HO656 rfl))) (Kd.R_lt (zr HO659 rfl))) (Kd.R_lt (zr HO663 rfl))) (Kd.R_lt (zr HO666 rfl))) (Kd.R_lt (zr HO669 rfl))) (Kd.R_lt (zr HO674 rfl))) (Kd.R_lt (zr HO677 rfl))) (below_size (zb HB rfl)))
          replace HO656 := zA (Kd.R_mono (Kd.R_told (Kd.R_told (Kd.R_old (zr HO656 rfl) hb) (Kd.R_base ho0)) (Kd.R_base ho1)) (fun _ h_ => h_.1))
          replace HO659 := zA (Kd.R_mono (Kd.R_told (Kd.R_told (Kd.R_old (zr HO659 rfl) hb) (Kd.R_base ho0)) (Kd.R_base ho1)) (fun _ h_ => h_.1))
          replace HO663 := zA (Kd.R_mono (Kd.R_told (Kd.R_told (Kd.R_old (zr HO663 rfl) hb) (Kd.R_base ho0)) (Kd.R_base ho1)) (fun _ h_ => h_.1))
          replace HO666 := zA (Kd.R_mono (Kd.R_told (Kd.R_told (Kd.R_old (zr HO666 rfl) hb) (Kd.R_base ho0)) (Kd.R_base ho1)) (fun _ h_ => h_.1))
          replace HO669 := zA (Kd.R_mono (Kd.R_told (Kd.R_told (Kd.R_old (zr HO669 rfl) hb) (Kd.R_base ho0)) (Kd.R_base ho1)) (fun _ h_ => h_.1))
          replace HO674 := zA (Kd.R_mono (Kd.R_told (Kd.R_told (Kd.R_old (zr HO674 rfl) hb) (Kd.R_base ho0)) (Kd.R_base ho1)) (fun _ h_ => h_.1))
          replace HO677 := zA (Kd.R_mono (Kd.R_told (Kd.R_told (Kd.R_old (zr HO677 rfl) hb) (Kd.R_base ho0)) (Kd.R_base ho1)) (fun _ h_ => h_.1))
          replace BK660 := zkb BK660 hb
          replace BK670 := zkb BK670 hb
          replace BK678 := zkb BK678 hb
          replace HB := zbb HB hb rfl
          obtain ⟨Ao64, co64, eo64⟩ := Kd.R_slice HO683.out
          (first | subst eo64 | (injection eo64 with f1_ f2_ f3_; have f4_ := f1_.symm; have f5_ := f3_.symm; clear f1_ f2_ f3_; subst f4_; subst f5_))
          obtain ⟨Ao65, co65, eo65⟩ := Kd.R_slice HO686.out
          (first | subst eo65 | (injection eo65 with f1_ f2_ f3_; have f4_ := f1_.symm; have f5_ := f3_.symm; clear f1_ f2_ f3_; subst f4_; subst f5_))
          refine hK.out _ _ ⟨zc BK678 0 rfl, zc BK678 1 rfl, zc BK678 2 rfl, zc BK670 0 rfl, zc BK670 1 rfl, zc BK670 2 rfl, zc BK660 0 rfl, zc BK660 1 rfl, zc BK660 2 rfl⟩ (fun hHeld => ?_)
          clear hK K
          refine norm_ (a' := ?_) ?_ ?_
          rotate_left
          ·
           show Act.put _ (some 45) _ = _
           simp only [Act.put, List.setIfInBounds_toArray, List.set_cons_zero, List.set_cons_succ, i64_w, i32_w]
           rfl
          refine one_ (i := 6) (N := some 47) #[true, true, true, true, true, true, true, false, false, false, false, false, false, false, false, false, false, false, false, false, false, false, false, false, false, false, false, false, false, false, false, false, false, false, false, false, false, false, false, false, false, false, false] rfl rfl (one_of HT_.out zk) (by decide) (fun K hK => ?_)
          refine goes_ Tryd.func13 zk rfl #[.agg #[.bool t680, .slice Ao64 t681.length co64, .slice Ao65 t684.length co65], .agg #[.bool t671, .slice Ao58 t672.length co58, .slice Ao59 t675.length co59]] (by rfl) rfl rfl zX ?_
          with_reducible refine (credencelaw2_same.calls kj4 t680 _ _ t681 _ _ t684 t671 _ _ t672 _ _ t675 true _ ?side1 ?side2 ?side3 ?side4 ?side5 ?side6 ?side7 ?side8 A16.out).mono ?_
          (case side1 => exact zC (Kd.R_reads' HO683.out).2.2)
          (case side2 => exact (Kd.R_reads' HO683.out).2.1)
          (case side3 => exact zC (Kd.R_reads' HO686.out).2.2)
          (case side4 => exact (Kd.R_reads' HO686.out).2.1)
          (case side5 => exact zC (Kd.R_reads' HO674.out).2.2)
          (case side6 => exact (Kd.R_reads' HO674.out).2.1)
          (case side7 => exact zC (Kd.R_reads' HO677.out).2.2)
          (case side8 => exact (Kd.R_reads' HO677.out).2.1)
          rintro e w66 ⟨rfl, hb⟩
          refine ⟨_, rfl, ?_⟩
          replace HO656 := zrb HO656 hb rfl
          replace HO659 := zrb HO659 hb rfl
          replace HO663 := zrb HO663 hb rfl
          replace HO666 := zrb HO666 hb rfl
          replace HO669 := zrb HO669 hb rfl
          replace HO674 := zrb HO674 hb rfl
          replace HO677 := zrb HO677 hb rfl
          replace HO683 := zrb HO683 hb rfl
          replace HO686 := zrb HO686 hb rfl
          replace BK660 := zkb BK660 hb
          replace BK670 := zkb BK670 hb
          replace BK678 := zkb BK678 hb
          replace HB := zbb HB hb rfl
          refine hK.out _ _ ⟨zc BK678 0 rfl, zc BK678 1 rfl, zc BK678 2 rfl, zc BK670 0 rfl, zc BK670 1 rfl, zc BK670 2 rfl, zc BK660 0 rfl, zc BK660 1 rfl, zc BK660 2 rfl⟩ (fun hHeld => ?_)
          clear hK K
          refine norm_ (a' := ?_) ?_ ?_
          rotate_left
          ·
           show Act.put _ (some 47) _ = _
           simp only [Act.put, List.setIfInBounds_toArray, List.set_cons_zero, List.set_cons_succ, i64_w, i32_w]
           rfl
          refine zp 7 48 HT_ ?_
          refine zp 8 49 HT_ ?_
          refine take_ (i := 9) (N := some 50) (v := ?_) (a' := ?_) #[true, true, true, true, true, true, true, true, true, true, false, false, false, false, false, false, false, false, false, false, false, false, false, false, false, false, false, false, false, false, false, false, false, false, false, false, false, false, false, false, false, false, false] rfl rfl (take_ofW HT_.out HW_.out zk) (fun _ _ _ h => h) (Or.inl ⟨by rfl, ?_⟩) hHeld ?_ ?_
          rotate_left
          ·
           rintro w' ⟨s0, s1, s2, s3, s4, s5, s6, s7, s8⟩
           go_simp
           with_reducible rfl
          rotate_left
          ·
           simp only [Act.put, List.setIfInBounds_toArray, List.set_cons_zero, List.set_cons_succ, i64_w, i32_w]
           rfl
          refine take_ (i := 11) (N := some 52) (v := ?_) (a' := ?_) #[true, true, true, true, true, true, true, true, true, true, false, true, false, false, false, false, false, false, false, false, false, false, false, false, false, false, false, false, false, false, false, false, false, false, false, false, false, false, false, false, false, false, false] rfl rfl (take_ofW HT_.out HW_.out zk) (fun _ _ _ h => h) (Or.inl ⟨by rfl, ?_⟩) hHeld ?_ ?_
          rotate_left
          ·
           rintro w' ⟨s0, s1, s2, s3, s4, s5, s6, s7, s8⟩
           go_simp
           with_reducible rfl
          rotate_left
          ·
           simp only [Act.put, List.setIfInBounds_toArray, List.set_cons_zero, List.set_cons_succ, i64_w, i32_w]
           rfl
          refine one_ (i := 10) (N := some 51) #[true, true, true, true, true, true, true, true, true, true, true, true, false, false, false, false, false, false, false, false, false, false, false, false, false, false, false, false, false, false, false, false, false, false, false, false, false, false, false, false, false, false, false] rfl rfl (one_of HT_.out zk) (by decide) (fun K hK => ?_)
          refine goes_ Tryd.func20 zk rfl #[.agg #[.bool t671, .slice Ao58 t672.length co58, .slice Ao59 t675.length co59]] (by rfl) rfl rfl zX ?_
          with_reducible refine (rational_Normalize.calls kj4 t671 _ _ t672 _ _ t675 t688 t689 t692 _ ?side1 ?side2 ?side3 ?side4 A18.out).mono ?_
          (case side1 => exact zC (Kd.R_reads' HO674.out).2.2)
          (case side2 => exact (Kd.R_reads' HO674.out).2.1)
          (case side3 => exact zC (Kd.R_reads' HO677.out).2.2)
          (case side4 => exact (Kd.R_reads' HO677.out).2.1)
          rintro e w67 ⟨v690, v693, rfl, ho0, ho1, hb⟩
          refine ⟨_, rfl, ?_⟩
          have HO691 := zA (Kd.R_lower (Kd.R_new' (Kd.R_new' (Kd.R_new' (Kd.R_new' (Kd.R_new' (Kd.R_new' (Kd.R_new' (Kd.R_new' (Kd.R_new' ho0 (Kd.R_lt (zr HO656 rfl))) (Kd.R_lt (zr HO659 rfl))) (Kd.R_lt (zr HO663 rfl))) (Kd.R_lt (zr HO666 rfl))) (Kd.R_lt (zr HO669 rfl))) (Kd.R_lt (zr HO674 rfl))) (Kd.R_lt (zr HO677 rfl))) (Kd.R_lt (zr HO683 rfl))) (Kd.R_lt (zr HO686 rfl))) (below_size (zb HB rfl)))
          have HO694 := zA (Kd.R_lower (Kd.R_new' (Kd.R_new' (Kd.R_new' (Kd.R_new' (Kd.R_new' (Kd.R_new' (Kd.R_new' (Kd.R_new' (Kd.R_new' ho1 (Kd.R_lt (zr HO656 rfl))) (Kd.R_lt (zr HO659 rfl))) (Kd.R_lt (zr HO663 rfl))) (Kd.R_lt (zr HO666 rfl))) (Kd.R_lt (zr HO669 rfl))) (Kd.R_lt (zr HO674 rfl))) (Kd.R_lt (zr HO677 rfl))) (Kd.R_lt (zr HO683 rfl))) (Kd.R_lt (zr HO686 rfl))) (below_size (zb HB rfl)))
          replace HO656 := zA (Kd.R_mono (Kd.R_told (Kd.R_told (Kd.R_old (zr HO656 rfl) hb) (Kd.R_base ho0)) (Kd.R_base ho1)) (fun _ h_ => h_.1))
          replace HO659 := zA (Kd.R_mono (Kd.R_told (Kd.R_told (Kd.R_old (zr HO659 rfl) hb) (Kd.R_base ho0)) (Kd.R_base ho1)) (fun _ h_ => h_.1))
          replace HO663 := zA (Kd.R_mono (Kd.R_told (Kd.R_told (Kd.R_old (zr HO663 rfl) hb) (Kd.R_base ho0)) (Kd.R_base ho1)) (fun _ h_ => h_.1))
          replace HO666 := zA (Kd.R_mono (Kd.R_told (Kd.R_told (Kd.R_old (zr HO666 rfl) hb) (Kd.R_base ho0)) (Kd.R_base ho1)) (fun _ h_ => h_.1))
          replace HO669 := zA (Kd.R_mono (Kd.R_told (Kd.R_told (Kd.R_old (zr HO669 rfl) hb) (Kd.R_base ho0)) (Kd.R_base ho1)) (fun _ h_ => h_.1))
          replace HO674 := zA (Kd.R_mono (Kd.R_told (Kd.R_told (Kd.R_old (zr HO674 rfl) hb) (Kd.R_base ho0)) (Kd.R_base ho1)) (fun _ h_ => h_.1))
          replace HO677 := zA (Kd.R_mono (Kd.R_told (Kd.R_told (Kd.R_old (zr HO677 rfl) hb) (Kd.R_base ho0)) (Kd.R_base ho1)) (fun _ h_ => h_.1))
          replace HO683 := zA (Kd.R_mono (Kd.R_told (Kd.R_told (Kd.R_old (zr HO683 rfl) hb) (Kd.R_base ho0)) (Kd.R_base ho1)) (fun _ h_ => h_.1))
          replace HO686 := zA (Kd.R_mono (Kd.R_told (Kd.R_told (Kd.R_old (zr HO686 rfl) hb) (Kd.R_base ho0)) (Kd.R_base ho1)) (fun _ h_ => h_.1))
          replace BK660 := zkb BK660 hb
          replace BK670 := zkb BK670 hb
          replace BK678 := zkb BK678 hb
          replace HB := zbb HB hb rfl
          obtain ⟨Ao68, co68, eo68⟩ := Kd.R_slice HO691.out
          (first | subst eo68 | (injection eo68 with f1_ f2_ f3_; have f4_ := f1_.symm; have f5_ := f3_.symm; clear f1_ f2_ f3_; subst f4_; subst f5_))
          obtain ⟨Ao69, co69, eo69⟩ := Kd.R_slice HO694.out
          (first | subst eo69 | (injection eo69 with f1_ f2_ f3_; have f4_ := f1_.symm; have f5_ := f3_.symm; clear f1_ f2_ f3_; subst f4_; subst f5_))
          refine hK.out _ _ ⟨zc BK678 0 rfl, zc BK678 1 rfl, zc BK678 2 rfl, zc BK670 0 rfl, zc BK670 1 rfl, zc BK670 2 rfl, zc BK660 0 rfl, zc BK660 1 rfl, zc BK660 2 rfl⟩ (fun hHeld => ?_)
          clear hK K
          refine norm_ (a' := ?_) ?_ ?_
          rotate_left
          ·
           show Act.put _ (some 51) _ = _
           simp only [Act.put, List.setIfInBounds_toArray, List.set_cons_zero, List.set_cons_succ, i64_w, i32_w]
           rfl
          refine one_ (i := 12) (N := some 53) #[true, true, true, true, true, true, true, true, true, true, true, true, true, false, false, false, false, false, false, false, false, false, false, false, false, false, false, false, false, false, false, false, false, false, false, false, false, false, false, false, false, false, false] rfl rfl (one_of HT_.out zk) (by decide) (fun K hK => ?_)
          refine goes_ Tryd.func13 zk rfl #[.agg #[.bool t688, .slice Ao68 t689.length co68, .slice Ao69 t692.length co69], .agg #[.bool t671, .slice Ao58 t672.length co58, .slice Ao59 t675.length co59]] (by rfl) rfl rfl zX ?_
          with_reducible refine (credencelaw2_same.calls kj4 t688 _ _ t689 _ _ t692 t671 _ _ t672 _ _ t675 true _ ?side1 ?side2 ?side3 ?side4 ?side5 ?side6 ?side7 ?side8 A19.out).mono ?_
          (case side1 => exact zC (Kd.R_reads' HO691.out).2.2)
          (case side2 => exact (Kd.R_reads' HO691.out).2.1)
          (case side3 => exact zC (Kd.R_reads' HO694.out).2.2)
          (case side4 => exact (Kd.R_reads' HO694.out).2.1)
          (case side5 => exact zC (Kd.R_reads' HO674.out).2.2)
          (case side6 => exact (Kd.R_reads' HO674.out).2.1)
          (case side7 => exact zC (Kd.R_reads' HO677.out).2.2)
          (case side8 => exact (Kd.R_reads' HO677.out).2.1)
          rintro e w70 ⟨rfl, hb⟩
          refine ⟨_, rfl, ?_⟩
          replace HO656 := zrb HO656 hb rfl
          replace HO659 := zrb HO659 hb rfl
          replace HO663 := zrb HO663 hb rfl
          replace HO666 := zrb HO666 hb rfl
          replace HO669 := zrb HO669 hb rfl
          replace HO674 := zrb HO674 hb rfl
          replace HO677 := zrb HO677 hb rfl
          replace HO683 := zrb HO683 hb rfl
          replace HO686 := zrb HO686 hb rfl
          replace HO691 := zrb HO691 hb rfl
          replace HO694 := zrb HO694 hb rfl
          replace BK660 := zkb BK660 hb
          replace BK670 := zkb BK670 hb
          replace BK678 := zkb BK678 hb
          replace HB := zbb HB hb rfl
          refine hK.out _ _ ⟨zc BK678 0 rfl, zc BK678 1 rfl, zc BK678 2 rfl, zc BK670 0 rfl, zc BK670 1 rfl, zc BK670 2 rfl, zc BK660 0 rfl, zc BK660 1 rfl, zc BK660 2 rfl⟩ (fun hHeld => ?_)
          clear hK K
          refine norm_ (a' := ?_) ?_ ?_
          rotate_left
          ·
           show Act.put _ (some 53) _ = _
           simp only [Act.put, List.setIfInBounds_toArray, List.set_cons_zero, List.set_cons_succ, i64_w, i32_w]
           rfl
          refine zp 13 54 HT_ ?_
          refine zp 14 55 HT_ ?_
          refine take_ (i := 15) (N := some 56) (v := ?_) (a' := ?_) #[true, true, true, true, true, true, true, true, true, true, true, true, true, true, true, true, false, false, false, false, false, false, false, false, false, false, false, false, false, false, false, false, false, false, false, false, false, false, false, false, false, false, false] rfl rfl (take_ofW HT_.out HW_.out zk) (fun _ _ _ h => h) (Or.inl ⟨by rfl, ?_⟩) hHeld ?_ ?_
          rotate_left
          ·
           rintro w' ⟨s0, s1, s2, s3, s4, s5, s6, s7, s8⟩
           go_simp
           with_reducible rfl
          rotate_left
          ·
           simp only [Act.put, List.setIfInBounds_toArray, List.set_cons_zero, List.set_cons_succ, i64_w, i32_w]
           rfl
          refine take_ (i := 16) (N := some 57) (v := ?_) (a' := ?_) #[true, true, true, true, true, true, true, true, true, true, true, true, true, true, true, true, true, false, false, false, false, false, false, false, false, false, false, false, false, false, false, false, false, false, false, false, false, false, false, false, false, false, false] rfl rfl (take_ofW HT_.out HW_.out zk) (fun _ _ _ h => h) (Or.inl ⟨by rfl, ?_⟩) hHeld ?_ ?_
          rotate_left
          ·
           rintro w' ⟨s0, s1, s2, s3, s4, s5, s6, s7, s8⟩
           go_simp
           with_reducible rfl
          rotate_left
          ·
           simp only [Act.put, List.setIfInBounds_toArray, List.set_cons_zero, List.set_cons_succ, i64_w, i32_w]
           rfl
          refine one_ (i := 17) (N := some 58) #[true, true, true, true, true, true, true, true, true, true, true, true, true, true, true, true, true, true, false, false, false, false, false, false, false, false, false, false, false, false, false, false, false, false, false, false, false, false, false, false, false, false, false] rfl rfl (one_of HT_.out zk) (by decide) (fun K hK => ?_)
          refine goes_ Tryd.func29 zk rfl #[.agg #[.bool t653, .slice Ao35 t654.length co35, .slice Ao36 t657.length co36], .agg #[.bool a0, .slice Ao47 t664.length co47, .slice Ao46 t667.length co46]] (by rfl) rfl rfl zX ?_
          with_reducible refine (rational_Mul.calls kj4 t653 _ _ t654 _ _ t657 a0 _ _ t664 _ _ t667 t696 t697 t700 _ ?side1 ?side2 ?side3 ?side4 ?side5 ?side6 ?side7 ?side8 A21.out).mono ?_
          (case side1 => exact zC (Kd.R_reads' HO656.out).2.2)
          (case side2 => exact (Kd.R_reads' HO656.out).2.1)
          (case side3 => exact zC (Kd.R_reads' HO659.out).2.2)
          (case side4 => exact (Kd.R_reads' HO659.out).2.1)
          (case side5 => exact zC (Kd.R_reads' HO666.out).2.2)
          (case side6 => exact (Kd.R_reads' HO666.out).2.1)
          (case side7 => exact zC (Kd.R_reads' HO669.out).2.2)
          (case side8 => exact (Kd.R_reads' HO669.out).2.1)
          rintro e w71 ⟨v698, v701, rfl, ho0, ho1, hb⟩
          refine ⟨_, rfl, ?_⟩
          have HO699 := zA (Kd.R_lower (Kd.R_new' (Kd.R_new' (Kd.R_new' (Kd.R_new' (Kd.R_new' (Kd.R_new' (Kd.R_new' (Kd.R_new' (Kd.R_new' (Kd.R_new' (Kd.R_new' ho0 (Kd.R_lt (zr HO656 rfl))) (Kd.R_lt (zr HO659 rfl))) (Kd.R_lt (zr HO663 rfl))) (Kd.R_lt (zr HO666 rfl))) (Kd.R_lt (zr HO669 rfl))) (Kd.R_lt (zr HO674 rfl))) (Kd.R_lt (zr HO677 rfl))) (Kd.R_lt (zr HO683 rfl))) (Kd.R_lt (zr HO686 rfl))) (Kd.R_lt (zr HO691 rfl))) (Kd.R_lt (zr HO694 rfl))) (below_size (zb HB rfl)))
          have HO702 := zA (Kd.R_lower (Kd.R_new' (Kd.R_new' (Kd.R_new' (Kd.R_new' (Kd.R_new' (Kd.R_new' (Kd.R_new' (Kd.R_new' (Kd.R_new' (Kd.R_new' (Kd.R_new' ho1 (Kd.R_lt (zr HO656 rfl))) (Kd.R_lt (zr HO659 rfl))) (Kd.R_lt (zr HO663 rfl))) (Kd.R_lt (zr HO666 rfl))) (Kd.R_lt (zr HO669 rfl))) (Kd.R_lt (zr HO674 rfl))) (Kd.R_lt (zr HO677 rfl))) (Kd.R_lt (zr HO683 rfl))) (Kd.R_lt (zr HO686 rfl))) (Kd.R_lt (zr HO691 rfl))) (Kd.R_lt (zr HO694 rfl))) (below_size (zb HB rfl)))
          replace HO656 := zA (Kd.R_mono (Kd.R_told (Kd.R_told (Kd.R_old (zr HO656 rfl) hb) (Kd.R_base ho0)) (Kd.R_base ho1)) (fun _ h_ => h_.1))
          replace HO659 := zA (Kd.R_mono (Kd.R_told (Kd.R_told (Kd.R_old (zr HO659 rfl) hb) (Kd.R_base ho0)) (Kd.R_base ho1)) (fun _ h_ => h_.1))
          replace HO663 := zA (Kd.R_mono (Kd.R_told (Kd.R_told (Kd.R_old (zr HO663 rfl) hb) (Kd.R_base ho0)) (Kd.R_base ho1)) (fun _ h_ => h_.1))
          replace HO666 := zA (Kd.R_mono (Kd.R_told (Kd.R_told (Kd.R_old (zr HO666 rfl) hb) (Kd.R_base ho0)) (Kd.R_base ho1)) (fun _ h_ => h_.1))
          replace HO669 := zA (Kd.R_mono (Kd.R_told (Kd.R_told (Kd.R_old (zr HO669 rfl) hb) (Kd.R_base ho0)) (Kd.R_base ho1)) (fun _ h_ => h_.1))
          replace HO674 := zA (Kd.R_mono (Kd.R_told (Kd.R_told (Kd.R_old (zr HO674 rfl) hb) (Kd.R_base ho0)) (Kd.R_base ho1)) (fun _ h_ => h_.1))
          replace HO677 := zA (Kd.R_mono (Kd.R_told (Kd.R_told (Kd.R_old (zr HO677 rfl) hb) (Kd.R_base ho0)) (Kd.R_base ho1)) (fun _ h_ => h_.1))
          replace HO683 := zA (Kd.R_mono (Kd.R_told (Kd.R_told (Kd.R_old (zr HO683 rfl) hb) (Kd.R_base ho0)) (Kd.R_base ho1)) (fun _ h_ => h_.1))
          replace HO686 := zA (Kd.R_mono (Kd.R_told (Kd.R_told (Kd.R_old (zr HO686 rfl) hb) (Kd.R_base ho0)) (Kd.R_base ho1)) (fun _ h_ => h_.1))
          replace HO691 := zA (Kd.R_mono (Kd.R_told (Kd.R_told (Kd.R_old (zr HO691 rfl) hb) (Kd.R_base ho0)) (Kd.R_base ho1)) (fun _ h_ => h_.1))
          replace HO694 := zA (Kd.R_mono (Kd.R_told (Kd.R_told (Kd.R_old (zr HO694 rfl) hb) (Kd.R_base ho0)) (Kd.R_base ho1)) (fun _ h_ => h_.1))
          replace BK660 := zkb BK660 hb
          replace BK670 := zkb BK670 hb
          replace BK678 := zkb BK678 hb
          replace HB := zbb HB hb rfl
          obtain ⟨Ao72, co72, eo72⟩ := Kd.R_slice HO699.out
          (first | subst eo72 | (injection eo72 with f1_ f2_ f3_; have f4_ := f1_.symm; have f5_ := f3_.symm; clear f1_ f2_ f3_; subst f4_; subst f5_))
          obtain ⟨Ao73, co73, eo73⟩ := Kd.R_slice HO702.out
          (first | subst eo73 | (injection eo73 with f1_ f2_ f3_; have f4_ := f1_.symm; have f5_ := f3_.symm; clear f1_ f2_ f3_; subst f4_; subst f5_))
          refine hK.out _ _ ⟨zc BK678 0 rfl, zc BK678 1 rfl, zc BK678 2 rfl, zc BK670 0 rfl, zc BK670 1 rfl, zc BK670 2 rfl, zc BK660 0 rfl, zc BK660 1 rfl, zc BK660 2 rfl⟩ (fun hHeld => ?_)
          clear hK K
          refine norm_ (a' := ?_) ?_ ?_
          rotate_left
          ·
           show Act.put _ (some 58) _ = _
           simp only [Act.put, List.setIfInBounds_toArray, List.set_cons_zero, List.set_cons_succ, i64_w, i32_w]
           rfl
          refine one_ (i := 18) (N := some 59) #[true, true, true, true, true, true, true, true, true, true, true, true, true, true, true, true, true, true, true, false, false, false, false, false, false, false, false, false, false, false, false, false, false, false, false, false, false, false, false, false, false, false, false] rfl rfl (one_of HT_.out zk) (by decide) (fun K hK => ?_)
          refine goes_ Tryd.func34 zk rfl #[.agg #[.bool t696, .slice Ao72 t697.length co72, .slice Ao73 t700.length co73]] (by rfl) rfl rfl zX ?_
          with_reducible refine (rational_IsCanonical.calls kj4 t696 _ _ t697 _ _ t700 true _ ?side1 ?side2 ?side3 ?side4 A22.out).mono ?_
          (case side1 => exact zC (Kd.R_reads' HO699.out).2.2)
          (case side2 => exact (Kd.R_reads' HO699.out).2.1)
          (case side3 => exact zC (Kd.R_reads' HO702.out).2.2)
          (case side4 => exact (Kd.R_reads' HO702.out).2.1)
          rintro e w74 ⟨rfl, hb⟩
          refine ⟨_, rfl, ?_⟩
          replace HO656 := zrb HO656 hb rfl
          replace HO659 := zrb HO659 hb rfl
          replace HO663 := zrb HO663 hb rfl
          replace HO666 := zrb HO666 hb rfl
          replace HO669 := zrb HO669 hb rfl
          replace HO674 := zrb HO674 hb rfl
          replace HO677 := zrb HO677 hb rfl
          replace HO683 := zrb HO683 hb rfl
          replace HO686 := zrb HO686 hb rfl
          replace HO691 := zrb HO691 hb rfl
          replace HO694 := zrb HO694 hb rfl
          replace HO699 := zrb HO699 hb rfl
          replace HO702 := zrb HO702 hb rfl
          replace BK660 := zkb BK660 hb
          replace BK670 := zkb BK670 hb
          replace BK678 := zkb BK678 hb
          replace HB := zbb HB hb rfl
          refine hK.out _ _ ⟨zc BK678 0 rfl, zc BK678 1 rfl, zc BK678 2 rfl, zc BK670 0 rfl, zc BK670 1 rfl, zc BK670 2 rfl, zc BK660 0 rfl, zc BK660 1 rfl, zc BK660 2 rfl⟩ (fun hHeld => ?_)
          clear hK K
          refine norm_ (a' := ?_) ?_ ?_
          rotate_left
          ·
           show Act.put _ (some 59) _ = _
           simp only [Act.put, List.setIfInBounds_toArray, List.set_cons_zero, List.set_cons_succ, i64_w, i32_w]
           rfl
          refine zp 19 60 HT_ ?_
          refine zp 20 61 HT_ ?_
          refine take_ (i := 21) (N := some 62) (v := ?_) (a' := ?_) #[true, true, true, true, true, true, true, true, true, true, true, true, true, true, true, true, true, true, true, true, true, true, false, false, false, false, false, false, false, false, false, false, false, false, false, false, false, false, false, false, false, false, false] rfl rfl (take_ofW HT_.out HW_.out zk) (fun _ _ _ h => h) (Or.inl ⟨by rfl, ?_⟩) hHeld ?_ ?_
          rotate_left
          ·
           rintro w' ⟨s0, s1, s2, s3, s4, s5, s6, s7, s8⟩
           go_simp
           with_reducible rfl
          rotate_left
          ·
           simp only [Act.put, List.setIfInBounds_toArray, List.set_cons_zero, List.set_cons_succ, i64_w, i32_w]
           rfl
          refine take_ (i := 22) (N := some 63) (v := ?_) (a' := ?_) #[true, true, true, true, true, true, true, true, true, true, true, true, true, true, true, true, true, true, true, true, true, true, true, false, false, false, false, false, false, false, false, false, false, false, false, false, false, false, false, false, false, false, false] rfl rfl (take_ofW HT_.out HW_.out zk) (fun _ _ _ h => h) (Or.inl ⟨by rfl, ?_⟩) hHeld ?_ ?_
          rotate_left
          ·
           rintro w' ⟨s0, s1, s2, s3, s4, s5, s6, s7, s8⟩
           go_simp
           with_reducible rfl
          rotate_left
          ·
           simp only [Act.put, List.setIfInBounds_toArray, List.set_cons_zero, List.set_cons_succ, i64_w, i32_w]
           rfl
          refine one_ (i := 23) (N := some 64) #[true, true, true, true, true, true, true, true, true, true, true, true, true, true, true, true, true, true, true, true, true, true, true, true, false, false, false, false, false, false, false, false, false, false, false, false, false, false, false, false, false, false, false] rfl rfl (one_of HT_.out zk) (by decide) (fun K hK => ?_)
          refine goes_ Tryd.func28 zk rfl #[.agg #[.bool t653, .slice Ao35 t654.length co35, .slice Ao36 t657.length co36], .agg #[.bool a0, .slice Ao47 t664.length co47, .slice Ao46 t667.length co46]] (by rfl) rfl rfl zX ?_
          with_reducible refine (rational_Sub.calls kj4 t653 _ _ t654 _ _ t657 a0 _ _ t664 _ _ t667 t704 t705 t708 _ ?side1 ?side2 ?side3 ?side4 ?side5 ?side6 ?side7 ?side8 A24.out).mono ?_
          (case side1 => exact zC (Kd.R_reads' HO656.out).2.2)
          (case side2 => exact (Kd.R_reads' HO656.out).2.1)
          (case side3 => exact zC (Kd.R_reads' HO659.out).2.2)
          (case side4 => exact (Kd.R_reads' HO659.out).2.1)
          (case side5 => exact zC (Kd.R_reads' HO666.out).2.2)
          (case side6 => exact (Kd.R_reads' HO666.out).2.1)
          (case side7 => exact zC (Kd.R_reads' HO669.out).2.2)
          (case side8 => exact (Kd.R_reads' HO669.out).2.1)
          rintro e w75 ⟨v706, v709, rfl, ho0, ho1, hb⟩
          refine ⟨_, rfl, ?_⟩
          have HO707 := zA (Kd.R_lower (Kd.R_new' (Kd.R_new' (Kd.R_new' (Kd.R_new' (Kd.R_new' (Kd.R_new' (Kd.R_new' (Kd.R_new' (Kd.R_new' (Kd.R_new' (Kd.R_new' (Kd.R_new' (Kd.R_new' ho0 (Kd.R_lt (zr HO656 rfl))) (Kd.R_lt (zr HO659 rfl))) (Kd.R_lt (zr HO663 rfl))) (Kd.R_lt (zr HO666 rfl))) (Kd.R_lt (zr HO669 rfl))) (Kd.R_lt (zr HO674 rfl))) (Kd.R_lt (zr HO677 rfl))) (Kd.R_lt (zr HO683 rfl))) (Kd.R_lt (zr HO686 rfl))) (Kd.R_lt (zr HO691 rfl))) (Kd.R_lt (zr HO694 rfl))) (Kd.R_lt (zr HO699 rfl))) (Kd.R_lt (zr HO702 rfl))) (below_size (zb HB rfl)))
          have HO710 := zA (Kd.R_lower (Kd.R_new' (Kd.R_new' (Kd.R_new' (Kd.R_new' (Kd.R_new' (Kd.R_new' (Kd.R_new' (Kd.R_new' (Kd.R_new' (Kd.R_new' (Kd.R_new' (Kd.R_new' (Kd.R_new' ho1 (Kd.R_lt (zr HO656 rfl))) (Kd.R_lt (zr HO659 rfl))) (Kd.R_lt (zr HO663 rfl))) (Kd.R_lt (zr HO666 rfl))) (Kd.R_lt (zr HO669 rfl))) (Kd.R_lt (zr HO674 rfl))) (Kd.R_lt (zr HO677 rfl))) (Kd.R_lt (zr HO683 rfl))) (Kd.R_lt (zr HO686 rfl))) (Kd.R_lt (zr HO691 rfl))) (Kd.R_lt (zr HO694 rfl))) (Kd.R_lt (zr HO699 rfl))) (Kd.R_lt (zr HO702 rfl))) (below_size (zb HB rfl)))
          replace HO656 := zA (Kd.R_mono (Kd.R_told (Kd.R_told (Kd.R_old (zr HO656 rfl) hb) (Kd.R_base ho0)) (Kd.R_base ho1)) (fun _ h_ => h_.1))
          replace HO659 := zA (Kd.R_mono (Kd.R_told (Kd.R_told (Kd.R_old (zr HO659 rfl) hb) (Kd.R_base ho0)) (Kd.R_base ho1)) (fun _ h_ => h_.1))
          replace HO663 := zA (Kd.R_mono (Kd.R_told (Kd.R_told (Kd.R_old (zr HO663 rfl) hb) (Kd.R_base ho0)) (Kd.R_base ho1)) (fun _ h_ => h_.1))
          replace HO666 := zA (Kd.R_mono (Kd.R_told (Kd.R_told (Kd.R_old (zr HO666 rfl) hb) (Kd.R_base ho0)) (Kd.R_base ho1)) (fun _ h_ => h_.1))
          replace HO669 := zA (Kd.R_mono (Kd.R_told (Kd.R_told (Kd.R_old (zr HO669 rfl) hb) (Kd.R_base ho0)) (Kd.R_base ho1)) (fun _ h_ => h_.1))
          replace HO674 := zA (Kd.R_mono (Kd.R_told (Kd.R_told (Kd.R_old (zr HO674 rfl) hb) (Kd.R_base ho0)) (Kd.R_base ho1)) (fun _ h_ => h_.1))
          replace HO677 := zA (Kd.R_mono (Kd.R_told (Kd.R_told (Kd.R_old (zr HO677 rfl) hb) (Kd.R_base ho0)) (Kd.R_base ho1)) (fun _ h_ => h_.1))
          replace HO683 := zA (Kd.R_mono (Kd.R_told (Kd.R_told (Kd.R_old (zr HO683 rfl) hb) (Kd.R_base ho0)) (Kd.R_base ho1)) (fun _ h_ => h_.1))
          replace HO686 := zA (Kd.R_mono (Kd.R_told (Kd.R_told (Kd.R_old (zr HO686 rfl) hb) (Kd.R_base ho0)) (Kd.R_base ho1)) (fun _ h_ => h_.1))
          replace HO691 := zA (Kd.R_mono (Kd.R_told (Kd.R_told (Kd.R_old (zr HO691 rfl) hb) (Kd.R_base ho0)) (Kd.R_base ho1)) (fun _ h_ => h_.1))
          replace HO694 := zA (Kd.R_mono (Kd.R_told (Kd.R_told (Kd.R_old (zr HO694 rfl) hb) (Kd.R_base ho0)) (Kd.R_base ho1)) (fun _ h_ => h_.1))
          replace HO699 := zA (Kd.R_mono (Kd.R_told (Kd.R_told (Kd.R_old (zr HO699 rfl) hb) (Kd.R_base ho0)) (Kd.R_base ho1)) (fun _ h_ => h_.1))
          replace HO702 := zA (Kd.R_mono (Kd.R_told (Kd.R_told (Kd.R_old (zr HO702 rfl) hb) (Kd.R_base ho0)) (Kd.R_base ho1)) (fun _ h_ => h_.1))
          replace BK660 := zkb BK660 hb
          replace BK670 := zkb BK670 hb
          replace BK678 := zkb BK678 hb
          replace HB := zbb HB hb rfl
          obtain ⟨Ao76, co76, eo76⟩ := Kd.R_slice HO707.out
          (first | subst eo76 | (injection eo76 with f1_ f2_ f3_; have f4_ := f1_.symm; have f5_ := f3_.symm; clear f1_ f2_ f3_; subst f4_; subst f5_))
          obtain ⟨Ao77, co77, eo77⟩ := Kd.R_slice HO710.out
          (first | subst eo77 | (injection eo77 with f1_ f2_ f3_; have f4_ := f1_.symm; have f5_ := f3_.symm; clear f1_ f2_ f3_; subst f4_; subst f5_))
          refine hK.out _ _ ⟨zc BK678 0 rfl, zc BK678 1 rfl, zc BK678 2 rfl, zc BK670 0 rfl, zc BK670 1 rfl, zc BK670 2 rfl, zc BK660 0 rfl, zc BK660 1 rfl, zc BK660 2 rfl⟩ (fun hHeld => ?_)
          clear hK K
          refine norm_ (a' := ?_) ?_ ?_
          rotate_left
          ·
           show Act.put _ (some 64) _ = _
           simp only [Act.put, List.setIfInBounds_toArray, List.set_cons_zero, List.set_cons_succ, i64_w, i32_w]
           rfl
          refine one_ (i := 24) (N := some 65) #[true, true, true, true, true, true, true, true, true, true, true, true, true, true, true, true, true, true, true, true, true, true, true, true, true, false, false, false, false, false, false, false, false, false, false, false, false, false, false, false, false, false, false] rfl rfl (one_of HT_.out zk) (by decide) (fun K hK => ?_)
          refine goes_ Tryd.func34 zk rfl #[.agg #[.bool t704, .slice Ao76 t705.length co76, .slice Ao77 t708.length co77]] (by rfl) rfl rfl zX ?_
          with_reducible refine (rational_IsCanonical.calls kj4 t704 _ _ t705 _ _ t708 true _ ?side1 ?side2 ?side3 ?side4 A25.out).mono ?_
          (case side1 => exact zC (Kd.R_reads' HO707.out).2.2)
          (case side2 => exact (Kd.R_reads' HO707.out).2.1)
          (case side3 => exact zC (Kd.R_reads' HO710.out).2.2)
          (case side4 => exact (Kd.R_reads' HO710.out).2.1)
          rintro e w78 ⟨rfl, hb⟩
          refine ⟨_, rfl, ?_⟩
          replace HO656 := zrb HO656 hb rfl
          replace HO659 := zrb HO659 hb rfl
          replace HO663 := zrb HO663 hb rfl
          replace HO666 := zrb HO666 hb rfl
          replace HO669 := zrb HO669 hb rfl
          replace HO674 := zrb HO674 hb rfl
          replace HO677 := zrb HO677 hb rfl
          replace HO683 := zrb HO683 hb rfl
          replace HO686 := zrb HO686 hb rfl
          replace HO691 := zrb HO691 hb rfl
          replace HO694 := zrb HO694 hb rfl
          replace HO699 := zrb HO699 hb rfl
          replace HO702 := zrb HO702 hb rfl
          replace HO707 := zrb HO707 hb rfl
          replace HO710 := zrb HO710 hb rfl
          replace BK660 := zkb BK660 hb
          replace BK670 := zkb BK670 hb
          replace BK678 := zkb BK678 hb
          replace HB := zbb HB hb rfl
          refine hK.out _ _ ⟨zc BK678 0 rfl, zc BK678 1 rfl, zc BK678 2 rfl, zc BK670 0 rfl, zc BK670 1 rfl, zc BK670 2 rfl, zc BK660 0 rfl, zc BK660 1 rfl, zc BK660 2 rfl⟩ (fun hHeld => ?_)
          clear hK K
          refine norm_ (a' := ?_) ?_ ?_
          rotate_left
          ·
           show Act.put _ (some 65) _ = _
           simp only [Act.put, List.setIfInBounds_toArray, List.set_cons_zero, List.set_cons_succ, i64_w, i32_w]
           rfl
          refine zp 25 66 HT_ ?_
          refine zp 26 67 HT_ ?_
          refine take_ (i := 27) (N := some 68) (v := ?_) (a' := ?_) #[true, true, true, true, true, true, true, true, true, true, true, true, true, true, true, true, true, true, true, true, true, true, true, true, true, true, true, true, false, false, false, false, false, false, false, false, false, false, false, false, false, false, false] rfl rfl (take_ofW HT_.out HW_.out zk) (fun _ _ _ h => h) (Or.inl ⟨by rfl, ?_⟩) hHeld ?_ ?_
          rotate_left
          ·
           rintro w' ⟨s0, s1, s2, s3, s4, s5, s6, s7, s8⟩
           go_simp
           with_reducible rfl
          rotate_left
          ·
           simp only [Act.put, List.setIfInBounds_toArray, List.set_cons_zero, List.set_cons_succ, i64_w, i32_w]
           rfl
          refine take_ (i := 28) (N := some 69) (v := ?_) (a' := ?_) #[true, true, true, true, true, true, true, true, true, true, true, true, true, true, true, true, true, true, true, true, true, true, true, true, true, true, true, true, true, false, false, false, false, false, false, false, false, false, false, false, false, false, false] rfl rfl (take_ofW HT_.out HW_.out zk) (fun _ _ _ h => h) (Or.inl ⟨by rfl, ?_⟩) hHeld ?_ ?_
          rotate_left
          ·
           rintro w' ⟨s0, s1, s2, s3, s4, s5, s6, s7, s8⟩
           go_simp
           with_reducible rfl
          rotate_left
          ·
           simp only [Act.put, List.setIfInBounds_toArray, List.set_cons_zero, List.set_cons_succ, i64_w, i32_w]
           rfl
          refine one_ (i := 29) (N := some 70) #[true, true, true, true, true, true, true, true, true, true, true, true, true, true, true, true, true, true, true, true, true, true, true, true, true, true, true, true, true, true, false, false, false, false, false, false, false, false, false, false, false, false, false] rfl rfl (one_of HT_.out zk) (by decide) (fun K hK => ?_)
          refine goes_ Tryd.func28 zk rfl #[.agg #[.bool t653, .slice Ao35 t654.length co35, .slice Ao36 t657.length co36], .agg #[.bool a0, .slice Ao47 t664.length co47, .slice Ao46 t667.length co46]] (by rfl) rfl rfl zX ?_
          with_reducible refine (rational_Sub.calls kj4 t653 _ _ t654 _ _ t657 a0 _ _ t664 _ _ t667 t712 t713 t716 _ ?side1 ?side2 ?side3 ?side4 ?side5 ?side6 ?side7 ?side8 A27.out).mono ?_
          (case side1 => exact zC (Kd.R_reads' HO656.out).2.2)
          (case side2 => exact (Kd.R_reads' HO656.out).2.1)
          (case side3 => exact zC (Kd.R_reads' HO659.out).2.2)
          (case side4 => exact (Kd.R_reads' HO659.out).2.1)
          (case side5 => exact zC (Kd.R_reads' HO666.out).2.2)
          (case side6 => exact (Kd.R_reads' HO666.out).2.1)
          (case side7 => exact zC (Kd.R_reads' HO669.out).2.2)
          (case side8 => exact (Kd.R_reads' HO669.out).2.1)
          rintro e w79 ⟨v714, v717, rfl, ho0, ho1, hb⟩
          refine ⟨_, rfl, ?_⟩
          have HO715 := zA (Kd.R_lower (Kd.R_new' (Kd.R_new' (Kd.R_new' (Kd.R_new' (Kd.R_new' (Kd.R_new' (Kd.R_new' (Kd.R_new' (Kd.R_new' (Kd.R_new' (Kd.R_new' (Kd.R_new' (Kd.R_new' (Kd.R_new' (Kd.R_new' ho0 (Kd.R_lt (zr HO656 rfl))) (Kd.R_lt (zr HO659 rfl))) (Kd.R_lt (zr HO663 rfl))) (Kd.R_lt (zr HO666 rfl))) (Kd.R_lt (zr HO669 rfl))) (Kd.R_lt (zr HO674 rfl))) (Kd.R_lt (zr HO677 rfl))) (Kd.R_lt (zr HO683 rfl))) (Kd.R_lt (zr HO686 rfl))) (Kd.R_lt (zr HO691 rfl))) (Kd.R_lt (zr HO694 rfl))) (Kd.R_lt (zr HO699 rfl))) (Kd.R_lt (zr HO702 rfl))) (Kd.R_lt (zr HO707 rfl))) (Kd.R_lt (zr HO710 rfl))) (below_size (zb HB rfl)))
          have HO718 := zA (Kd.R_lower (Kd.R_new' (Kd.R_new' (Kd.R_new' (Kd.R_new' (Kd.R_new' (Kd.R_new' (Kd.R_new' (Kd.R_new' (Kd.R_new' (Kd.R_new' (Kd.R_new' (Kd.R_new' (Kd.R_new' (Kd.R_new' (Kd.R_new' ho1 (Kd.R_lt (zr HO656 rfl))) (Kd.R_lt (zr HO659 rfl))) (Kd.R_lt (zr HO663 rfl))) (Kd.R_lt (zr HO666 rfl))) (Kd.R_lt (zr HO669 rfl))) (Kd.R_lt (zr HO674 rfl))) (Kd.R_lt (zr HO677 rfl))) (Kd.R_lt (zr HO683 rfl))) (Kd.R_lt (zr HO686 rfl))) (Kd.R_lt (zr HO691 rfl))) (Kd.R_lt (zr HO694 rfl))) (Kd.R_lt (zr HO699 rfl))) (Kd.R_lt (zr HO702 rfl))) (Kd.R_lt (zr HO707 rfl))) (Kd.R_lt (zr HO710 rfl))) (below_size (zb HB rfl)))
          replace HO656 := zA (Kd.R_mono (Kd.R_told (Kd.R_told (Kd.R_old (zr HO656 rfl) hb) (Kd.R_base ho0)) (Kd.R_base ho1)) (fun _ h_ => h_.1))
          replace HO659 := zA (Kd.R_mono (Kd.R_told (Kd.R_told (Kd.R_old (zr HO659 rfl) hb) (Kd.R_base ho0)) (Kd.R_base ho1)) (fun _ h_ => h_.1))
          replace HO663 := zA (Kd.R_mono (Kd.R_told (Kd.R_told (Kd.R_old (zr HO663 rfl) hb) (Kd.R_base ho0)) (Kd.R_base ho1)) (fun _ h_ => h_.1))
          replace HO666 := zA (Kd.R_mono (Kd.R_told (Kd.R_told (Kd.R_old (zr HO666 rfl) hb) (Kd.R_base ho0)) (Kd.R_base ho1)) (fun _ h_ => h_.1))
          replace HO669 := zA (Kd.R_mono (Kd.R_told (Kd.R_told (Kd.R_old (zr HO669 rfl) hb) (Kd.R_base ho0)) (Kd.R_base ho1)) (fun _ h_ => h_.1))
          replace HO674 := zA (Kd.R_mono (Kd.R_told (Kd.R_told (Kd.R_old (zr HO674 rfl) hb) (Kd.R_base ho0)) (Kd.R_base ho1)) (fun _ h_ => h_.1))
          replace HO677 := zA (Kd.R_mono (Kd.R_told (Kd.R_told (Kd.R_old (zr HO677 rfl) hb) (Kd.R_base ho0)) (Kd.R_base ho1)) (fun _ h_ => h_.1))
          replace HO683 := zA (Kd.R_mono (Kd.R_told (Kd.R_told (Kd.R_old (zr HO683 rfl) hb) (Kd.R_base ho0)) (Kd.R_base ho1)) (fun _ h_ => h_.1))
          replace HO686 := zA (Kd.R_mono (Kd.R_told (Kd.R_told (Kd.R_old (zr HO686 rfl) hb) (Kd.R_base ho0)) (Kd.R_base ho1)) (fun _ h_ => h_.1))
          replace HO691 := zA (Kd.R_mono (Kd.R_told (Kd.R_told (Kd.R_old (zr HO691 rfl) hb) (Kd.R_base ho0)) (Kd.R_base ho1)) (fun _ h_ => h_.1))
          replace HO694 := zA (Kd.R_mono (Kd.R_told (Kd.R_told (Kd.R_old (zr HO694 rfl) hb) (Kd.R_base ho0)) (Kd.R_base ho1)) (fun _ h_ => h_.1))
          replace HO699 := zA (Kd.R_mono (Kd.R_told (Kd.R_told (Kd.R_old (zr HO699 rfl) hb) (Kd.R_base ho0)) (Kd.R_base ho1)) (fun _ h_ => h_.1))
          replace HO702 := zA (Kd.R_mono (Kd.R_told (Kd.R_told (Kd.R_old (zr HO702 rfl) hb) (Kd.R_base ho0)) (Kd.R_base ho1)) (fun _ h_ => h_.1))
          replace HO707 := zA (Kd.R_mono (Kd.R_told (Kd.R_told (Kd.R_old (zr HO707 rfl) hb) (Kd.R_base ho0)) (Kd.R_base ho1)) (fun _ h_ => h_.1))
          replace HO710 := zA (Kd.R_mono (Kd.R_told (Kd.R_told (Kd.R_old (zr HO710 rfl) hb) (Kd.R_base ho0)) (Kd.R_base ho1)) (fun _ h_ => h_.1))
          replace BK660 := zkb BK660 hb
          replace BK670 := zkb BK670 hb
          replace BK678 := zkb BK678 hb
          replace HB := zbb HB hb rfl
          obtain ⟨Ao80, co80, eo80⟩ := Kd.R_slice HO715.out
          (first | subst eo80 | (injection eo80 with f1_ f2_ f3_; have f4_ := f1_.symm; have f5_ := f3_.symm; clear f1_ f2_ f3_; subst f4_; subst f5_))
          obtain ⟨Ao81, co81, eo81⟩ := Kd.R_slice HO718.out
          (first | subst eo81 | (injection eo81 with f1_ f2_ f3_; have f4_ := f1_.symm; have f5_ := f3_.symm; clear f1_ f2_ f3_; subst f4_; subst f5_))
          refine hK.out _ _ ⟨zc BK678 0 rfl, zc BK678 1 rfl, zc BK678 2 rfl, zc BK670 0 rfl, zc BK670 1 rfl, zc BK670 2 rfl, zc BK660 0 rfl, zc BK660 1 rfl, zc BK660 2 rfl⟩ (fun hHeld => ?_)
          clear hK K
          refine norm_ (a' := ?_) ?_ ?_
          rotate_left
          ·
           show Act.put _ (some 70) _ = _
           simp only [Act.put, List.setIfInBounds_toArray, List.set_cons_zero, List.set_cons_succ, i64_w, i32_w]
           rfl
          refine one_ (i := 30) (N := some 71) #[true, true, true, true, true, true, true, true, true, true, true, true, true, true, true, true, true, true, true, true, true, true, true, true, true, true, true, true, true, true, true, false, false, false, false, false, false, false, false, false, false, false, false] rfl rfl (one_of HT_.out zk) (by decide) (fun K hK => ?_)
          refine goes_ Tryd.func27 zk rfl #[.agg #[.bool t712, .slice Ao80 t713.length co80, .slice Ao81 t716.length co81]] (by rfl) rfl rfl zX ?_
          with_reducible refine (rational_Sign.calls kj4 t712 _ _ t713 _ _ t716 t719 _ ?side1 ?side2 ?side3 ?side4 A28.out).mono ?_
          (case side1 => exact zC (Kd.R_reads' HO715.out).2.2)
          (case side2 => exact (Kd.R_reads' HO715.out).2.1)
          (case side3 => exact zC (Kd.R_reads' HO718.out).2.2)
          (case side4 => exact (Kd.R_reads' HO718.out).2.1)
          rintro e w82 ⟨rfl, hb⟩
          refine ⟨_, rfl, ?_⟩
          replace HO656 := zrb HO656 hb rfl
          replace HO659 := zrb HO659 hb rfl
          replace HO663 := zrb HO663 hb rfl
          replace HO666 := zrb HO666 hb rfl
          replace HO669 := zrb HO669 hb rfl
          replace HO674 := zrb HO674 hb rfl
          replace HO677 := zrb HO677 hb rfl
          replace HO683 := zrb HO683 hb rfl
          replace HO686 := zrb HO686 hb rfl
          replace HO691 := zrb HO691 hb rfl
          replace HO694 := zrb HO694 hb rfl
          replace HO699 := zrb HO699 hb rfl
          replace HO702 := zrb HO702 hb rfl
          replace HO707 := zrb HO707 hb rfl
          replace HO710 := zrb HO710 hb rfl
          replace HO715 := zrb HO715 hb rfl
          replace HO718 := zrb HO718 hb rfl
          replace BK660 := zkb BK660 hb
          replace BK670 := zkb BK670 hb
          replace BK678 := zkb BK678 hb
          replace HB := zbb HB hb rfl
          refine hK.out _ _ ⟨zc BK678 0 rfl, zc BK678 1 rfl, zc BK678 2 rfl, zc BK670 0 rfl, zc BK670 1 rfl, zc BK670 2 rfl, zc BK660 0 rfl, zc BK660 1 rfl, zc BK660 2 rfl⟩ (fun hHeld => ?_)
          clear hK K
          refine norm_ (a' := ?_) ?_ ?_
          rotate_left
          ·
           show Act.put _ (some 71) _ = _
           simp only [Act.put, List.setIfInBounds_toArray, List.set_cons_zero, List.set_cons_succ, i64_w, i32_w]
           rfl
          refine zp 31 72 HT_ ?_
          refine zp 32 73 HT_ ?_
          refine zp 33 74 HT_ ?_
          refine zp 34 75 HT_ ?_
          refine take_ (i := 35) (N := some 76) (v := ?_) (a' := ?_) #[true, true, true, true, true, true, true, true, true, true, true, true, true, true, true, true, true, true, true, true, true, true, true, true, true, true, true, true, true, true, true, true, true, true, true, true, false, false, false, false, false, false, false] rfl rfl (take_ofW HT_.out HW_.out zk) (fun _ _ _ h => h) (Or.inl ⟨by rfl, ?_⟩) hHeld ?_ ?_
          rotate_left
          ·
           rintro w' ⟨s0, s1, s2, s3, s4, s5, s6, s7, s8⟩
           go_simp
           with_reducible rfl
          rotate_left
          ·
           simp only [Act.put, List.setIfInBounds_toArray, List.set_cons_zero, List.set_cons_succ, i64_w, i32_w]
           rfl
          refine zp 36 77 HT_ ?_
          refine zp 37 78 HT_ ?_
          refine zp 38 79 HT_ ?_
          refine zp 39 80 HT_ ?_
          refine one_ (i := 40) (N := some 81) #[true, true, true, true, true, true, true, true, true, true, true, true, true, true, true, true, true, true, true, true, true, true, true, true, true, true, true, true, true, true, true, true, true, true, true, true, true, true, true, true, true, false, false] rfl rfl (one_of HT_.out zk) (by decide) (fun K hK => ?_)
          refine goes_ Tryd.func14 zk rfl #[] (by rfl) rfl rfl zX ?_
          with_reducible refine (credencelaw2_known.calls kj4  t720 _ A31.out).mono ?_
          rintro e w83 ⟨rfl, hb⟩
          refine ⟨_, rfl, ?_⟩
          replace HO656 := zrb HO656 hb rfl
          replace HO659 := zrb HO659 hb rfl
          replace HO663 := zrb HO663 hb rfl
          replace HO666 := zrb HO666 hb rfl
          replace HO669 := zrb HO669 hb rfl
          replace HO674 := zrb HO674 hb rfl
          replace HO677 := zrb HO677 hb rfl
          replace HO683 := zrb HO683 hb rfl
          replace HO686 := zrb HO686 hb rfl
          replace HO691 := zrb HO691 hb rfl
          replace HO694 := zrb HO694 hb rfl
          replace HO699 := zrb HO699 hb rfl
          replace HO702 := zrb HO702 hb rfl
          replace HO707 := zrb HO707 hb rfl
          replace HO710 := zrb HO710 hb rfl
          replace HO715 := zrb HO715 hb rfl
          replace HO718 := zrb HO718 hb rfl
          replace BK660 := zkb BK660 hb
          replace BK670 := zkb BK670 hb
          replace BK678 := zkb BK678 hb
          replace HB := zbb HB hb rfl
          refine hK.out _ _ ⟨zc BK678 0 rfl, zc BK678 1 rfl, zc BK678 2 rfl, zc BK670 0 rfl, zc BK670 1 rfl, zc BK670 2 rfl, zc BK660 0 rfl, zc BK660 1 rfl, zc BK660 2 rfl⟩ (fun hHeld => ?_)
          clear hK K
          refine norm_ (a' := ?_) ?_ ?_
          rotate_left
          ·
           show Act.put _ (some 81) _ = _
           simp only [Act.put, List.setIfInBounds_toArray, List.set_cons_zero, List.set_cons_succ, i64_w, i32_w]
           rfl
          refine zp 41 82 HT_ ?_
          refine zp 42 8 HT_ ?_
          refine done_ (done_of HT_.out zk) ?_
          try go_wp2
          go_ret
          exact ⟨zE, by repeat (first | (with_reducible first | exact HB.out | apply below_alloc | apply pw_below_drewN | apply below_drew1 | refine below_set ?_ GE660.out | refine below_set ?_ GE670.out | refine below_set ?_ GE678.out) | exact HB.out)⟩
         rw [if_neg c30] at H
         have c30b0 : decide (0 < (t675.length : Int)) = false := decide_eq_false c30
         have c30b1 : decide (0 < t675.length) = false := decide_eq_false (by omega)
         clear c30
         cases H
        rw [if_neg c29] at H
        have c29b0 := beq_eq_false_iff_ne.mpr c29
        have c29b1 := bne_iff_ne.mpr c29
        cases H
       replace c26 := Bool.eq_false_iff.mpr c26
       subst c26
       have H1 : (none) = some r := by rw [if_neg (show ¬ (false = true) by decide)] at H; exact H
       clear H
       have H := H1
       clear H1
       cases H
      replace c23 := Bool.eq_false_iff.mpr c23
      subst c23
      have H1 : (none) = some r := by rw [if_neg (show ¬ (false = true) by decide)] at H; exact H
      clear H
      have H := H1
      clear H1
      cases H
     replace c20 := Bool.eq_false_iff.mpr c20
     subst c20
     have H1 : (none) = some r := by rw [if_neg (show ¬ (false = true) by decide)] at H; exact H
     clear H
     have H := H1
     clear H1
     cases H
    replace c17 := Bool.eq_false_iff.mpr c17
    subst c17
    have H1 : (none) = some r := by rw [if_neg (show ¬ (false = true) by decide)] at H; exact H
    clear H
    have H := H1
    clear H1
    cases H
   replace c14 := Bool.eq_false_iff.mpr c14
   subst c14
   have H1 : (none) = some r := by rw [if_neg (show ¬ (false = true) by decide)] at H; exact H
   clear H
   have H := H1
   clear H1
   cases H

/-- THE ONE PURE STATEMENT of credencelaw2_RationalCanonical: yours. -/
def credencelaw2_RationalCanonical.Pure : Prop := ∀ (a0 : Bool) (l1 : List Int) (l2 : List Int) (a3 : Int), l1.length ≤ maxLen → l1.length * 4 ≤ 140737488351232 → (∀ x ∈ l1, (Lit.int .u32 x).wf = true) → l2.length ≤ maxLen → l2.length * 4 ≤ 140737488351232 → (∀ x ∈ l2, (Lit.int .u32 x).wf = true) → (Lit.int .u32 a3).wf = true → ∃ k, credencelaw2_RationalCanonical.f k a0 l1 l2 a3 = some true
theorem credencelaw2_RationalCanonical.walk (P : credencelaw2_RationalCanonical.Pure) (a0 : Bool) (a1 : Option Addr) (len1 cap1 : Nat) (z1 : List Int) (a2 : Option Addr) (len2 cap2 : Nat) (z2 : List Int) (a3 : Int) (w : World) (w1 : (a1 = none ∧ len1 = 0 ∧ cap1 = 0 ∧ z1 = []) ∨ ∃ x, a1 = some x ∧ len1 ≤ cap1 ∧ cap1 ≤ maxLen ∧ z1.length = cap1 ∧ (∀ i, i < z1.length → w.cell? (x.add i) = some (.int .u32 (z1.getD i 0))) ∧ ∀ n ∈ z1, (Lit.int .u32 n).wf = true) (y1 : len1 * 4 ≤ 140737488351232) (w2 : (a2 = none ∧ len2 = 0 ∧ cap2 = 0 ∧ z2 = []) ∨ ∃ x, a2 = some x ∧ len2 ≤ cap2 ∧ cap2 ≤ maxLen ∧ z2.length = cap2 ∧ (∀ i, i < z2.length → w.cell? (x.add i) = some (.int .u32 (z2.getD i 0))) ∧ ∀ n ∈ z2, (Lit.int .u32 n).wf = true) (y2 : len2 * 4 ≤ 140737488351232) (w3 : (Lit.int .u32 a3).wf = true) :
 Calls Tryd.prog 9 #[.bool a0, .slice a1 len1 cap1, .slice a2 len2 cap2, .int .u32 a3] w fun e w' => e = .returned (.bool true) ∧ Below w.heap.size w w' := by
 obtain ⟨l1, rfl, hr1, hm1, hw1, hc1⟩ := ReadsInt.ofRowC w1
 obtain ⟨l2, rfl, hr2, hm2, hw2, hc2⟩ := ReadsInt.ofRowC w2
 obtain ⟨k, h⟩ := P a0 l1 l2 a3 hm1 y1 hw1 hm2 y2 hw2 w3
 refine (credencelaw2_RationalCanonical.calls k a0 _ _ l1 _ _ l2 a3 true w (Kd.C_of_reads (d := (0 : Int)) (h1 := fun _ => rfl) hr1) hc1 (Kd.C_of_reads (d := (0 : Int)) (h1 := fun _ => rfl) hr2) hc2 h).mono ?_
 rintro e w' ⟨rfl, hd⟩
 exact ⟨rfl, hd⟩

end Go.Proofs.YtoeldfopjalpkaaDoor.Q

