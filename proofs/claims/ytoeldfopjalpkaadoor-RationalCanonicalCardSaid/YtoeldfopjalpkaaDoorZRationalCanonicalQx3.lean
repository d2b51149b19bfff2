/- Lemmas for the proof of one law of this seat (Qx3). -/
import Derived.Test.YtoeldfopjalpkaaDoorZRationalCanonicalQx0
import Derived.Test.YtoeldfopjalpkaaDoorZRationalCanonicalZip
namespace Go.Proofs.YtoeldfopjalpkaaDoor.Q
open Go.RowKit Go.Proofs.YtoeldfopjalpkaaDoorW.PrintWords Go.Proofs.YtoeldfopjalpkaaDoorW.PrintLast Go.Proofs.YtoeldfopjalpkaaDoorW.PrintMore
attribute [local go_sem] max2_int min2_int max_two min_two max_three min_three max_four min_four   -- for this text's walks alone
set_option linter.unusedVariables false
set_option linter.unusedSimpArgs false

def bignat_subtractScaled.l0 : Nat → List Int → Int → Int → List Int → Int → Int → Option (Bool × List Int)
 | 0, _, _, _, _, _, _ => none
 | k + 1, x0, x2, x7, x14, x15, x16 => if x16 < x15 then (if 0 ≤ x16 then (if x16 < (x14.length : Int) then (if x16 < (x0.length : Int) then (if (rd x0 x16) < ((IntKind.u64.wrap ((IntKind.u64.wrap (x2 * (IntKind.u64.wrap (rd x14 x16)))) + x7)) % 4294967296) then (bignat_subtractScaled.l0 k (x0.set (x16 : Int).toNat (((rd x0 x16) - ((IntKind.u64.wrap ((IntKind.u64.wrap (x2 * (IntKind.u64.wrap (rd x14 x16)))) + x7)) % 4294967296)) % 4294967296)) x2 (IntKind.u64.wrap (((IntKind.u64.wrap ((IntKind.u64.wrap (x2 * (IntKind.u64.wrap (rd x14 x16)))) + x7)) / 4294967296) + 1)) x14 x15 (wrap64 (x16 + 1))) else (bignat_subtractScaled.l0 k (x0.set (x16 : Int).toNat (((rd x0 x16) - ((IntKind.u64.wrap ((IntKind.u64.wrap (x2 * (IntKind.u64.wrap (rd x14 x16)))) + x7)) % 4294967296)) % 4294967296)) x2 ((IntKind.u64.wrap ((IntKind.u64.wrap (x2 * (IntKind.u64.wrap (rd x14 x16)))) + x7)) / 4294967296) x14 x15 (wrap64 (x16 + 1)))) else (none)) else (none)) else (none)) else (if 0 ≤ (wrap64 ((x0.length : Int) - 1)) then (if (wrap64 ((x0.length : Int) - 1)) < (x0.length : Int) then (some (decide ((IntKind.u64.wrap (rd x0 (wrap64 ((x0.length : Int) - 1)))) < x7), (x0.set ((wrap64 ((x0.length : Int) - 1)) : Int).toNat (((rd x0 (wrap64 ((x0.length : Int) - 1))) - ((x7) % 4294967296)) % 4294967296)))) else (none)) else (none))
def bignat_subtractScaled.f (k : Nat) (l0 : List Int) (l1 : List Int) (a2 : Int) : Option (Bool × List Int) := bignat_subtractScaled.l0 k l0 a2 0 l1 (l1.length : Int) 0
theorem bignat_subtractScaled.mono_l : ∀ k, (∀ y0 y1 y2 y3 y4 y5, LeO (bignat_subtractScaled.l0 k y0 y1 y2 y3 y4 y5) (bignat_subtractScaled.l0 (k + 1) y0 y1 y2 y3 y4 y5))
 | 0 => fun _ _ _ _ _ _ r h => by simp [bignat_subtractScaled.l0] at h
 | k + 1 => by
  have ih0 := bignat_subtractScaled.mono_l k
  intro y0 y1 y2 y3 y4 y5
  unfold bignat_subtractScaled.l0
  exact zm1 ih0
theorem bignat_subtractScaled.mono : ∀ a0 a1 a2 k, LeO (bignat_subtractScaled.f k a0 a1 a2) (bignat_subtractScaled.f (k + 1) a0 a1 a2) := by
 intro a0 a1 a2 k
 have ih0 := bignat_subtractScaled.mono_l k
 unfold bignat_subtractScaled.f
 exact zm1 ih0

def bignat_addBack.l0 : Nat → List Int → Int → List Int → Int → Int → Option (List Int)
 | 0, _, _, _, _, _ => none
 | k + 1, x0, x4, x7, x8, x9 => if x9 < x8 then (if 0 ≤ x9 then (if x9 < (x7.length : Int) then (if x9 < (x0.length : Int) then (bignat_addBack.l0 k (x0.set (x9 : Int).toNat ((IntKind.u64.wrap (x4 + (IntKind.u64.wrap ((IntKind.u64.wrap (rd x0 x9)) + (IntKind.u64.wrap (rd x7 x9)))))) % 4294967296)) ((IntKind.u64.wrap (x4 + (IntKind.u64.wrap ((IntKind.u64.wrap (rd x0 x9)) + (IntKind.u64.wrap (rd x7 x9)))))) / 4294967296) x7 x8 (wrap64 (x9 + 1))) else (none)) else (none)) else (none)) else (if 0 ≤ (wrap64 ((x0.length : Int) - 1)) then (if (wrap64 ((x0.length : Int) - 1)) < (x0.length : Int) then (some (x0.set ((wrap64 ((x0.length : Int) - 1)) : Int).toNat (((rd x0 (wrap64 ((x0.length : Int) - 1))) + ((x4) % 4294967296)) % 4294967296))) else (none)) else (none))
def bignat_addBack.f (k : Nat) (l0 : List Int) (l1 : List Int) : Option (List Int) := bignat_addBack.l0 k l0 0 l1 (l1.length : Int) 0
theorem bignat_addBack.mono_l : ∀ k, (∀ y0 y1 y2 y3 y4, LeO (bignat_addBack.l0 k y0 y1 y2 y3 y4) (bignat_addBack.l0 (k + 1) y0 y1 y2 y3 y4))
 | 0 => fun _ _ _ _ _ r h => by simp [bignat_addBack.l0] at h
 | k + 1 => by
  have ih0 := bignat_addBack.mono_l k
  intro y0 y1 y2 y3 y4
  unfold bignat_addBack.l0
  exact zm1 ih0
theorem bignat_addBack.mono : ∀ a0 a1 k, LeO (bignat_addBack.f k a0 a1) (bignat_addBack.f (k + 1) a0 a1) := by
 intro a0 a1 k
 have ih0 := bignat_addBack.mono_l k
 unfold bignat_addBack.f
 exact zm1 ih0

end Go.Proofs.YtoeldfopjalpkaaDoor.Q

