/- Lemmas for the proof of one law of this seat (Qx16). -/
import Derived.Test.YtjiaplnpgjicgaaZBignatArithQx0
import Derived.Test.YtjiaplnpgjicgaaZBignatArithQx1
import Derived.Test.YtjiaplnpgjicgaaZBignatArithQx3
import Derived.Test.YtjiaplnpgjicgaaZBignatArithQx4
import Derived.Test.YtjiaplnpgjicgaaZBignatArithQx6
import Derived.Test.YtjiaplnpgjicgaaZBignatArithQx10
import Derived.Test.YtjiaplnpgjicgaaZBignatArithQx13
import Derived.Test.YtjiaplnpgjicgaaZBignatArithQx15
import Derived.Test.YtjiaplnpgjicgaaZBignatArithSq
namespace Go.Proofs.Ytjiaplnpgjicgaa.Q
open Go.RowKit Go.Proofs.YtjiaplnpgjicgaaW.PrintWords Go.Proofs.YtjiaplnpgjicgaaW.PrintLast Go.Proofs.YtjiaplnpgjicgaaW.PrintMore
attribute [local go_sem] max2_int min2_int max_two min_two max_three min_three max_four min_four   -- for this text's walks alone
set_option linter.unusedVariables false
set_option linter.unusedSimpArgs false

mutual
def credenceref1_NatPow.j0 : Nat → Int → List Int → List Int → Bool → Option (List Int × Int)
 | 0, _, _, _, _ => none
 | k + 1, x1, x6, x7, x21 => if x21 = true then (some (x7, 0)) else (if (x6.length : Int) = 0 then (some (([] : List Int), 0)) else (credenceref1_NatPow.l0 k x1 x6 x7 0))
def credenceref1_NatPow.l0 : Nat → Int → List Int → List Int → Int → Option (List Int × Int)
 | 0, _, _, _, _ => none
 | k + 1, x1, x6, x7, x8 => if x8 < x1 then ((credenceref1_NatMul.f k x7 x6).bind fun t770 => ((credenceref1_NatBits.f k t770).bind fun t773 => (if t773 > 65536 then (some (([] : List Int), 4)) else (credenceref1_NatPow.l0 k x1 x6 t770 (wrap64 (x8 + 1)))))) else (some (x7, 0))
end
def credenceref1_NatPow.f (k : Nat) (l0 : List Int) (a1 : Int) : Option (List Int × Int) := if a1 < 0 then (some (([] : List Int), 1)) else ((credenceref1_NatNorm.f k l0).bind fun t763 => ((credenceref1_NatOf.f k 1).bind fun t766 => (if a1 = 0 then (credenceref1_NatPow.j0 k a1 t763 t766 true) else ((credenceref1_NatCmp.f k t763 t766).bind fun t769 => (credenceref1_NatPow.j0 k a1 t763 t766 (t769 == 0))))))
theorem credenceref1_NatPow.mono_l : ∀ k, (∀ y0 y1 y2 y3, LeO (credenceref1_NatPow.j0 k y0 y1 y2 y3) (credenceref1_NatPow.j0 (k + 1) y0 y1 y2 y3)) ∧ (∀ y0 y1 y2 y3, LeO (credenceref1_NatPow.l0 k y0 y1 y2 y3) (credenceref1_NatPow.l0 (k + 1) y0 y1 y2 y3))
 | 0 => ⟨fun _ _ _ _ r h => by simp [credenceref1_NatPow.j0] at h, fun _ _ _ _ r h => by simp [credenceref1_NatPow.l0] at h⟩
 | k + 1 => by
  obtain ⟨ih0, ih1⟩ := credenceref1_NatPow.mono_l k
  refine ⟨?_, ?_⟩
  ·
   intro y0 y1 y2 y3
   unfold credenceref1_NatPow.j0
   repeat' first
   | (with_reducible exact ih0 _ _ _ _)
   | (with_reducible exact ih1 _ _ _ _)
   | (with_reducible exact credenceref1_NatBits.mono _ _)
   | (with_reducible exact credenceref1_NatCmp.mono _ _ _)
   | (with_reducible exact credenceref1_NatMul.mono _ _ _)
   | (with_reducible exact credenceref1_NatNorm.mono _ _)
   | (with_reducible exact credenceref1_NatOf.mono _ _)
   | (with_reducible exact LeO.refl _)
   | (with_reducible exact LeO.none _)
   | (with_reducible refine LeO.ite ?_ ?_)
   | (with_reducible refine LeO.bind ?_ (fun _ => ?_))
   | exact ih0 _ _ _ _
   | exact ih1 _ _ _ _
   | exact credenceref1_NatBits.mono _ _
   | exact credenceref1_NatCmp.mono _ _ _
   | exact credenceref1_NatMul.mono _ _ _
   | exact credenceref1_NatNorm.mono _ _
   | exact credenceref1_NatOf.mono _ _
   | exact LeO.none _
   | refine LeO.ite ?_ ?_
   | refine LeO.bind ?_ (fun _ => ?_)
  ·
   intro y0 y1 y2 y3
   unfold credenceref1_NatPow.l0
   repeat' first
   | (with_reducible exact ih0 _ _ _ _)
   | (with_reducible exact ih1 _ _ _ _)
   | (with_reducible exact credenceref1_NatBits.mono _ _)
   | (with_reducible exact credenceref1_NatCmp.mono _ _ _)
   | (with_reducible exact credenceref1_NatMul.mono _ _ _)
   | (with_reducible exact credenceref1_NatNorm.mono _ _)
   | (with_reducible exact credenceref1_NatOf.mono _ _)
   | (with_reducible exact LeO.refl _)
   | (with_reducible exact LeO.none _)
   | (with_reducible refine LeO.ite ?_ ?_)
   | (with_reducible refine LeO.bind ?_ (fun _ => ?_))
   | exact ih0 _ _ _ _
   | exact ih1 _ _ _ _
   | exact credenceref1_NatBits.mono _ _
   | exact credenceref1_NatCmp.mono _ _ _
   | exact credenceref1_NatMul.mono _ _ _
   | exact credenceref1_NatNorm.mono _ _
   | exact credenceref1_NatOf.mono _ _
   | exact LeO.none _
   | refine LeO.ite ?_ ?_
   | refine LeO.bind ?_ (fun _ => ?_)
theorem credenceref1_NatPow.mono : ∀ a0 a1 k, LeO (credenceref1_NatPow.f k a0 a1) (credenceref1_NatPow.f (k + 1) a0 a1) := by
 intro a0 a1 k
 obtain ⟨ih0, ih1⟩ := credenceref1_NatPow.mono_l k
 unfold credenceref1_NatPow.f
 repeat' first
   | (with_reducible exact ih0 _ _ _ _)
   | (with_reducible exact ih1 _ _ _ _)
   | (with_reducible exact credenceref1_NatBits.mono _ _)
   | (with_reducible exact credenceref1_NatCmp.mono _ _ _)
   | (with_reducible exact credenceref1_NatMul.mono _ _ _)
   | (with_reducible exact credenceref1_NatNorm.mono _ _)
   | (with_reducible exact credenceref1_NatOf.mono _ _)
   | (with_reducible exact LeO.refl _)
   | (with_reducible exact LeO.none _)
   | (with_reducible refine LeO.ite ?_ ?_)
   | (with_reducible refine LeO.bind ?_ (fun _ => ?_))
   | exact ih0 _ _ _ _
   | exact ih1 _ _ _ _
   | exact credenceref1_NatBits.mono _ _
   | exact credenceref1_NatCmp.mono _ _ _
   | exact credenceref1_NatMul.mono _ _ _
   | exact credenceref1_NatNorm.mono _ _
   | exact credenceref1_NatOf.mono _ _
   | exact LeO.none _
   | refine LeO.ite ?_ ?_
   | refine LeO.bind ?_ (fun _ => ?_)

def credencelaw1_BignatPow.f (k : Nat) (l0 : List Int) (a1 : Int) : Option (Bool) := (credencebase_Nat.f k l0).bind fun t774 => ((bignat_Pow.f k t774 (Go.bits .and .i64 a1 31)).bind fun bt777 => ((credenceref1_NatPow.f k t774 (Go.bits .and .i64 a1 31)).bind fun bt781 => ((bignat_Pow.f k t774 (wrap64 ((-1) - (Go.bits .and .i64 a1 31)))).bind fun bt785 => ((credencelaw1_same.f k bt777.1 bt781.1).bind fun t789 => (if t789 = true then (if bt777.2 = bt781.2 then (if bt785.2 = 1 then ((credencelaw1_known.f k).bind fun t790 => (some t790)) else (some false)) else (some false)) else (some false))))))
theorem credencelaw1_BignatPow.mono : ∀ a0 a1 k, LeO (credencelaw1_BignatPow.f k a0 a1) (credencelaw1_BignatPow.f (k + 1) a0 a1) := by
 intro a0 a1 k
 unfold credencelaw1_BignatPow.f
 repeat' first
   | (with_reducible exact bignat_Pow.mono _ _ _)
   | (with_reducible exact credencebase_Nat.mono _ _)
   | (with_reducible exact credencelaw1_known.mono _)
   | (with_reducible exact credencelaw1_same.mono _ _ _)
   | (with_reducible exact credenceref1_NatPow.mono _ _ _)
   | (with_reducible exact LeO.refl _)
   | (with_reducible exact LeO.none _)
   | (with_reducible refine LeO.ite ?_ ?_)
   | (with_reducible refine LeO.bind ?_ (fun _ => ?_))
   | exact bignat_Pow.mono _ _ _
   | exact credencebase_Nat.mono _ _
   | exact credencelaw1_known.mono _
   | exact credencelaw1_same.mono _ _ _
   | exact credenceref1_NatPow.mono _ _ _
   | exact LeO.none _
   | refine LeO.ite ?_ ?_
   | refine LeO.bind ?_ (fun _ => ?_)

end Go.Proofs.Ytjiaplnpgjicgaa.Q

