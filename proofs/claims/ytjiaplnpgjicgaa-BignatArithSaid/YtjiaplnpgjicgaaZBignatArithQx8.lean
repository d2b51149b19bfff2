/- Lemmas for the proof of one law of this seat (Qx8). -/
import Derived.Test.YtjiaplnpgjicgaaZBignatArithQx0
import Derived.Test.YtjiaplnpgjicgaaZBignatArithSq
namespace Go.Proofs.Ytjiaplnpgjicgaa.Q
open Go.RowKit Go.Proofs.YtjiaplnpgjicgaaW.PrintWords Go.Proofs.YtjiaplnpgjicgaaW.PrintLast Go.Proofs.YtjiaplnpgjicgaaW.PrintMore
attribute [local go_sem] max2_int min2_int max_two min_two max_three min_three max_four min_four   -- for this text's walks alone
set_option linter.unusedVariables false
set_option linter.unusedSimpArgs false

def bignat_addBack.l0 : Nat → List Int → Int → List Int → Int → Int → Option (List Int)
 | 0, _, _, _, _, _ => none
 | k + 1, x0, x4, x7, x8, x9 => if x9 < x8 then (if 0 ≤ x9 then (if x9 < (x7.length : Int) then (if x9 < (x0.length : Int) then (bignat_addBack.l0 k (x0.set (x9 : Int).toNat ((IntKind.u64.wrap (x4 + (IntKind.u64.wrap ((IntKind.u64.wrap (rd x0 x9)) + (IntKind.u64.wrap (rd x7 x9)))))) % 4294967296)) ((IntKind.u64.wrap (x4 + (IntKind.u64.wrap ((IntKind.u64.wrap (rd x0 x9)) + (IntKind.u64.wrap (rd x7 x9)))))) / 4294967296) x7 x8 (wrap64 (x9 + 1))) else (none)) else (none)) else (none)) else (if 0 ≤ (wrap64 ((x0.length : Int) - 1)) then (if (wrap64 ((x0.length : Int) - 1)) < (x0.length : Int) then (some (x0.set ((wrap64 ((x0.length : Int) - 1)) : Int).toNat (((rd x0 (wrap64 ((x0.length : Int) - 1))) + ((x4) % 4294967296)) % 4294967296))) else (none)) else (none))
def bignat_addBack.f (k : Nat) (l0 : List Int) (l1 : List Int) : Option (List Int) := bignat_addBack.l0 k l0 0 l1 (l1.length : Int) 0
theorem bignat_addBack.mono_l : ∀ k, (∀ y0 y1 y2 y3 y4, LeO (bignat_addBack.l0 k y0 y1 y2 y3 y4) (bignat_addBack.l0 (k + 1) y0 y1 y2 y3 y4))
 | 0 => fun _ _ _ _ _ r h => by simp [bignat_addBack.l0] at h
 | k + 1 => by
  have ih0 := bignat_addBack.mono_l k
  ·
   intro y0 y1 y2 y3 y4
   unfold bignat_addBack.l0
   repeat' first
   | (with_reducible exact ih0 _ _ _ _ _)
   | (with_reducible exact LeO.refl _)
   | (with_reducible exact LeO.none _)
   | (with_reducible refine LeO.ite ?_ ?_)
   | (with_reducible refine LeO.bind ?_ (fun _ => ?_))
   | exact ih0 _ _ _ _ _
   | exact LeO.none _
   | refine LeO.ite ?_ ?_
   | refine LeO.bind ?_ (fun _ => ?_)
theorem bignat_addBack.mono : ∀ a0 a1 k, LeO (bignat_addBack.f k a0 a1) (bignat_addBack.f (k + 1) a0 a1) := by
 intro a0 a1 k
 have ih0 := bignat_addBack.mono_l k
 unfold bignat_addBack.f
 repeat' first
   | (with_reducible exact ih0 _ _ _ _ _)
   | (with_reducible exact LeO.refl _)
   | (with_reducible exact LeO.none _)
   | (with_reducible refine LeO.ite ?_ ?_)
   | (with_reducible refine LeO.bind ?_ (fun _ => ?_))
   | exact ih0 _ _ _ _ _
   | exact LeO.none _
   | refine LeO.ite ?_ ?_
   | refine LeO.bind ?_ (fun _ => ?_)

end Go.Proofs.Ytjiaplnpgjicgaa.Q

