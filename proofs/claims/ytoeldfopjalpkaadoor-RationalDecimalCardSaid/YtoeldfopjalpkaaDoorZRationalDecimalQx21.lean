/- Lemmas for the proof of one law of this seat (Qx21). -/
import Derived.Test.YtoeldfopjalpkaaDoorZRationalDecimalQx8
namespace Go.Proofs.YtoeldfopjalpkaaDoor.Q
open Go.RowKit Go.Proofs.YtoeldfopjalpkaaDoorW.PrintWords Go.Proofs.YtoeldfopjalpkaaDoorW.PrintLast Go.Proofs.YtoeldfopjalpkaaDoorW.PrintMore
attribute [local go_sem] max2_int min2_int max_two min_two max_three min_three max_four min_four   -- for this text's walks alone
set_option linter.unusedVariables false
set_option linter.unusedSimpArgs false

def credenceref1_small.l0 : Nat → List Int → Int → List Int → Int → Int → Option (List Int × Int)
 | 0, _, _, _, _, _ => none
 | k + 1, x0, x1, x6, x7, x8 => if x8 ≥ 0 then (if 0 ≤ x8 then (if x8 < (x0.length : Int) then (if x1 = 0 then (none) else (if x8 < (x6.length : Int) then (credenceref1_small.l0 k x0 x1 (x6.set (x8 : Int).toNat ((IntKind.u64.wrap (Int.tdiv (IntKind.u64.wrap ((IntKind.u64.wrap (x7 * 4294967296)) + (IntKind.u64.wrap (rd x0 x8)))) x1)) % 4294967296)) (Int.tmod (IntKind.u64.wrap ((IntKind.u64.wrap (x7 * 4294967296)) + (IntKind.u64.wrap (rd x0 x8)))) x1) (wrap64 (x8 - 1))) else (none))) else (none)) else (none)) else ((credenceref1_NatNorm.f k x6).bind fun t956 => (some (t956, x7)))
def credenceref1_small.f (k : Nat) (l0 : List Int) (a1 : Int) : Option (List Int × Int) := if 0 ≤ (l0.length : Int) then (if ((l0.length : Int) : Int).toNat ≤ 70368744177664 then (credenceref1_small.l0 k l0 a1 (List.replicate ((l0.length : Int) : Int).toNat 0) 0 (wrap64 ((l0.length : Int) - 1))) else (none)) else (none)

def credenceref1_NatFormat.l0 : Nat → List Int → ByteArray → Option (ByteArray)
 | 0, _, _ => none
 | k + 1, x3, x4 => if (x3.length : Int) > 0 then ((credenceref1_small.f k x3 10).bind fun bt962 => ((some (([(IntKind.u64.wrap (48 + bt962.2)) % 256] : List Int) : List Int)).bind fun y966 => (if (strOfNums y966).size + x4.size ≤ 9223372036854775807 then (credenceref1_NatFormat.l0 k bt962.1 ((strOfNums y966) ++ x4)) else (none)))) else (some x4)
def credenceref1_NatFormat.f (k : Nat) (l0 : List Int) : Option (ByteArray) := (credenceref1_NatNorm.f k l0).bind fun t959 => (if (t959.length : Int) = 0 then (some (⟨#[48]⟩ : ByteArray)) else (credenceref1_NatFormat.l0 k t959 (⟨#[]⟩ : ByteArray)))

end Go.Proofs.YtoeldfopjalpkaaDoor.Q

