/- Lemmas for the proof of one law of this seat (Qx19). -/
import Derived.Test.YtoeldfopjalpkaaDoorZRationalDecimalQx18
namespace Go.Proofs.YtoeldfopjalpkaaDoor.Q
open Go.RowKit Go.Proofs.YtoeldfopjalpkaaDoorW.PrintWords Go.Proofs.YtoeldfopjalpkaaDoorW.PrintLast Go.Proofs.YtoeldfopjalpkaaDoorW.PrintMore
attribute [local go_sem] max2_int min2_int max_two min_two max_three min_three max_four min_four   -- for this text's walks alone
set_option linter.unusedVariables false
set_option linter.unusedSimpArgs false

mutual
def credenceref1_NatAdd.l0 : Nat → List Int → List Int → List Int → Int → Int → Option (List Int)
 | 0, _, _, _, _, _ => none
 | k + 1, x0, x1, x5, x6, x7 => if x7 < (x0.length : Int) then (credenceref1_NatAdd.j1 k x0 x1 x5 x6 x7 true) else (credenceref1_NatAdd.j1 k x0 x1 x5 x6 x7 (decide (x7 < (x1.length : Int))))
def credenceref1_NatAdd.j1 : Nat → List Int → List Int → List Int → Int → Int → Bool → Option (List Int)
 | 0, _, _, _, _, _, _ => none
 | k + 1, x0, x1, x5, x6, x7, x17 => if x17 = true then (if x7 < (x0.length : Int) then (if 0 ≤ x7 then (if x7 < (x1.length : Int) then (if x5.length < 35184372088832 then (credenceref1_NatAdd.l0 k x0 x1 (x5 ++ [(IntKind.u64.wrap ((IntKind.u64.wrap (x6 + (IntKind.u64.wrap (rd x0 x7)))) + (IntKind.u64.wrap (rd x1 x7)))) % 4294967296]) ((IntKind.u64.wrap ((IntKind.u64.wrap (x6 + (IntKind.u64.wrap (rd x0 x7)))) + (IntKind.u64.wrap (rd x1 x7)))) / 4294967296) (wrap64 (x7 + 1))) else (none)) else (if x5.length < 35184372088832 then (credenceref1_NatAdd.l0 k x0 x1 (x5 ++ [(IntKind.u64.wrap (x6 + (IntKind.u64.wrap (rd x0 x7)))) % 4294967296]) ((IntKind.u64.wrap (x6 + (IntKind.u64.wrap (rd x0 x7)))) / 4294967296) (wrap64 (x7 + 1))) else (none))) else (none)) else (if x7 < (x1.length : Int) then (if 0 ≤ x7 then (if x5.length < 35184372088832 then (credenceref1_NatAdd.l0 k x0 x1 (x5 ++ [(IntKind.u64.wrap (x6 + (IntKind.u64.wrap (rd x1 x7)))) % 4294967296]) ((IntKind.u64.wrap (x6 + (IntKind.u64.wrap (rd x1 x7)))) / 4294967296) (wrap64 (x7 + 1))) else (none)) else (none)) else (if x5.length < 35184372088832 then (credenceref1_NatAdd.l0 k x0 x1 (x5 ++ [(x6) % 4294967296]) (x6 / 4294967296) (wrap64 (x7 + 1))) else (none)))) else (if x5.length < 35184372088832 then ((credenceref1_NatNorm.f k (x5 ++ [(x6) % 4294967296])).bind fun t864 => (some t864)) else (none))
end
def credenceref1_NatAdd.f (k : Nat) (l0 : List Int) (l1 : List Int) : Option (List Int) := credenceref1_NatAdd.l0 k l0 l1 ([] : List Int) 0 0

def credenceref1_NatDigits.l0 : Nat → ByteArray → List Int → Int → Option (List Int)
 | 0, _, _, _ => none
 | k + 1, x0, x3, x4 => if x4 < (x0.size : Int) then ((credenceref1_NatOf.f k 10).bind fun t882 => ((credenceref1_NatMul.f k x3 t882).bind fun t885 => (if 0 ≤ x4 then ((credenceref1_NatOf.f k (((bt x0 x4) - 48) % 256)).bind fun t888 => ((credenceref1_NatAdd.f k t885 t888).bind fun t891 => (credenceref1_NatDigits.l0 k x0 t891 (wrap64 (x4 + 1))))) else (none)))) else (some x3)

end Go.Proofs.YtoeldfopjalpkaaDoor.Q

