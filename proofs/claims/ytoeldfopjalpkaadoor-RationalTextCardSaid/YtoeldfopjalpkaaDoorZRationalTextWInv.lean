/- Lemmas for the proof of one law of this seat (WInv). -/
import Derived.Test.YtoeldfopjalpkaaDoorZRationalTextWTab
namespace Go.Proofs.YtoeldfopjalpkaaDoorW.PrintLast
/-- Number i is listed too. -/
def up (b : Nat → Bool) (i : Nat) : Nat → Bool := fun j => if j = i then true else b j
end Go.Proofs.YtoeldfopjalpkaaDoorW.PrintLast

