/-
  No cell of these rows narrows 'for every input' (looked for: loops, veiled, ifaces, maps, wideKeys, modest, calm, conditions, laid).
  DERIVED. THE GIVEN ROWS OF THIS SEAT. 9 by the template 'for every input the law returns true; each argument reads behind the call as it read before'; 0 by the template 'total and deterministic' (their statements: YtjiaplnpgjicgaaTotals.lean).
  GIVEN WITH THE SEED: the statements are not yours to turn. If you find one false, say at which input.
  Laid BY PROGRAM, IN A SANDBOX (cutbox-rows.mjs): the forced cells as the released guide's own fill.sh prints them over the translation 78e7aa0217744a11… (all of the seat's roots in one cut). By AI agents, Wed Nov 11 2026. No macro, syntax, notation, axiom, sorry.
-/
import Derived.Test.YtjiaplnpgjicgaaChecked
import GoSem.Claim
import GoSem.ClaimJoined
import GoSem.ClaimMapViews
import Derived.JoinedTies
import Derived.KernelRfl
namespace Go.Proofs.Ytjiaplnpgjicgaa
/- THE CELL 'sum', in the pinned program and in every row, IS THE sha256 OF THE DUMP (.gsa) THAT YtjiaplnpgjicgaaProg.lean LOADS. Nothing in Lean hashes anything: it is a label: what it is worth is what the hold of that sum in a sandbox is worth. -/
noncomputable def Try.pinned : Pinned := { name := "ytjiaplnpgjicgaa", sum := "78e7aa0217744a11c90b62a6c00c20f9cf01cbff981ad3a18b98560b8c68ba67", checked := Try.checked }
namespace Rows
def none {H : Type} : Left H := { results := [], args := [] }

/-- 'credencelaw1.BignatText': WHATEVER THE INPUT: true; the input reads as it did. -/
def bignatTextSpec : ChangeSpec := { name := "bignatText", fn := fun _ => fun
  | [d1, d2, d3] => { results := [.lit (.bool true)], args := [d1, d2, d3] }
  | _ => none }
def bignatTextRow : OpenClaim := { program := "ytjiaplnpgjicgaa", sum := "78e7aa0217744a11c90b62a6c00c20f9cf01cbff981ad3a18b98560b8c68ba67", func := "credence/credencelaw1.BignatText", spec := "bignatText", apart := false }
def BignatTextSaid : Prop := bignatTextRow.holds Try.pinned (OpenSpec.ofChange bignatTextSpec)

/-- ITS FALSE NEIGHBOUR: 'it returns false'. Refute it at one input. -/
def bignatTextWrong : ChangeSpec := { name := "bignatText", fn := fun _ => fun
  | [d1, d2, d3] => { results := [.lit (.bool false)], args := [d1, d2, d3] }
  | _ => none }
def BignatTextWrongFalsely : Prop := bignatTextRow.holds Try.pinned (OpenSpec.ofChange bignatTextWrong)

/-- 'credencelaw1.BignatRing': WHATEVER THE INPUT: true; the input reads as it did. -/
def bignatRingSpec : ChangeSpec := { name := "bignatRing", fn := fun _ => fun
  | [d1, d2, d3] => { results := [.lit (.bool true)], args := [d1, d2, d3] }
  | _ => none }
def bignatRingRow : OpenClaim := { program := "ytjiaplnpgjicgaa", sum := "78e7aa0217744a11c90b62a6c00c20f9cf01cbff981ad3a18b98560b8c68ba67", func := "credence/credencelaw1.BignatRing", spec := "bignatRing", apart := false }
def BignatRingSaid : Prop := bignatRingRow.holds Try.pinned (OpenSpec.ofChange bignatRingSpec)

/-- ITS FALSE NEIGHBOUR: 'it returns false'. Refute it at one input. -/
def bignatRingWrong : ChangeSpec := { name := "bignatRing", fn := fun _ => fun
  | [d1, d2, d3] => { results := [.lit (.bool false)], args := [d1, d2, d3] }
  | _ => none }
def BignatRingWrongFalsely : Prop := bignatRingRow.holds Try.pinned (OpenSpec.ofChange bignatRingWrong)

/-- 'credencelaw1.BignatDivision': WHATEVER THE INPUT: true; the input reads as it did. -/
def bignatDivisionSpec : ChangeSpec := { name := "bignatDivision", fn := fun _ => fun
  | [d1, d2] => { results := [.lit (.bool true)], args := [d1, d2] }
  | _ => none }
def bignatDivisionRow : OpenClaim := { program := "ytjiaplnpgjicgaa", sum := "78e7aa0217744a11c90b62a6c00c20f9cf01cbff981ad3a18b98560b8c68ba67", func := "credence/credencelaw1.BignatDivision", spec := "bignatDivision", apart := false }
def BignatDivisionSaid : Prop := bignatDivisionRow.holds Try.pinned (OpenSpec.ofChange bignatDivisionSpec)

/-- ITS FALSE NEIGHBOUR: 'it returns false'. Refute it at one input. -/
def bignatDivisionWrong : ChangeSpec := { name := "bignatDivision", fn := fun _ => fun
  | [d1, d2] => { results := [.lit (.bool false)], args := [d1, d2] }
  | _ => none }
def BignatDivisionWrongFalsely : Prop := bignatDivisionRow.holds Try.pinned (OpenSpec.ofChange bignatDivisionWrong)

/-- 'credencelaw1.BignatDivisors': WHATEVER THE INPUT: true; the input reads as it did. -/
def bignatDivisorsSpec : ChangeSpec := { name := "bignatDivisors", fn := fun _ => fun
  | [d1, d2, d3] => { results := [.lit (.bool true)], args := [d1, d2, d3] }
  | _ => none }
def bignatDivisorsRow : OpenClaim := { program := "ytjiaplnpgjicgaa", sum := "78e7aa0217744a11c90b62a6c00c20f9cf01cbff981ad3a18b98560b8c68ba67", func := "credence/credencelaw1.BignatDivisors", spec := "bignatDivisors", apart := false }
def BignatDivisorsSaid : Prop := bignatDivisorsRow.holds Try.pinned (OpenSpec.ofChange bignatDivisorsSpec)

/-- ITS FALSE NEIGHBOUR: 'it returns false'. Refute it at one input. -/
def bignatDivisorsWrong : ChangeSpec := { name := "bignatDivisors", fn := fun _ => fun
  | [d1, d2, d3] => { results := [.lit (.bool false)], args := [d1, d2, d3] }
  | _ => none }
def BignatDivisorsWrongFalsely : Prop := bignatDivisorsRow.holds Try.pinned (OpenSpec.ofChange bignatDivisorsWrong)

/-- 'credencelaw1.BignatFresh': WHATEVER THE INPUT: true; the input reads as it did. -/
def bignatFreshSpec : ChangeSpec := { name := "bignatFresh", fn := fun _ => fun
  | [d1, d2] => { results := [.lit (.bool true)], args := [d1, d2] }
  | _ => none }
def bignatFreshRow : OpenClaim := { program := "ytjiaplnpgjicgaa", sum := "78e7aa0217744a11c90b62a6c00c20f9cf01cbff981ad3a18b98560b8c68ba67", func := "credence/credencelaw1.BignatFresh", spec := "bignatFresh", apart := false }
def BignatFreshSaid : Prop := bignatFreshRow.holds Try.pinned (OpenSpec.ofChange bignatFreshSpec)

/-- ITS FALSE NEIGHBOUR: 'it returns false'. Refute it at one input. -/
def bignatFreshWrong : ChangeSpec := { name := "bignatFresh", fn := fun _ => fun
  | [d1, d2] => { results := [.lit (.bool false)], args := [d1, d2] }
  | _ => none }
def BignatFreshWrongFalsely : Prop := bignatFreshRow.holds Try.pinned (OpenSpec.ofChange bignatFreshWrong)

/-- 'credencelaw1.BignatPow': WHATEVER THE INPUT: true; the input reads as it did. -/
def bignatPowSpec : ChangeSpec := { name := "bignatPow", fn := fun _ => fun
  | [d1, d2] => { results := [.lit (.bool true)], args := [d1, d2] }
  | _ => none }
def bignatPowRow : OpenClaim := { program := "ytjiaplnpgjicgaa", sum := "78e7aa0217744a11c90b62a6c00c20f9cf01cbff981ad3a18b98560b8c68ba67", func := "credence/credencelaw1.BignatPow", spec := "bignatPow", apart := false }
def BignatPowSaid : Prop := bignatPowRow.holds Try.pinned (OpenSpec.ofChange bignatPowSpec)

/-- ITS FALSE NEIGHBOUR: 'it returns false'. Refute it at one input. -/
def bignatPowWrong : ChangeSpec := { name := "bignatPow", fn := fun _ => fun
  | [d1, d2] => { results := [.lit (.bool false)], args := [d1, d2] }
  | _ => none }
def BignatPowWrongFalsely : Prop := bignatPowRow.holds Try.pinned (OpenSpec.ofChange bignatPowWrong)

/-- 'credencelaw1.BignatLimits': WHATEVER THE INPUT: true; the input reads as it did. -/
def bignatLimitsSpec : ChangeSpec := { name := "bignatLimits", fn := fun _ => fun
  | [] => { results := [.lit (.bool true)], args := [] }
  | _ => none }
def bignatLimitsRow : OpenClaim := { program := "ytjiaplnpgjicgaa", sum := "78e7aa0217744a11c90b62a6c00c20f9cf01cbff981ad3a18b98560b8c68ba67", func := "credence/credencelaw1.BignatLimits", spec := "bignatLimits", apart := false }
def BignatLimitsSaid : Prop := bignatLimitsRow.holds Try.pinned (OpenSpec.ofChange bignatLimitsSpec)

/-- ITS FALSE NEIGHBOUR: 'it returns false'. Refute it at one input. -/
def bignatLimitsWrong : ChangeSpec := { name := "bignatLimits", fn := fun _ => fun
  | [] => { results := [.lit (.bool false)], args := [] }
  | _ => none }
def BignatLimitsWrongFalsely : Prop := bignatLimitsRow.holds Try.pinned (OpenSpec.ofChange bignatLimitsWrong)

/-- 'credencelaw1.BignatArith': WHATEVER THE INPUT: true; the input reads as it did. -/
def bignatArithSpec : ChangeSpec := { name := "bignatArith", fn := fun _ => fun
  | [d1, d2, d3] => { results := [.lit (.bool true)], args := [d1, d2, d3] }
  | _ => none }
def bignatArithRow : OpenClaim := { program := "ytjiaplnpgjicgaa", sum := "78e7aa0217744a11c90b62a6c00c20f9cf01cbff981ad3a18b98560b8c68ba67", func := "credence/credencelaw1.BignatArith", spec := "bignatArith", apart := false }
def BignatArithSaid : Prop := bignatArithRow.holds Try.pinned (OpenSpec.ofChange bignatArithSpec)

/-- ITS FALSE NEIGHBOUR: 'it returns false'. Refute it at one input. -/
def bignatArithWrong : ChangeSpec := { name := "bignatArith", fn := fun _ => fun
  | [d1, d2, d3] => { results := [.lit (.bool false)], args := [d1, d2, d3] }
  | _ => none }
def BignatArithWrongFalsely : Prop := bignatArithRow.holds Try.pinned (OpenSpec.ofChange bignatArithWrong)

/-- 'credencelaw1.BignatOrder': WHATEVER THE INPUT: true; the input reads as it did. -/
def bignatOrderSpec : ChangeSpec := { name := "bignatOrder", fn := fun _ => fun
  | [d1, d2] => { results := [.lit (.bool true)], args := [d1, d2] }
  | _ => none }
def bignatOrderRow : OpenClaim := { program := "ytjiaplnpgjicgaa", sum := "78e7aa0217744a11c90b62a6c00c20f9cf01cbff981ad3a18b98560b8c68ba67", func := "credence/credencelaw1.BignatOrder", spec := "bignatOrder", apart := false }
def BignatOrderSaid : Prop := bignatOrderRow.holds Try.pinned (OpenSpec.ofChange bignatOrderSpec)

/-- ITS FALSE NEIGHBOUR: 'it returns false'. Refute it at one input. -/
def bignatOrderWrong : ChangeSpec := { name := "bignatOrder", fn := fun _ => fun
  | [d1, d2] => { results := [.lit (.bool false)], args := [d1, d2] }
  | _ => none }
def BignatOrderWrongFalsely : Prop := bignatOrderRow.holds Try.pinned (OpenSpec.ofChange bignatOrderWrong)

/- THE SECOND FORM. 'bulk': how many values and letters a reading holds, each counted each time it is reached (what is shared counts as often as it is met; a slice's spare places count too). A statement '..UptoSaid' is the law's where the arguments, and the package variables that the reading takes, are together of bulk at most 1048576: NARROWER than '..Said'. Prove '..Said' where nothing that the law and all that it calls make is longer than what came in: it says more and counts as full. Else prove '..UptoSaid'. A law counts once. -/
mutual
def uptoBulk {H : Type} : DataW H → Nat
  | .lit (.string bytes) => bytes.length + 1
  | .lit _ => 1
  | .nil => 1
  | .ptr d => uptoBulk d + 1
  | .slice elems spare => uptoBulkAll elems + uptoBulkAll spare + 1
  | .agg parts => uptoBulkAll parts + 1
  | .iface _ d => uptoBulk d + 1
  | .map entries => uptoBulkEntries entries + 1
  | .held _ => 1
def uptoBulkAll {H : Type} : List (DataW H) → Nat
  | [] => 0
  | d :: r => uptoBulk d + uptoBulkAll r
def uptoBulkEntries {H : Type} : List (Lit × DataW H) → Nat
  | [] => 0
  | x :: r => uptoBulkEntry x + uptoBulkEntries r
def uptoBulkEntry {H : Type} : Lit × DataW H → Nat
  | (.string bytes, d) => bytes.length + uptoBulk d + 1
  | (_, d) => uptoBulk d + 1
 end
def uptoSmall : (H : Type) → List (DataW H) → Bool := fun _ ds => decide (uptoBulkAll ds ≤ 1048576)
def OpenSpec.upto (s : _root_.Go.ChangeSpec) : _root_.Go.OpenSpec := { _root_.Go.OpenSpec.ofChange s with cond := some uptoSmall }

/-- 'credencelaw1.BignatText', WHERE WHAT IT READS IS OF BULK AT MOST 1048576: true; the input reads as it did. -/
def bignatTextUptoRow : OpenClaim := { program := "ytjiaplnpgjicgaa", sum := "78e7aa0217744a11c90b62a6c00c20f9cf01cbff981ad3a18b98560b8c68ba67", func := "credence/credencelaw1.BignatText", spec := "bignatText", apart := false, narrowed := true }
def BignatTextUptoSaid : Prop := bignatTextUptoRow.holds Try.pinned (OpenSpec.upto bignatTextSpec)

/-- 'credencelaw1.BignatRing', WHERE WHAT IT READS IS OF BULK AT MOST 1048576: true; the input reads as it did. -/
def bignatRingUptoRow : OpenClaim := { program := "ytjiaplnpgjicgaa", sum := "78e7aa0217744a11c90b62a6c00c20f9cf01cbff981ad3a18b98560b8c68ba67", func := "credence/credencelaw1.BignatRing", spec := "bignatRing", apart := false, narrowed := true }
def BignatRingUptoSaid : Prop := bignatRingUptoRow.holds Try.pinned (OpenSpec.upto bignatRingSpec)

/-- 'credencelaw1.BignatDivision', WHERE WHAT IT READS IS OF BULK AT MOST 1048576: true; the input reads as it did. -/
def bignatDivisionUptoRow : OpenClaim := { program := "ytjiaplnpgjicgaa", sum := "78e7aa0217744a11c90b62a6c00c20f9cf01cbff981ad3a18b98560b8c68ba67", func := "credence/credencelaw1.BignatDivision", spec := "bignatDivision", apart := false, narrowed := true }
def BignatDivisionUptoSaid : Prop := bignatDivisionUptoRow.holds Try.pinned (OpenSpec.upto bignatDivisionSpec)

/-- 'credencelaw1.BignatDivisors', WHERE WHAT IT READS IS OF BULK AT MOST 1048576: true; the input reads as it did. -/
def bignatDivisorsUptoRow : OpenClaim := { program := "ytjiaplnpgjicgaa", sum := "78e7aa0217744a11c90b62a6c00c20f9cf01cbff981ad3a18b98560b8c68ba67", func := "credence/credencelaw1.BignatDivisors", spec := "bignatDivisors", apart := false, narrowed := true }
def BignatDivisorsUptoSaid : Prop := bignatDivisorsUptoRow.holds Try.pinned (OpenSpec.upto bignatDivisorsSpec)

/-- 'credencelaw1.BignatFresh', WHERE WHAT IT READS IS OF BULK AT MOST 1048576: true; the input reads as it did. -/
def bignatFreshUptoRow : OpenClaim := { program := "ytjiaplnpgjicgaa", sum := "78e7aa0217744a11c90b62a6c00c20f9cf01cbff981ad3a18b98560b8c68ba67", func := "credence/credencelaw1.BignatFresh", spec := "bignatFresh", apart := false, narrowed := true }
def BignatFreshUptoSaid : Prop := bignatFreshUptoRow.holds Try.pinned (OpenSpec.upto bignatFreshSpec)

/-- 'credencelaw1.BignatPow', WHERE WHAT IT READS IS OF BULK AT MOST 1048576: true; the input reads as it did. -/
def bignatPowUptoRow : OpenClaim := { program := "ytjiaplnpgjicgaa", sum := "78e7aa0217744a11c90b62a6c00c20f9cf01cbff981ad3a18b98560b8c68ba67", func := "credence/credencelaw1.BignatPow", spec := "bignatPow", apart := false, narrowed := true }
def BignatPowUptoSaid : Prop := bignatPowUptoRow.holds Try.pinned (OpenSpec.upto bignatPowSpec)

/-- 'credencelaw1.BignatLimits', WHERE WHAT IT READS IS OF BULK AT MOST 1048576: true; the input reads as it did. -/
def bignatLimitsUptoRow : OpenClaim := { program := "ytjiaplnpgjicgaa", sum := "78e7aa0217744a11c90b62a6c00c20f9cf01cbff981ad3a18b98560b8c68ba67", func := "credence/credencelaw1.BignatLimits", spec := "bignatLimits", apart := false, narrowed := true }
def BignatLimitsUptoSaid : Prop := bignatLimitsUptoRow.holds Try.pinned (OpenSpec.upto bignatLimitsSpec)

/-- 'credencelaw1.BignatArith', WHERE WHAT IT READS IS OF BULK AT MOST 1048576: true; the input reads as it did. -/
def bignatArithUptoRow : OpenClaim := { program := "ytjiaplnpgjicgaa", sum := "78e7aa0217744a11c90b62a6c00c20f9cf01cbff981ad3a18b98560b8c68ba67", func := "credence/credencelaw1.BignatArith", spec := "bignatArith", apart := false, narrowed := true }
def BignatArithUptoSaid : Prop := bignatArithUptoRow.holds Try.pinned (OpenSpec.upto bignatArithSpec)

/-- 'credencelaw1.BignatOrder', WHERE WHAT IT READS IS OF BULK AT MOST 1048576: true; the input reads as it did. -/
def bignatOrderUptoRow : OpenClaim := { program := "ytjiaplnpgjicgaa", sum := "78e7aa0217744a11c90b62a6c00c20f9cf01cbff981ad3a18b98560b8c68ba67", func := "credence/credencelaw1.BignatOrder", spec := "bignatOrder", apart := false, narrowed := true }
def BignatOrderUptoSaid : Prop := bignatOrderUptoRow.holds Try.pinned (OpenSpec.upto bignatOrderSpec)

end Rows
end Go.Proofs.Ytjiaplnpgjicgaa
