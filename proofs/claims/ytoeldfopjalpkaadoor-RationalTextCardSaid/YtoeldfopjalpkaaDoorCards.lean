/-
  DERIVED. GIVEN WITH THE SEED: THE CARDS: each row of YtoeldfopjalpkaaDoorRows.lean that lists a variable, with what it lists TIED to the program's text (the seventh form; the later family's looks); each row that meets fmt, with fmt's text TOLD by the authors' own Lean function (tested against real Go, not proved from fmt's source: count such statements apart). THE CARD IS WHAT COUNTS. Prove the row's statement (the work); the ties are given (YtoeldfopjalpkaaDoorTie.lean); close each card by the builder's one call (the guide's Derived/Test/ToyasCard.lean, 'card_holds'). Laid BY PROGRAM, IN A SANDBOX (cutbox-door.mjs). By AI agents, Wed Nov 11 2026. No macro, syntax, notation, axiom, sorry.
-/
import Derived.Test.YtoeldfopjalpkaaDoorRows
import GoSem.ClaimSeven
namespace Go.Proofs.YtoeldfopjalpkaaDoor
namespace Rows

/-- THE TIED CARD OF 'credencelaw2.RationalNew'. -/
def rationalNewCard : Claim7 := { stood := { row := rationalNewRow, standIns := [], harness := (true, "f7200c8ac2945f0a56555f7956832f586c83cc70dd260ec3cce5c99d5758eba7"), looks := false }, kinds := [], alts := [], laidByText := true, laidKinds := [.data, .pinned], laidTests := true, laidLooks := .later }
def RationalNewCardSaid : Prop := Claim7.holds Tryd.pinned (.plain (OpenSpec.ofChange rationalNewSpec)) rationalNewCard

/-- THE TIED CARD OF 'credencelaw2.RationalText'. -/
def rationalTextCard : Claim7 := { stood := { row := rationalTextRow, standIns := [], harness := (true, "f7200c8ac2945f0a56555f7956832f586c83cc70dd260ec3cce5c99d5758eba7"), looks := false }, kinds := [], alts := [], laidByText := true, laidKinds := [.data, .pinned], laidTests := true, laidLooks := .later }
def RationalTextCardSaid : Prop := Claim7.holds Tryd.pinned (.plain (OpenSpec.ofChange rationalTextSpec)) rationalTextCard

/-- THE TIED CARD OF 'credencelaw2.RationalDecimal'. -/
def rationalDecimalCard : Claim7 := { stood := { row := rationalDecimalRow, standIns := [], harness := (true, "f7200c8ac2945f0a56555f7956832f586c83cc70dd260ec3cce5c99d5758eba7"), looks := false }, kinds := [], alts := [], laidByText := true, laidKinds := [.data, .pinned], laidTests := true, laidLooks := .later }
def RationalDecimalCardSaid : Prop := Claim7.holds Tryd.pinned (.plain (OpenSpec.ofChange rationalDecimalSpec)) rationalDecimalCard

/-- THE TIED CARD OF 'credencelaw2.RationalOrder'. -/
def rationalOrderCard : Claim7 := { stood := { row := rationalOrderRow, standIns := [], harness := (true, "f7200c8ac2945f0a56555f7956832f586c83cc70dd260ec3cce5c99d5758eba7"), looks := false }, kinds := [], alts := [], laidByText := true, laidKinds := [.data, .pinned], laidTests := true, laidLooks := .later }
def RationalOrderCardSaid : Prop := Claim7.holds Tryd.pinned (.plain (OpenSpec.ofChange rationalOrderSpec)) rationalOrderCard

/-- THE TIED CARD OF 'credencelaw2.RationalField'. -/
def rationalFieldCard : Claim7 := { stood := { row := rationalFieldRow, standIns := [], harness := (true, "f7200c8ac2945f0a56555f7956832f586c83cc70dd260ec3cce5c99d5758eba7"), looks := false }, kinds := [], alts := [], laidByText := true, laidKinds := [.data, .pinned], laidTests := true, laidLooks := .later }
def RationalFieldCardSaid : Prop := Claim7.holds Tryd.pinned (.plain (OpenSpec.ofChange rationalFieldSpec)) rationalFieldCard

/-- THE TIED CARD OF 'credencelaw2.RationalLists'. -/
def rationalListsCard : Claim7 := { stood := { row := rationalListsRow, standIns := [], harness := (true, "f7200c8ac2945f0a56555f7956832f586c83cc70dd260ec3cce5c99d5758eba7"), looks := false }, kinds := [], alts := [], laidByText := true, laidKinds := [.data, .pinned], laidTests := true, laidLooks := .later }
def RationalListsCardSaid : Prop := Claim7.holds Tryd.pinned (.plain (OpenSpec.ofChange rationalListsSpec)) rationalListsCard

/-- THE TIED CARD OF 'credencelaw2.RationalCanonical'. -/
def rationalCanonicalCard : Claim7 := { stood := { row := rationalCanonicalRow, standIns := [], harness := (true, "f7200c8ac2945f0a56555f7956832f586c83cc70dd260ec3cce5c99d5758eba7"), looks := false }, kinds := [], alts := [], laidByText := true, laidKinds := [.data, .pinned], laidTests := true, laidLooks := .later }
def RationalCanonicalCardSaid : Prop := Claim7.holds Tryd.pinned (.plain (OpenSpec.ofChange rationalCanonicalSpec)) rationalCanonicalCard

/-- THE TIED CARD OF 'credencelaw2.RationalArith'. -/
def rationalArithCard : Claim7 := { stood := { row := rationalArithRow, standIns := [], harness := (true, "f7200c8ac2945f0a56555f7956832f586c83cc70dd260ec3cce5c99d5758eba7"), looks := false }, kinds := [], alts := [], laidByText := true, laidKinds := [.data, .pinned], laidTests := true, laidLooks := .later }
def RationalArithCardSaid : Prop := Claim7.holds Tryd.pinned (.plain (OpenSpec.ofChange rationalArithSpec)) rationalArithCard

/-- THE SECOND FORM's CARD OF 'credencelaw2.RationalNew'. -/
def rationalNewUptoCard : Claim7 := { stood := { row := rationalNewUptoRow, standIns := [], harness := (true, "f7200c8ac2945f0a56555f7956832f586c83cc70dd260ec3cce5c99d5758eba7"), looks := false }, kinds := [], alts := [], laidByText := true, laidKinds := [.data, .pinned], laidTests := true, laidLooks := .later }
def RationalNewUptoCardSaid : Prop := Claim7.holds Tryd.pinned (.plain (OpenSpec.upto rationalNewSpec)) rationalNewUptoCard

/-- THE SECOND FORM's CARD OF 'credencelaw2.RationalText'. -/
def rationalTextUptoCard : Claim7 := { stood := { row := rationalTextUptoRow, standIns := [], harness := (true, "f7200c8ac2945f0a56555f7956832f586c83cc70dd260ec3cce5c99d5758eba7"), looks := false }, kinds := [], alts := [], laidByText := true, laidKinds := [.data, .pinned], laidTests := true, laidLooks := .later }
def RationalTextUptoCardSaid : Prop := Claim7.holds Tryd.pinned (.plain (OpenSpec.upto rationalTextSpec)) rationalTextUptoCard

/-- THE SECOND FORM's CARD OF 'credencelaw2.RationalDecimal'. -/
def rationalDecimalUptoCard : Claim7 := { stood := { row := rationalDecimalUptoRow, standIns := [], harness := (true, "f7200c8ac2945f0a56555f7956832f586c83cc70dd260ec3cce5c99d5758eba7"), looks := false }, kinds := [], alts := [], laidByText := true, laidKinds := [.data, .pinned], laidTests := true, laidLooks := .later }
def RationalDecimalUptoCardSaid : Prop := Claim7.holds Tryd.pinned (.plain (OpenSpec.upto rationalDecimalSpec)) rationalDecimalUptoCard

/-- THE SECOND FORM's CARD OF 'credencelaw2.RationalOrder'. -/
def rationalOrderUptoCard : Claim7 := { stood := { row := rationalOrderUptoRow, standIns := [], harness := (true, "f7200c8ac2945f0a56555f7956832f586c83cc70dd260ec3cce5c99d5758eba7"), looks := false }, kinds := [], alts := [], laidByText := true, laidKinds := [.data, .pinned], laidTests := true, laidLooks := .later }
def RationalOrderUptoCardSaid : Prop := Claim7.holds Tryd.pinned (.plain (OpenSpec.upto rationalOrderSpec)) rationalOrderUptoCard

/-- THE SECOND FORM's CARD OF 'credencelaw2.RationalField'. -/
def rationalFieldUptoCard : Claim7 := { stood := { row := rationalFieldUptoRow, standIns := [], harness := (true, "f7200c8ac2945f0a56555f7956832f586c83cc70dd260ec3cce5c99d5758eba7"), looks := false }, kinds := [], alts := [], laidByText := true, laidKinds := [.data, .pinned], laidTests := true, laidLooks := .later }
def RationalFieldUptoCardSaid : Prop := Claim7.holds Tryd.pinned (.plain (OpenSpec.upto rationalFieldSpec)) rationalFieldUptoCard

/-- THE SECOND FORM's CARD OF 'credencelaw2.RationalLists'. -/
def rationalListsUptoCard : Claim7 := { stood := { row := rationalListsUptoRow, standIns := [], harness := (true, "f7200c8ac2945f0a56555f7956832f586c83cc70dd260ec3cce5c99d5758eba7"), looks := false }, kinds := [], alts := [], laidByText := true, laidKinds := [.data, .pinned], laidTests := true, laidLooks := .later }
def RationalListsUptoCardSaid : Prop := Claim7.holds Tryd.pinned (.plain (OpenSpec.upto rationalListsSpec)) rationalListsUptoCard

/-- THE SECOND FORM's CARD OF 'credencelaw2.RationalCanonical'. -/
def rationalCanonicalUptoCard : Claim7 := { stood := { row := rationalCanonicalUptoRow, standIns := [], harness := (true, "f7200c8ac2945f0a56555f7956832f586c83cc70dd260ec3cce5c99d5758eba7"), looks := false }, kinds := [], alts := [], laidByText := true, laidKinds := [.data, .pinned], laidTests := true, laidLooks := .later }
def RationalCanonicalUptoCardSaid : Prop := Claim7.holds Tryd.pinned (.plain (OpenSpec.upto rationalCanonicalSpec)) rationalCanonicalUptoCard

/-- THE SECOND FORM's CARD OF 'credencelaw2.RationalArith'. -/
def rationalArithUptoCard : Claim7 := { stood := { row := rationalArithUptoRow, standIns := [], harness := (true, "f7200c8ac2945f0a56555f7956832f586c83cc70dd260ec3cce5c99d5758eba7"), looks := false }, kinds := [], alts := [], laidByText := true, laidKinds := [.data, .pinned], laidTests := true, laidLooks := .later }
def RationalArithUptoCardSaid : Prop := Claim7.holds Tryd.pinned (.plain (OpenSpec.upto rationalArithSpec)) rationalArithUptoCard
end Rows
end Go.Proofs.YtoeldfopjalpkaaDoor
