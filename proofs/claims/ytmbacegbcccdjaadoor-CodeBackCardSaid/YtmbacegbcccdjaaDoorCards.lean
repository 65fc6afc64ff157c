/-
  DERIVED. GIVEN WITH THE SEED: THE CARDS: each row of YtmbacegbcccdjaaDoorRows.lean that lists a variable, with what it lists TIED to the program's text (the seventh form; the later family's looks); each row that meets fmt, with fmt's text TOLD by the authors' own Lean function (tested against real Go, not proved from fmt's source: count such statements apart). THE CARD IS WHAT COUNTS. Prove the row's statement (the work); the ties are given (YtmbacegbcccdjaaDoorTie.lean); close each card by the builder's one call (the guide's Derived/Test/ToyasCard.lean, 'card_holds'). Laid BY PROGRAM, IN A SANDBOX (cutbox-door.mjs). By AI agents, Wed Nov 11 2026. No macro, syntax, notation, axiom, sorry.
-/
import Derived.Test.YtmbacegbcccdjaaDoorRows
import GoSem.ClaimSeven
namespace Go.Proofs.YtmbacegbcccdjaaDoor
namespace Rows

/-- THE TIED CARD OF 'clevislaw04.CodeParses'. -/
def codeParsesCard : Claim7 := { stood := { row := codeParsesRow, standIns := [], harness := (true, "45fde9564030c8d9b9e43f4fdf0c88bbf590e5ba30d3dc45002ff8ded65f849b"), looks := true }, kinds := [], alts := [], laidByText := true, laidKinds := [.data, .data, .data, .data, .sentinel, .sentinel, .pinned], laidTests := true, laidLooks := .later }
def CodeParsesCardSaid : Prop := Claim7.holds Tryd.pinned (.plain (OpenSpec.ofChange codeParsesSpec)) codeParsesCard

/-- THE TIED CARD OF 'clevislaw04.CodeLines'. -/
def codeLinesCard : Claim7 := { stood := { row := codeLinesRow, standIns := [], harness := (true, "45fde9564030c8d9b9e43f4fdf0c88bbf590e5ba30d3dc45002ff8ded65f849b"), looks := true }, kinds := [], alts := [], laidByText := true, laidKinds := [.data, .data, .data, .data, .sentinel, .sentinel, .pinned], laidTests := true, laidLooks := .later }
def CodeLinesCardSaid : Prop := Claim7.holds Tryd.pinned (.plain (OpenSpec.ofChange codeLinesSpec)) codeLinesCard

/-- THE TIED CARD OF 'clevislaw04.CodeDecodes'. -/
def codeDecodesCard : Claim7 := { stood := { row := codeDecodesRow, standIns := [], harness := (true, "45fde9564030c8d9b9e43f4fdf0c88bbf590e5ba30d3dc45002ff8ded65f849b"), looks := true }, kinds := [], alts := [], laidByText := true, laidKinds := [.data, .data, .data, .data, .sentinel, .sentinel, .pinned], laidTests := true, laidLooks := .later }
def CodeDecodesCardSaid : Prop := Claim7.holds Tryd.pinned (.plain (OpenSpec.ofChange codeDecodesSpec)) codeDecodesCard

/-- THE TIED CARD OF 'clevislaw04.CodeOne'. -/
def codeOneCard : Claim7 := { stood := { row := codeOneRow, standIns := [], harness := (true, "45fde9564030c8d9b9e43f4fdf0c88bbf590e5ba30d3dc45002ff8ded65f849b"), looks := true }, kinds := [], alts := [], laidByText := true, laidKinds := [.data, .data, .data, .data, .sentinel, .sentinel, .pinned], laidTests := true, laidLooks := .later }
def CodeOneCardSaid : Prop := Claim7.holds Tryd.pinned (.plain (OpenSpec.ofChange codeOneSpec)) codeOneCard

/-- THE TIED CARD OF 'clevislaw04.CodeEncodes'. -/
def codeEncodesCard : Claim7 := { stood := { row := codeEncodesRow, standIns := [], harness := (true, "45fde9564030c8d9b9e43f4fdf0c88bbf590e5ba30d3dc45002ff8ded65f849b"), looks := true }, kinds := [], alts := [], laidByText := true, laidKinds := [.data, .data, .data, .data, .sentinel, .sentinel, .pinned], laidTests := true, laidLooks := .later }
def CodeEncodesCardSaid : Prop := Claim7.holds Tryd.pinned (.plain (OpenSpec.ofChange codeEncodesSpec)) codeEncodesCard

/-- THE TIED CARD OF 'clevislaw04.CodeParts'. -/
def codePartsCard : Claim7 := { stood := { row := codePartsRow, standIns := [], harness := (true, "45fde9564030c8d9b9e43f4fdf0c88bbf590e5ba30d3dc45002ff8ded65f849b"), looks := true }, kinds := [], alts := [], laidByText := true, laidKinds := [.data, .data, .data, .data, .sentinel, .sentinel, .pinned], laidTests := true, laidLooks := .later }
def CodePartsCardSaid : Prop := Claim7.holds Tryd.pinned (.plain (OpenSpec.ofChange codePartsSpec)) codePartsCard

/-- THE TIED CARD OF 'clevislaw04.CodeBack'. -/
def codeBackCard : Claim7 := { stood := { row := codeBackRow, standIns := [], harness := (true, "45fde9564030c8d9b9e43f4fdf0c88bbf590e5ba30d3dc45002ff8ded65f849b"), looks := true }, kinds := [], alts := [], laidByText := true, laidKinds := [.data, .data, .data, .data, .sentinel, .sentinel, .pinned], laidTests := true, laidLooks := .later }
def CodeBackCardSaid : Prop := Claim7.holds Tryd.pinned (.plain (OpenSpec.ofChange codeBackSpec)) codeBackCard

/-- THE TIED CARD OF 'clevislaw04.CodeForm'. -/
def codeFormCard : Claim7 := { stood := { row := codeFormRow, standIns := [], harness := (true, "45fde9564030c8d9b9e43f4fdf0c88bbf590e5ba30d3dc45002ff8ded65f849b"), looks := true }, kinds := [], alts := [], laidByText := true, laidKinds := [.data, .data, .data, .data, .sentinel, .sentinel, .pinned], laidTests := true, laidLooks := .later }
def CodeFormCardSaid : Prop := Claim7.holds Tryd.pinned (.plain (OpenSpec.ofChange codeFormSpec)) codeFormCard

/-- THE SECOND FORM's CARD OF 'clevislaw04.CodeParses'. -/
def codeParsesUptoCard : Claim7 := { stood := { row := codeParsesUptoRow, standIns := [], harness := (true, "45fde9564030c8d9b9e43f4fdf0c88bbf590e5ba30d3dc45002ff8ded65f849b"), looks := true }, kinds := [], alts := [], laidByText := true, laidKinds := [.data, .data, .data, .data, .sentinel, .sentinel, .pinned], laidTests := true, laidLooks := .later }
def CodeParsesUptoCardSaid : Prop := Claim7.holds Tryd.pinned (.plain (OpenSpec.upto codeParsesSpec)) codeParsesUptoCard

/-- THE SECOND FORM's CARD OF 'clevislaw04.CodeLines'. -/
def codeLinesUptoCard : Claim7 := { stood := { row := codeLinesUptoRow, standIns := [], harness := (true, "45fde9564030c8d9b9e43f4fdf0c88bbf590e5ba30d3dc45002ff8ded65f849b"), looks := true }, kinds := [], alts := [], laidByText := true, laidKinds := [.data, .data, .data, .data, .sentinel, .sentinel, .pinned], laidTests := true, laidLooks := .later }
def CodeLinesUptoCardSaid : Prop := Claim7.holds Tryd.pinned (.plain (OpenSpec.upto codeLinesSpec)) codeLinesUptoCard

/-- THE SECOND FORM's CARD OF 'clevislaw04.CodeDecodes'. -/
def codeDecodesUptoCard : Claim7 := { stood := { row := codeDecodesUptoRow, standIns := [], harness := (true, "45fde9564030c8d9b9e43f4fdf0c88bbf590e5ba30d3dc45002ff8ded65f849b"), looks := true }, kinds := [], alts := [], laidByText := true, laidKinds := [.data, .data, .data, .data, .sentinel, .sentinel, .pinned], laidTests := true, laidLooks := .later }
def CodeDecodesUptoCardSaid : Prop := Claim7.holds Tryd.pinned (.plain (OpenSpec.upto codeDecodesSpec)) codeDecodesUptoCard

/-- THE SECOND FORM's CARD OF 'clevislaw04.CodeOne'. -/
def codeOneUptoCard : Claim7 := { stood := { row := codeOneUptoRow, standIns := [], harness := (true, "45fde9564030c8d9b9e43f4fdf0c88bbf590e5ba30d3dc45002ff8ded65f849b"), looks := true }, kinds := [], alts := [], laidByText := true, laidKinds := [.data, .data, .data, .data, .sentinel, .sentinel, .pinned], laidTests := true, laidLooks := .later }
def CodeOneUptoCardSaid : Prop := Claim7.holds Tryd.pinned (.plain (OpenSpec.upto codeOneSpec)) codeOneUptoCard

/-- THE SECOND FORM's CARD OF 'clevislaw04.CodeEncodes'. -/
def codeEncodesUptoCard : Claim7 := { stood := { row := codeEncodesUptoRow, standIns := [], harness := (true, "45fde9564030c8d9b9e43f4fdf0c88bbf590e5ba30d3dc45002ff8ded65f849b"), looks := true }, kinds := [], alts := [], laidByText := true, laidKinds := [.data, .data, .data, .data, .sentinel, .sentinel, .pinned], laidTests := true, laidLooks := .later }
def CodeEncodesUptoCardSaid : Prop := Claim7.holds Tryd.pinned (.plain (OpenSpec.upto codeEncodesSpec)) codeEncodesUptoCard

/-- THE SECOND FORM's CARD OF 'clevislaw04.CodeParts'. -/
def codePartsUptoCard : Claim7 := { stood := { row := codePartsUptoRow, standIns := [], harness := (true, "45fde9564030c8d9b9e43f4fdf0c88bbf590e5ba30d3dc45002ff8ded65f849b"), looks := true }, kinds := [], alts := [], laidByText := true, laidKinds := [.data, .data, .data, .data, .sentinel, .sentinel, .pinned], laidTests := true, laidLooks := .later }
def CodePartsUptoCardSaid : Prop := Claim7.holds Tryd.pinned (.plain (OpenSpec.upto codePartsSpec)) codePartsUptoCard

/-- THE SECOND FORM's CARD OF 'clevislaw04.CodeBack'. -/
def codeBackUptoCard : Claim7 := { stood := { row := codeBackUptoRow, standIns := [], harness := (true, "45fde9564030c8d9b9e43f4fdf0c88bbf590e5ba30d3dc45002ff8ded65f849b"), looks := true }, kinds := [], alts := [], laidByText := true, laidKinds := [.data, .data, .data, .data, .sentinel, .sentinel, .pinned], laidTests := true, laidLooks := .later }
def CodeBackUptoCardSaid : Prop := Claim7.holds Tryd.pinned (.plain (OpenSpec.upto codeBackSpec)) codeBackUptoCard

/-- THE SECOND FORM's CARD OF 'clevislaw04.CodeForm'. -/
def codeFormUptoCard : Claim7 := { stood := { row := codeFormUptoRow, standIns := [], harness := (true, "45fde9564030c8d9b9e43f4fdf0c88bbf590e5ba30d3dc45002ff8ded65f849b"), looks := true }, kinds := [], alts := [], laidByText := true, laidKinds := [.data, .data, .data, .data, .sentinel, .sentinel, .pinned], laidTests := true, laidLooks := .later }
def CodeFormUptoCardSaid : Prop := Claim7.holds Tryd.pinned (.plain (OpenSpec.upto codeFormSpec)) codeFormUptoCard
end Rows
end Go.Proofs.YtmbacegbcccdjaaDoor
