/-
  DERIVED. GIVEN WITH THE SEED: THE CARDS: each row of YtoemaogfnimapabGreatDoorRows.lean that lists a variable, with what it lists TIED to the program's text (the seventh form; the later family's looks); each row that meets fmt, with fmt's text TOLD by the authors' own Lean function (tested against real Go, not proved from fmt's source: count such statements apart). THE CARD IS WHAT COUNTS. Prove the row's statement (the work); the ties are given (YtoemaogfnimapabGreatDoorTie.lean); close each card by the builder's one call (the guide's Derived/Test/ToyasCard.lean, 'card_holds'). Laid BY PROGRAM, IN A SANDBOX (cutbox-door.mjs). By AI agents, Wed Nov 11 2026. No macro, syntax, notation, axiom, sorry.
-/
import Derived.Test.YtoemaogfnimapabGreatDoorRows
import GoSem.ClaimSeven
namespace Go.Proofs.YtoemaogfnimapabGreatDoor
namespace Rows

/-- THE TIED CARD OF 'amanuensislaw28.StreamParts'. -/
def streamPartsCard : Claim7 := { stood := { row := streamPartsRow, standIns := [], harness := (true, "648ed2a8178cce35ad80e1886b65fa014b79007a938a4fee976eb7a28efcd2f3"), looks := true }, kinds := [], alts := [], laidByText := true, laidKinds := [.pinned, .data, .data, .listed, .sentinel, .sentinel, .data, .data, .data, .handle], laidTests := true, laidLooks := .later }
def StreamPartsCardSaid : Prop := Claim7.holds Tryz.pinned (.plain (OpenSpec.ofChange streamPartsSpec)) streamPartsCard

/-- THE TIED CARD OF 'amanuensislaw28.StreamNone'. -/
def streamNoneCard : Claim7 := { stood := { row := streamNoneRow, standIns := [], harness := (true, "648ed2a8178cce35ad80e1886b65fa014b79007a938a4fee976eb7a28efcd2f3"), looks := true }, kinds := [], alts := [], laidByText := true, laidKinds := [.pinned, .data, .data, .listed, .sentinel, .sentinel, .data, .data, .data, .handle], laidTests := true, laidLooks := .later }
def StreamNoneCardSaid : Prop := Claim7.holds Tryz.pinned (.plain (OpenSpec.ofChange streamNoneSpec)) streamNoneCard

/-- THE TIED CARD OF 'amanuensislaw28.StreamRecords'. -/
def streamRecordsCard : Claim7 := { stood := { row := streamRecordsRow, standIns := [], harness := (true, "648ed2a8178cce35ad80e1886b65fa014b79007a938a4fee976eb7a28efcd2f3"), looks := true }, kinds := [], alts := [], laidByText := true, laidKinds := [.pinned, .data, .data, .listed, .sentinel, .sentinel, .data, .data, .data, .handle], laidTests := true, laidLooks := .later }
def StreamRecordsCardSaid : Prop := Claim7.holds Tryz.pinned (.plain (OpenSpec.ofChange streamRecordsSpec)) streamRecordsCard

/-- THE TIED CARD OF 'amanuensislaw29.ShellWrong'. -/
def shellWrongCard : Claim7 := { stood := { row := shellWrongRow, standIns := [], harness := (true, "648ed2a8178cce35ad80e1886b65fa014b79007a938a4fee976eb7a28efcd2f3"), looks := true }, kinds := [], alts := [], laidByText := true, laidKinds := [.pinned, .data, .data, .listed, .sentinel, .sentinel, .data, .data, .data, .handle], laidTests := true, laidLooks := .later }
def ShellWrongCardSaid : Prop := Claim7.holds Tryz.pinned (.plain (OpenSpec.ofChange shellWrongSpec)) shellWrongCard

/-- THE TIED CARD OF 'amanuensistop.WholeNotes'. -/
def wholeNotesCard : Claim7 := { stood := { row := wholeNotesRow, standIns := [], harness := (true, "648ed2a8178cce35ad80e1886b65fa014b79007a938a4fee976eb7a28efcd2f3"), looks := true }, kinds := [], alts := [], laidByText := true, laidKinds := [.pinned, .data, .data, .listed, .sentinel, .sentinel, .data, .data, .data, .handle], laidTests := true, laidLooks := .later }
def WholeNotesCardSaid : Prop := Claim7.holds Tryz.pinned (.plain (OpenSpec.ofChange wholeNotesSpec)) wholeNotesCard

/-- THE TIED CARD OF 'amanuensistop.WholeJunk'. -/
def wholeJunkCard : Claim7 := { stood := { row := wholeJunkRow, standIns := [], harness := (true, "648ed2a8178cce35ad80e1886b65fa014b79007a938a4fee976eb7a28efcd2f3"), looks := true }, kinds := [], alts := [], laidByText := true, laidKinds := [.pinned, .data, .data, .listed, .sentinel, .sentinel, .data, .data, .data, .handle], laidTests := true, laidLooks := .later }
def WholeJunkCardSaid : Prop := Claim7.holds Tryz.pinned (.plain (OpenSpec.ofChange wholeJunkSpec)) wholeJunkCard

/-- THE SECOND FORM's CARD OF 'amanuensislaw28.StreamParts'. -/
def streamPartsUptoCard : Claim7 := { stood := { row := streamPartsUptoRow, standIns := [], harness := (true, "648ed2a8178cce35ad80e1886b65fa014b79007a938a4fee976eb7a28efcd2f3"), looks := true }, kinds := [], alts := [], laidByText := true, laidKinds := [.pinned, .data, .data, .listed, .sentinel, .sentinel, .data, .data, .data, .handle], laidTests := true, laidLooks := .later }
def StreamPartsUptoCardSaid : Prop := Claim7.holds Tryz.pinned (.plain (OpenSpec.upto streamPartsSpec)) streamPartsUptoCard

/-- THE SECOND FORM's CARD OF 'amanuensislaw28.StreamNone'. -/
def streamNoneUptoCard : Claim7 := { stood := { row := streamNoneUptoRow, standIns := [], harness := (true, "648ed2a8178cce35ad80e1886b65fa014b79007a938a4fee976eb7a28efcd2f3"), looks := true }, kinds := [], alts := [], laidByText := true, laidKinds := [.pinned, .data, .data, .listed, .sentinel, .sentinel, .data, .data, .data, .handle], laidTests := true, laidLooks := .later }
def StreamNoneUptoCardSaid : Prop := Claim7.holds Tryz.pinned (.plain (OpenSpec.upto streamNoneSpec)) streamNoneUptoCard

/-- THE SECOND FORM's CARD OF 'amanuensislaw28.StreamRecords'. -/
def streamRecordsUptoCard : Claim7 := { stood := { row := streamRecordsUptoRow, standIns := [], harness := (true, "648ed2a8178cce35ad80e1886b65fa014b79007a938a4fee976eb7a28efcd2f3"), looks := true }, kinds := [], alts := [], laidByText := true, laidKinds := [.pinned, .data, .data, .listed, .sentinel, .sentinel, .data, .data, .data, .handle], laidTests := true, laidLooks := .later }
def StreamRecordsUptoCardSaid : Prop := Claim7.holds Tryz.pinned (.plain (OpenSpec.upto streamRecordsSpec)) streamRecordsUptoCard

/-- THE SECOND FORM's CARD OF 'amanuensislaw29.ShellWrong'. -/
def shellWrongUptoCard : Claim7 := { stood := { row := shellWrongUptoRow, standIns := [], harness := (true, "648ed2a8178cce35ad80e1886b65fa014b79007a938a4fee976eb7a28efcd2f3"), looks := true }, kinds := [], alts := [], laidByText := true, laidKinds := [.pinned, .data, .data, .listed, .sentinel, .sentinel, .data, .data, .data, .handle], laidTests := true, laidLooks := .later }
def ShellWrongUptoCardSaid : Prop := Claim7.holds Tryz.pinned (.plain (OpenSpec.upto shellWrongSpec)) shellWrongUptoCard

/-- THE SECOND FORM's CARD OF 'amanuensistop.WholeNotes'. -/
def wholeNotesUptoCard : Claim7 := { stood := { row := wholeNotesUptoRow, standIns := [], harness := (true, "648ed2a8178cce35ad80e1886b65fa014b79007a938a4fee976eb7a28efcd2f3"), looks := true }, kinds := [], alts := [], laidByText := true, laidKinds := [.pinned, .data, .data, .listed, .sentinel, .sentinel, .data, .data, .data, .handle], laidTests := true, laidLooks := .later }
def WholeNotesUptoCardSaid : Prop := Claim7.holds Tryz.pinned (.plain (OpenSpec.upto wholeNotesSpec)) wholeNotesUptoCard

/-- THE SECOND FORM's CARD OF 'amanuensistop.WholeJunk'. -/
def wholeJunkUptoCard : Claim7 := { stood := { row := wholeJunkUptoRow, standIns := [], harness := (true, "648ed2a8178cce35ad80e1886b65fa014b79007a938a4fee976eb7a28efcd2f3"), looks := true }, kinds := [], alts := [], laidByText := true, laidKinds := [.pinned, .data, .data, .listed, .sentinel, .sentinel, .data, .data, .data, .handle], laidTests := true, laidLooks := .later }
def WholeJunkUptoCardSaid : Prop := Claim7.holds Tryz.pinned (.plain (OpenSpec.upto wholeJunkSpec)) wholeJunkUptoCard
end Rows
end Go.Proofs.YtoemaogfnimapabGreatDoor
