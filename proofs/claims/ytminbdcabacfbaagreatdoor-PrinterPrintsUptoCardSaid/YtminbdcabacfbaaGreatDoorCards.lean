/-
  DERIVED. GIVEN WITH THE SEED: THE CARDS: each row of YtminbdcabacfbaaGreatDoorRows.lean that lists a variable, with what it lists TIED to the program's text (the seventh form; the later family's looks); each row that meets fmt, with fmt's text TOLD by the authors' own Lean function (tested against real Go, not proved from fmt's source: count such statements apart). THE CARD IS WHAT COUNTS. Prove the row's statement (the work); the ties are given (YtminbdcabacfbaaGreatDoorTie.lean); close each card by the builder's one call (the guide's Derived/Test/ToyasCard.lean, 'card_holds'). Laid BY PROGRAM, IN A SANDBOX (cutbox-door.mjs). By AI agents, Wed Nov 11 2026. No macro, syntax, notation, axiom, sorry.
-/
import Derived.Test.YtminbdcabacfbaaGreatDoorRows
import GoSem.ClaimSeven
namespace Go.Proofs.YtminbdcabacfbaaGreatDoor
namespace Rows

/-- THE TIED CARD OF 'lambrequinlaw06.ParseAtoms'. -/
def parseAtomsCard : Claim7 := { stood := { row := parseAtomsRow, standIns := [], harness := (true, "d09d1d759344e4591bb046b2d3384915dc9c8141eddbcfdac7354809c3974f8f"), looks := true }, kinds := [], alts := [], laidByText := true, laidKinds := [.data, .data, .data, .sentinel, .sentinel], laidTests := true, laidLooks := .later }
def ParseAtomsCardSaid : Prop := Claim7.holds Tryz.pinned (.plain (OpenSpec.ofChange parseAtomsSpec)) parseAtomsCard

/-- THE TIED CARD OF 'lambrequinlaw07.PrinterPrints'. -/
def printerPrintsCard : Claim7 := { stood := { row := printerPrintsRow, standIns := [], harness := (true, "d09d1d759344e4591bb046b2d3384915dc9c8141eddbcfdac7354809c3974f8f"), looks := true }, kinds := [], alts := [], laidByText := true, laidKinds := [.data, .data, .data, .sentinel, .sentinel], laidTests := true, laidLooks := .later }
def PrinterPrintsCardSaid : Prop := Claim7.holds Tryz.pinned (.plain (OpenSpec.ofChange printerPrintsSpec)) printerPrintsCard

/-- THE TIED CARD OF 'lambrequinlaw07.PrinterBack'. -/
def printerBackCard : Claim7 := { stood := { row := printerBackRow, standIns := [], harness := (true, "d09d1d759344e4591bb046b2d3384915dc9c8141eddbcfdac7354809c3974f8f"), looks := true }, kinds := [], alts := [], laidByText := true, laidKinds := [.data, .data, .data, .sentinel, .sentinel], laidTests := true, laidLooks := .later }
def PrinterBackCardSaid : Prop := Claim7.holds Tryz.pinned (.plain (OpenSpec.ofChange printerBackSpec)) printerBackCard

/-- THE TIED CARD OF 'lambrequinlaw07.PrinterAgain'. -/
def printerAgainCard : Claim7 := { stood := { row := printerAgainRow, standIns := [], harness := (true, "d09d1d759344e4591bb046b2d3384915dc9c8141eddbcfdac7354809c3974f8f"), looks := true }, kinds := [], alts := [], laidByText := true, laidKinds := [.data, .data, .data, .sentinel, .sentinel], laidTests := true, laidLooks := .later }
def PrinterAgainCardSaid : Prop := Claim7.holds Tryz.pinned (.plain (OpenSpec.ofChange printerAgainSpec)) printerAgainCard

/-- THE TIED CARD OF 'lambrequinlaw07.PrinterLines'. -/
def printerLinesCard : Claim7 := { stood := { row := printerLinesRow, standIns := [], harness := (true, "d09d1d759344e4591bb046b2d3384915dc9c8141eddbcfdac7354809c3974f8f"), looks := true }, kinds := [], alts := [], laidByText := true, laidKinds := [.data, .data, .data, .sentinel, .sentinel], laidTests := true, laidLooks := .later }
def PrinterLinesCardSaid : Prop := Claim7.holds Tryz.pinned (.plain (OpenSpec.ofChange printerLinesSpec)) printerLinesCard

/-- THE TIED CARD OF 'lambrequinlaw07.PrinterPieces'. -/
def printerPiecesCard : Claim7 := { stood := { row := printerPiecesRow, standIns := [], harness := (true, "d09d1d759344e4591bb046b2d3384915dc9c8141eddbcfdac7354809c3974f8f"), looks := true }, kinds := [], alts := [], laidByText := true, laidKinds := [.data, .data, .data, .sentinel, .sentinel], laidTests := true, laidLooks := .later }
def PrinterPiecesCardSaid : Prop := Claim7.holds Tryz.pinned (.plain (OpenSpec.ofChange printerPiecesSpec)) printerPiecesCard

/-- THE TIED CARD OF 'lambrequinlaw07.PrinterAtoms'. -/
def printerAtomsCard : Claim7 := { stood := { row := printerAtomsRow, standIns := [], harness := (true, "d09d1d759344e4591bb046b2d3384915dc9c8141eddbcfdac7354809c3974f8f"), looks := true }, kinds := [], alts := [], laidByText := true, laidKinds := [.data, .data, .data, .sentinel, .sentinel], laidTests := true, laidLooks := .later }
def PrinterAtomsCardSaid : Prop := Claim7.holds Tryz.pinned (.plain (OpenSpec.ofChange printerAtomsSpec)) printerAtomsCard

/-- THE SECOND FORM's CARD OF 'lambrequinlaw06.ParseAtoms'. -/
def parseAtomsUptoCard : Claim7 := { stood := { row := parseAtomsUptoRow, standIns := [], harness := (true, "d09d1d759344e4591bb046b2d3384915dc9c8141eddbcfdac7354809c3974f8f"), looks := true }, kinds := [], alts := [], laidByText := true, laidKinds := [.data, .data, .data, .sentinel, .sentinel], laidTests := true, laidLooks := .later }
def ParseAtomsUptoCardSaid : Prop := Claim7.holds Tryz.pinned (.plain (OpenSpec.upto parseAtomsSpec)) parseAtomsUptoCard

/-- THE SECOND FORM's CARD OF 'lambrequinlaw07.PrinterPrints'. -/
def printerPrintsUptoCard : Claim7 := { stood := { row := printerPrintsUptoRow, standIns := [], harness := (true, "d09d1d759344e4591bb046b2d3384915dc9c8141eddbcfdac7354809c3974f8f"), looks := true }, kinds := [], alts := [], laidByText := true, laidKinds := [.data, .data, .data, .sentinel, .sentinel], laidTests := true, laidLooks := .later }
def PrinterPrintsUptoCardSaid : Prop := Claim7.holds Tryz.pinned (.plain (OpenSpec.upto printerPrintsSpec)) printerPrintsUptoCard

/-- THE SECOND FORM's CARD OF 'lambrequinlaw07.PrinterBack'. -/
def printerBackUptoCard : Claim7 := { stood := { row := printerBackUptoRow, standIns := [], harness := (true, "d09d1d759344e4591bb046b2d3384915dc9c8141eddbcfdac7354809c3974f8f"), looks := true }, kinds := [], alts := [], laidByText := true, laidKinds := [.data, .data, .data, .sentinel, .sentinel], laidTests := true, laidLooks := .later }
def PrinterBackUptoCardSaid : Prop := Claim7.holds Tryz.pinned (.plain (OpenSpec.upto printerBackSpec)) printerBackUptoCard

/-- THE SECOND FORM's CARD OF 'lambrequinlaw07.PrinterAgain'. -/
def printerAgainUptoCard : Claim7 := { stood := { row := printerAgainUptoRow, standIns := [], harness := (true, "d09d1d759344e4591bb046b2d3384915dc9c8141eddbcfdac7354809c3974f8f"), looks := true }, kinds := [], alts := [], laidByText := true, laidKinds := [.data, .data, .data, .sentinel, .sentinel], laidTests := true, laidLooks := .later }
def PrinterAgainUptoCardSaid : Prop := Claim7.holds Tryz.pinned (.plain (OpenSpec.upto printerAgainSpec)) printerAgainUptoCard

/-- THE SECOND FORM's CARD OF 'lambrequinlaw07.PrinterLines'. -/
def printerLinesUptoCard : Claim7 := { stood := { row := printerLinesUptoRow, standIns := [], harness := (true, "d09d1d759344e4591bb046b2d3384915dc9c8141eddbcfdac7354809c3974f8f"), looks := true }, kinds := [], alts := [], laidByText := true, laidKinds := [.data, .data, .data, .sentinel, .sentinel], laidTests := true, laidLooks := .later }
def PrinterLinesUptoCardSaid : Prop := Claim7.holds Tryz.pinned (.plain (OpenSpec.upto printerLinesSpec)) printerLinesUptoCard

/-- THE SECOND FORM's CARD OF 'lambrequinlaw07.PrinterPieces'. -/
def printerPiecesUptoCard : Claim7 := { stood := { row := printerPiecesUptoRow, standIns := [], harness := (true, "d09d1d759344e4591bb046b2d3384915dc9c8141eddbcfdac7354809c3974f8f"), looks := true }, kinds := [], alts := [], laidByText := true, laidKinds := [.data, .data, .data, .sentinel, .sentinel], laidTests := true, laidLooks := .later }
def PrinterPiecesUptoCardSaid : Prop := Claim7.holds Tryz.pinned (.plain (OpenSpec.upto printerPiecesSpec)) printerPiecesUptoCard

/-- THE SECOND FORM's CARD OF 'lambrequinlaw07.PrinterAtoms'. -/
def printerAtomsUptoCard : Claim7 := { stood := { row := printerAtomsUptoRow, standIns := [], harness := (true, "d09d1d759344e4591bb046b2d3384915dc9c8141eddbcfdac7354809c3974f8f"), looks := true }, kinds := [], alts := [], laidByText := true, laidKinds := [.data, .data, .data, .sentinel, .sentinel], laidTests := true, laidLooks := .later }
def PrinterAtomsUptoCardSaid : Prop := Claim7.holds Tryz.pinned (.plain (OpenSpec.upto printerAtomsSpec)) printerAtomsUptoCard
end Rows
end Go.Proofs.YtminbdcabacfbaaGreatDoor
