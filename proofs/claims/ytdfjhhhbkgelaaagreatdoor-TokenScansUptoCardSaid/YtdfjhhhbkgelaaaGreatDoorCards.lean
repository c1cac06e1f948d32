/-
  DERIVED. GIVEN WITH THE SEED: THE CARDS: each row of YtdfjhhhbkgelaaaGreatDoorRows.lean that lists a variable, with what it lists TIED to the program's text (the seventh form; the later family's looks); each row that meets fmt, with fmt's text TOLD by the authors' own Lean function (tested against real Go, not proved from fmt's source: count such statements apart). THE CARD IS WHAT COUNTS. Prove the row's statement (the work); the ties are given (YtdfjhhhbkgelaaaGreatDoorTie.lean); close each card by the builder's one call (the guide's Derived/Test/ToyasCard.lean, 'card_holds'). Laid BY PROGRAM, IN A SANDBOX (cutbox-door.mjs). By AI agents, Wed Nov 11 2026. No macro, syntax, notation, axiom, sorry.
-/
import Derived.Test.YtdfjhhhbkgelaaaGreatDoorRows
import GoSem.ClaimSeven
namespace Go.Proofs.YtdfjhhhbkgelaaaGreatDoor
namespace Rows

/-- THE TIED CARD OF 'lambrequinlaw05.TokenScans'. -/
def tokenScansCard : Claim7 := { stood := { row := tokenScansRow, standIns := [], harness := (true, "803b5e337145ce553cb68d13988c6c737822f5af1ed3eeb7589239bd6bc0828e"), looks := true }, kinds := [], alts := [], laidByText := true, laidKinds := [.data, .data, .data, .sentinel, .sentinel], laidTests := true, laidLooks := .later }
def TokenScansCardSaid : Prop := Claim7.holds Tryz.pinned (.plain (OpenSpec.ofChange tokenScansSpec)) tokenScansCard

/-- THE TIED CARD OF 'lambrequinlaw05.TokenTexts'. -/
def tokenTextsCard : Claim7 := { stood := { row := tokenTextsRow, standIns := [], harness := (true, "803b5e337145ce553cb68d13988c6c737822f5af1ed3eeb7589239bd6bc0828e"), looks := true }, kinds := [], alts := [], laidByText := true, laidKinds := [.data, .data, .data, .sentinel, .sentinel], laidTests := true, laidLooks := .later }
def TokenTextsCardSaid : Prop := Claim7.holds Tryz.pinned (.plain (OpenSpec.ofChange tokenTextsSpec)) tokenTextsCard

/-- THE TIED CARD OF 'lambrequinlaw05.TokenBack'. -/
def tokenBackCard : Claim7 := { stood := { row := tokenBackRow, standIns := [], harness := (true, "803b5e337145ce553cb68d13988c6c737822f5af1ed3eeb7589239bd6bc0828e"), looks := true }, kinds := [], alts := [], laidByText := true, laidKinds := [.data, .data, .data, .sentinel, .sentinel], laidTests := true, laidLooks := .later }
def TokenBackCardSaid : Prop := Claim7.holds Tryz.pinned (.plain (OpenSpec.ofChange tokenBackSpec)) tokenBackCard

/-- THE TIED CARD OF 'lambrequinlaw05.TokenJoins'. -/
def tokenJoinsCard : Claim7 := { stood := { row := tokenJoinsRow, standIns := [], harness := (true, "803b5e337145ce553cb68d13988c6c737822f5af1ed3eeb7589239bd6bc0828e"), looks := true }, kinds := [], alts := [], laidByText := true, laidKinds := [.data, .data, .data, .sentinel, .sentinel], laidTests := true, laidLooks := .later }
def TokenJoinsCardSaid : Prop := Claim7.holds Tryz.pinned (.plain (OpenSpec.ofChange tokenJoinsSpec)) tokenJoinsCard

/-- THE TIED CARD OF 'lambrequinlaw05.TokenPlaces'. -/
def tokenPlacesCard : Claim7 := { stood := { row := tokenPlacesRow, standIns := [], harness := (true, "803b5e337145ce553cb68d13988c6c737822f5af1ed3eeb7589239bd6bc0828e"), looks := true }, kinds := [], alts := [], laidByText := true, laidKinds := [.data, .data, .data, .sentinel, .sentinel], laidTests := true, laidLooks := .later }
def TokenPlacesCardSaid : Prop := Claim7.holds Tryz.pinned (.plain (OpenSpec.ofChange tokenPlacesSpec)) tokenPlacesCard

/-- THE TIED CARD OF 'lambrequinlaw05.TokenNames'. -/
def tokenNamesCard : Claim7 := { stood := { row := tokenNamesRow, standIns := [], harness := (true, "803b5e337145ce553cb68d13988c6c737822f5af1ed3eeb7589239bd6bc0828e"), looks := true }, kinds := [], alts := [], laidByText := true, laidKinds := [.data, .data, .data, .sentinel, .sentinel], laidTests := true, laidLooks := .later }
def TokenNamesCardSaid : Prop := Claim7.holds Tryz.pinned (.plain (OpenSpec.ofChange tokenNamesSpec)) tokenNamesCard

/-- THE TIED CARD OF 'lambrequinlaw05.TokenKinds'. -/
def tokenKindsCard : Claim7 := { stood := { row := tokenKindsRow, standIns := [], harness := (true, "803b5e337145ce553cb68d13988c6c737822f5af1ed3eeb7589239bd6bc0828e"), looks := true }, kinds := [], alts := [], laidByText := true, laidKinds := [.data, .data, .data, .sentinel, .sentinel], laidTests := true, laidLooks := .later }
def TokenKindsCardSaid : Prop := Claim7.holds Tryz.pinned (.plain (OpenSpec.ofChange tokenKindsSpec)) tokenKindsCard

/-- THE SECOND FORM's CARD OF 'lambrequinlaw05.TokenScans'. -/
def tokenScansUptoCard : Claim7 := { stood := { row := tokenScansUptoRow, standIns := [], harness := (true, "803b5e337145ce553cb68d13988c6c737822f5af1ed3eeb7589239bd6bc0828e"), looks := true }, kinds := [], alts := [], laidByText := true, laidKinds := [.data, .data, .data, .sentinel, .sentinel], laidTests := true, laidLooks := .later }
def TokenScansUptoCardSaid : Prop := Claim7.holds Tryz.pinned (.plain (OpenSpec.upto tokenScansSpec)) tokenScansUptoCard

/-- THE SECOND FORM's CARD OF 'lambrequinlaw05.TokenTexts'. -/
def tokenTextsUptoCard : Claim7 := { stood := { row := tokenTextsUptoRow, standIns := [], harness := (true, "803b5e337145ce553cb68d13988c6c737822f5af1ed3eeb7589239bd6bc0828e"), looks := true }, kinds := [], alts := [], laidByText := true, laidKinds := [.data, .data, .data, .sentinel, .sentinel], laidTests := true, laidLooks := .later }
def TokenTextsUptoCardSaid : Prop := Claim7.holds Tryz.pinned (.plain (OpenSpec.upto tokenTextsSpec)) tokenTextsUptoCard

/-- THE SECOND FORM's CARD OF 'lambrequinlaw05.TokenBack'. -/
def tokenBackUptoCard : Claim7 := { stood := { row := tokenBackUptoRow, standIns := [], harness := (true, "803b5e337145ce553cb68d13988c6c737822f5af1ed3eeb7589239bd6bc0828e"), looks := true }, kinds := [], alts := [], laidByText := true, laidKinds := [.data, .data, .data, .sentinel, .sentinel], laidTests := true, laidLooks := .later }
def TokenBackUptoCardSaid : Prop := Claim7.holds Tryz.pinned (.plain (OpenSpec.upto tokenBackSpec)) tokenBackUptoCard

/-- THE SECOND FORM's CARD OF 'lambrequinlaw05.TokenJoins'. -/
def tokenJoinsUptoCard : Claim7 := { stood := { row := tokenJoinsUptoRow, standIns := [], harness := (true, "803b5e337145ce553cb68d13988c6c737822f5af1ed3eeb7589239bd6bc0828e"), looks := true }, kinds := [], alts := [], laidByText := true, laidKinds := [.data, .data, .data, .sentinel, .sentinel], laidTests := true, laidLooks := .later }
def TokenJoinsUptoCardSaid : Prop := Claim7.holds Tryz.pinned (.plain (OpenSpec.upto tokenJoinsSpec)) tokenJoinsUptoCard

/-- THE SECOND FORM's CARD OF 'lambrequinlaw05.TokenPlaces'. -/
def tokenPlacesUptoCard : Claim7 := { stood := { row := tokenPlacesUptoRow, standIns := [], harness := (true, "803b5e337145ce553cb68d13988c6c737822f5af1ed3eeb7589239bd6bc0828e"), looks := true }, kinds := [], alts := [], laidByText := true, laidKinds := [.data, .data, .data, .sentinel, .sentinel], laidTests := true, laidLooks := .later }
def TokenPlacesUptoCardSaid : Prop := Claim7.holds Tryz.pinned (.plain (OpenSpec.upto tokenPlacesSpec)) tokenPlacesUptoCard

/-- THE SECOND FORM's CARD OF 'lambrequinlaw05.TokenNames'. -/
def tokenNamesUptoCard : Claim7 := { stood := { row := tokenNamesUptoRow, standIns := [], harness := (true, "803b5e337145ce553cb68d13988c6c737822f5af1ed3eeb7589239bd6bc0828e"), looks := true }, kinds := [], alts := [], laidByText := true, laidKinds := [.data, .data, .data, .sentinel, .sentinel], laidTests := true, laidLooks := .later }
def TokenNamesUptoCardSaid : Prop := Claim7.holds Tryz.pinned (.plain (OpenSpec.upto tokenNamesSpec)) tokenNamesUptoCard

/-- THE SECOND FORM's CARD OF 'lambrequinlaw05.TokenKinds'. -/
def tokenKindsUptoCard : Claim7 := { stood := { row := tokenKindsUptoRow, standIns := [], harness := (true, "803b5e337145ce553cb68d13988c6c737822f5af1ed3eeb7589239bd6bc0828e"), looks := true }, kinds := [], alts := [], laidByText := true, laidKinds := [.data, .data, .data, .sentinel, .sentinel], laidTests := true, laidLooks := .later }
def TokenKindsUptoCardSaid : Prop := Claim7.holds Tryz.pinned (.plain (OpenSpec.upto tokenKindsSpec)) tokenKindsUptoCard
end Rows
end Go.Proofs.YtdfjhhhbkgelaaaGreatDoor
