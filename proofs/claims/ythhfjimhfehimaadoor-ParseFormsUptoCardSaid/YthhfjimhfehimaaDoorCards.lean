/-
  DERIVED. GIVEN WITH THE SEED: THE CARDS: each row of YthhfjimhfehimaaDoorRows.lean that lists a variable, with what it lists TIED to the program's text (the seventh form; the later family's looks); each row that meets fmt, with fmt's text TOLD by the authors' own Lean function (tested against real Go, not proved from fmt's source: count such statements apart). THE CARD IS WHAT COUNTS. Prove the row's statement (the work); the ties are given (YthhfjimhfehimaaDoorTie.lean); close each card by the builder's one call (the guide's Derived/Test/ToyasCard.lean, 'card_holds'). Laid BY PROGRAM, IN A SANDBOX (cutbox-door.mjs). By AI agents, Wed Nov 11 2026. No macro, syntax, notation, axiom, sorry.
-/
import Derived.Test.YthhfjimhfehimaaDoorRows
import GoSem.ClaimSeven
namespace Go.Proofs.YthhfjimhfehimaaDoor
namespace Rows

/-- THE TIED CARD OF 'lambrequinlaw06.ParseCuts'. -/
def parseCutsCard : Claim7 := { stood := { row := parseCutsRow, standIns := [], harness := (true, "9fdef035414a00b30401c7303fbd43156ae38b1807c56cb4c157367097125c4c"), looks := true }, kinds := [], alts := [], laidByText := true, laidKinds := [.data, .data, .data, .sentinel, .sentinel], laidTests := true, laidLooks := .later }
def ParseCutsCardSaid : Prop := Claim7.holds Tryd.pinned (.plain (OpenSpec.ofChange parseCutsSpec)) parseCutsCard

/-- THE TIED CARD OF 'lambrequinlaw06.ParseForms'. -/
def parseFormsCard : Claim7 := { stood := { row := parseFormsRow, standIns := [], harness := (true, "9fdef035414a00b30401c7303fbd43156ae38b1807c56cb4c157367097125c4c"), looks := true }, kinds := [], alts := [], laidByText := true, laidKinds := [.data, .data, .data, .sentinel, .sentinel], laidTests := true, laidLooks := .later }
def ParseFormsCardSaid : Prop := Claim7.holds Tryd.pinned (.plain (OpenSpec.ofChange parseFormsSpec)) parseFormsCard

/-- THE TIED CARD OF 'lambrequinlaw06.ParseMost'. -/
def parseMostCard : Claim7 := { stood := { row := parseMostRow, standIns := [], harness := (true, "9fdef035414a00b30401c7303fbd43156ae38b1807c56cb4c157367097125c4c"), looks := true }, kinds := [], alts := [], laidByText := true, laidKinds := [.data, .data, .data, .sentinel, .sentinel], laidTests := true, laidLooks := .later }
def ParseMostCardSaid : Prop := Claim7.holds Tryd.pinned (.plain (OpenSpec.ofChange parseMostSpec)) parseMostCard

/-- THE SECOND FORM's CARD OF 'lambrequinlaw06.ParseCuts'. -/
def parseCutsUptoCard : Claim7 := { stood := { row := parseCutsUptoRow, standIns := [], harness := (true, "9fdef035414a00b30401c7303fbd43156ae38b1807c56cb4c157367097125c4c"), looks := true }, kinds := [], alts := [], laidByText := true, laidKinds := [.data, .data, .data, .sentinel, .sentinel], laidTests := true, laidLooks := .later }
def ParseCutsUptoCardSaid : Prop := Claim7.holds Tryd.pinned (.plain (OpenSpec.upto parseCutsSpec)) parseCutsUptoCard

/-- THE SECOND FORM's CARD OF 'lambrequinlaw06.ParseForms'. -/
def parseFormsUptoCard : Claim7 := { stood := { row := parseFormsUptoRow, standIns := [], harness := (true, "9fdef035414a00b30401c7303fbd43156ae38b1807c56cb4c157367097125c4c"), looks := true }, kinds := [], alts := [], laidByText := true, laidKinds := [.data, .data, .data, .sentinel, .sentinel], laidTests := true, laidLooks := .later }
def ParseFormsUptoCardSaid : Prop := Claim7.holds Tryd.pinned (.plain (OpenSpec.upto parseFormsSpec)) parseFormsUptoCard

/-- THE SECOND FORM's CARD OF 'lambrequinlaw06.ParseMost'. -/
def parseMostUptoCard : Claim7 := { stood := { row := parseMostUptoRow, standIns := [], harness := (true, "9fdef035414a00b30401c7303fbd43156ae38b1807c56cb4c157367097125c4c"), looks := true }, kinds := [], alts := [], laidByText := true, laidKinds := [.data, .data, .data, .sentinel, .sentinel], laidTests := true, laidLooks := .later }
def ParseMostUptoCardSaid : Prop := Claim7.holds Tryd.pinned (.plain (OpenSpec.upto parseMostSpec)) parseMostUptoCard
end Rows
end Go.Proofs.YthhfjimhfehimaaDoor
