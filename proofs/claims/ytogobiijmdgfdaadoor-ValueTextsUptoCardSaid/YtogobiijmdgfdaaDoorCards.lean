/-
  DERIVED. GIVEN WITH THE SEED: THE CARDS: each row of YtogobiijmdgfdaaDoorRows.lean that lists a variable, with what it lists TIED to the program's text (the seventh form; the later family's looks); each row that meets fmt, with fmt's text TOLD by the authors' own Lean function (tested against real Go, not proved from fmt's source: count such statements apart). THE CARD IS WHAT COUNTS. Prove the row's statement (the work); the ties are given (YtogobiijmdgfdaaDoorTie.lean); close each card by the builder's one call (the guide's Derived/Test/ToyasCard.lean, 'card_holds'). Laid BY PROGRAM, IN A SANDBOX (cutbox-door.mjs). By AI agents, Wed Nov 11 2026. No macro, syntax, notation, axiom, sorry.
-/
import Derived.Test.YtogobiijmdgfdaaDoorRows
import GoSem.ClaimSeven
namespace Go.Proofs.YtogobiijmdgfdaaDoor
namespace Rows

/-- THE TIED CARD OF 'lambrequinlaw01.ValueOrder'. -/
def valueOrderCard : Claim7 := { stood := { row := valueOrderRow, standIns := [], harness := (true, "aaf651fb86c1e72cebb167679e70c3214e442329e3182d8d374d119693a91389"), looks := true }, kinds := [], alts := [], laidByText := true, laidKinds := [.data, .data, .data], laidTests := true, laidLooks := .later }
def ValueOrderCardSaid : Prop := Claim7.holds Tryd.pinned (.plain (OpenSpec.ofChange valueOrderSpec)) valueOrderCard

/-- THE TIED CARD OF 'lambrequinlaw01.ValueMakes'. -/
def valueMakesCard : Claim7 := { stood := { row := valueMakesRow, standIns := [], harness := (true, "aaf651fb86c1e72cebb167679e70c3214e442329e3182d8d374d119693a91389"), looks := true }, kinds := [], alts := [], laidByText := true, laidKinds := [.data, .data, .data], laidTests := true, laidLooks := .later }
def ValueMakesCardSaid : Prop := Claim7.holds Tryd.pinned (.plain (OpenSpec.ofChange valueMakesSpec)) valueMakesCard

/-- THE TIED CARD OF 'lambrequinlaw01.ValueMarks'. -/
def valueMarksCard : Claim7 := { stood := { row := valueMarksRow, standIns := [], harness := (true, "aaf651fb86c1e72cebb167679e70c3214e442329e3182d8d374d119693a91389"), looks := true }, kinds := [], alts := [], laidByText := true, laidKinds := [.data, .data, .data], laidTests := true, laidLooks := .later }
def ValueMarksCardSaid : Prop := Claim7.holds Tryd.pinned (.plain (OpenSpec.ofChange valueMarksSpec)) valueMarksCard

/-- THE TIED CARD OF 'lambrequinlaw01.ValueTexts'. -/
def valueTextsCard : Claim7 := { stood := { row := valueTextsRow, standIns := [], harness := (true, "aaf651fb86c1e72cebb167679e70c3214e442329e3182d8d374d119693a91389"), looks := true }, kinds := [], alts := [], laidByText := true, laidKinds := [.data, .data, .data], laidTests := true, laidLooks := .later }
def ValueTextsCardSaid : Prop := Claim7.holds Tryd.pinned (.plain (OpenSpec.ofChange valueTextsSpec)) valueTextsCard

/-- THE SECOND FORM's CARD OF 'lambrequinlaw01.ValueOrder'. -/
def valueOrderUptoCard : Claim7 := { stood := { row := valueOrderUptoRow, standIns := [], harness := (true, "aaf651fb86c1e72cebb167679e70c3214e442329e3182d8d374d119693a91389"), looks := true }, kinds := [], alts := [], laidByText := true, laidKinds := [.data, .data, .data], laidTests := true, laidLooks := .later }
def ValueOrderUptoCardSaid : Prop := Claim7.holds Tryd.pinned (.plain (OpenSpec.upto valueOrderSpec)) valueOrderUptoCard

/-- THE SECOND FORM's CARD OF 'lambrequinlaw01.ValueMakes'. -/
def valueMakesUptoCard : Claim7 := { stood := { row := valueMakesUptoRow, standIns := [], harness := (true, "aaf651fb86c1e72cebb167679e70c3214e442329e3182d8d374d119693a91389"), looks := true }, kinds := [], alts := [], laidByText := true, laidKinds := [.data, .data, .data], laidTests := true, laidLooks := .later }
def ValueMakesUptoCardSaid : Prop := Claim7.holds Tryd.pinned (.plain (OpenSpec.upto valueMakesSpec)) valueMakesUptoCard

/-- THE SECOND FORM's CARD OF 'lambrequinlaw01.ValueMarks'. -/
def valueMarksUptoCard : Claim7 := { stood := { row := valueMarksUptoRow, standIns := [], harness := (true, "aaf651fb86c1e72cebb167679e70c3214e442329e3182d8d374d119693a91389"), looks := true }, kinds := [], alts := [], laidByText := true, laidKinds := [.data, .data, .data], laidTests := true, laidLooks := .later }
def ValueMarksUptoCardSaid : Prop := Claim7.holds Tryd.pinned (.plain (OpenSpec.upto valueMarksSpec)) valueMarksUptoCard

/-- THE SECOND FORM's CARD OF 'lambrequinlaw01.ValueTexts'. -/
def valueTextsUptoCard : Claim7 := { stood := { row := valueTextsUptoRow, standIns := [], harness := (true, "aaf651fb86c1e72cebb167679e70c3214e442329e3182d8d374d119693a91389"), looks := true }, kinds := [], alts := [], laidByText := true, laidKinds := [.data, .data, .data], laidTests := true, laidLooks := .later }
def ValueTextsUptoCardSaid : Prop := Claim7.holds Tryd.pinned (.plain (OpenSpec.upto valueTextsSpec)) valueTextsUptoCard
end Rows
end Go.Proofs.YtogobiijmdgfdaaDoor
