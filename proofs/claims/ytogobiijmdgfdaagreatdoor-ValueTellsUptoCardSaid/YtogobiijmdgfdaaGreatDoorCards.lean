/-
  DERIVED. GIVEN WITH THE SEED: THE CARDS: each row of YtogobiijmdgfdaaGreatDoorRows.lean that lists a variable, with what it lists TIED to the program's text (the seventh form; the later family's looks); each row that meets fmt, with fmt's text TOLD by the authors' own Lean function (tested against real Go, not proved from fmt's source: count such statements apart). THE CARD IS WHAT COUNTS. Prove the row's statement (the work); the ties are given (YtogobiijmdgfdaaGreatDoorTie.lean); close each card by the builder's one call (the guide's Derived/Test/ToyasCard.lean, 'card_holds'). Laid BY PROGRAM, IN A SANDBOX (cutbox-door.mjs). By AI agents, Wed Nov 11 2026. No macro, syntax, notation, axiom, sorry.
-/
import Derived.Test.YtogobiijmdgfdaaGreatDoorRows
import GoSem.ClaimSeven
namespace Go.Proofs.YtogobiijmdgfdaaGreatDoor
namespace Rows

/-- THE TIED CARD OF 'lambrequinlaw01.ValueOps'. -/
def valueOpsCard : Claim7 := { stood := { row := valueOpsRow, standIns := [], harness := (true, "bb9cbc6c841c990af6d8dd262d1aea81199f6e4eb03b5c3aeb6fe9ea7a5e456e"), looks := true }, kinds := [], alts := [], laidByText := true, laidKinds := [.data, .data, .data], laidTests := true, laidLooks := .later }
def ValueOpsCardSaid : Prop := Claim7.holds Tryz.pinned (.plain (OpenSpec.ofChange valueOpsSpec)) valueOpsCard

/-- THE TIED CARD OF 'lambrequinlaw01.ValueTells'. -/
def valueTellsCard : Claim7 := { stood := { row := valueTellsRow, standIns := [], harness := (true, "bb9cbc6c841c990af6d8dd262d1aea81199f6e4eb03b5c3aeb6fe9ea7a5e456e"), looks := true }, kinds := [], alts := [], laidByText := true, laidKinds := [.data, .data, .data], laidTests := true, laidLooks := .later }
def ValueTellsCardSaid : Prop := Claim7.holds Tryz.pinned (.plain (OpenSpec.ofChange valueTellsSpec)) valueTellsCard

/-- THE SECOND FORM's CARD OF 'lambrequinlaw01.ValueOps'. -/
def valueOpsUptoCard : Claim7 := { stood := { row := valueOpsUptoRow, standIns := [], harness := (true, "bb9cbc6c841c990af6d8dd262d1aea81199f6e4eb03b5c3aeb6fe9ea7a5e456e"), looks := true }, kinds := [], alts := [], laidByText := true, laidKinds := [.data, .data, .data], laidTests := true, laidLooks := .later }
def ValueOpsUptoCardSaid : Prop := Claim7.holds Tryz.pinned (.plain (OpenSpec.upto valueOpsSpec)) valueOpsUptoCard

/-- THE SECOND FORM's CARD OF 'lambrequinlaw01.ValueTells'. -/
def valueTellsUptoCard : Claim7 := { stood := { row := valueTellsUptoRow, standIns := [], harness := (true, "bb9cbc6c841c990af6d8dd262d1aea81199f6e4eb03b5c3aeb6fe9ea7a5e456e"), looks := true }, kinds := [], alts := [], laidByText := true, laidKinds := [.data, .data, .data], laidTests := true, laidLooks := .later }
def ValueTellsUptoCardSaid : Prop := Claim7.holds Tryz.pinned (.plain (OpenSpec.upto valueTellsSpec)) valueTellsUptoCard
end Rows
end Go.Proofs.YtogobiijmdgfdaaGreatDoor
