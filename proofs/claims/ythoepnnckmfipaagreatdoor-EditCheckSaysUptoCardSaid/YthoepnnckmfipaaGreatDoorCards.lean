/-
  DERIVED. GIVEN WITH THE SEED: THE CARDS: each row of YthoepnnckmfipaaGreatDoorRows.lean that lists a variable, with what it lists TIED to the program's text (the seventh form; the later family's looks); each row that meets fmt, with fmt's text TOLD by the authors' own Lean function (tested against real Go, not proved from fmt's source: count such statements apart). THE CARD IS WHAT COUNTS. Prove the row's statement (the work); the ties are given (YthoepnnckmfipaaGreatDoorTie.lean); close each card by the builder's one call (the guide's Derived/Test/ToyasCard.lean, 'card_holds'). Laid BY PROGRAM, IN A SANDBOX (cutbox-door.mjs). By AI agents, Wed Nov 11 2026. No macro, syntax, notation, axiom, sorry.
-/
import Derived.Test.YthoepnnckmfipaaGreatDoorRows
import GoSem.ClaimSeven
namespace Go.Proofs.YthoepnnckmfipaaGreatDoor
namespace Rows

/-- THE TIED CARD OF 'chancerylaw1.EditCheckSays'. -/
def editCheckSaysCard : Claim7 := { stood := { row := editCheckSaysRow, standIns := [], harness := (true, "d11aabb827d5688bf3ba54378daec062293b49f21ecf9f22ef4dbdb07b342ef3"), looks := true }, kinds := [], alts := [], laidByText := true, laidKinds := [.data, .data, .data, .data, .sentinel, .sentinel, .pinned], laidTests := true, laidLooks := .later }
def EditCheckSaysCardSaid : Prop := Claim7.holds Tryz.pinned (.plain (OpenSpec.ofChange editCheckSaysSpec)) editCheckSaysCard

/-- THE TIED CARD OF 'chancerylaw1.SelectionTypeMatches'. -/
def selectionTypeMatchesCard : Claim7 := { stood := { row := selectionTypeMatchesRow, standIns := [], harness := (true, "d11aabb827d5688bf3ba54378daec062293b49f21ecf9f22ef4dbdb07b342ef3"), looks := true }, kinds := [], alts := [], laidByText := true, laidKinds := [.data, .data, .data, .data, .sentinel, .sentinel, .pinned], laidTests := true, laidLooks := .later }
def SelectionTypeMatchesCardSaid : Prop := Claim7.holds Tryz.pinned (.plain (OpenSpec.ofChange selectionTypeMatchesSpec)) selectionTypeMatchesCard

/-- THE TIED CARD OF 'chancerylaw1.SelectionPasteMatches'. -/
def selectionPasteMatchesCard : Claim7 := { stood := { row := selectionPasteMatchesRow, standIns := [], harness := (true, "d11aabb827d5688bf3ba54378daec062293b49f21ecf9f22ef4dbdb07b342ef3"), looks := true }, kinds := [], alts := [], laidByText := true, laidKinds := [.data, .data, .data, .data, .sentinel, .sentinel, .pinned], laidTests := true, laidLooks := .later }
def SelectionPasteMatchesCardSaid : Prop := Claim7.holds Tryz.pinned (.plain (OpenSpec.ofChange selectionPasteMatchesSpec)) selectionPasteMatchesCard

/-- THE TIED CARD OF 'chancerylaw1.SelectionFormatMatches'. -/
def selectionFormatMatchesCard : Claim7 := { stood := { row := selectionFormatMatchesRow, standIns := [], harness := (true, "d11aabb827d5688bf3ba54378daec062293b49f21ecf9f22ef4dbdb07b342ef3"), looks := true }, kinds := [], alts := [], laidByText := true, laidKinds := [.data, .data, .data, .data, .sentinel, .sentinel, .pinned], laidTests := true, laidLooks := .later }
def SelectionFormatMatchesCardSaid : Prop := Claim7.holds Tryz.pinned (.plain (OpenSpec.ofChange selectionFormatMatchesSpec)) selectionFormatMatchesCard

/-- THE SECOND FORM's CARD OF 'chancerylaw1.EditCheckSays'. -/
def editCheckSaysUptoCard : Claim7 := { stood := { row := editCheckSaysUptoRow, standIns := [], harness := (true, "d11aabb827d5688bf3ba54378daec062293b49f21ecf9f22ef4dbdb07b342ef3"), looks := true }, kinds := [], alts := [], laidByText := true, laidKinds := [.data, .data, .data, .data, .sentinel, .sentinel, .pinned], laidTests := true, laidLooks := .later }
def EditCheckSaysUptoCardSaid : Prop := Claim7.holds Tryz.pinned (.plain (OpenSpec.upto editCheckSaysSpec)) editCheckSaysUptoCard

/-- THE SECOND FORM's CARD OF 'chancerylaw1.SelectionTypeMatches'. -/
def selectionTypeMatchesUptoCard : Claim7 := { stood := { row := selectionTypeMatchesUptoRow, standIns := [], harness := (true, "d11aabb827d5688bf3ba54378daec062293b49f21ecf9f22ef4dbdb07b342ef3"), looks := true }, kinds := [], alts := [], laidByText := true, laidKinds := [.data, .data, .data, .data, .sentinel, .sentinel, .pinned], laidTests := true, laidLooks := .later }
def SelectionTypeMatchesUptoCardSaid : Prop := Claim7.holds Tryz.pinned (.plain (OpenSpec.upto selectionTypeMatchesSpec)) selectionTypeMatchesUptoCard

/-- THE SECOND FORM's CARD OF 'chancerylaw1.SelectionPasteMatches'. -/
def selectionPasteMatchesUptoCard : Claim7 := { stood := { row := selectionPasteMatchesUptoRow, standIns := [], harness := (true, "d11aabb827d5688bf3ba54378daec062293b49f21ecf9f22ef4dbdb07b342ef3"), looks := true }, kinds := [], alts := [], laidByText := true, laidKinds := [.data, .data, .data, .data, .sentinel, .sentinel, .pinned], laidTests := true, laidLooks := .later }
def SelectionPasteMatchesUptoCardSaid : Prop := Claim7.holds Tryz.pinned (.plain (OpenSpec.upto selectionPasteMatchesSpec)) selectionPasteMatchesUptoCard

/-- THE SECOND FORM's CARD OF 'chancerylaw1.SelectionFormatMatches'. -/
def selectionFormatMatchesUptoCard : Claim7 := { stood := { row := selectionFormatMatchesUptoRow, standIns := [], harness := (true, "d11aabb827d5688bf3ba54378daec062293b49f21ecf9f22ef4dbdb07b342ef3"), looks := true }, kinds := [], alts := [], laidByText := true, laidKinds := [.data, .data, .data, .data, .sentinel, .sentinel, .pinned], laidTests := true, laidLooks := .later }
def SelectionFormatMatchesUptoCardSaid : Prop := Claim7.holds Tryz.pinned (.plain (OpenSpec.upto selectionFormatMatchesSpec)) selectionFormatMatchesUptoCard
end Rows
end Go.Proofs.YthoepnnckmfipaaGreatDoor
