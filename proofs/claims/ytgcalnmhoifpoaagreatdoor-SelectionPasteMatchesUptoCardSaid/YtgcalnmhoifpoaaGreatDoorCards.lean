/-
  DERIVED. GIVEN WITH THE SEED: THE CARDS: each row of YtgcalnmhoifpoaaGreatDoorRows.lean that lists a variable, with what it lists TIED to the program's text (the seventh form; the later family's looks); each row that meets fmt, with fmt's text TOLD by the authors' own Lean function (tested against real Go, not proved from fmt's source: count such statements apart). THE CARD IS WHAT COUNTS. Prove the row's statement (the work); the ties are given (YtgcalnmhoifpoaaGreatDoorTie.lean); close each card by the builder's one call (the guide's Derived/Test/ToyasCard.lean, 'card_holds'). Laid BY PROGRAM, IN A SANDBOX (cutbox-door.mjs). By AI agents, Wed Nov 11 2026. No macro, syntax, notation, axiom, sorry.
-/
import Derived.Test.YtgcalnmhoifpoaaGreatDoorRows
import GoSem.ClaimSeven
namespace Go.Proofs.YtgcalnmhoifpoaaGreatDoor
namespace Rows

/-- THE TIED CARD OF 'chancerylaw1.SelectionPasteMatches'. -/
def selectionPasteMatchesCard : Claim7 := { stood := { row := selectionPasteMatchesRow, standIns := [], harness := (true, "7e9f3982c6102a6a3f1c9eae6b8913d0e2c4aef1dd0894b2c1a683301a92b7f2"), looks := true }, kinds := [], alts := [], laidByText := true, laidKinds := [.data, .data, .data, .data, .sentinel, .sentinel, .pinned], laidTests := true, laidLooks := .later }
def SelectionPasteMatchesCardSaid : Prop := Claim7.holds Tryz.pinned (.plain (OpenSpec.ofChange selectionPasteMatchesSpec)) selectionPasteMatchesCard

/-- THE SECOND FORM's CARD OF 'chancerylaw1.SelectionPasteMatches'. -/
def selectionPasteMatchesUptoCard : Claim7 := { stood := { row := selectionPasteMatchesUptoRow, standIns := [], harness := (true, "7e9f3982c6102a6a3f1c9eae6b8913d0e2c4aef1dd0894b2c1a683301a92b7f2"), looks := true }, kinds := [], alts := [], laidByText := true, laidKinds := [.data, .data, .data, .data, .sentinel, .sentinel, .pinned], laidTests := true, laidLooks := .later }
def SelectionPasteMatchesUptoCardSaid : Prop := Claim7.holds Tryz.pinned (.plain (OpenSpec.upto selectionPasteMatchesSpec)) selectionPasteMatchesUptoCard
end Rows
end Go.Proofs.YtgcalnmhoifpoaaGreatDoor
