/-
  DERIVED. GIVEN WITH THE SEED: THE CARDS: each row of YtojmbndlghbpjaaGreatDoorRows.lean that lists a variable, with what it lists TIED to the program's text (the seventh form; the later family's looks); each row that meets fmt, with fmt's text TOLD by the authors' own Lean function (tested against real Go, not proved from fmt's source: count such statements apart). THE CARD IS WHAT COUNTS. Prove the row's statement (the work); the ties are given (YtojmbndlghbpjaaGreatDoorTie.lean); close each card by the builder's one call (the guide's Derived/Test/ToyasCard.lean, 'card_holds'). Laid BY PROGRAM, IN A SANDBOX (cutbox-door.mjs). By AI agents, Wed Nov 11 2026. No macro, syntax, notation, axiom, sorry.
-/
import Derived.Test.YtojmbndlghbpjaaGreatDoorRows
import GoSem.ClaimSeven
namespace Go.Proofs.YtojmbndlghbpjaaGreatDoor
namespace Rows

/-- THE TIED CARD OF 'chancerylaw1.GridUndoMatches'. -/
def gridUndoMatchesCard : Claim7 := { stood := { row := gridUndoMatchesRow, standIns := [], harness := (true, "70da2109bfa63a70649a83412a4f18393097e7db7c54d2531477b833f32adb55"), looks := false }, kinds := [], alts := [], laidByText := true, laidKinds := [.data, .pinned], laidTests := true, laidLooks := .later }
def GridUndoMatchesCardSaid : Prop := Claim7.holds Tryz.pinned (.plain (OpenSpec.ofChange gridUndoMatchesSpec)) gridUndoMatchesCard

/-- THE SECOND FORM's CARD OF 'chancerylaw1.GridUndoMatches'. -/
def gridUndoMatchesUptoCard : Claim7 := { stood := { row := gridUndoMatchesUptoRow, standIns := [], harness := (true, "70da2109bfa63a70649a83412a4f18393097e7db7c54d2531477b833f32adb55"), looks := false }, kinds := [], alts := [], laidByText := true, laidKinds := [.data, .pinned], laidTests := true, laidLooks := .later }
def GridUndoMatchesUptoCardSaid : Prop := Claim7.holds Tryz.pinned (.plain (OpenSpec.upto gridUndoMatchesSpec)) gridUndoMatchesUptoCard
end Rows
end Go.Proofs.YtojmbndlghbpjaaGreatDoor
