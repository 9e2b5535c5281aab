/-
  DERIVED. GIVEN WITH THE SEED: THE CARDS: each row of YtojmbndlghbpjaaDoorRows.lean that lists a variable, with what it lists TIED to the program's text (the seventh form; the later family's looks); each row that meets fmt, with fmt's text TOLD by the authors' own Lean function (tested against real Go, not proved from fmt's source: count such statements apart). THE CARD IS WHAT COUNTS. Prove the row's statement (the work); the ties are given (YtojmbndlghbpjaaDoorTie.lean); close each card by the builder's one call (the guide's Derived/Test/ToyasCard.lean, 'card_holds'). Laid BY PROGRAM, IN A SANDBOX (cutbox-door.mjs). By AI agents, Wed Nov 11 2026. No macro, syntax, notation, axiom, sorry.
-/
import Derived.Test.YtojmbndlghbpjaaDoorRows
import GoSem.ClaimSeven
namespace Go.Proofs.YtojmbndlghbpjaaDoor
namespace Rows

/-- THE TIED CARD OF 'chancerylaw1.GridApplyMatches'. -/
def gridApplyMatchesCard : Claim7 := { stood := { row := gridApplyMatchesRow, standIns := [], harness := (true, "f570ade4dbf53dbadbf676174be6a98fc53937a4e6d5f53c7f83a5724a88bb4c"), looks := false }, kinds := [], alts := [], laidByText := true, laidKinds := [.data, .pinned], laidTests := true, laidLooks := .later }
def GridApplyMatchesCardSaid : Prop := Claim7.holds Tryd.pinned (.plain (OpenSpec.ofChange gridApplyMatchesSpec)) gridApplyMatchesCard

/-- THE SECOND FORM's CARD OF 'chancerylaw1.GridApplyMatches'. -/
def gridApplyMatchesUptoCard : Claim7 := { stood := { row := gridApplyMatchesUptoRow, standIns := [], harness := (true, "f570ade4dbf53dbadbf676174be6a98fc53937a4e6d5f53c7f83a5724a88bb4c"), looks := false }, kinds := [], alts := [], laidByText := true, laidKinds := [.data, .pinned], laidTests := true, laidLooks := .later }
def GridApplyMatchesUptoCardSaid : Prop := Claim7.holds Tryd.pinned (.plain (OpenSpec.upto gridApplyMatchesSpec)) gridApplyMatchesUptoCard
end Rows
end Go.Proofs.YtojmbndlghbpjaaDoor
