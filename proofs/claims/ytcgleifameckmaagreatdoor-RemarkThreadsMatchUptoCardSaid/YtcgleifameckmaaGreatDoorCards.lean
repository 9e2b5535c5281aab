/-
  DERIVED. GIVEN WITH THE SEED: THE CARDS: each row of YtcgleifameckmaaGreatDoorRows.lean that lists a variable, with what it lists TIED to the program's text (the seventh form; the later family's looks); each row that meets fmt, with fmt's text TOLD by the authors' own Lean function (tested against real Go, not proved from fmt's source: count such statements apart). THE CARD IS WHAT COUNTS. Prove the row's statement (the work); the ties are given (YtcgleifameckmaaGreatDoorTie.lean); close each card by the builder's one call (the guide's Derived/Test/ToyasCard.lean, 'card_holds'). Laid BY PROGRAM, IN A SANDBOX (cutbox-door.mjs). By AI agents, Wed Nov 11 2026. No macro, syntax, notation, axiom, sorry.
-/
import Derived.Test.YtcgleifameckmaaGreatDoorRows
import GoSem.ClaimSeven
namespace Go.Proofs.YtcgleifameckmaaGreatDoor
namespace Rows

/-- THE TIED CARD OF 'chancerylaw1.RemarkThreadsMatch'. -/
def remarkThreadsMatchCard : Claim7 := { stood := { row := remarkThreadsMatchRow, standIns := [], harness := (true, "1a671698b8bfe132109f2ddc78c0aa2815dcc7c31a18d63ec305e9f1dcc2ee36"), looks := true }, kinds := [], alts := [], laidByText := true, laidKinds := [.data, .data, .data, .data, .sentinel, .sentinel, .pinned], laidTests := true, laidLooks := .later }
def RemarkThreadsMatchCardSaid : Prop := Claim7.holds Tryz.pinned (.plain (OpenSpec.ofChange remarkThreadsMatchSpec)) remarkThreadsMatchCard

/-- THE SECOND FORM's CARD OF 'chancerylaw1.RemarkThreadsMatch'. -/
def remarkThreadsMatchUptoCard : Claim7 := { stood := { row := remarkThreadsMatchUptoRow, standIns := [], harness := (true, "1a671698b8bfe132109f2ddc78c0aa2815dcc7c31a18d63ec305e9f1dcc2ee36"), looks := true }, kinds := [], alts := [], laidByText := true, laidKinds := [.data, .data, .data, .data, .sentinel, .sentinel, .pinned], laidTests := true, laidLooks := .later }
def RemarkThreadsMatchUptoCardSaid : Prop := Claim7.holds Tryz.pinned (.plain (OpenSpec.upto remarkThreadsMatchSpec)) remarkThreadsMatchUptoCard
end Rows
end Go.Proofs.YtcgleifameckmaaGreatDoor
