/-
  DERIVED. GIVEN WITH THE SEED: THE CARDS: each row of YtifgmfoihehlbaaGreatDoorRows.lean that lists a variable, with what it lists TIED to the program's text (the seventh form; the later family's looks); each row that meets fmt, with fmt's text TOLD by the authors' own Lean function (tested against real Go, not proved from fmt's source: count such statements apart). THE CARD IS WHAT COUNTS. Prove the row's statement (the work); the ties are given (YtifgmfoihehlbaaGreatDoorTie.lean); close each card by the builder's one call (the guide's Derived/Test/ToyasCard.lean, 'card_holds'). Laid BY PROGRAM, IN A SANDBOX (cutbox-door.mjs). By AI agents, Wed Nov 11 2026. No macro, syntax, notation, axiom, sorry.
-/
import Derived.Test.YtifgmfoihehlbaaGreatDoorRows
import GoSem.ClaimSeven
namespace Go.Proofs.YtifgmfoihehlbaaGreatDoor
namespace Rows

/-- THE TIED CARD OF 'chancerylaw1.NotesMatch'. -/
def notesMatchCard : Claim7 := { stood := { row := notesMatchRow, standIns := [], harness := (true, "37a648b8da8c9a7aae9b3ea0e8532fc7c13385c954aa58face108038248ecbc4"), looks := true }, kinds := [], alts := [], laidByText := true, laidKinds := [.data, .data, .data, .data, .sentinel, .sentinel, .pinned], laidTests := true, laidLooks := .later }
def NotesMatchCardSaid : Prop := Claim7.holds Tryz.pinned (.plain (OpenSpec.ofChange notesMatchSpec)) notesMatchCard

/-- THE TIED CARD OF 'chancerylaw1.StyleResolveMatches'. -/
def styleResolveMatchesCard : Claim7 := { stood := { row := styleResolveMatchesRow, standIns := [], harness := (true, "37a648b8da8c9a7aae9b3ea0e8532fc7c13385c954aa58face108038248ecbc4"), looks := true }, kinds := [], alts := [], laidByText := true, laidKinds := [.data, .data, .data, .data, .sentinel, .sentinel, .pinned], laidTests := true, laidLooks := .later }
def StyleResolveMatchesCardSaid : Prop := Claim7.holds Tryz.pinned (.plain (OpenSpec.ofChange styleResolveMatchesSpec)) styleResolveMatchesCard

/-- THE SECOND FORM's CARD OF 'chancerylaw1.NotesMatch'. -/
def notesMatchUptoCard : Claim7 := { stood := { row := notesMatchUptoRow, standIns := [], harness := (true, "37a648b8da8c9a7aae9b3ea0e8532fc7c13385c954aa58face108038248ecbc4"), looks := true }, kinds := [], alts := [], laidByText := true, laidKinds := [.data, .data, .data, .data, .sentinel, .sentinel, .pinned], laidTests := true, laidLooks := .later }
def NotesMatchUptoCardSaid : Prop := Claim7.holds Tryz.pinned (.plain (OpenSpec.upto notesMatchSpec)) notesMatchUptoCard

/-- THE SECOND FORM's CARD OF 'chancerylaw1.StyleResolveMatches'. -/
def styleResolveMatchesUptoCard : Claim7 := { stood := { row := styleResolveMatchesUptoRow, standIns := [], harness := (true, "37a648b8da8c9a7aae9b3ea0e8532fc7c13385c954aa58face108038248ecbc4"), looks := true }, kinds := [], alts := [], laidByText := true, laidKinds := [.data, .data, .data, .data, .sentinel, .sentinel, .pinned], laidTests := true, laidLooks := .later }
def StyleResolveMatchesUptoCardSaid : Prop := Claim7.holds Tryz.pinned (.plain (OpenSpec.upto styleResolveMatchesSpec)) styleResolveMatchesUptoCard
end Rows
end Go.Proofs.YtifgmfoihehlbaaGreatDoor
