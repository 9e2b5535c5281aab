/-
  DERIVED. GIVEN WITH THE SEED: THE CARDS: each row of YtioekebmplhlmaaGreatDoorRows.lean that lists a variable, with what it lists TIED to the program's text (the seventh form; the later family's looks); each row that meets fmt, with fmt's text TOLD by the authors' own Lean function (tested against real Go, not proved from fmt's source: count such statements apart). THE CARD IS WHAT COUNTS. Prove the row's statement (the work); the ties are given (YtioekebmplhlmaaGreatDoorTie.lean); close each card by the builder's one call (the guide's Derived/Test/ToyasCard.lean, 'card_holds'). Laid BY PROGRAM, IN A SANDBOX (cutbox-door.mjs). By AI agents, Wed Nov 11 2026. No macro, syntax, notation, axiom, sorry.
-/
import Derived.Test.YtioekebmplhlmaaGreatDoorRows
import GoSem.ClaimSeven
namespace Go.Proofs.YtioekebmplhlmaaGreatDoor
namespace Rows

/-- THE TIED CARD OF 'chancerylaw1.HistoryMatches'. -/
def historyMatchesCard : Claim7 := { stood := { row := historyMatchesRow, standIns := [], harness := (true, "b12a476f2d1d667b3ccbd0395f11d36f10d2acc170a8c1c576bcca16886d6513"), looks := false }, kinds := [], alts := [], laidByText := true, laidKinds := [.data, .pinned], laidTests := true, laidLooks := .later }
def HistoryMatchesCardSaid : Prop := Claim7.holds Tryz.pinned (.plain (OpenSpec.ofChange historyMatchesSpec)) historyMatchesCard

/-- THE SECOND FORM's CARD OF 'chancerylaw1.HistoryMatches'. -/
def historyMatchesUptoCard : Claim7 := { stood := { row := historyMatchesUptoRow, standIns := [], harness := (true, "b12a476f2d1d667b3ccbd0395f11d36f10d2acc170a8c1c576bcca16886d6513"), looks := false }, kinds := [], alts := [], laidByText := true, laidKinds := [.data, .pinned], laidTests := true, laidLooks := .later }
def HistoryMatchesUptoCardSaid : Prop := Claim7.holds Tryz.pinned (.plain (OpenSpec.upto historyMatchesSpec)) historyMatchesUptoCard
end Rows
end Go.Proofs.YtioekebmplhlmaaGreatDoor
