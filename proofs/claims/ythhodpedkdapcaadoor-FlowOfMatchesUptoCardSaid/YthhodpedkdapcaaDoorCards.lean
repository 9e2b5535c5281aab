/-
  DERIVED. GIVEN WITH THE SEED: THE CARDS: each row of YthhodpedkdapcaaDoorRows.lean that lists a variable, with what it lists TIED to the program's text (the seventh form; the later family's looks); each row that meets fmt, with fmt's text TOLD by the authors' own Lean function (tested against real Go, not proved from fmt's source: count such statements apart). THE CARD IS WHAT COUNTS. Prove the row's statement (the work); the ties are given (YthhodpedkdapcaaDoorTie.lean); close each card by the builder's one call (the guide's Derived/Test/ToyasCard.lean, 'card_holds'). Laid BY PROGRAM, IN A SANDBOX (cutbox-door.mjs). By AI agents, Wed Nov 11 2026. No macro, syntax, notation, axiom, sorry.
-/
import Derived.Test.YthhodpedkdapcaaDoorRows
import GoSem.ClaimSeven
namespace Go.Proofs.YthhodpedkdapcaaDoor
namespace Rows

/-- THE TIED CARD OF 'chancerylaw1.FlowOfMatches'. -/
def flowOfMatchesCard : Claim7 := { stood := { row := flowOfMatchesRow, standIns := [], harness := (true, "96a0a825051b36f92f53d76c28cd7c4da6f15c27e7f9bc361f76f6cbdef833ec"), looks := false }, kinds := [], alts := [], laidByText := true, laidKinds := [.data, .pinned], laidTests := true, laidLooks := .later }
def FlowOfMatchesCardSaid : Prop := Claim7.holds Tryd.pinned (.plain (OpenSpec.ofChange flowOfMatchesSpec)) flowOfMatchesCard

/-- THE SECOND FORM's CARD OF 'chancerylaw1.FlowOfMatches'. -/
def flowOfMatchesUptoCard : Claim7 := { stood := { row := flowOfMatchesUptoRow, standIns := [], harness := (true, "96a0a825051b36f92f53d76c28cd7c4da6f15c27e7f9bc361f76f6cbdef833ec"), looks := false }, kinds := [], alts := [], laidByText := true, laidKinds := [.data, .pinned], laidTests := true, laidLooks := .later }
def FlowOfMatchesUptoCardSaid : Prop := Claim7.holds Tryd.pinned (.plain (OpenSpec.upto flowOfMatchesSpec)) flowOfMatchesUptoCard
end Rows
end Go.Proofs.YthhodpedkdapcaaDoor
