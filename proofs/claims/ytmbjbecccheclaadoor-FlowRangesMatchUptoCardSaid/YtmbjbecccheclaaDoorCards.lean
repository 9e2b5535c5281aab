/-
  DERIVED. GIVEN WITH THE SEED: THE CARDS: each row of YtmbjbecccheclaaDoorRows.lean that lists a variable, with what it lists TIED to the program's text (the seventh form; the later family's looks); each row that meets fmt, with fmt's text TOLD by the authors' own Lean function (tested against real Go, not proved from fmt's source: count such statements apart). THE CARD IS WHAT COUNTS. Prove the row's statement (the work); the ties are given (YtmbjbecccheclaaDoorTie.lean); close each card by the builder's one call (the guide's Derived/Test/ToyasCard.lean, 'card_holds'). Laid BY PROGRAM, IN A SANDBOX (cutbox-door.mjs). By AI agents, Wed Nov 11 2026. No macro, syntax, notation, axiom, sorry.
-/
import Derived.Test.YtmbjbecccheclaaDoorRows
import GoSem.ClaimSeven
namespace Go.Proofs.YtmbjbecccheclaaDoor
namespace Rows

/-- THE TIED CARD OF 'chancerylaw1.FlowRangesMatch'. -/
def flowRangesMatchCard : Claim7 := { stood := { row := flowRangesMatchRow, standIns := [], harness := (true, "b7933aa557a1e3d3f49ae50643ebbad0b11ce096e9cd3cdd4c0944e152dff003"), looks := false }, kinds := [], alts := [], laidByText := true, laidKinds := [.data, .data, .pinned, .pinned, .pinned], laidTests := true, laidLooks := .later }
def FlowRangesMatchCardSaid : Prop := Claim7.holds Tryd.pinned (.plain (OpenSpec.ofChange flowRangesMatchSpec)) flowRangesMatchCard

/-- THE SECOND FORM's CARD OF 'chancerylaw1.FlowRangesMatch'. -/
def flowRangesMatchUptoCard : Claim7 := { stood := { row := flowRangesMatchUptoRow, standIns := [], harness := (true, "b7933aa557a1e3d3f49ae50643ebbad0b11ce096e9cd3cdd4c0944e152dff003"), looks := false }, kinds := [], alts := [], laidByText := true, laidKinds := [.data, .data, .pinned, .pinned, .pinned], laidTests := true, laidLooks := .later }
def FlowRangesMatchUptoCardSaid : Prop := Claim7.holds Tryd.pinned (.plain (OpenSpec.upto flowRangesMatchSpec)) flowRangesMatchUptoCard
end Rows
end Go.Proofs.YtmbjbecccheclaaDoor
