/-
  DERIVED. GIVEN WITH THE SEED: THE CARDS: each row of YtdeglnbioiicaaaDoorRows.lean that lists a variable, with what it lists TIED to the program's text (the seventh form; the later family's looks); each row that meets fmt, with fmt's text TOLD by the authors' own Lean function (tested against real Go, not proved from fmt's source: count such statements apart). THE CARD IS WHAT COUNTS. Prove the row's statement (the work); the ties are given (YtdeglnbioiicaaaDoorTie.lean); close each card by the builder's one call (the guide's Derived/Test/ToyasCard.lean, 'card_holds'). Laid BY PROGRAM, IN A SANDBOX (cutbox-door.mjs). By AI agents, Wed Nov 11 2026. No macro, syntax, notation, axiom, sorry.
-/
import Derived.Test.YtdeglnbioiicaaaDoorRows
import GoSem.ClaimSeven
namespace Go.Proofs.YtdeglnbioiicaaaDoor
namespace Rows

/-- THE TIED CARD OF 'chancerylaw1.FlowCheckSays'. -/
def flowCheckSaysCard : Claim7 := { stood := { row := flowCheckSaysRow, standIns := [], harness := (true, "c35ddad10301ad3cc8e10ffbf6c4425180fd70ca3654d2c9456b87d5193d1346"), looks := false }, kinds := [], alts := [], laidByText := true, laidKinds := [.data, .pinned], laidTests := true, laidLooks := .later }
def FlowCheckSaysCardSaid : Prop := Claim7.holds Tryd.pinned (.plain (OpenSpec.ofChange flowCheckSaysSpec)) flowCheckSaysCard

/-- THE TIED CARD OF 'chancerylaw1.FlowTextMatches'. -/
def flowTextMatchesCard : Claim7 := { stood := { row := flowTextMatchesRow, standIns := [], harness := (true, "c35ddad10301ad3cc8e10ffbf6c4425180fd70ca3654d2c9456b87d5193d1346"), looks := false }, kinds := [], alts := [], laidByText := true, laidKinds := [.data, .pinned], laidTests := true, laidLooks := .later }
def FlowTextMatchesCardSaid : Prop := Claim7.holds Tryd.pinned (.plain (OpenSpec.ofChange flowTextMatchesSpec)) flowTextMatchesCard

/-- THE TIED CARD OF 'chancerylaw1.FlowRangesMatch'. -/
def flowRangesMatchCard : Claim7 := { stood := { row := flowRangesMatchRow, standIns := [], harness := (true, "c35ddad10301ad3cc8e10ffbf6c4425180fd70ca3654d2c9456b87d5193d1346"), looks := false }, kinds := [], alts := [], laidByText := true, laidKinds := [.data, .data, .pinned, .pinned, .pinned], laidTests := true, laidLooks := .later }
def FlowRangesMatchCardSaid : Prop := Claim7.holds Tryd.pinned (.plain (OpenSpec.ofChange flowRangesMatchSpec)) flowRangesMatchCard

/-- THE SECOND FORM's CARD OF 'chancerylaw1.FlowCheckSays'. -/
def flowCheckSaysUptoCard : Claim7 := { stood := { row := flowCheckSaysUptoRow, standIns := [], harness := (true, "c35ddad10301ad3cc8e10ffbf6c4425180fd70ca3654d2c9456b87d5193d1346"), looks := false }, kinds := [], alts := [], laidByText := true, laidKinds := [.data, .pinned], laidTests := true, laidLooks := .later }
def FlowCheckSaysUptoCardSaid : Prop := Claim7.holds Tryd.pinned (.plain (OpenSpec.upto flowCheckSaysSpec)) flowCheckSaysUptoCard

/-- THE SECOND FORM's CARD OF 'chancerylaw1.FlowTextMatches'. -/
def flowTextMatchesUptoCard : Claim7 := { stood := { row := flowTextMatchesUptoRow, standIns := [], harness := (true, "c35ddad10301ad3cc8e10ffbf6c4425180fd70ca3654d2c9456b87d5193d1346"), looks := false }, kinds := [], alts := [], laidByText := true, laidKinds := [.data, .pinned], laidTests := true, laidLooks := .later }
def FlowTextMatchesUptoCardSaid : Prop := Claim7.holds Tryd.pinned (.plain (OpenSpec.upto flowTextMatchesSpec)) flowTextMatchesUptoCard

/-- THE SECOND FORM's CARD OF 'chancerylaw1.FlowRangesMatch'. -/
def flowRangesMatchUptoCard : Claim7 := { stood := { row := flowRangesMatchUptoRow, standIns := [], harness := (true, "c35ddad10301ad3cc8e10ffbf6c4425180fd70ca3654d2c9456b87d5193d1346"), looks := false }, kinds := [], alts := [], laidByText := true, laidKinds := [.data, .data, .pinned, .pinned, .pinned], laidTests := true, laidLooks := .later }
def FlowRangesMatchUptoCardSaid : Prop := Claim7.holds Tryd.pinned (.plain (OpenSpec.upto flowRangesMatchSpec)) flowRangesMatchUptoCard
end Rows
end Go.Proofs.YtdeglnbioiicaaaDoor
