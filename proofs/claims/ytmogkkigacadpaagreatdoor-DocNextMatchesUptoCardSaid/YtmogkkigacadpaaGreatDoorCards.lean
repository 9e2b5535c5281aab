/-
  DERIVED. GIVEN WITH THE SEED: THE CARDS: each row of YtmogkkigacadpaaGreatDoorRows.lean that lists a variable, with what it lists TIED to the program's text (the seventh form; the later family's looks); each row that meets fmt, with fmt's text TOLD by the authors' own Lean function (tested against real Go, not proved from fmt's source: count such statements apart). THE CARD IS WHAT COUNTS. Prove the row's statement (the work); the ties are given (YtmogkkigacadpaaGreatDoorTie.lean); close each card by the builder's one call (the guide's Derived/Test/ToyasCard.lean, 'card_holds'). Laid BY PROGRAM, IN A SANDBOX (cutbox-door.mjs). By AI agents, Wed Nov 11 2026. No macro, syntax, notation, axiom, sorry.
-/
import Derived.Test.YtmogkkigacadpaaGreatDoorRows
import GoSem.ClaimSeven
namespace Go.Proofs.YtmogkkigacadpaaGreatDoor
namespace Rows

/-- THE TIED CARD OF 'chancerylaw1.DocTreeMatches'. -/
def docTreeMatchesCard : Claim7 := { stood := { row := docTreeMatchesRow, standIns := [], harness := (true, "a56df1acd278077f23cb1edb7cea3ec2fa018aac9f84e6eb48de2cb4717f3594"), looks := true }, kinds := [], alts := [], laidByText := true, laidKinds := [.data, .data, .data, .data, .sentinel, .sentinel, .pinned], laidTests := true, laidLooks := .later }
def DocTreeMatchesCardSaid : Prop := Claim7.holds Tryz.pinned (.plain (OpenSpec.ofChange docTreeMatchesSpec)) docTreeMatchesCard

/-- THE TIED CARD OF 'chancerylaw1.DocNextMatches'. -/
def docNextMatchesCard : Claim7 := { stood := { row := docNextMatchesRow, standIns := [], harness := (true, "a56df1acd278077f23cb1edb7cea3ec2fa018aac9f84e6eb48de2cb4717f3594"), looks := true }, kinds := [], alts := [], laidByText := true, laidKinds := [.data, .data, .data, .data, .sentinel, .sentinel, .pinned], laidTests := true, laidLooks := .later }
def DocNextMatchesCardSaid : Prop := Claim7.holds Tryz.pinned (.plain (OpenSpec.ofChange docNextMatchesSpec)) docNextMatchesCard

/-- THE SECOND FORM's CARD OF 'chancerylaw1.DocTreeMatches'. -/
def docTreeMatchesUptoCard : Claim7 := { stood := { row := docTreeMatchesUptoRow, standIns := [], harness := (true, "a56df1acd278077f23cb1edb7cea3ec2fa018aac9f84e6eb48de2cb4717f3594"), looks := true }, kinds := [], alts := [], laidByText := true, laidKinds := [.data, .data, .data, .data, .sentinel, .sentinel, .pinned], laidTests := true, laidLooks := .later }
def DocTreeMatchesUptoCardSaid : Prop := Claim7.holds Tryz.pinned (.plain (OpenSpec.upto docTreeMatchesSpec)) docTreeMatchesUptoCard

/-- THE SECOND FORM's CARD OF 'chancerylaw1.DocNextMatches'. -/
def docNextMatchesUptoCard : Claim7 := { stood := { row := docNextMatchesUptoRow, standIns := [], harness := (true, "a56df1acd278077f23cb1edb7cea3ec2fa018aac9f84e6eb48de2cb4717f3594"), looks := true }, kinds := [], alts := [], laidByText := true, laidKinds := [.data, .data, .data, .data, .sentinel, .sentinel, .pinned], laidTests := true, laidLooks := .later }
def DocNextMatchesUptoCardSaid : Prop := Claim7.holds Tryz.pinned (.plain (OpenSpec.upto docNextMatchesSpec)) docNextMatchesUptoCard
end Rows
end Go.Proofs.YtmogkkigacadpaaGreatDoor
