/-
  DERIVED. GIVEN WITH THE SEED: THE CARDS: each row of YtmeadkhpiobenaaGreatDoorRows.lean that lists a variable, with what it lists TIED to the program's text (the seventh form; the later family's looks); each row that meets fmt, with fmt's text TOLD by the authors' own Lean function (tested against real Go, not proved from fmt's source: count such statements apart). THE CARD IS WHAT COUNTS. Prove the row's statement (the work); the ties are given (YtmeadkhpiobenaaGreatDoorTie.lean); close each card by the builder's one call (the guide's Derived/Test/ToyasCard.lean, 'card_holds'). Laid BY PROGRAM, IN A SANDBOX (cutbox-door.mjs). By AI agents, Wed Nov 11 2026. No macro, syntax, notation, axiom, sorry.
-/
import Derived.Test.YtmeadkhpiobenaaGreatDoorRows
import GoSem.ClaimSeven
namespace Go.Proofs.YtmeadkhpiobenaaGreatDoor
namespace Rows

/-- THE TIED CARD OF 'chancerylaw1.EditNameMatches'. -/
def editNameMatchesCard : Claim7 := { stood := { row := editNameMatchesRow, standIns := [], harness := (true, "0b3ce5fdc8788b29fa70a9eaf3d83a8fefe7987a3dc7a57256b174bac2b200d4"), looks := true }, kinds := [], alts := [], laidByText := true, laidKinds := [.data, .data, .data, .data, .sentinel, .sentinel, .pinned], laidTests := true, laidLooks := .later }
def EditNameMatchesCardSaid : Prop := Claim7.holds Tryz.pinned (.plain (OpenSpec.ofChange editNameMatchesSpec)) editNameMatchesCard

/-- THE TIED CARD OF 'chancerylaw1.RightsMaySays'. -/
def rightsMaySaysCard : Claim7 := { stood := { row := rightsMaySaysRow, standIns := [], harness := (true, "0b3ce5fdc8788b29fa70a9eaf3d83a8fefe7987a3dc7a57256b174bac2b200d4"), looks := true }, kinds := [], alts := [], laidByText := true, laidKinds := [.data, .data, .data, .data, .sentinel, .sentinel, .pinned], laidTests := true, laidLooks := .later }
def RightsMaySaysCardSaid : Prop := Claim7.holds Tryz.pinned (.plain (OpenSpec.ofChange rightsMaySaysSpec)) rightsMaySaysCard

/-- THE TIED CARD OF 'chancerylaw1.RemarkThreadsMatch'. -/
def remarkThreadsMatchCard : Claim7 := { stood := { row := remarkThreadsMatchRow, standIns := [], harness := (true, "0b3ce5fdc8788b29fa70a9eaf3d83a8fefe7987a3dc7a57256b174bac2b200d4"), looks := true }, kinds := [], alts := [], laidByText := true, laidKinds := [.data, .data, .data, .data, .sentinel, .sentinel, .pinned], laidTests := true, laidLooks := .later }
def RemarkThreadsMatchCardSaid : Prop := Claim7.holds Tryz.pinned (.plain (OpenSpec.ofChange remarkThreadsMatchSpec)) remarkThreadsMatchCard

/-- THE SECOND FORM's CARD OF 'chancerylaw1.EditNameMatches'. -/
def editNameMatchesUptoCard : Claim7 := { stood := { row := editNameMatchesUptoRow, standIns := [], harness := (true, "0b3ce5fdc8788b29fa70a9eaf3d83a8fefe7987a3dc7a57256b174bac2b200d4"), looks := true }, kinds := [], alts := [], laidByText := true, laidKinds := [.data, .data, .data, .data, .sentinel, .sentinel, .pinned], laidTests := true, laidLooks := .later }
def EditNameMatchesUptoCardSaid : Prop := Claim7.holds Tryz.pinned (.plain (OpenSpec.upto editNameMatchesSpec)) editNameMatchesUptoCard

/-- THE SECOND FORM's CARD OF 'chancerylaw1.RightsMaySays'. -/
def rightsMaySaysUptoCard : Claim7 := { stood := { row := rightsMaySaysUptoRow, standIns := [], harness := (true, "0b3ce5fdc8788b29fa70a9eaf3d83a8fefe7987a3dc7a57256b174bac2b200d4"), looks := true }, kinds := [], alts := [], laidByText := true, laidKinds := [.data, .data, .data, .data, .sentinel, .sentinel, .pinned], laidTests := true, laidLooks := .later }
def RightsMaySaysUptoCardSaid : Prop := Claim7.holds Tryz.pinned (.plain (OpenSpec.upto rightsMaySaysSpec)) rightsMaySaysUptoCard

/-- THE SECOND FORM's CARD OF 'chancerylaw1.RemarkThreadsMatch'. -/
def remarkThreadsMatchUptoCard : Claim7 := { stood := { row := remarkThreadsMatchUptoRow, standIns := [], harness := (true, "0b3ce5fdc8788b29fa70a9eaf3d83a8fefe7987a3dc7a57256b174bac2b200d4"), looks := true }, kinds := [], alts := [], laidByText := true, laidKinds := [.data, .data, .data, .data, .sentinel, .sentinel, .pinned], laidTests := true, laidLooks := .later }
def RemarkThreadsMatchUptoCardSaid : Prop := Claim7.holds Tryz.pinned (.plain (OpenSpec.upto remarkThreadsMatchSpec)) remarkThreadsMatchUptoCard
end Rows
end Go.Proofs.YtmeadkhpiobenaaGreatDoor
