/-
  DERIVED. GIVEN WITH THE SEED: THE CARDS: each row of YtkefchjpggjibaaGreatDoorRows.lean that lists a variable, with what it lists TIED to the program's text (the seventh form; the later family's looks); each row that meets fmt, with fmt's text TOLD by the authors' own Lean function (tested against real Go, not proved from fmt's source: count such statements apart). THE CARD IS WHAT COUNTS. Prove the row's statement (the work); the ties are given (YtkefchjpggjibaaGreatDoorTie.lean); close each card by the builder's one call (the guide's Derived/Test/ToyasCard.lean, 'card_holds'). Laid BY PROGRAM, IN A SANDBOX (cutbox-door.mjs). By AI agents, Wed Nov 11 2026. No macro, syntax, notation, axiom, sorry.
-/
import Derived.Test.YtkefchjpggjibaaGreatDoorRows
import GoSem.ClaimSeven
namespace Go.Proofs.YtkefchjpggjibaaGreatDoor
namespace Rows

/-- THE TIED CARD OF 'chancerylaw1.RightsLockMatches'. -/
def rightsLockMatchesCard : Claim7 := { stood := { row := rightsLockMatchesRow, standIns := [], harness := (true, "9e9137333761cd5be01dd19a8a7695344fffce36d4761732864fba9af4cb957a"), looks := true }, kinds := [], alts := [], laidByText := true, laidKinds := [.data, .data, .data, .data, .sentinel, .sentinel, .pinned], laidTests := true, laidLooks := .later }
def RightsLockMatchesCardSaid : Prop := Claim7.holds Tryz.pinned (.plain (OpenSpec.ofChange rightsLockMatchesSpec)) rightsLockMatchesCard

/-- THE TIED CARD OF 'chancerylaw1.RemarkPutMatches'. -/
def remarkPutMatchesCard : Claim7 := { stood := { row := remarkPutMatchesRow, standIns := [], harness := (true, "9e9137333761cd5be01dd19a8a7695344fffce36d4761732864fba9af4cb957a"), looks := true }, kinds := [], alts := [], laidByText := true, laidKinds := [.data, .data, .data, .data, .sentinel, .sentinel, .pinned], laidTests := true, laidLooks := .later }
def RemarkPutMatchesCardSaid : Prop := Claim7.holds Tryz.pinned (.plain (OpenSpec.ofChange remarkPutMatchesSpec)) remarkPutMatchesCard

/-- THE SECOND FORM's CARD OF 'chancerylaw1.RightsLockMatches'. -/
def rightsLockMatchesUptoCard : Claim7 := { stood := { row := rightsLockMatchesUptoRow, standIns := [], harness := (true, "9e9137333761cd5be01dd19a8a7695344fffce36d4761732864fba9af4cb957a"), looks := true }, kinds := [], alts := [], laidByText := true, laidKinds := [.data, .data, .data, .data, .sentinel, .sentinel, .pinned], laidTests := true, laidLooks := .later }
def RightsLockMatchesUptoCardSaid : Prop := Claim7.holds Tryz.pinned (.plain (OpenSpec.upto rightsLockMatchesSpec)) rightsLockMatchesUptoCard

/-- THE SECOND FORM's CARD OF 'chancerylaw1.RemarkPutMatches'. -/
def remarkPutMatchesUptoCard : Claim7 := { stood := { row := remarkPutMatchesUptoRow, standIns := [], harness := (true, "9e9137333761cd5be01dd19a8a7695344fffce36d4761732864fba9af4cb957a"), looks := true }, kinds := [], alts := [], laidByText := true, laidKinds := [.data, .data, .data, .data, .sentinel, .sentinel, .pinned], laidTests := true, laidLooks := .later }
def RemarkPutMatchesUptoCardSaid : Prop := Claim7.holds Tryz.pinned (.plain (OpenSpec.upto remarkPutMatchesSpec)) remarkPutMatchesUptoCard
end Rows
end Go.Proofs.YtkefchjpggjibaaGreatDoor
