/-
  DERIVED. GIVEN WITH THE SEED: THE CARDS: each row of YtdafahjmopdleaaGreatDoorRows.lean that lists a variable, with what it lists TIED to the program's text (the seventh form; the later family's looks); each row that meets fmt, with fmt's text TOLD by the authors' own Lean function (tested against real Go, not proved from fmt's source: count such statements apart). THE CARD IS WHAT COUNTS. Prove the row's statement (the work); the ties are given (YtdafahjmopdleaaGreatDoorTie.lean); close each card by the builder's one call (the guide's Derived/Test/ToyasCard.lean, 'card_holds'). Laid BY PROGRAM, IN A SANDBOX (cutbox-door.mjs). By AI agents, Wed Nov 11 2026. No macro, syntax, notation, axiom, sorry.
-/
import Derived.Test.YtdafahjmopdleaaGreatDoorRows
import GoSem.ClaimSeven
namespace Go.Proofs.YtdafahjmopdleaaGreatDoor
namespace Rows

/-- THE TIED CARD OF 'chancerylaw1.SelectionTypeMatches'. -/
def selectionTypeMatchesCard : Claim7 := { stood := { row := selectionTypeMatchesRow, standIns := [], harness := (true, "c3d039086c2aa2870e510ba1debf1708e856177fbf011f88ab4a3c25d4d693cb"), looks := true }, kinds := [], alts := [], laidByText := true, laidKinds := [.data, .data, .data, .data, .sentinel, .sentinel, .pinned], laidTests := true, laidLooks := .later }
def SelectionTypeMatchesCardSaid : Prop := Claim7.holds Tryz.pinned (.plain (OpenSpec.ofChange selectionTypeMatchesSpec)) selectionTypeMatchesCard

/-- THE TIED CARD OF 'chancerylaw1.SelectionPasteMatches'. -/
def selectionPasteMatchesCard : Claim7 := { stood := { row := selectionPasteMatchesRow, standIns := [], harness := (true, "c3d039086c2aa2870e510ba1debf1708e856177fbf011f88ab4a3c25d4d693cb"), looks := true }, kinds := [], alts := [], laidByText := true, laidKinds := [.data, .data, .data, .data, .sentinel, .sentinel, .pinned], laidTests := true, laidLooks := .later }
def SelectionPasteMatchesCardSaid : Prop := Claim7.holds Tryz.pinned (.plain (OpenSpec.ofChange selectionPasteMatchesSpec)) selectionPasteMatchesCard

/-- THE TIED CARD OF 'chancerylaw1.SelectionFormatMatches'. -/
def selectionFormatMatchesCard : Claim7 := { stood := { row := selectionFormatMatchesRow, standIns := [], harness := (true, "c3d039086c2aa2870e510ba1debf1708e856177fbf011f88ab4a3c25d4d693cb"), looks := true }, kinds := [], alts := [], laidByText := true, laidKinds := [.data, .data, .data, .data, .sentinel, .sentinel, .pinned], laidTests := true, laidLooks := .later }
def SelectionFormatMatchesCardSaid : Prop := Claim7.holds Tryz.pinned (.plain (OpenSpec.ofChange selectionFormatMatchesSpec)) selectionFormatMatchesCard

/-- THE TIED CARD OF 'chancerylaw1.SelectionObjectsMatch'. -/
def selectionObjectsMatchCard : Claim7 := { stood := { row := selectionObjectsMatchRow, standIns := [], harness := (true, "c3d039086c2aa2870e510ba1debf1708e856177fbf011f88ab4a3c25d4d693cb"), looks := true }, kinds := [], alts := [], laidByText := true, laidKinds := [.data, .data, .data, .data, .sentinel, .sentinel, .pinned], laidTests := true, laidLooks := .later }
def SelectionObjectsMatchCardSaid : Prop := Claim7.holds Tryz.pinned (.plain (OpenSpec.ofChange selectionObjectsMatchSpec)) selectionObjectsMatchCard

/-- THE TIED CARD OF 'chancerylaw1.SelectionRowsMatch'. -/
def selectionRowsMatchCard : Claim7 := { stood := { row := selectionRowsMatchRow, standIns := [], harness := (true, "c3d039086c2aa2870e510ba1debf1708e856177fbf011f88ab4a3c25d4d693cb"), looks := true }, kinds := [], alts := [], laidByText := true, laidKinds := [.data, .data, .data, .data, .sentinel, .sentinel, .pinned], laidTests := true, laidLooks := .later }
def SelectionRowsMatchCardSaid : Prop := Claim7.holds Tryz.pinned (.plain (OpenSpec.ofChange selectionRowsMatchSpec)) selectionRowsMatchCard

/-- THE SECOND FORM's CARD OF 'chancerylaw1.SelectionTypeMatches'. -/
def selectionTypeMatchesUptoCard : Claim7 := { stood := { row := selectionTypeMatchesUptoRow, standIns := [], harness := (true, "c3d039086c2aa2870e510ba1debf1708e856177fbf011f88ab4a3c25d4d693cb"), looks := true }, kinds := [], alts := [], laidByText := true, laidKinds := [.data, .data, .data, .data, .sentinel, .sentinel, .pinned], laidTests := true, laidLooks := .later }
def SelectionTypeMatchesUptoCardSaid : Prop := Claim7.holds Tryz.pinned (.plain (OpenSpec.upto selectionTypeMatchesSpec)) selectionTypeMatchesUptoCard

/-- THE SECOND FORM's CARD OF 'chancerylaw1.SelectionPasteMatches'. -/
def selectionPasteMatchesUptoCard : Claim7 := { stood := { row := selectionPasteMatchesUptoRow, standIns := [], harness := (true, "c3d039086c2aa2870e510ba1debf1708e856177fbf011f88ab4a3c25d4d693cb"), looks := true }, kinds := [], alts := [], laidByText := true, laidKinds := [.data, .data, .data, .data, .sentinel, .sentinel, .pinned], laidTests := true, laidLooks := .later }
def SelectionPasteMatchesUptoCardSaid : Prop := Claim7.holds Tryz.pinned (.plain (OpenSpec.upto selectionPasteMatchesSpec)) selectionPasteMatchesUptoCard

/-- THE SECOND FORM's CARD OF 'chancerylaw1.SelectionFormatMatches'. -/
def selectionFormatMatchesUptoCard : Claim7 := { stood := { row := selectionFormatMatchesUptoRow, standIns := [], harness := (true, "c3d039086c2aa2870e510ba1debf1708e856177fbf011f88ab4a3c25d4d693cb"), looks := true }, kinds := [], alts := [], laidByText := true, laidKinds := [.data, .data, .data, .data, .sentinel, .sentinel, .pinned], laidTests := true, laidLooks := .later }
def SelectionFormatMatchesUptoCardSaid : Prop := Claim7.holds Tryz.pinned (.plain (OpenSpec.upto selectionFormatMatchesSpec)) selectionFormatMatchesUptoCard

/-- THE SECOND FORM's CARD OF 'chancerylaw1.SelectionObjectsMatch'. -/
def selectionObjectsMatchUptoCard : Claim7 := { stood := { row := selectionObjectsMatchUptoRow, standIns := [], harness := (true, "c3d039086c2aa2870e510ba1debf1708e856177fbf011f88ab4a3c25d4d693cb"), looks := true }, kinds := [], alts := [], laidByText := true, laidKinds := [.data, .data, .data, .data, .sentinel, .sentinel, .pinned], laidTests := true, laidLooks := .later }
def SelectionObjectsMatchUptoCardSaid : Prop := Claim7.holds Tryz.pinned (.plain (OpenSpec.upto selectionObjectsMatchSpec)) selectionObjectsMatchUptoCard

/-- THE SECOND FORM's CARD OF 'chancerylaw1.SelectionRowsMatch'. -/
def selectionRowsMatchUptoCard : Claim7 := { stood := { row := selectionRowsMatchUptoRow, standIns := [], harness := (true, "c3d039086c2aa2870e510ba1debf1708e856177fbf011f88ab4a3c25d4d693cb"), looks := true }, kinds := [], alts := [], laidByText := true, laidKinds := [.data, .data, .data, .data, .sentinel, .sentinel, .pinned], laidTests := true, laidLooks := .later }
def SelectionRowsMatchUptoCardSaid : Prop := Claim7.holds Tryz.pinned (.plain (OpenSpec.upto selectionRowsMatchSpec)) selectionRowsMatchUptoCard
end Rows
end Go.Proofs.YtdafahjmopdleaaGreatDoor
