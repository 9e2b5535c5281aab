/-
  DERIVED. GIVEN WITH THE SEED: THE CARDS: each row of YtfkolgjapajekaaDoorRows.lean that lists a variable, with what it lists TIED to the program's text (the seventh form; the later family's looks); each row that meets fmt, with fmt's text TOLD by the authors' own Lean function (tested against real Go, not proved from fmt's source: count such statements apart). THE CARD IS WHAT COUNTS. Prove the row's statement (the work); the ties are given (YtfkolgjapajekaaDoorTie.lean); close each card by the builder's one call (the guide's Derived/Test/ToyasCard.lean, 'card_holds'). Laid BY PROGRAM, IN A SANDBOX (cutbox-door.mjs). By AI agents, Wed Nov 11 2026. No macro, syntax, notation, axiom, sorry.
-/
import Derived.Test.YtfkolgjapajekaaDoorRows
import GoSem.ClaimSeven
namespace Go.Proofs.YtfkolgjapajekaaDoor
namespace Rows

/-- THE TIED CARD OF 'chancerylaw1.DocNodeMatches'. -/
def docNodeMatchesCard : Claim7 := { stood := { row := docNodeMatchesRow, standIns := [], harness := (true, "f0c3dbff1255d6727f0f14d8af1824f8fff59b0fed3e9f6094a3fb0ceddcead9"), looks := false }, kinds := [], alts := [], laidByText := true, laidKinds := [.data, .pinned], laidTests := true, laidLooks := .later }
def DocNodeMatchesCardSaid : Prop := Claim7.holds Tryd.pinned (.plain (OpenSpec.ofChange docNodeMatchesSpec)) docNodeMatchesCard

/-- THE TIED CARD OF 'chancerylaw1.DocCheckSays'. -/
def docCheckSaysCard : Claim7 := { stood := { row := docCheckSaysRow, standIns := [], harness := (true, "f0c3dbff1255d6727f0f14d8af1824f8fff59b0fed3e9f6094a3fb0ceddcead9"), looks := false }, kinds := [], alts := [], laidByText := true, laidKinds := [.data, .pinned], laidTests := true, laidLooks := .later }
def DocCheckSaysCardSaid : Prop := Claim7.holds Tryd.pinned (.plain (OpenSpec.ofChange docCheckSaysSpec)) docCheckSaysCard

/-- THE TIED CARD OF 'chancerylaw1.GridApplyMatches'. -/
def gridApplyMatchesCard : Claim7 := { stood := { row := gridApplyMatchesRow, standIns := [], harness := (true, "f0c3dbff1255d6727f0f14d8af1824f8fff59b0fed3e9f6094a3fb0ceddcead9"), looks := false }, kinds := [], alts := [], laidByText := true, laidKinds := [.data, .pinned], laidTests := true, laidLooks := .later }
def GridApplyMatchesCardSaid : Prop := Claim7.holds Tryd.pinned (.plain (OpenSpec.ofChange gridApplyMatchesSpec)) gridApplyMatchesCard

/-- THE TIED CARD OF 'chancerylaw1.GridTextSays'. -/
def gridTextSaysCard : Claim7 := { stood := { row := gridTextSaysRow, standIns := [], harness := (true, "f0c3dbff1255d6727f0f14d8af1824f8fff59b0fed3e9f6094a3fb0ceddcead9"), looks := false }, kinds := [], alts := [], laidByText := true, laidKinds := [.data, .pinned], laidTests := true, laidLooks := .later }
def GridTextSaysCardSaid : Prop := Claim7.holds Tryd.pinned (.plain (OpenSpec.ofChange gridTextSaysSpec)) gridTextSaysCard

/-- THE TIED CARD OF 'chancerylaw1.GridCheckSays'. -/
def gridCheckSaysCard : Claim7 := { stood := { row := gridCheckSaysRow, standIns := [], harness := (true, "f0c3dbff1255d6727f0f14d8af1824f8fff59b0fed3e9f6094a3fb0ceddcead9"), looks := false }, kinds := [], alts := [], laidByText := true, laidKinds := [.data, .pinned], laidTests := true, laidLooks := .later }
def GridCheckSaysCardSaid : Prop := Claim7.holds Tryd.pinned (.plain (OpenSpec.ofChange gridCheckSaysSpec)) gridCheckSaysCard

/-- THE SECOND FORM's CARD OF 'chancerylaw1.DocNodeMatches'. -/
def docNodeMatchesUptoCard : Claim7 := { stood := { row := docNodeMatchesUptoRow, standIns := [], harness := (true, "f0c3dbff1255d6727f0f14d8af1824f8fff59b0fed3e9f6094a3fb0ceddcead9"), looks := false }, kinds := [], alts := [], laidByText := true, laidKinds := [.data, .pinned], laidTests := true, laidLooks := .later }
def DocNodeMatchesUptoCardSaid : Prop := Claim7.holds Tryd.pinned (.plain (OpenSpec.upto docNodeMatchesSpec)) docNodeMatchesUptoCard

/-- THE SECOND FORM's CARD OF 'chancerylaw1.DocCheckSays'. -/
def docCheckSaysUptoCard : Claim7 := { stood := { row := docCheckSaysUptoRow, standIns := [], harness := (true, "f0c3dbff1255d6727f0f14d8af1824f8fff59b0fed3e9f6094a3fb0ceddcead9"), looks := false }, kinds := [], alts := [], laidByText := true, laidKinds := [.data, .pinned], laidTests := true, laidLooks := .later }
def DocCheckSaysUptoCardSaid : Prop := Claim7.holds Tryd.pinned (.plain (OpenSpec.upto docCheckSaysSpec)) docCheckSaysUptoCard

/-- THE SECOND FORM's CARD OF 'chancerylaw1.GridApplyMatches'. -/
def gridApplyMatchesUptoCard : Claim7 := { stood := { row := gridApplyMatchesUptoRow, standIns := [], harness := (true, "f0c3dbff1255d6727f0f14d8af1824f8fff59b0fed3e9f6094a3fb0ceddcead9"), looks := false }, kinds := [], alts := [], laidByText := true, laidKinds := [.data, .pinned], laidTests := true, laidLooks := .later }
def GridApplyMatchesUptoCardSaid : Prop := Claim7.holds Tryd.pinned (.plain (OpenSpec.upto gridApplyMatchesSpec)) gridApplyMatchesUptoCard

/-- THE SECOND FORM's CARD OF 'chancerylaw1.GridTextSays'. -/
def gridTextSaysUptoCard : Claim7 := { stood := { row := gridTextSaysUptoRow, standIns := [], harness := (true, "f0c3dbff1255d6727f0f14d8af1824f8fff59b0fed3e9f6094a3fb0ceddcead9"), looks := false }, kinds := [], alts := [], laidByText := true, laidKinds := [.data, .pinned], laidTests := true, laidLooks := .later }
def GridTextSaysUptoCardSaid : Prop := Claim7.holds Tryd.pinned (.plain (OpenSpec.upto gridTextSaysSpec)) gridTextSaysUptoCard

/-- THE SECOND FORM's CARD OF 'chancerylaw1.GridCheckSays'. -/
def gridCheckSaysUptoCard : Claim7 := { stood := { row := gridCheckSaysUptoRow, standIns := [], harness := (true, "f0c3dbff1255d6727f0f14d8af1824f8fff59b0fed3e9f6094a3fb0ceddcead9"), looks := false }, kinds := [], alts := [], laidByText := true, laidKinds := [.data, .pinned], laidTests := true, laidLooks := .later }
def GridCheckSaysUptoCardSaid : Prop := Claim7.holds Tryd.pinned (.plain (OpenSpec.upto gridCheckSaysSpec)) gridCheckSaysUptoCard
end Rows
end Go.Proofs.YtfkolgjapajekaaDoor
