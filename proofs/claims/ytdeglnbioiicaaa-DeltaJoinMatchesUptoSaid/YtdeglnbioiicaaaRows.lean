/-
  No cell of these rows narrows 'for every input' (looked for: loops, veiled, ifaces, maps, wideKeys, modest, calm, conditions, laid).
  DERIVED. THE GIVEN ROWS OF THIS SEAT. 9 by the template 'for every input the law returns true; each argument reads behind the call as it read before'; 0 by the template 'total and deterministic' (their statements: YtdeglnbioiicaaaTotals.lean).
  GIVEN WITH THE SEED: the statements are not yours to turn. If you find one false, say at which input.
  Laid BY PROGRAM, IN A SANDBOX (cutbox-rows.mjs): the forced cells as the released guide's own fill.sh prints them over the translation 61dce9903f777cc9… (all of the seat's roots in one cut). By AI agents, Wed Nov 11 2026. No macro, syntax, notation, axiom, sorry.
-/
import Derived.Test.YtdeglnbioiicaaaChecked
import GoSem.Claim
import GoSem.ClaimJoined
import GoSem.ClaimMapViews
import Derived.JoinedTies
import Derived.KernelRfl
namespace Go.Proofs.Ytdeglnbioiicaaa
/- THE CELL 'sum', in the pinned program and in every row, IS THE sha256 OF THE DUMP (.gsa) THAT YtdeglnbioiicaaaProg.lean LOADS. Nothing in Lean hashes anything: it is a label: what it is worth is what the hold of that sum in a sandbox is worth. -/
noncomputable def Try.pinned : Pinned := { name := "ytdeglnbioiicaaa", sum := "61dce9903f777cc916a1e13345db907351a6baf6b82a08833a8c7d8ba6560692", checked := Try.checked }
namespace Rows
def none {H : Type} : Left H := { results := [], args := [] }

/-- 'chancerylaw1.AxisJoinMatches': WHATEVER THE INPUT: true; the input reads as it did. -/
def axisJoinMatchesSpec : ChangeSpec := { name := "axisJoinMatches", fn := fun _ => fun
  | [d1, d2] => { results := [.lit (.bool true)], args := [d1, d2] }
  | _ => none }
def axisJoinMatchesRow : OpenClaim := { program := "ytdeglnbioiicaaa", sum := "61dce9903f777cc916a1e13345db907351a6baf6b82a08833a8c7d8ba6560692", func := "chancery/chancerylaw1.AxisJoinMatches", spec := "axisJoinMatches", apart := false }
def AxisJoinMatchesSaid : Prop := axisJoinMatchesRow.holds Try.pinned (OpenSpec.ofChange axisJoinMatchesSpec)

/-- ITS FALSE NEIGHBOUR: 'it returns false'. Refute it at one input. -/
def axisJoinMatchesWrong : ChangeSpec := { name := "axisJoinMatches", fn := fun _ => fun
  | [d1, d2] => { results := [.lit (.bool false)], args := [d1, d2] }
  | _ => none }
def AxisJoinMatchesWrongFalsely : Prop := axisJoinMatchesRow.holds Try.pinned (OpenSpec.ofChange axisJoinMatchesWrong)

/-- 'chancerylaw1.DeltaCheckSays': WHATEVER THE INPUT: true; the input reads as it did. -/
def deltaCheckSaysSpec : ChangeSpec := { name := "deltaCheckSays", fn := fun _ => fun
  | [d] => { results := [.lit (.bool true)], args := [d] }
  | _ => none }
def deltaCheckSaysRow : OpenClaim := { program := "ytdeglnbioiicaaa", sum := "61dce9903f777cc916a1e13345db907351a6baf6b82a08833a8c7d8ba6560692", func := "chancery/chancerylaw1.DeltaCheckSays", spec := "deltaCheckSays", unfollowed := true, recurses := true, apart := false }
def DeltaCheckSaysSaid : Prop := deltaCheckSaysRow.holds Try.pinned (OpenSpec.ofChange deltaCheckSaysSpec)

/-- ITS FALSE NEIGHBOUR: 'it returns false'. Refute it at one input. -/
def deltaCheckSaysWrong : ChangeSpec := { name := "deltaCheckSays", fn := fun _ => fun
  | [d] => { results := [.lit (.bool false)], args := [d] }
  | _ => none }
def DeltaCheckSaysWrongFalsely : Prop := deltaCheckSaysRow.holds Try.pinned (OpenSpec.ofChange deltaCheckSaysWrong)

/-- 'chancerylaw1.DeltaTidyMatches': WHATEVER THE INPUT: true; the input reads as it did. -/
def deltaTidyMatchesSpec : ChangeSpec := { name := "deltaTidyMatches", fn := fun _ => fun
  | [d] => { results := [.lit (.bool true)], args := [d] }
  | _ => none }
def deltaTidyMatchesRow : OpenClaim := { program := "ytdeglnbioiicaaa", sum := "61dce9903f777cc916a1e13345db907351a6baf6b82a08833a8c7d8ba6560692", func := "chancery/chancerylaw1.DeltaTidyMatches", spec := "deltaTidyMatches", unfollowed := true, recurses := true, apart := false }
def DeltaTidyMatchesSaid : Prop := deltaTidyMatchesRow.holds Try.pinned (OpenSpec.ofChange deltaTidyMatchesSpec)

/-- ITS FALSE NEIGHBOUR: 'it returns false'. Refute it at one input. -/
def deltaTidyMatchesWrong : ChangeSpec := { name := "deltaTidyMatches", fn := fun _ => fun
  | [d] => { results := [.lit (.bool false)], args := [d] }
  | _ => none }
def DeltaTidyMatchesWrongFalsely : Prop := deltaTidyMatchesRow.holds Try.pinned (OpenSpec.ofChange deltaTidyMatchesWrong)

/-- 'chancerylaw1.DeltaApplyMatches': WHATEVER THE INPUT: true; the input reads as it did. -/
def deltaApplyMatchesSpec : ChangeSpec := { name := "deltaApplyMatches", fn := fun _ => fun
  | [d1, d2] => { results := [.lit (.bool true)], args := [d1, d2] }
  | _ => none }
def deltaApplyMatchesRow : OpenClaim := { program := "ytdeglnbioiicaaa", sum := "61dce9903f777cc916a1e13345db907351a6baf6b82a08833a8c7d8ba6560692", func := "chancery/chancerylaw1.DeltaApplyMatches", spec := "deltaApplyMatches", unfollowed := true, recurses := true, apart := false }
def DeltaApplyMatchesSaid : Prop := deltaApplyMatchesRow.holds Try.pinned (OpenSpec.ofChange deltaApplyMatchesSpec)

/-- ITS FALSE NEIGHBOUR: 'it returns false'. Refute it at one input. -/
def deltaApplyMatchesWrong : ChangeSpec := { name := "deltaApplyMatches", fn := fun _ => fun
  | [d1, d2] => { results := [.lit (.bool false)], args := [d1, d2] }
  | _ => none }
def DeltaApplyMatchesWrongFalsely : Prop := deltaApplyMatchesRow.holds Try.pinned (OpenSpec.ofChange deltaApplyMatchesWrong)

/-- 'chancerylaw1.DeltaMakersMatch': WHATEVER THE INPUT: true; the input reads as it did. -/
def deltaMakersMatchSpec : ChangeSpec := { name := "deltaMakersMatch", fn := fun _ => fun
  | [d1, d2, d3, d4, d5, d6] => { results := [.lit (.bool true)], args := [d1, d2, d3, d4, d5, d6] }
  | _ => none }
def deltaMakersMatchRow : OpenClaim := { program := "ytdeglnbioiicaaa", sum := "61dce9903f777cc916a1e13345db907351a6baf6b82a08833a8c7d8ba6560692", func := "chancery/chancerylaw1.DeltaMakersMatch", spec := "deltaMakersMatch", unfollowed := true, recurses := true, apart := false }
def DeltaMakersMatchSaid : Prop := deltaMakersMatchRow.holds Try.pinned (OpenSpec.ofChange deltaMakersMatchSpec)

/-- ITS FALSE NEIGHBOUR: 'it returns false'. Refute it at one input. -/
def deltaMakersMatchWrong : ChangeSpec := { name := "deltaMakersMatch", fn := fun _ => fun
  | [d1, d2, d3, d4, d5, d6] => { results := [.lit (.bool false)], args := [d1, d2, d3, d4, d5, d6] }
  | _ => none }
def DeltaMakersMatchWrongFalsely : Prop := deltaMakersMatchRow.holds Try.pinned (OpenSpec.ofChange deltaMakersMatchWrong)

/-- 'chancerylaw1.DeltaJoinMatches': WHATEVER THE INPUT: true; the input reads as it did. -/
def deltaJoinMatchesSpec : ChangeSpec := { name := "deltaJoinMatches", fn := fun _ => fun
  | [d1, d2] => { results := [.lit (.bool true)], args := [d1, d2] }
  | _ => none }
def deltaJoinMatchesRow : OpenClaim := { program := "ytdeglnbioiicaaa", sum := "61dce9903f777cc916a1e13345db907351a6baf6b82a08833a8c7d8ba6560692", func := "chancery/chancerylaw1.DeltaJoinMatches", spec := "deltaJoinMatches", unfollowed := true, recurses := true, apart := false }
def DeltaJoinMatchesSaid : Prop := deltaJoinMatchesRow.holds Try.pinned (OpenSpec.ofChange deltaJoinMatchesSpec)

/-- ITS FALSE NEIGHBOUR: 'it returns false'. Refute it at one input. -/
def deltaJoinMatchesWrong : ChangeSpec := { name := "deltaJoinMatches", fn := fun _ => fun
  | [d1, d2] => { results := [.lit (.bool false)], args := [d1, d2] }
  | _ => none }
def DeltaJoinMatchesWrongFalsely : Prop := deltaJoinMatchesRow.holds Try.pinned (OpenSpec.ofChange deltaJoinMatchesWrong)

/-- 'chancerylaw1.DeltaPairMatches': WHATEVER THE INPUT: true; the input reads as it did. -/
def deltaPairMatchesSpec : ChangeSpec := { name := "deltaPairMatches", fn := fun _ => fun
  | [d1, d2] => { results := [.lit (.bool true)], args := [d1, d2] }
  | _ => none }
def deltaPairMatchesRow : OpenClaim := { program := "ytdeglnbioiicaaa", sum := "61dce9903f777cc916a1e13345db907351a6baf6b82a08833a8c7d8ba6560692", func := "chancery/chancerylaw1.DeltaPairMatches", spec := "deltaPairMatches", unfollowed := true, recurses := true, apart := false }
def DeltaPairMatchesSaid : Prop := deltaPairMatchesRow.holds Try.pinned (OpenSpec.ofChange deltaPairMatchesSpec)

/-- ITS FALSE NEIGHBOUR: 'it returns false'. Refute it at one input. -/
def deltaPairMatchesWrong : ChangeSpec := { name := "deltaPairMatches", fn := fun _ => fun
  | [d1, d2] => { results := [.lit (.bool false)], args := [d1, d2] }
  | _ => none }
def DeltaPairMatchesWrongFalsely : Prop := deltaPairMatchesRow.holds Try.pinned (OpenSpec.ofChange deltaPairMatchesWrong)

/-- 'chancerylaw1.TrackSettleMatches': WHATEVER THE INPUT: true; the input reads as it did. -/
def trackSettleMatchesSpec : ChangeSpec := { name := "trackSettleMatches", fn := fun _ => fun
  | [d1, d2, d3] => { results := [.lit (.bool true)], args := [d1, d2, d3] }
  | _ => none }
def trackSettleMatchesRow : OpenClaim := { program := "ytdeglnbioiicaaa", sum := "61dce9903f777cc916a1e13345db907351a6baf6b82a08833a8c7d8ba6560692", func := "chancery/chancerylaw1.TrackSettleMatches", spec := "trackSettleMatches", unfollowed := true, recurses := true, apart := false }
def TrackSettleMatchesSaid : Prop := trackSettleMatchesRow.holds Try.pinned (OpenSpec.ofChange trackSettleMatchesSpec)

/-- ITS FALSE NEIGHBOUR: 'it returns false'. Refute it at one input. -/
def trackSettleMatchesWrong : ChangeSpec := { name := "trackSettleMatches", fn := fun _ => fun
  | [d1, d2, d3] => { results := [.lit (.bool false)], args := [d1, d2, d3] }
  | _ => none }
def TrackSettleMatchesWrongFalsely : Prop := trackSettleMatchesRow.holds Try.pinned (OpenSpec.ofChange trackSettleMatchesWrong)

/-- 'chancerylaw1.SpanThroughMatches': WHATEVER THE INPUT: true; the input reads as it did. -/
def spanThroughMatchesSpec : ChangeSpec := { name := "spanThroughMatches", fn := fun _ => fun
  | [d1, d2, d3, d4] => { results := [.lit (.bool true)], args := [d1, d2, d3, d4] }
  | _ => none }
def spanThroughMatchesRow : OpenClaim := { program := "ytdeglnbioiicaaa", sum := "61dce9903f777cc916a1e13345db907351a6baf6b82a08833a8c7d8ba6560692", func := "chancery/chancerylaw1.SpanThroughMatches", spec := "spanThroughMatches", unfollowed := true, recurses := true, apart := false }
def SpanThroughMatchesSaid : Prop := spanThroughMatchesRow.holds Try.pinned (OpenSpec.ofChange spanThroughMatchesSpec)

/-- ITS FALSE NEIGHBOUR: 'it returns false'. Refute it at one input. -/
def spanThroughMatchesWrong : ChangeSpec := { name := "spanThroughMatches", fn := fun _ => fun
  | [d1, d2, d3, d4] => { results := [.lit (.bool false)], args := [d1, d2, d3, d4] }
  | _ => none }
def SpanThroughMatchesWrongFalsely : Prop := spanThroughMatchesRow.holds Try.pinned (OpenSpec.ofChange spanThroughMatchesWrong)

/- THE SECOND FORM. 'bulk': how many values and letters a reading holds, each counted each time it is reached (what is shared counts as often as it is met; a slice's spare places count too). A statement '..UptoSaid' is the law's where the arguments, and the package variables that the reading takes, are together of bulk at most 1048576: NARROWER than '..Said'. Prove '..Said' where nothing that the law and all that it calls make is longer than what came in: it says more and counts as full. Else prove '..UptoSaid'. A law counts once. -/
mutual
def uptoBulk {H : Type} : DataW H → Nat
  | .lit (.string bytes) => bytes.length + 1
  | .lit _ => 1
  | .nil => 1
  | .ptr d => uptoBulk d + 1
  | .slice elems spare => uptoBulkAll elems + uptoBulkAll spare + 1
  | .agg parts => uptoBulkAll parts + 1
  | .iface _ d => uptoBulk d + 1
  | .map entries => uptoBulkEntries entries + 1
  | .held _ => 1
def uptoBulkAll {H : Type} : List (DataW H) → Nat
  | [] => 0
  | d :: r => uptoBulk d + uptoBulkAll r
def uptoBulkEntries {H : Type} : List (Lit × DataW H) → Nat
  | [] => 0
  | x :: r => uptoBulkEntry x + uptoBulkEntries r
def uptoBulkEntry {H : Type} : Lit × DataW H → Nat
  | (.string bytes, d) => bytes.length + uptoBulk d + 1
  | (_, d) => uptoBulk d + 1
 end
def uptoSmall : (H : Type) → List (DataW H) → Bool := fun _ ds => decide (uptoBulkAll ds ≤ 1048576)
def OpenSpec.upto (s : _root_.Go.ChangeSpec) : _root_.Go.OpenSpec := { _root_.Go.OpenSpec.ofChange s with cond := some uptoSmall }

/-- 'chancerylaw1.AxisJoinMatches', WHERE WHAT IT READS IS OF BULK AT MOST 1048576: true; the input reads as it did. -/
def axisJoinMatchesUptoRow : OpenClaim := { program := "ytdeglnbioiicaaa", sum := "61dce9903f777cc916a1e13345db907351a6baf6b82a08833a8c7d8ba6560692", func := "chancery/chancerylaw1.AxisJoinMatches", spec := "axisJoinMatches", apart := false, narrowed := true }
def AxisJoinMatchesUptoSaid : Prop := axisJoinMatchesUptoRow.holds Try.pinned (OpenSpec.upto axisJoinMatchesSpec)

/-- 'chancerylaw1.DeltaCheckSays', WHERE WHAT IT READS IS OF BULK AT MOST 1048576: true; the input reads as it did. -/
def deltaCheckSaysUptoRow : OpenClaim := { program := "ytdeglnbioiicaaa", sum := "61dce9903f777cc916a1e13345db907351a6baf6b82a08833a8c7d8ba6560692", func := "chancery/chancerylaw1.DeltaCheckSays", spec := "deltaCheckSays", unfollowed := true, recurses := true, apart := false, narrowed := true }
def DeltaCheckSaysUptoSaid : Prop := deltaCheckSaysUptoRow.holds Try.pinned (OpenSpec.upto deltaCheckSaysSpec)

/-- 'chancerylaw1.DeltaTidyMatches', WHERE WHAT IT READS IS OF BULK AT MOST 1048576: true; the input reads as it did. -/
def deltaTidyMatchesUptoRow : OpenClaim := { program := "ytdeglnbioiicaaa", sum := "61dce9903f777cc916a1e13345db907351a6baf6b82a08833a8c7d8ba6560692", func := "chancery/chancerylaw1.DeltaTidyMatches", spec := "deltaTidyMatches", unfollowed := true, recurses := true, apart := false, narrowed := true }
def DeltaTidyMatchesUptoSaid : Prop := deltaTidyMatchesUptoRow.holds Try.pinned (OpenSpec.upto deltaTidyMatchesSpec)

/-- 'chancerylaw1.DeltaApplyMatches', WHERE WHAT IT READS IS OF BULK AT MOST 1048576: true; the input reads as it did. -/
def deltaApplyMatchesUptoRow : OpenClaim := { program := "ytdeglnbioiicaaa", sum := "61dce9903f777cc916a1e13345db907351a6baf6b82a08833a8c7d8ba6560692", func := "chancery/chancerylaw1.DeltaApplyMatches", spec := "deltaApplyMatches", unfollowed := true, recurses := true, apart := false, narrowed := true }
def DeltaApplyMatchesUptoSaid : Prop := deltaApplyMatchesUptoRow.holds Try.pinned (OpenSpec.upto deltaApplyMatchesSpec)

/-- 'chancerylaw1.DeltaMakersMatch', WHERE WHAT IT READS IS OF BULK AT MOST 1048576: true; the input reads as it did. -/
def deltaMakersMatchUptoRow : OpenClaim := { program := "ytdeglnbioiicaaa", sum := "61dce9903f777cc916a1e13345db907351a6baf6b82a08833a8c7d8ba6560692", func := "chancery/chancerylaw1.DeltaMakersMatch", spec := "deltaMakersMatch", unfollowed := true, recurses := true, apart := false, narrowed := true }
def DeltaMakersMatchUptoSaid : Prop := deltaMakersMatchUptoRow.holds Try.pinned (OpenSpec.upto deltaMakersMatchSpec)

/-- 'chancerylaw1.DeltaJoinMatches', WHERE WHAT IT READS IS OF BULK AT MOST 1048576: true; the input reads as it did. -/
def deltaJoinMatchesUptoRow : OpenClaim := { program := "ytdeglnbioiicaaa", sum := "61dce9903f777cc916a1e13345db907351a6baf6b82a08833a8c7d8ba6560692", func := "chancery/chancerylaw1.DeltaJoinMatches", spec := "deltaJoinMatches", unfollowed := true, recurses := true, apart := false, narrowed := true }
def DeltaJoinMatchesUptoSaid : Prop := deltaJoinMatchesUptoRow.holds Try.pinned (OpenSpec.upto deltaJoinMatchesSpec)

/-- 'chancerylaw1.DeltaPairMatches', WHERE WHAT IT READS IS OF BULK AT MOST 1048576: true; the input reads as it did. -/
def deltaPairMatchesUptoRow : OpenClaim := { program := "ytdeglnbioiicaaa", sum := "61dce9903f777cc916a1e13345db907351a6baf6b82a08833a8c7d8ba6560692", func := "chancery/chancerylaw1.DeltaPairMatches", spec := "deltaPairMatches", unfollowed := true, recurses := true, apart := false, narrowed := true }
def DeltaPairMatchesUptoSaid : Prop := deltaPairMatchesUptoRow.holds Try.pinned (OpenSpec.upto deltaPairMatchesSpec)

/-- 'chancerylaw1.TrackSettleMatches', WHERE WHAT IT READS IS OF BULK AT MOST 1048576: true; the input reads as it did. -/
def trackSettleMatchesUptoRow : OpenClaim := { program := "ytdeglnbioiicaaa", sum := "61dce9903f777cc916a1e13345db907351a6baf6b82a08833a8c7d8ba6560692", func := "chancery/chancerylaw1.TrackSettleMatches", spec := "trackSettleMatches", unfollowed := true, recurses := true, apart := false, narrowed := true }
def TrackSettleMatchesUptoSaid : Prop := trackSettleMatchesUptoRow.holds Try.pinned (OpenSpec.upto trackSettleMatchesSpec)

/-- 'chancerylaw1.SpanThroughMatches', WHERE WHAT IT READS IS OF BULK AT MOST 1048576: true; the input reads as it did. -/
def spanThroughMatchesUptoRow : OpenClaim := { program := "ytdeglnbioiicaaa", sum := "61dce9903f777cc916a1e13345db907351a6baf6b82a08833a8c7d8ba6560692", func := "chancery/chancerylaw1.SpanThroughMatches", spec := "spanThroughMatches", unfollowed := true, recurses := true, apart := false, narrowed := true }
def SpanThroughMatchesUptoSaid : Prop := spanThroughMatchesUptoRow.holds Try.pinned (OpenSpec.upto spanThroughMatchesSpec)

end Rows
end Go.Proofs.Ytdeglnbioiicaaa
