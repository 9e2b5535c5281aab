/-
  No cell of these rows narrows 'for every input' (looked for: loops, veiled, ifaces, maps, wideKeys, modest, calm, conditions, laid).
  DERIVED. THE GIVEN ROWS OF THIS SEAT. 11 by the template 'for every input the law returns true; each argument reads behind the call as it read before'; 0 by the template 'total and deterministic' (their statements: YthhodpedkdapcaaTotals.lean).
  GIVEN WITH THE SEED: the statements are not yours to turn. If you find one false, say at which input.
  Laid BY PROGRAM, IN A SANDBOX (cutbox-rows.mjs): the forced cells as the released guide's own fill.sh prints them over the translation 3d05e434931965a1… (all of the seat's roots in one cut). By AI agents, Wed Nov 11 2026. No macro, syntax, notation, axiom, sorry.
-/
import Derived.Test.YthhodpedkdapcaaChecked
import GoSem.Claim
import GoSem.ClaimJoined
import GoSem.ClaimMapViews
import Derived.JoinedTies
import Derived.KernelRfl
namespace Go.Proofs.Ythhodpedkdapcaa
/- THE CELL 'sum', in the pinned program and in every row, IS THE sha256 OF THE DUMP (.gsa) THAT YthhodpedkdapcaaProg.lean LOADS. Nothing in Lean hashes anything: it is a label: what it is worth is what the hold of that sum in a sandbox is worth. -/
noncomputable def Try.pinned : Pinned := { name := "ythhodpedkdapcaa", sum := "3d05e434931965a108cb3badc7a1e56d99ceeda15cfe21262ebeeed60aa044d2", checked := Try.checked }
namespace Rows
def none {H : Type} : Left H := { results := [], args := [] }

/-- 'chancerylaw1.UndoCountsMatch': WHATEVER THE INPUT: true; the input reads as it did. -/
def undoCountsMatchSpec : ChangeSpec := { name := "undoCountsMatch", fn := fun _ => fun
  | [d1, d2] => { results := [.lit (.bool true)], args := [d1, d2] }
  | _ => none }
def undoCountsMatchRow : OpenClaim := { program := "ythhodpedkdapcaa", sum := "3d05e434931965a108cb3badc7a1e56d99ceeda15cfe21262ebeeed60aa044d2", func := "chancery/chancerylaw1.UndoCountsMatch", spec := "undoCountsMatch", recurses := true, apart := false }
def UndoCountsMatchSaid : Prop := undoCountsMatchRow.holds Try.pinned (OpenSpec.ofChange undoCountsMatchSpec)

/-- ITS FALSE NEIGHBOUR: 'it returns false'. Refute it at one input. -/
def undoCountsMatchWrong : ChangeSpec := { name := "undoCountsMatch", fn := fun _ => fun
  | [d1, d2] => { results := [.lit (.bool false)], args := [d1, d2] }
  | _ => none }
def UndoCountsMatchWrongFalsely : Prop := undoCountsMatchRow.holds Try.pinned (OpenSpec.ofChange undoCountsMatchWrong)

/-- 'chancerylaw1.SpanSetsMatch': WHATEVER THE INPUT: true; the input reads as it did. -/
def spanSetsMatchSpec : ChangeSpec := { name := "spanSetsMatch", fn := fun _ => fun
  | [d1, d2] => { results := [.lit (.bool true)], args := [d1, d2] }
  | _ => none }
def spanSetsMatchRow : OpenClaim := { program := "ythhodpedkdapcaa", sum := "3d05e434931965a108cb3badc7a1e56d99ceeda15cfe21262ebeeed60aa044d2", func := "chancery/chancerylaw1.SpanSetsMatch", spec := "spanSetsMatch", unfollowed := true, recurses := true, apart := false }
def SpanSetsMatchSaid : Prop := spanSetsMatchRow.holds Try.pinned (OpenSpec.ofChange spanSetsMatchSpec)

/-- ITS FALSE NEIGHBOUR: 'it returns false'. Refute it at one input. -/
def spanSetsMatchWrong : ChangeSpec := { name := "spanSetsMatch", fn := fun _ => fun
  | [d1, d2] => { results := [.lit (.bool false)], args := [d1, d2] }
  | _ => none }
def SpanSetsMatchWrongFalsely : Prop := spanSetsMatchRow.holds Try.pinned (OpenSpec.ofChange spanSetsMatchWrong)

/-- 'chancerylaw1.AxisApplyMatches': WHATEVER THE INPUT: true; the input reads as it did. -/
def axisApplyMatchesSpec : ChangeSpec := { name := "axisApplyMatches", fn := fun _ => fun
  | [d1, d2] => { results := [.lit (.bool true)], args := [d1, d2] }
  | _ => none }
def axisApplyMatchesRow : OpenClaim := { program := "ythhodpedkdapcaa", sum := "3d05e434931965a108cb3badc7a1e56d99ceeda15cfe21262ebeeed60aa044d2", func := "chancery/chancerylaw1.AxisApplyMatches", spec := "axisApplyMatches", apart := false }
def AxisApplyMatchesSaid : Prop := axisApplyMatchesRow.holds Try.pinned (OpenSpec.ofChange axisApplyMatchesSpec)

/-- ITS FALSE NEIGHBOUR: 'it returns false'. Refute it at one input. -/
def axisApplyMatchesWrong : ChangeSpec := { name := "axisApplyMatches", fn := fun _ => fun
  | [d1, d2] => { results := [.lit (.bool false)], args := [d1, d2] }
  | _ => none }
def AxisApplyMatchesWrongFalsely : Prop := axisApplyMatchesRow.holds Try.pinned (OpenSpec.ofChange axisApplyMatchesWrong)

/-- 'chancerylaw1.AttrCheckSays': WHATEVER THE INPUT: true; the input reads as it did. -/
def attrCheckSaysSpec : ChangeSpec := { name := "attrCheckSays", fn := fun _ => fun
  | [d1, d2] => { results := [.lit (.bool true)], args := [d1, d2] }
  | _ => none }
def attrCheckSaysRow : OpenClaim := { program := "ythhodpedkdapcaa", sum := "3d05e434931965a108cb3badc7a1e56d99ceeda15cfe21262ebeeed60aa044d2", func := "chancery/chancerylaw1.AttrCheckSays", spec := "attrCheckSays", unfollowed := true, recurses := true, apart := false }
def AttrCheckSaysSaid : Prop := attrCheckSaysRow.holds Try.pinned (OpenSpec.ofChange attrCheckSaysSpec)

/-- ITS FALSE NEIGHBOUR: 'it returns false'. Refute it at one input. -/
def attrCheckSaysWrong : ChangeSpec := { name := "attrCheckSays", fn := fun _ => fun
  | [d1, d2] => { results := [.lit (.bool false)], args := [d1, d2] }
  | _ => none }
def AttrCheckSaysWrongFalsely : Prop := attrCheckSaysRow.holds Try.pinned (OpenSpec.ofChange attrCheckSaysWrong)

/-- 'chancerylaw1.AttrApplyMatches': WHATEVER THE INPUT: true; the input reads as it did. -/
def attrApplyMatchesSpec : ChangeSpec := { name := "attrApplyMatches", fn := fun _ => fun
  | [d1, d2] => { results := [.lit (.bool true)], args := [d1, d2] }
  | _ => none }
def attrApplyMatchesRow : OpenClaim := { program := "ythhodpedkdapcaa", sum := "3d05e434931965a108cb3badc7a1e56d99ceeda15cfe21262ebeeed60aa044d2", func := "chancery/chancerylaw1.AttrApplyMatches", spec := "attrApplyMatches", unfollowed := true, recurses := true, apart := false }
def AttrApplyMatchesSaid : Prop := attrApplyMatchesRow.holds Try.pinned (OpenSpec.ofChange attrApplyMatchesSpec)

/-- ITS FALSE NEIGHBOUR: 'it returns false'. Refute it at one input. -/
def attrApplyMatchesWrong : ChangeSpec := { name := "attrApplyMatches", fn := fun _ => fun
  | [d1, d2] => { results := [.lit (.bool false)], args := [d1, d2] }
  | _ => none }
def AttrApplyMatchesWrongFalsely : Prop := attrApplyMatchesRow.holds Try.pinned (OpenSpec.ofChange attrApplyMatchesWrong)

/-- 'chancerylaw1.TrackShownMatches': WHATEVER THE INPUT: true; the input reads as it did. -/
def trackShownMatchesSpec : ChangeSpec := { name := "trackShownMatches", fn := fun _ => fun
  | [d1, d2] => { results := [.lit (.bool true)], args := [d1, d2] }
  | _ => none }
def trackShownMatchesRow : OpenClaim := { program := "ythhodpedkdapcaa", sum := "3d05e434931965a108cb3badc7a1e56d99ceeda15cfe21262ebeeed60aa044d2", func := "chancery/chancerylaw1.TrackShownMatches", spec := "trackShownMatches", apart := false }
def TrackShownMatchesSaid : Prop := trackShownMatchesRow.holds Try.pinned (OpenSpec.ofChange trackShownMatchesSpec)

/-- ITS FALSE NEIGHBOUR: 'it returns false'. Refute it at one input. -/
def trackShownMatchesWrong : ChangeSpec := { name := "trackShownMatches", fn := fun _ => fun
  | [d1, d2] => { results := [.lit (.bool false)], args := [d1, d2] }
  | _ => none }
def TrackShownMatchesWrongFalsely : Prop := trackShownMatchesRow.holds Try.pinned (OpenSpec.ofChange trackShownMatchesWrong)

/-- 'chancerylaw1.AttrBetweenMatches': WHATEVER THE INPUT: true; the input reads as it did. -/
def attrBetweenMatchesSpec : ChangeSpec := { name := "attrBetweenMatches", fn := fun _ => fun
  | [d1, d2] => { results := [.lit (.bool true)], args := [d1, d2] }
  | _ => none }
def attrBetweenMatchesRow : OpenClaim := { program := "ythhodpedkdapcaa", sum := "3d05e434931965a108cb3badc7a1e56d99ceeda15cfe21262ebeeed60aa044d2", func := "chancery/chancerylaw1.AttrBetweenMatches", spec := "attrBetweenMatches", unfollowed := true, recurses := true, apart := false }
def AttrBetweenMatchesSaid : Prop := attrBetweenMatchesRow.holds Try.pinned (OpenSpec.ofChange attrBetweenMatchesSpec)

/-- ITS FALSE NEIGHBOUR: 'it returns false'. Refute it at one input. -/
def attrBetweenMatchesWrong : ChangeSpec := { name := "attrBetweenMatches", fn := fun _ => fun
  | [d1, d2] => { results := [.lit (.bool false)], args := [d1, d2] }
  | _ => none }
def AttrBetweenMatchesWrongFalsely : Prop := attrBetweenMatchesRow.holds Try.pinned (OpenSpec.ofChange attrBetweenMatchesWrong)

/-- 'chancerylaw1.AttrPairMatches': WHATEVER THE INPUT: true; the input reads as it did. -/
def attrPairMatchesSpec : ChangeSpec := { name := "attrPairMatches", fn := fun _ => fun
  | [d1, d2] => { results := [.lit (.bool true)], args := [d1, d2] }
  | _ => none }
def attrPairMatchesRow : OpenClaim := { program := "ythhodpedkdapcaa", sum := "3d05e434931965a108cb3badc7a1e56d99ceeda15cfe21262ebeeed60aa044d2", func := "chancery/chancerylaw1.AttrPairMatches", spec := "attrPairMatches", unfollowed := true, recurses := true, apart := false }
def AttrPairMatchesSaid : Prop := attrPairMatchesRow.holds Try.pinned (OpenSpec.ofChange attrPairMatchesSpec)

/-- ITS FALSE NEIGHBOUR: 'it returns false'. Refute it at one input. -/
def attrPairMatchesWrong : ChangeSpec := { name := "attrPairMatches", fn := fun _ => fun
  | [d1, d2] => { results := [.lit (.bool false)], args := [d1, d2] }
  | _ => none }
def AttrPairMatchesWrongFalsely : Prop := attrPairMatchesRow.holds Try.pinned (OpenSpec.ofChange attrPairMatchesWrong)

/-- 'chancerylaw1.AxisCheckSays': WHATEVER THE INPUT: true; the input reads as it did. -/
def axisCheckSaysSpec : ChangeSpec := { name := "axisCheckSays", fn := fun _ => fun
  | [d1, d2] => { results := [.lit (.bool true)], args := [d1, d2] }
  | _ => none }
def axisCheckSaysRow : OpenClaim := { program := "ythhodpedkdapcaa", sum := "3d05e434931965a108cb3badc7a1e56d99ceeda15cfe21262ebeeed60aa044d2", func := "chancery/chancerylaw1.AxisCheckSays", spec := "axisCheckSays", apart := false }
def AxisCheckSaysSaid : Prop := axisCheckSaysRow.holds Try.pinned (OpenSpec.ofChange axisCheckSaysSpec)

/-- ITS FALSE NEIGHBOUR: 'it returns false'. Refute it at one input. -/
def axisCheckSaysWrong : ChangeSpec := { name := "axisCheckSays", fn := fun _ => fun
  | [d1, d2] => { results := [.lit (.bool false)], args := [d1, d2] }
  | _ => none }
def AxisCheckSaysWrongFalsely : Prop := axisCheckSaysRow.holds Try.pinned (OpenSpec.ofChange axisCheckSaysWrong)

/-- 'chancerylaw1.AxisGapMatches': WHATEVER THE INPUT: true; the input reads as it did. -/
def axisGapMatchesSpec : ChangeSpec := { name := "axisGapMatches", fn := fun _ => fun
  | [d1, d2, d3, d4] => { results := [.lit (.bool true)], args := [d1, d2, d3, d4] }
  | _ => none }
def axisGapMatchesRow : OpenClaim := { program := "ythhodpedkdapcaa", sum := "3d05e434931965a108cb3badc7a1e56d99ceeda15cfe21262ebeeed60aa044d2", func := "chancery/chancerylaw1.AxisGapMatches", spec := "axisGapMatches", apart := false }
def AxisGapMatchesSaid : Prop := axisGapMatchesRow.holds Try.pinned (OpenSpec.ofChange axisGapMatchesSpec)

/-- ITS FALSE NEIGHBOUR: 'it returns false'. Refute it at one input. -/
def axisGapMatchesWrong : ChangeSpec := { name := "axisGapMatches", fn := fun _ => fun
  | [d1, d2, d3, d4] => { results := [.lit (.bool false)], args := [d1, d2, d3, d4] }
  | _ => none }
def AxisGapMatchesWrongFalsely : Prop := axisGapMatchesRow.holds Try.pinned (OpenSpec.ofChange axisGapMatchesWrong)

/-- 'chancerylaw1.AxisPairMatches': WHATEVER THE INPUT: true; the input reads as it did. -/
def axisPairMatchesSpec : ChangeSpec := { name := "axisPairMatches", fn := fun _ => fun
  | [d1, d2] => { results := [.lit (.bool true)], args := [d1, d2] }
  | _ => none }
def axisPairMatchesRow : OpenClaim := { program := "ythhodpedkdapcaa", sum := "3d05e434931965a108cb3badc7a1e56d99ceeda15cfe21262ebeeed60aa044d2", func := "chancery/chancerylaw1.AxisPairMatches", spec := "axisPairMatches", apart := false }
def AxisPairMatchesSaid : Prop := axisPairMatchesRow.holds Try.pinned (OpenSpec.ofChange axisPairMatchesSpec)

/-- ITS FALSE NEIGHBOUR: 'it returns false'. Refute it at one input. -/
def axisPairMatchesWrong : ChangeSpec := { name := "axisPairMatches", fn := fun _ => fun
  | [d1, d2] => { results := [.lit (.bool false)], args := [d1, d2] }
  | _ => none }
def AxisPairMatchesWrongFalsely : Prop := axisPairMatchesRow.holds Try.pinned (OpenSpec.ofChange axisPairMatchesWrong)

/- THE SECOND FORM. 'bulk': how many values and letters a reading holds, each counted each time it is reached (what is shared counts as often as it is met; a slice's spare places count too). A statement '..UptoSaid' is the law's where the arguments, and the package variables that the reading takes, are together of bulk at most 1048576: NARROWER than '..Said'. Prove '..Said' where nothing that the law and all that it calls make is longer than what came in: it says more and counts as full. Else prove '..UptoSaid'. A law counts once. -/
mutual
def uptoBulk {H : Type} : DataW H → Nat
  | .lit (.string bytes) => bytes.length + 1
  | .lit _ => 1
  | .nil => 1
  | .ptr d => uptoBulk d + 1
  | .slice elems spare => uptoBulkAll elems + uptoBulkAll spare + 1
  | .agg parts => uptoBulkAll parts + 1
  | .iface _ d => uptoBulk d + 1
  | .map entries => uptoBulkEntries entries + 1
  | .held _ => 1
def uptoBulkAll {H : Type} : List (DataW H) → Nat
  | [] => 0
  | d :: r => uptoBulk d + uptoBulkAll r
def uptoBulkEntries {H : Type} : List (Lit × DataW H) → Nat
  | [] => 0
  | x :: r => uptoBulkEntry x + uptoBulkEntries r
def uptoBulkEntry {H : Type} : Lit × DataW H → Nat
  | (.string bytes, d) => bytes.length + uptoBulk d + 1
  | (_, d) => uptoBulk d + 1
 end
def uptoSmall : (H : Type) → List (DataW H) → Bool := fun _ ds => decide (uptoBulkAll ds ≤ 1048576)
def OpenSpec.upto (s : _root_.Go.ChangeSpec) : _root_.Go.OpenSpec := { _root_.Go.OpenSpec.ofChange s with cond := some uptoSmall }

/-- 'chancerylaw1.UndoCountsMatch', WHERE WHAT IT READS IS OF BULK AT MOST 1048576: true; the input reads as it did. -/
def undoCountsMatchUptoRow : OpenClaim := { program := "ythhodpedkdapcaa", sum := "3d05e434931965a108cb3badc7a1e56d99ceeda15cfe21262ebeeed60aa044d2", func := "chancery/chancerylaw1.UndoCountsMatch", spec := "undoCountsMatch", recurses := true, apart := false, narrowed := true }
def UndoCountsMatchUptoSaid : Prop := undoCountsMatchUptoRow.holds Try.pinned (OpenSpec.upto undoCountsMatchSpec)

/-- 'chancerylaw1.SpanSetsMatch', WHERE WHAT IT READS IS OF BULK AT MOST 1048576: true; the input reads as it did. -/
def spanSetsMatchUptoRow : OpenClaim := { program := "ythhodpedkdapcaa", sum := "3d05e434931965a108cb3badc7a1e56d99ceeda15cfe21262ebeeed60aa044d2", func := "chancery/chancerylaw1.SpanSetsMatch", spec := "spanSetsMatch", unfollowed := true, recurses := true, apart := false, narrowed := true }
def SpanSetsMatchUptoSaid : Prop := spanSetsMatchUptoRow.holds Try.pinned (OpenSpec.upto spanSetsMatchSpec)

/-- 'chancerylaw1.AxisApplyMatches', WHERE WHAT IT READS IS OF BULK AT MOST 1048576: true; the input reads as it did. -/
def axisApplyMatchesUptoRow : OpenClaim := { program := "ythhodpedkdapcaa", sum := "3d05e434931965a108cb3badc7a1e56d99ceeda15cfe21262ebeeed60aa044d2", func := "chancery/chancerylaw1.AxisApplyMatches", spec := "axisApplyMatches", apart := false, narrowed := true }
def AxisApplyMatchesUptoSaid : Prop := axisApplyMatchesUptoRow.holds Try.pinned (OpenSpec.upto axisApplyMatchesSpec)

/-- 'chancerylaw1.AttrCheckSays', WHERE WHAT IT READS IS OF BULK AT MOST 1048576: true; the input reads as it did. -/
def attrCheckSaysUptoRow : OpenClaim := { program := "ythhodpedkdapcaa", sum := "3d05e434931965a108cb3badc7a1e56d99ceeda15cfe21262ebeeed60aa044d2", func := "chancery/chancerylaw1.AttrCheckSays", spec := "attrCheckSays", unfollowed := true, recurses := true, apart := false, narrowed := true }
def AttrCheckSaysUptoSaid : Prop := attrCheckSaysUptoRow.holds Try.pinned (OpenSpec.upto attrCheckSaysSpec)

/-- 'chancerylaw1.AttrApplyMatches', WHERE WHAT IT READS IS OF BULK AT MOST 1048576: true; the input reads as it did. -/
def attrApplyMatchesUptoRow : OpenClaim := { program := "ythhodpedkdapcaa", sum := "3d05e434931965a108cb3badc7a1e56d99ceeda15cfe21262ebeeed60aa044d2", func := "chancery/chancerylaw1.AttrApplyMatches", spec := "attrApplyMatches", unfollowed := true, recurses := true, apart := false, narrowed := true }
def AttrApplyMatchesUptoSaid : Prop := attrApplyMatchesUptoRow.holds Try.pinned (OpenSpec.upto attrApplyMatchesSpec)

/-- 'chancerylaw1.TrackShownMatches', WHERE WHAT IT READS IS OF BULK AT MOST 1048576: true; the input reads as it did. -/
def trackShownMatchesUptoRow : OpenClaim := { program := "ythhodpedkdapcaa", sum := "3d05e434931965a108cb3badc7a1e56d99ceeda15cfe21262ebeeed60aa044d2", func := "chancery/chancerylaw1.TrackShownMatches", spec := "trackShownMatches", apart := false, narrowed := true }
def TrackShownMatchesUptoSaid : Prop := trackShownMatchesUptoRow.holds Try.pinned (OpenSpec.upto trackShownMatchesSpec)

/-- 'chancerylaw1.AttrBetweenMatches', WHERE WHAT IT READS IS OF BULK AT MOST 1048576: true; the input reads as it did. -/
def attrBetweenMatchesUptoRow : OpenClaim := { program := "ythhodpedkdapcaa", sum := "3d05e434931965a108cb3badc7a1e56d99ceeda15cfe21262ebeeed60aa044d2", func := "chancery/chancerylaw1.AttrBetweenMatches", spec := "attrBetweenMatches", unfollowed := true, recurses := true, apart := false, narrowed := true }
def AttrBetweenMatchesUptoSaid : Prop := attrBetweenMatchesUptoRow.holds Try.pinned (OpenSpec.upto attrBetweenMatchesSpec)

/-- 'chancerylaw1.AttrPairMatches', WHERE WHAT IT READS IS OF BULK AT MOST 1048576: true; the input reads as it did. -/
def attrPairMatchesUptoRow : OpenClaim := { program := "ythhodpedkdapcaa", sum := "3d05e434931965a108cb3badc7a1e56d99ceeda15cfe21262ebeeed60aa044d2", func := "chancery/chancerylaw1.AttrPairMatches", spec := "attrPairMatches", unfollowed := true, recurses := true, apart := false, narrowed := true }
def AttrPairMatchesUptoSaid : Prop := attrPairMatchesUptoRow.holds Try.pinned (OpenSpec.upto attrPairMatchesSpec)

/-- 'chancerylaw1.AxisCheckSays', WHERE WHAT IT READS IS OF BULK AT MOST 1048576: true; the input reads as it did. -/
def axisCheckSaysUptoRow : OpenClaim := { program := "ythhodpedkdapcaa", sum := "3d05e434931965a108cb3badc7a1e56d99ceeda15cfe21262ebeeed60aa044d2", func := "chancery/chancerylaw1.AxisCheckSays", spec := "axisCheckSays", apart := false, narrowed := true }
def AxisCheckSaysUptoSaid : Prop := axisCheckSaysUptoRow.holds Try.pinned (OpenSpec.upto axisCheckSaysSpec)

/-- 'chancerylaw1.AxisGapMatches', WHERE WHAT IT READS IS OF BULK AT MOST 1048576: true; the input reads as it did. -/
def axisGapMatchesUptoRow : OpenClaim := { program := "ythhodpedkdapcaa", sum := "3d05e434931965a108cb3badc7a1e56d99ceeda15cfe21262ebeeed60aa044d2", func := "chancery/chancerylaw1.AxisGapMatches", spec := "axisGapMatches", apart := false, narrowed := true }
def AxisGapMatchesUptoSaid : Prop := axisGapMatchesUptoRow.holds Try.pinned (OpenSpec.upto axisGapMatchesSpec)

/-- 'chancerylaw1.AxisPairMatches', WHERE WHAT IT READS IS OF BULK AT MOST 1048576: true; the input reads as it did. -/
def axisPairMatchesUptoRow : OpenClaim := { program := "ythhodpedkdapcaa", sum := "3d05e434931965a108cb3badc7a1e56d99ceeda15cfe21262ebeeed60aa044d2", func := "chancery/chancerylaw1.AxisPairMatches", spec := "axisPairMatches", apart := false, narrowed := true }
def AxisPairMatchesUptoSaid : Prop := axisPairMatchesUptoRow.holds Try.pinned (OpenSpec.upto axisPairMatchesSpec)

end Rows
end Go.Proofs.Ythhodpedkdapcaa
