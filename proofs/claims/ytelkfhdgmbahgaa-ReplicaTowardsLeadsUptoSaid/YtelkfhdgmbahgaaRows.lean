/-
  No cell of these rows narrows 'for every input' (looked for: loops, veiled, ifaces, maps, wideKeys, modest, calm, conditions, laid).
  DERIVED. THE GIVEN ROWS OF THIS SEAT. 4 by the template 'for every input the law returns true; each argument reads behind the call as it read before'; 0 by the template 'total and deterministic' (their statements: YtelkfhdgmbahgaaTotals.lean).
  GIVEN WITH THE SEED: the statements are not yours to turn. If you find one false, say at which input.
  Laid BY PROGRAM, IN A SANDBOX (cutbox-rows.mjs): the forced cells as the released guide's own fill.sh prints them over the translation 90bc4a15ae33b80c… (all of the seat's roots in one cut). By AI agents, Wed Nov 11 2026. No macro, syntax, notation, axiom, sorry.
-/
import Derived.Test.YtelkfhdgmbahgaaChecked
import GoSem.Claim
import GoSem.ClaimJoined
import GoSem.ClaimMapViews
import Derived.JoinedTies
import Derived.KernelRfl
namespace Go.Proofs.Ytelkfhdgmbahgaa
/- THE CELL 'sum', in the pinned program and in every row, IS THE sha256 OF THE DUMP (.gsa) THAT YtelkfhdgmbahgaaProg.lean LOADS. Nothing in Lean hashes anything: it is a label: what it is worth is what the hold of that sum in a sandbox is worth. -/
noncomputable def Try.pinned : Pinned := { name := "ytelkfhdgmbahgaa", sum := "90bc4a15ae33b80cf5a566d9e44747383916f9a50103ce4769f74d007c6170a7", checked := Try.checked }
namespace Rows
def none {H : Type} : Left H := { results := [], args := [] }

/-- 'chancerylaw1.ReplicaItemsMatch': WHATEVER THE INPUT: true; the input reads as it did. -/
def replicaItemsMatchSpec : ChangeSpec := { name := "replicaItemsMatch", fn := fun _ => fun
  | [d] => { results := [.lit (.bool true)], args := [d] }
  | _ => none }
def replicaItemsMatchRow : OpenClaim := { program := "ytelkfhdgmbahgaa", sum := "90bc4a15ae33b80cf5a566d9e44747383916f9a50103ce4769f74d007c6170a7", func := "chancery/chancerylaw1.ReplicaItemsMatch", spec := "replicaItemsMatch", unfollowed := true, recurses := true, apart := false }
def ReplicaItemsMatchSaid : Prop := replicaItemsMatchRow.holds Try.pinned (OpenSpec.ofChange replicaItemsMatchSpec)

/-- ITS FALSE NEIGHBOUR: 'it returns false'. Refute it at one input. -/
def replicaItemsMatchWrong : ChangeSpec := { name := "replicaItemsMatch", fn := fun _ => fun
  | [d] => { results := [.lit (.bool false)], args := [d] }
  | _ => none }
def ReplicaItemsMatchWrongFalsely : Prop := replicaItemsMatchRow.holds Try.pinned (OpenSpec.ofChange replicaItemsMatchWrong)

/-- 'chancerylaw1.ReplicaCheckSays': WHATEVER THE INPUT: true; the input reads as it did. -/
def replicaCheckSaysSpec : ChangeSpec := { name := "replicaCheckSays", fn := fun _ => fun
  | [d1, d2, d3] => { results := [.lit (.bool true)], args := [d1, d2, d3] }
  | _ => none }
def replicaCheckSaysRow : OpenClaim := { program := "ytelkfhdgmbahgaa", sum := "90bc4a15ae33b80cf5a566d9e44747383916f9a50103ce4769f74d007c6170a7", func := "chancery/chancerylaw1.ReplicaCheckSays", spec := "replicaCheckSays", unfollowed := true, recurses := true, apart := false }
def ReplicaCheckSaysSaid : Prop := replicaCheckSaysRow.holds Try.pinned (OpenSpec.ofChange replicaCheckSaysSpec)

/-- ITS FALSE NEIGHBOUR: 'it returns false'. Refute it at one input. -/
def replicaCheckSaysWrong : ChangeSpec := { name := "replicaCheckSays", fn := fun _ => fun
  | [d1, d2, d3] => { results := [.lit (.bool false)], args := [d1, d2, d3] }
  | _ => none }
def ReplicaCheckSaysWrongFalsely : Prop := replicaCheckSaysRow.holds Try.pinned (OpenSpec.ofChange replicaCheckSaysWrong)

/-- 'chancerylaw1.ReplicaBetweenMatches': WHATEVER THE INPUT: true; the input reads as it did. -/
def replicaBetweenMatchesSpec : ChangeSpec := { name := "replicaBetweenMatches", fn := fun _ => fun
  | [d1, d2] => { results := [.lit (.bool true)], args := [d1, d2] }
  | _ => none }
def replicaBetweenMatchesRow : OpenClaim := { program := "ytelkfhdgmbahgaa", sum := "90bc4a15ae33b80cf5a566d9e44747383916f9a50103ce4769f74d007c6170a7", func := "chancery/chancerylaw1.ReplicaBetweenMatches", spec := "replicaBetweenMatches", unfollowed := true, recurses := true, apart := false }
def ReplicaBetweenMatchesSaid : Prop := replicaBetweenMatchesRow.holds Try.pinned (OpenSpec.ofChange replicaBetweenMatchesSpec)

/-- ITS FALSE NEIGHBOUR: 'it returns false'. Refute it at one input. -/
def replicaBetweenMatchesWrong : ChangeSpec := { name := "replicaBetweenMatches", fn := fun _ => fun
  | [d1, d2] => { results := [.lit (.bool false)], args := [d1, d2] }
  | _ => none }
def ReplicaBetweenMatchesWrongFalsely : Prop := replicaBetweenMatchesRow.holds Try.pinned (OpenSpec.ofChange replicaBetweenMatchesWrong)

/-- 'chancerylaw1.ReplicaTowardsLeads': WHATEVER THE INPUT: true; the input reads as it did. -/
def replicaTowardsLeadsSpec : ChangeSpec := { name := "replicaTowardsLeads", fn := fun _ => fun
  | [d1, d2, d3, d4] => { results := [.lit (.bool true)], args := [d1, d2, d3, d4] }
  | _ => none }
def replicaTowardsLeadsRow : OpenClaim := { program := "ytelkfhdgmbahgaa", sum := "90bc4a15ae33b80cf5a566d9e44747383916f9a50103ce4769f74d007c6170a7", func := "chancery/chancerylaw1.ReplicaTowardsLeads", spec := "replicaTowardsLeads", unfollowed := true, recurses := true, apart := false }
def ReplicaTowardsLeadsSaid : Prop := replicaTowardsLeadsRow.holds Try.pinned (OpenSpec.ofChange replicaTowardsLeadsSpec)

/-- ITS FALSE NEIGHBOUR: 'it returns false'. Refute it at one input. -/
def replicaTowardsLeadsWrong : ChangeSpec := { name := "replicaTowardsLeads", fn := fun _ => fun
  | [d1, d2, d3, d4] => { results := [.lit (.bool false)], args := [d1, d2, d3, d4] }
  | _ => none }
def ReplicaTowardsLeadsWrongFalsely : Prop := replicaTowardsLeadsRow.holds Try.pinned (OpenSpec.ofChange replicaTowardsLeadsWrong)

/- THE SECOND FORM. 'bulk': how many values and letters a reading holds, each counted each time it is reached (what is shared counts as often as it is met; a slice's spare places count too). A statement '..UptoSaid' is the law's where the arguments, and the package variables that the reading takes, are together of bulk at most 1048576: NARROWER than '..Said'. Prove '..Said' where nothing that the law and all that it calls make is longer than what came in: it says more and counts as full. Else prove '..UptoSaid'. A law counts once. -/
mutual
def uptoBulk {H : Type} : DataW H → Nat
  | .lit (.string bytes) => bytes.length + 1
  | .lit _ => 1
  | .nil => 1
  | .ptr d => uptoBulk d + 1
  | .slice elems spare => uptoBulkAll elems + uptoBulkAll spare + 1
  | .agg parts => uptoBulkAll parts + 1
  | .iface _ d => uptoBulk d + 1
  | .map entries => uptoBulkEntries entries + 1
  | .held _ => 1
def uptoBulkAll {H : Type} : List (DataW H) → Nat
  | [] => 0
  | d :: r => uptoBulk d + uptoBulkAll r
def uptoBulkEntries {H : Type} : List (Lit × DataW H) → Nat
  | [] => 0
  | x :: r => uptoBulkEntry x + uptoBulkEntries r
def uptoBulkEntry {H : Type} : Lit × DataW H → Nat
  | (.string bytes, d) => bytes.length + uptoBulk d + 1
  | (_, d) => uptoBulk d + 1
 end
def uptoSmall : (H : Type) → List (DataW H) → Bool := fun _ ds => decide (uptoBulkAll ds ≤ 1048576)
def OpenSpec.upto (s : _root_.Go.ChangeSpec) : _root_.Go.OpenSpec := { _root_.Go.OpenSpec.ofChange s with cond := some uptoSmall }

/-- 'chancerylaw1.ReplicaItemsMatch', WHERE WHAT IT READS IS OF BULK AT MOST 1048576: true; the input reads as it did. -/
def replicaItemsMatchUptoRow : OpenClaim := { program := "ytelkfhdgmbahgaa", sum := "90bc4a15ae33b80cf5a566d9e44747383916f9a50103ce4769f74d007c6170a7", func := "chancery/chancerylaw1.ReplicaItemsMatch", spec := "replicaItemsMatch", unfollowed := true, recurses := true, apart := false, narrowed := true }
def ReplicaItemsMatchUptoSaid : Prop := replicaItemsMatchUptoRow.holds Try.pinned (OpenSpec.upto replicaItemsMatchSpec)

/-- 'chancerylaw1.ReplicaCheckSays', WHERE WHAT IT READS IS OF BULK AT MOST 1048576: true; the input reads as it did. -/
def replicaCheckSaysUptoRow : OpenClaim := { program := "ytelkfhdgmbahgaa", sum := "90bc4a15ae33b80cf5a566d9e44747383916f9a50103ce4769f74d007c6170a7", func := "chancery/chancerylaw1.ReplicaCheckSays", spec := "replicaCheckSays", unfollowed := true, recurses := true, apart := false, narrowed := true }
def ReplicaCheckSaysUptoSaid : Prop := replicaCheckSaysUptoRow.holds Try.pinned (OpenSpec.upto replicaCheckSaysSpec)

/-- 'chancerylaw1.ReplicaBetweenMatches', WHERE WHAT IT READS IS OF BULK AT MOST 1048576: true; the input reads as it did. -/
def replicaBetweenMatchesUptoRow : OpenClaim := { program := "ytelkfhdgmbahgaa", sum := "90bc4a15ae33b80cf5a566d9e44747383916f9a50103ce4769f74d007c6170a7", func := "chancery/chancerylaw1.ReplicaBetweenMatches", spec := "replicaBetweenMatches", unfollowed := true, recurses := true, apart := false, narrowed := true }
def ReplicaBetweenMatchesUptoSaid : Prop := replicaBetweenMatchesUptoRow.holds Try.pinned (OpenSpec.upto replicaBetweenMatchesSpec)

/-- 'chancerylaw1.ReplicaTowardsLeads', WHERE WHAT IT READS IS OF BULK AT MOST 1048576: true; the input reads as it did. -/
def replicaTowardsLeadsUptoRow : OpenClaim := { program := "ytelkfhdgmbahgaa", sum := "90bc4a15ae33b80cf5a566d9e44747383916f9a50103ce4769f74d007c6170a7", func := "chancery/chancerylaw1.ReplicaTowardsLeads", spec := "replicaTowardsLeads", unfollowed := true, recurses := true, apart := false, narrowed := true }
def ReplicaTowardsLeadsUptoSaid : Prop := replicaTowardsLeadsUptoRow.holds Try.pinned (OpenSpec.upto replicaTowardsLeadsSpec)

end Rows
end Go.Proofs.Ytelkfhdgmbahgaa
