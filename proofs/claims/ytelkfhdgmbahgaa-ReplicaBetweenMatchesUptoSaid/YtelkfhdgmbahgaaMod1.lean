/- Models, as printed. -/
import Derived.Test.YtelkfhdgmbahgaaAl2
namespace Go.Proofs.Ytelkfhdgmbahgaa.Al
structure GAxisStep where
 Kind : Int
 N : Int
deriving DecidableEq
instance : Inhabited GAxisStep := ⟨⟨0, 0⟩⟩
@[reducible] def GAxisStep.row (x : GAxisStep) : List RV := [.int .i64 x.Kind, .int .i64 x.N]
structure Axis_Reader where
 steps : List GAxisStep
 used : Int
deriving DecidableEq
instance : Inhabited Axis_Reader := ⟨⟨[], 0⟩⟩
@[reducible] def Axis_Reader.row (x : Axis_Reader) : List RV := [.sl (x.steps.map GAxisStep.row), .int .i64 x.used]
structure Axis_Writer where
 out : List GAxisStep
 add : Int
 cut : Int
deriving DecidableEq
instance : Inhabited Axis_Writer := ⟨⟨[], 0, 0⟩⟩
@[reducible] def Axis_Writer.row (x : Axis_Writer) : List RV := [.sl (x.out.map GAxisStep.row), .int .i64 x.add, .int .i64 x.cut]
structure GAttr where
 Name : List UInt8
 Value : List UInt8
deriving DecidableEq
instance : Inhabited GAttr := ⟨⟨[], []⟩⟩
@[reducible] def GAttr.row (x : GAttr) : List RV := [.str x.Name, .str x.Value]
structure GElem where
 Char : Int
 Ref : Int
 Attrs : List GAttr
deriving DecidableEq
instance : Inhabited GElem := ⟨⟨0, 0, []⟩⟩
@[reducible] def GElem.row (x : GElem) : List RV := [.int .i64 x.Char, .int .i64 x.Ref, .sl (x.Attrs.map GAttr.row)]
structure GCell where
 Row : Int
 Col : Int
 Text : List UInt8
 Ref : Int
 Attrs : List GAttr
deriving DecidableEq
instance : Inhabited GCell := ⟨⟨0, 0, [], 0, []⟩⟩
@[reducible] def GCell.row (x : GCell) : List RV := [.int .i64 x.Row, .int .i64 x.Col, .str x.Text, .int .i64 x.Ref, .sl (x.Attrs.map GAttr.row)]
structure GRect where
 Row : Int
 Col : Int
 H : Int
 W : Int
deriving DecidableEq
instance : Inhabited GRect := ⟨⟨0, 0, 0, 0⟩⟩
@[reducible] def GRect.row (x : GRect) : List RV := [.int .i64 x.Row, .int .i64 x.Col, .int .i64 x.H, .int .i64 x.W]
structure GGrid where
 Rows : Int
 Cols : Int
 Cells : List GCell
 Merges : List GRect
deriving DecidableEq
instance : Inhabited GGrid := ⟨⟨0, 0, [], []⟩⟩
@[reducible] def GGrid.row (x : GGrid) : List RV := [.int .i64 x.Rows, .int .i64 x.Cols, .sl (x.Cells.map GCell.row), .sl (x.Merges.map GRect.row)]
structure GDrawOp where
 Clock : Int
 Site : Int
 Kind : Int
 Item : Int
 Parent : Int
 Place : List UInt8
 Name : List UInt8
 Value : List UInt8
deriving DecidableEq
instance : Inhabited GDrawOp := ⟨⟨0, 0, 0, 0, 0, [], [], []⟩⟩
@[reducible] def GDrawOp.row (x : GDrawOp) : List RV := [.int .i64 x.Clock, .int .i64 x.Site, .int .i64 x.Kind, .int .i64 x.Item, .int .i64 x.Parent, .str x.Place, .str x.Name, .str x.Value]
structure GNode where
 ID : Int
 Kind : Int
 Attrs : List GAttr
 Flow : List GElem
 Grid : GGrid
 Draw : List GDrawOp
deriving DecidableEq
instance : Inhabited GNode := ⟨⟨0, 0, [], [], (GGrid.mk 0 0 [] []), []⟩⟩
@[reducible] def GNode.row (x : GNode) : List RV := [.int .i64 x.ID, .int .i64 x.Kind, .sl (x.Attrs.map GAttr.row), .sl (x.Flow.map GElem.row), .int .i64 x.Grid.Rows, .int .i64 x.Grid.Cols, .sl (x.Grid.Cells.map GCell.row), .sl (x.Grid.Merges.map GRect.row), .sl (x.Draw.map GDrawOp.row)]
structure GStep where
 Kind : Int
 N : Int
 Attrs : List GAttr
 Elems : List GElem
deriving DecidableEq
instance : Inhabited GStep := ⟨⟨0, 0, [], []⟩⟩
@[reducible] def GStep.row (x : GStep) : List RV := [.int .i64 x.Kind, .int .i64 x.N, .sl (x.Attrs.map GAttr.row), .sl (x.Elems.map GElem.row)]
structure GGridEdit where
 Rows : List GAxisStep
 Cols : List GAxisStep
 Cells : List GCell
 Split : List GRect
 Merge : List GRect
deriving DecidableEq
instance : Inhabited GGridEdit := ⟨⟨[], [], [], [], []⟩⟩
@[reducible] def GGridEdit.row (x : GGridEdit) : List RV := [.sl (x.Rows.map GAxisStep.row), .sl (x.Cols.map GAxisStep.row), .sl (x.Cells.map GCell.row), .sl (x.Split.map GRect.row), .sl (x.Merge.map GRect.row)]
structure GOp where
 Kind : Int
 Node : Int
 New : GNode
 Attrs : List GAttr
 Steps : List GStep
 Grid : GGridEdit
 Draw : List GDrawOp
deriving DecidableEq
instance : Inhabited GOp := ⟨⟨0, 0, (GNode.mk 0 0 [] [] (GGrid.mk 0 0 [] []) []), [], [], (GGridEdit.mk [] [] [] [] []), []⟩⟩
@[reducible] def GOp.row (x : GOp) : List RV := [.int .i64 x.Kind, .int .i64 x.Node, .int .i64 x.New.ID, .int .i64 x.New.Kind, .sl (x.New.Attrs.map GAttr.row), .sl (x.New.Flow.map GElem.row), .int .i64 x.New.Grid.Rows, .int .i64 x.New.Grid.Cols, .sl (x.New.Grid.Cells.map GCell.row), .sl (x.New.Grid.Merges.map GRect.row), .sl (x.New.Draw.map GDrawOp.row), .sl (x.Attrs.map GAttr.row), .sl (x.Steps.map GStep.row), .sl (x.Grid.Rows.map GAxisStep.row), .sl (x.Grid.Cols.map GAxisStep.row), .sl (x.Grid.Cells.map GCell.row), .sl (x.Grid.Split.map GRect.row), .sl (x.Grid.Merge.map GRect.row), .sl (x.Draw.map GDrawOp.row)]
structure GEntry where
 Site : Int
 Number : Int
 Change : List GOp
 Undoes : Int
 Refused : Int
deriving DecidableEq
instance : Inhabited GEntry := ⟨⟨0, 0, [], 0, 0⟩⟩
@[reducible] def GEntry.row (x : GEntry) : List RV := [.int .i64 x.Site, .int .i64 x.Number, .sl (x.Change.map GOp.row), .int .i64 x.Undoes, .int .i64 x.Refused]
structure GSpan where
 From : Int
 To : Int
deriving DecidableEq
instance : Inhabited GSpan := ⟨⟨0, 0⟩⟩
@[reducible] def GSpan.row (x : GSpan) : List RV := [.int .i64 x.From, .int .i64 x.To]
end Go.Proofs.Ytelkfhdgmbahgaa.Al


namespace Go.Proofs.Ytelkfhdgmbahgaa.Al
structure GDrawItem where
 Item : Int
 Parent : Int
 Place : List UInt8
 Attrs : List GAttr
deriving DecidableEq
instance : Inhabited GDrawItem := ⟨⟨0, 0, [], []⟩⟩
@[reducible] def GDrawItem.row (x : GDrawItem) : List RV := [.int .i64 x.Item, .int .i64 x.Parent, .str x.Place, .sl (x.Attrs.map GAttr.row)]
noncomputable def law_draws : Option (Bool) :=
 some true
noncomputable def replica_Place_L1 (s1 : List UInt8) (x3 : Int) : Option (Int ⊕ (Ctl Unit Bool)) :=
 if (decide (x3 < (s1.length : Int))) then (
 bnd1 (idx s1 x3) fun (ch2 : UInt8) =>
 if ((decide ((ch2.toNat : Int) < 97)) || (decide (122 < (ch2.toNat : Int)))) then (
 some (.inr (.ext false))
 ) else (
 bnd1 (chk .i64 (x3 + 1)) fun (x5 : Int) =>
 some (.inl x5)
 )
 ) else (
 some (.inr (.nrm ()))
 )
noncomputable def replica_Place (s1 : List UInt8) : Option (Bool) :=
 bnd1 (gd (((decide (s1 = [])) || (decide (200 < (s1.length : Int)))) == false) (chk .i64 ((s1.length : Int) - 1))) fun (x1 : Int) =>
 bnd1 (gd (((decide (s1 = [])) || (decide (200 < (s1.length : Int)))) == false) (idx s1 x1)) fun (ch1 : UInt8) =>
 if (((decide (s1 = [])) || (decide (200 < (s1.length : Int)))) || (decide ((ch1.toNat : Int) = 97))) then (
 some false
 ) else (
 ctl1 (iter (fun (a : Int) => replica_Place_L1 s1 a) 0) fun (u2 : Unit) =>
 some true
 )
noncomputable def ref_Place_L1 (s1 : List UInt8) (x2 : Int) : Option (Int ⊕ (Ctl Unit Bool)) :=
 if (decide (x2 < (s1.length : Int))) then (
 bnd1 (idx s1 x2) fun (ch2 : UInt8) =>
 if ((decide ((ch2.toNat : Int) < 97)) || (decide (122 < (ch2.toNat : Int)))) then (
 some (.inr (.ext false))
 ) else (
 bnd1 (chk .i64 (x2 + 1)) fun (x5 : Int) =>
 some (.inl x5)
 )
 ) else (
 some (.inr (.nrm ()))
 )
noncomputable def ref_Place (s1 : List UInt8) : Option (Bool) :=
 ctl1 (iter (fun (a : Int) => ref_Place_L1 s1 a) 0) fun (u2 : Unit) =>
 bnd1 (gd (((decide (1 ≤ (s1.length : Int))) && (decide ((s1.length : Int) ≤ 200))) == true) (chk .i64 ((s1.length : Int) - 1))) fun (x4 : Int) =>
 bnd1 (gd (((decide (1 ≤ (s1.length : Int))) && (decide ((s1.length : Int) ≤ 200))) == true) (idx s1 x4)) fun (ch1 : UInt8) =>
 some (((decide (1 ≤ (s1.length : Int))) && (decide ((s1.length : Int) ≤ 200))) && (!decide ((ch1.toNat : Int) = 97)))
noncomputable def replica_Between_L1 (a1 : List UInt8) (b1 : List UInt8) (i4 : Int) (open2 : Bool) (out2 : List Int) : Option ((Int × Bool × (List Int)) ⊕ (List Int)) :=
 bnd1 (
 if (decide (i4 < (a1.length : Int))) then (
 bnd1 (idx a1 i4) fun (ch2 : UInt8) =>
 some (IntKind.i64.wrap (IntKind.u8.wrap ((ch2.toNat : Int) - 97)))
 ) else (
 some 0
 )
 ) fun (x1 : Int) =>
 bnd1 (
 if (!open2) then (
 bnd1 (idx b1 i4) fun (ch1 : UInt8) =>
 some (IntKind.i64.wrap (IntKind.u8.wrap ((ch1.toNat : Int) - 97)))
 ) else (
 some 26
 )
 ) fun (y1 : Int) =>
 bnd1 (chk .i64 (y1 - x1)) fun (x2 : Int) =>
 if (decide (2 ≤ x2)) then (
 bnd1 (chk .i64 (97 + x1)) fun (x3 : Int) =>
 bnd1 (quoM .i64 x2 2) fun (x4 : Int) =>
 bnd1 (chk .i64 (x3 + x4)) fun (x5 : Int) =>
 bnd1 (app 1 out2 [(IntKind.u8.wrap x5)]) fun (out5 : List Int) =>
 some (.inr out5)
 ) else (
 bnd1 (chk .i64 (97 + x1)) fun (x6 : Int) =>
 bnd1 (app 1 out2 [(IntKind.u8.wrap x6)]) fun (out6 : List Int) =>
 bnd1 (chk .i64 (i4 + 1)) fun (i11 : Int) =>
 some (.inl (i11, (open2 || (decide (x1 < y1))), out6))
 )
noncomputable def replica_Between (a1 : List UInt8) (b1 : List UInt8) : Option ((List UInt8) × Int) :=
 bnd1 (gd ((!decide (a1 = [])) == true) (replica_Place a1)) fun (r1 : Bool) =>
 bnd1 (gd ((((!decide (a1 = [])) && (!r1)) == false) && ((!decide (b1 = [])) == true)) (replica_Place b1)) fun (r2 : Bool) =>
 if (((!decide (a1 = [])) && (!r1)) || ((!decide (b1 = [])) && (!r2))) then (
 some ([], 9)
 ) else (
 if (((!decide (a1 = [])) && (!decide (b1 = []))) && (!sLt a1 b1)) then (
 some ([], 5)
 ) else (
 bnd1 (iter (fun (a : Int × Bool × (List Int)) => replica_Between_L1 a1 b1 a.1 a.2.1 a.2.2) (0, (decide (b1 = [])), [])) fun (out4 : List Int) =>
 if (decide (200 < (out4.length : Int))) then (
 some ([], 18)
 ) else (
 some ((strOf out4), 0)
 )
 )
 )
noncomputable def law_ReplicaBetweenMatches_L1 (a1 : List UInt8) (b1 : List UInt8) (i4 : Int) (want2 : List Int) : Option ((Int × (List Int)) ⊕ (List Int)) :=
 bnd1 (
 if (decide (i4 < (a1.length : Int))) then (
 bnd1 (idx a1 i4) fun (ch2 : UInt8) =>
 bnd1 (chk .i64 ((IntKind.i64.wrap (ch2.toNat : Int)) - 97)) fun (x7 : Int) =>
 some x7
 ) else (
 some 0
 )
 ) fun (x1 : Int) =>
 bnd1 (gd (((!decide (b1 = [])) && (decide (i4 < (b1.length : Int)))) == true) (slc b1 0 i4)) fun (s1 : List UInt8) =>
 bnd1 (
 if (((!decide (b1 = [])) && (decide (i4 < (b1.length : Int)))) && (decide ((strOf want2) = s1))) then (
 bnd1 (idx b1 i4) fun (ch1 : UInt8) =>
 bnd1 (chk .i64 ((IntKind.i64.wrap (ch1.toNat : Int)) - 97)) fun (y2 : Int) =>
 some y2
 ) else (
 some 26
 )
 ) fun (y1 : Int) =>
 bnd1 (chk .i64 (y1 - x1)) fun (x2 : Int) =>
 if (decide (1 < x2)) then (
 bnd1 (chk .i64 (x1 + y1)) fun (x3 : Int) =>
 bnd1 (quoM .i64 x3 2) fun (x4 : Int) =>
 bnd1 (chk .i64 (97 + x4)) fun (x5 : Int) =>
 bnd1 (app 1 want2 [(IntKind.u8.wrap x5)]) fun (want5 : List Int) =>
 some (.inr want5)
 ) else (
 bnd1 (chk .i64 (97 + x1)) fun (x6 : Int) =>
 bnd1 (app 1 want2 [(IntKind.u8.wrap x6)]) fun (want6 : List Int) =>
 bnd1 (chk .i64 (i4 + 1)) fun (i11 : Int) =>
 some (.inl (i11, want6))
 )
noncomputable def law_ReplicaBetweenMatches (a1 : List UInt8) (b1 : List UInt8) : Option (Bool) :=
 bnd1 (law_draws) fun (r1 : Bool) =>
 if (!r1) then (
 some false
 ) else (
 bnd2 (replica_Between a1 b1) fun (r2 : List UInt8) (r3 : Int) =>
 bnd1 (gd ((!decide (a1 = [])) == true) (ref_Place a1)) fun (r4 : Bool) =>
 bnd1 (gd ((((!decide (a1 = [])) && (!r4)) == false) && ((!decide (b1 = [])) == true)) (ref_Place b1)) fun (r5 : Bool) =>
 if (((!decide (a1 = [])) && (!r4)) || ((!decide (b1 = [])) && (!r5))) then (
 some ((decide (r3 = 9)) && (decide (r2 = [])))
 ) else (
 if (((!decide (a1 = [])) && (!decide (b1 = []))) && (!sLt a1 b1)) then (
 some ((decide (r3 = 5)) && (decide (r2 = [])))
 ) else (
 bnd1 (iter (fun (a : Int × (List Int)) => law_ReplicaBetweenMatches_L1 a1 b1 a.1 a.2) (0, [])) fun (want4 : List Int) =>
 if (decide (200 < (want4.length : Int))) then (
 some ((decide (r3 = 18)) && (decide (r2 = [])))
 ) else (
 some ((decide (r3 = 0)) && (decide (r2 = (strOf want4))))
 )
 )
 )
 )
end Go.Proofs.Ytelkfhdgmbahgaa.Al

