/- Models, as printed. -/
import Derived.Test.YtelkfhdgmbahgaaAl2
namespace Go.Proofs.Ytelkfhdgmbahgaa.Al
structure GAxisStep where
 Kind : Int
 N : Int
deriving DecidableEq
instance : Inhabited GAxisStep := ⟨⟨0, 0⟩⟩
@[reducible] def GAxisStep.row (x : GAxisStep) : List RV := [.int .i64 x.Kind, .int .i64 x.N]
structure Axis_Reader where
 steps : List GAxisStep
 used : Int
deriving DecidableEq
instance : Inhabited Axis_Reader := ⟨⟨[], 0⟩⟩
@[reducible] def Axis_Reader.row (x : Axis_Reader) : List RV := [.sl (x.steps.map GAxisStep.row), .int .i64 x.used]
structure Axis_Writer where
 out : List GAxisStep
 add : Int
 cut : Int
deriving DecidableEq
instance : Inhabited Axis_Writer := ⟨⟨[], 0, 0⟩⟩
@[reducible] def Axis_Writer.row (x : Axis_Writer) : List RV := [.sl (x.out.map GAxisStep.row), .int .i64 x.add, .int .i64 x.cut]
structure GAttr where
 Name : List UInt8
 Value : List UInt8
deriving DecidableEq
instance : Inhabited GAttr := ⟨⟨[], []⟩⟩
@[reducible] def GAttr.row (x : GAttr) : List RV := [.str x.Name, .str x.Value]
structure GElem where
 Char : Int
 Ref : Int
 Attrs : List GAttr
deriving DecidableEq
instance : Inhabited GElem := ⟨⟨0, 0, []⟩⟩
@[reducible] def GElem.row (x : GElem) : List RV := [.int .i64 x.Char, .int .i64 x.Ref, .sl (x.Attrs.map GAttr.row)]
structure GCell where
 Row : Int
 Col : Int
 Text : List UInt8
 Ref : Int
 Attrs : List GAttr
deriving DecidableEq
instance : Inhabited GCell := ⟨⟨0, 0, [], 0, []⟩⟩
@[reducible] def GCell.row (x : GCell) : List RV := [.int .i64 x.Row, .int .i64 x.Col, .str x.Text, .int .i64 x.Ref, .sl (x.Attrs.map GAttr.row)]
structure GRect where
 Row : Int
 Col : Int
 H : Int
 W : Int
deriving DecidableEq
instance : Inhabited GRect := ⟨⟨0, 0, 0, 0⟩⟩
@[reducible] def GRect.row (x : GRect) : List RV := [.int .i64 x.Row, .int .i64 x.Col, .int .i64 x.H, .int .i64 x.W]
structure GGrid where
 Rows : Int
 Cols : Int
 Cells : List GCell
 Merges : List GRect
deriving DecidableEq
instance : Inhabited GGrid := ⟨⟨0, 0, [], []⟩⟩
@[reducible] def GGrid.row (x : GGrid) : List RV := [.int .i64 x.Rows, .int .i64 x.Cols, .sl (x.Cells.map GCell.row), .sl (x.Merges.map GRect.row)]
structure GDrawOp where
 Clock : Int
 Site : Int
 Kind : Int
 Item : Int
 Parent : Int
 Place : List UInt8
 Name : List UInt8
 Value : List UInt8
deriving DecidableEq
instance : Inhabited GDrawOp := ⟨⟨0, 0, 0, 0, 0, [], [], []⟩⟩
@[reducible] def GDrawOp.row (x : GDrawOp) : List RV := [.int .i64 x.Clock, .int .i64 x.Site, .int .i64 x.Kind, .int .i64 x.Item, .int .i64 x.Parent, .str x.Place, .str x.Name, .str x.Value]
structure GNode where
 ID : Int
 Kind : Int
 Attrs : List GAttr
 Flow : List GElem
 Grid : GGrid
 Draw : List GDrawOp
deriving DecidableEq
instance : Inhabited GNode := ⟨⟨0, 0, [], [], (GGrid.mk 0 0 [] []), []⟩⟩
@[reducible] def GNode.row (x : GNode) : List RV := [.int .i64 x.ID, .int .i64 x.Kind, .sl (x.Attrs.map GAttr.row), .sl (x.Flow.map GElem.row), .int .i64 x.Grid.Rows, .int .i64 x.Grid.Cols, .sl (x.Grid.Cells.map GCell.row), .sl (x.Grid.Merges.map GRect.row), .sl (x.Draw.map GDrawOp.row)]
structure GStep where
 Kind : Int
 N : Int
 Attrs : List GAttr
 Elems : List GElem
deriving DecidableEq
instance : Inhabited GStep := ⟨⟨0, 0, [], []⟩⟩
@[reducible] def GStep.row (x : GStep) : List RV := [.int .i64 x.Kind, .int .i64 x.N, .sl (x.Attrs.map GAttr.row), .sl (x.Elems.map GElem.row)]
structure GGridEdit where
 Rows : List GAxisStep
 Cols : List GAxisStep
 Cells : List GCell
 Split : List GRect
 Merge : List GRect
deriving DecidableEq
instance : Inhabited GGridEdit := ⟨⟨[], [], [], [], []⟩⟩
@[reducible] def GGridEdit.row (x : GGridEdit) : List RV := [.sl (x.Rows.map GAxisStep.row), .sl (x.Cols.map GAxisStep.row), .sl (x.Cells.map GCell.row), .sl (x.Split.map GRect.row), .sl (x.Merge.map GRect.row)]
structure GOp where
 Kind : Int
 Node : Int
 New : GNode
 Attrs : List GAttr
 Steps : List GStep
 Grid : GGridEdit
 Draw : List GDrawOp
deriving DecidableEq
instance : Inhabited GOp := ⟨⟨0, 0, (GNode.mk 0 0 [] [] (GGrid.mk 0 0 [] []) []), [], [], (GGridEdit.mk [] [] [] [] []), []⟩⟩
@[reducible] def GOp.row (x : GOp) : List RV := [.int .i64 x.Kind, .int .i64 x.Node, .int .i64 x.New.ID, .int .i64 x.New.Kind, .sl (x.New.Attrs.map GAttr.row), .sl (x.New.Flow.map GElem.row), .int .i64 x.New.Grid.Rows, .int .i64 x.New.Grid.Cols, .sl (x.New.Grid.Cells.map GCell.row), .sl (x.New.Grid.Merges.map GRect.row), .sl (x.New.Draw.map GDrawOp.row), .sl (x.Attrs.map GAttr.row), .sl (x.Steps.map GStep.row), .sl (x.Grid.Rows.map GAxisStep.row), .sl (x.Grid.Cols.map GAxisStep.row), .sl (x.Grid.Cells.map GCell.row), .sl (x.Grid.Split.map GRect.row), .sl (x.Grid.Merge.map GRect.row), .sl (x.Draw.map GDrawOp.row)]
structure GEntry where
 Site : Int
 Number : Int
 Change : List GOp
 Undoes : Int
 Refused : Int
deriving DecidableEq
instance : Inhabited GEntry := ⟨⟨0, 0, [], 0, 0⟩⟩
@[reducible] def GEntry.row (x : GEntry) : List RV := [.int .i64 x.Site, .int .i64 x.Number, .sl (x.Change.map GOp.row), .int .i64 x.Undoes, .int .i64 x.Refused]
structure GSpan where
 From : Int
 To : Int
deriving DecidableEq
instance : Inhabited GSpan := ⟨⟨0, 0⟩⟩
@[reducible] def GSpan.row (x : GSpan) : List RV := [.int .i64 x.From, .int .i64 x.To]
noncomputable def ref_In (x1 : Int) (low1 : Int) (high1 : Int) : Option (Bool) :=
 some ((decide (low1 ≤ x1)) && (decide (x1 ≤ high1)))
noncomputable def attr_Name_L1 (s1 : List UInt8) (x2 : Int) : Option (Int ⊕ (Ctl Unit Bool)) :=
 if (decide (x2 < (s1.length : Int))) then (
 bnd1 (idx s1 x2) fun (c1 : UInt8) =>
 if (((((decide ((c1.toNat : Int) < 97)) || (decide (122 < (c1.toNat : Int)))) && ((decide ((c1.toNat : Int) < 48)) || (decide (57 < (c1.toNat : Int))))) && (!decide ((c1.toNat : Int) = 46))) && (!decide ((c1.toNat : Int) = 45))) then (
 some (.inr (.ext false))
 ) else (
 bnd1 (chk .i64 (x2 + 1)) fun (x4 : Int) =>
 some (.inl x4)
 )
 ) else (
 some (.inr (.nrm ()))
 )
noncomputable def attr_Name (s1 : List UInt8) : Option (Bool) :=
 bnd1 (gd (((decide (s1 = [])) || (decide (24 < (s1.length : Int)))) == false) (idx s1 0)) fun (ch1 : UInt8) =>
 bnd1 (gd ((((decide (s1 = [])) || (decide (24 < (s1.length : Int)))) || (decide ((ch1.toNat : Int) < 97))) == false) (idx s1 0)) fun (ch2 : UInt8) =>
 if ((((decide (s1 = [])) || (decide (24 < (s1.length : Int)))) || (decide ((ch1.toNat : Int) < 97))) || (decide (122 < (ch2.toNat : Int)))) then (
 some false
 ) else (
 ctl1 (iter (fun (a : Int) => attr_Name_L1 s1 a) 0) fun (u2 : Unit) =>
 some true
 )
noncomputable def attr_Value_L1 (s1 : List UInt8) (x2 : Int) : Option (Int ⊕ (Ctl Unit Bool)) :=
 if (decide (x2 < (s1.length : Int))) then (
 bnd1 (idx s1 x2) fun (ch1 : UInt8) =>
 if ((decide ((ch1.toNat : Int) < 32)) || (decide (126 < (ch1.toNat : Int)))) then (
 some (.inr (.ext false))
 ) else (
 bnd1 (chk .i64 (x2 + 1)) fun (x4 : Int) =>
 some (.inl x4)
 )
 ) else (
 some (.inr (.nrm ()))
 )
noncomputable def attr_Value (s1 : List UInt8) : Option (Bool) :=
 if ((decide (s1 = [])) || (decide (200 < (s1.length : Int)))) then (
 some false
 ) else (
 ctl1 (iter (fun (a : Int) => attr_Value_L1 s1 a) 0) fun (u2 : Unit) =>
 some true
 )
noncomputable def ref_Name_L1 (s1 : List UInt8) (x2 : Int) : Option (Int ⊕ (Ctl Unit Bool)) :=
 if (decide (x2 < (s1.length : Int))) then (
 bnd1 (idx s1 x2) fun (ch1 : UInt8) =>
 if ((!((decide (97 ≤ (ch1.toNat : Int))) && (decide ((ch1.toNat : Int) ≤ 122)))) && ((decide (x2 = 0)) || (((!decide ((ch1.toNat : Int) = 46)) && (!decide ((ch1.toNat : Int) = 45))) && ((decide ((ch1.toNat : Int) < 48)) || (decide (57 < (ch1.toNat : Int))))))) then (
 some (.inr (.ext false))
 ) else (
 bnd1 (chk .i64 (x2 + 1)) fun (x4 : Int) =>
 some (.inl x4)
 )
 ) else (
 some (.inr (.nrm ()))
 )
noncomputable def ref_Name (s1 : List UInt8) : Option (Bool) :=
 ctl1 (iter (fun (a : Int) => ref_Name_L1 s1 a) 0) fun (u2 : Unit) =>
 some ((decide (1 ≤ (s1.length : Int))) && (decide ((s1.length : Int) ≤ 24)))
noncomputable def ref_Value_L1 (s1 : List UInt8) (x2 : Int) : Option (Int ⊕ (Ctl Unit Bool)) :=
 if (decide (x2 < (s1.length : Int))) then (
 bnd1 (idx s1 x2) fun (ch1 : UInt8) =>
 if ((decide ((ch1.toNat : Int) < 32)) || (decide (126 < (ch1.toNat : Int)))) then (
 some (.inr (.ext false))
 ) else (
 bnd1 (chk .i64 (x2 + 1)) fun (x4 : Int) =>
 some (.inl x4)
 )
 ) else (
 some (.inr (.nrm ()))
 )
noncomputable def ref_Value (s1 : List UInt8) : Option (Bool) :=
 ctl1 (iter (fun (a : Int) => ref_Value_L1 s1 a) 0) fun (u2 : Unit) =>
 some ((decide (1 ≤ (s1.length : Int))) && (decide ((s1.length : Int) ≤ 200)))
end Go.Proofs.Ytelkfhdgmbahgaa.Al


namespace Go.Proofs.Ytelkfhdgmbahgaa.Al
structure GDrawItem where
 Item : Int
 Parent : Int
 Place : List UInt8
 Attrs : List GAttr
deriving DecidableEq
instance : Inhabited GDrawItem := ⟨⟨0, 0, [], []⟩⟩
@[reducible] def GDrawItem.row (x : GDrawItem) : List RV := [.int .i64 x.Item, .int .i64 x.Parent, .str x.Place, .sl (x.Attrs.map GAttr.row)]
noncomputable def law_draws : Option (Bool) :=
 some true
noncomputable def replica_Place_L1 (s1 : List UInt8) (x3 : Int) : Option (Int ⊕ (Ctl Unit Bool)) :=
 if (decide (x3 < (s1.length : Int))) then (
 bnd1 (idx s1 x3) fun (ch2 : UInt8) =>
 if ((decide ((ch2.toNat : Int) < 97)) || (decide (122 < (ch2.toNat : Int)))) then (
 some (.inr (.ext false))
 ) else (
 bnd1 (chk .i64 (x3 + 1)) fun (x5 : Int) =>
 some (.inl x5)
 )
 ) else (
 some (.inr (.nrm ()))
 )
noncomputable def replica_Place (s1 : List UInt8) : Option (Bool) :=
 bnd1 (gd (((decide (s1 = [])) || (decide (200 < (s1.length : Int)))) == false) (chk .i64 ((s1.length : Int) - 1))) fun (x1 : Int) =>
 bnd1 (gd (((decide (s1 = [])) || (decide (200 < (s1.length : Int)))) == false) (idx s1 x1)) fun (ch1 : UInt8) =>
 if (((decide (s1 = [])) || (decide (200 < (s1.length : Int)))) || (decide ((ch1.toNat : Int) = 97))) then (
 some false
 ) else (
 ctl1 (iter (fun (a : Int) => replica_Place_L1 s1 a) 0) fun (u2 : Unit) =>
 some true
 )
noncomputable def ref_Place_L1 (s1 : List UInt8) (x2 : Int) : Option (Int ⊕ (Ctl Unit Bool)) :=
 if (decide (x2 < (s1.length : Int))) then (
 bnd1 (idx s1 x2) fun (ch2 : UInt8) =>
 if ((decide ((ch2.toNat : Int) < 97)) || (decide (122 < (ch2.toNat : Int)))) then (
 some (.inr (.ext false))
 ) else (
 bnd1 (chk .i64 (x2 + 1)) fun (x5 : Int) =>
 some (.inl x5)
 )
 ) else (
 some (.inr (.nrm ()))
 )
noncomputable def ref_Place (s1 : List UInt8) : Option (Bool) :=
 ctl1 (iter (fun (a : Int) => ref_Place_L1 s1 a) 0) fun (u2 : Unit) =>
 bnd1 (gd (((decide (1 ≤ (s1.length : Int))) && (decide ((s1.length : Int) ≤ 200))) == true) (chk .i64 ((s1.length : Int) - 1))) fun (x4 : Int) =>
 bnd1 (gd (((decide (1 ≤ (s1.length : Int))) && (decide ((s1.length : Int) ≤ 200))) == true) (idx s1 x4)) fun (ch1 : UInt8) =>
 some (((decide (1 ≤ (s1.length : Int))) && (decide ((s1.length : Int) ≤ 200))) && (!decide ((ch1.toNat : Int) = 97)))
noncomputable def replica_op (o1 : GDrawOp) : Option (Int) :=
 if ((!decide (o1.Kind = 0)) && (!decide (o1.Kind = 1))) then (
 some 8
 ) else (
 if ((((((decide (o1.Clock < 1)) || (decide (1073741824 < o1.Clock))) || (decide (o1.Site < 0))) || (decide (1000 < o1.Site))) || (decide (o1.Item < 1))) || (decide (1073741824 < o1.Item))) then (
 some 2
 ) else (
 bnd1 (
 if ((decide (o1.Kind = 0)) && ((!decide (o1.Name = [])) || (!decide (o1.Value = [])))) then (
 some ((decide (o1.Kind = 0)) && ((!decide (o1.Name = [])) || (!decide (o1.Value = []))))
 ) else (
 some ((decide (o1.Kind = 1)) && ((!decide (o1.Parent = 0)) || (!decide (o1.Place = []))))
 )
 ) fun (x1 : Bool) =>
 if x1 then (
 some 4
 ) else (
 if ((decide (o1.Kind = 0)) && ((decide (o1.Parent < (-1))) || (decide (1073741824 < o1.Parent)))) then (
 some 2
 ) else (
 bnd1 (gd ((decide (o1.Kind = 0)) == true) (replica_Place o1.Place)) fun (r1 : Bool) =>
 bnd1 (
 if ((decide (o1.Kind = 0)) && (!r1)) then (
 some ((decide (o1.Kind = 0)) && (!r1))
 ) else (
 bnd1 (gd ((decide (o1.Kind = 1)) == true) (attr_Name o1.Name)) fun (r3 : Bool) =>
 some ((decide (o1.Kind = 1)) && (!r3))
 )
 ) fun (x2 : Bool) =>
 if x2 then (
 some 9
 ) else (
 bnd1 (gd (((decide (o1.Kind = 1)) && (!decide (o1.Value = []))) == true) (attr_Value o1.Value)) fun (r2 : Bool) =>
 if (((decide (o1.Kind = 1)) && (!decide (o1.Value = []))) && (!r2)) then (
 some 23
 ) else (
 some 0
 )
 )
 )
 )
 )
 )
noncomputable def cmp_isNaN_int (x1 : Int) : Option (Bool) :=
 some (!decide (x1 = x1))
noncomputable def cmp_Compare_int (x1 : Int) (y1 : Int) : Option (Int) :=
 bnd1 (cmp_isNaN_int x1) fun (xNaN1 : Bool) =>
 bnd1 (cmp_isNaN_int y1) fun (yNaN1 : Bool) =>
 if xNaN1 then (
 if yNaN1 then (
 some 0
 ) else (
 some (-1)
 )
 ) else (
 if yNaN1 then (
 some 1
 ) else (
 if (decide (x1 < y1)) then (
 some (-1)
 ) else (
 if (decide (y1 < x1)) then (
 some 1
 ) else (
 some 0
 )
 )
 )
 )
noncomputable def cmp_Or_int_L1 (vals1 : List Int) (x2 : Int) : Option (Int ⊕ (Ctl Unit Int)) :=
 if (decide (x2 < (vals1.length : Int))) then (
 bnd1 (idx vals1 x2) fun (x4 : Int) =>
 if (!decide (x4 = 0)) then (
 some (.inr (.ext x4))
 ) else (
 bnd1 (chk .i64 (x2 + 1)) fun (x5 : Int) =>
 some (.inl x5)
 )
 ) else (
 some (.inr (.nrm ()))
 )
noncomputable def cmp_Or_int (vals1 : List Int) : Option (Int) :=
 ctl1 (iter (fun (a : Int) => cmp_Or_int_L1 vals1 a) 0) fun (u2 : Unit) =>
 some 0
noncomputable def replica_stamps (a1 : GDrawOp) (b1 : GDrawOp) : Option (Int) :=
 bnd1 (cmp_Compare_int a1.Clock b1.Clock) fun (r1 : Int) =>
 bnd1 (cmp_Compare_int a1.Site b1.Site) fun (r2 : Int) =>
 bnd1 (cmp_Or_int [r1, r2]) fun (r3 : Int) =>
 some r3
noncomputable def replica_Check_L1 (l1 : List GDrawOp) (x2 : Int) : Option (Int ⊕ (Ctl Unit Int)) :=
 if (decide (x2 < (l1.length : Int))) then (
 bnd1 (idx l1 x2) fun (x4 : GDrawOp) =>
 bnd1 (replica_op x4) fun (e1 : Int) =>
 if (!decide (e1 = 0)) then (
 some (.inr (.ext e1))
 ) else (
 bnd1 (gd ((decide (0 < x2)) == true) (chk .i64 (x2 - 1))) fun (x5 : Int) =>
 bnd1 (gd ((decide (0 < x2)) == true) (idx l1 x5)) fun (x6 : GDrawOp) =>
 bnd1 (gd ((decide (0 < x2)) == true) (replica_stamps x6 x4)) fun (r1 : Int) =>
 if ((decide (0 < x2)) && (decide (0 ≤ r1))) then (
 some (.inr (.ext 5))
 ) else (
 bnd1 (chk .i64 (x2 + 1)) fun (x7 : Int) =>
 some (.inl x7)
 )
 )
 ) else (
 some (.inr (.nrm ()))
 )
noncomputable def replica_Check (l1 : List GDrawOp) : Option (Int) :=
 ctl1 (iter (fun (a : Int) => replica_Check_L1 l1 a) 0) fun (u2 : Unit) =>
 some 0
noncomputable def ref_Earlier (a1 : GDrawOp) (b1 : GDrawOp) : Option (Bool) :=
 some ((decide (a1.Clock < b1.Clock)) || ((decide (a1.Clock = b1.Clock)) && (decide (a1.Site < b1.Site))))
noncomputable def ref_DrawError_L1 (l1 : List GDrawOp) (x2 : Int) : Option (Int ⊕ (Ctl Unit Int)) :=
 if (decide (x2 < (l1.length : Int))) then (
 bnd1 (idx l1 x2) fun (x4 : GDrawOp) =>
 if ((!decide (x4.Kind = 0)) && (!decide (x4.Kind = 1))) then (
 some (.inr (.ext 8))
 ) else (
 bnd1 (ref_In x4.Clock 1 1073741824) fun (r1 : Bool) =>
 bnd1 (gd ((!r1) == false) (ref_In x4.Site 0 1000)) fun (r2 : Bool) =>
 bnd1 (gd (((!r1) || (!r2)) == false) (ref_In x4.Item 1 1073741824)) fun (r3 : Bool) =>
 if (((!r1) || (!r2)) || (!r3)) then (
 some (.inr (.ext 2))
 ) else (
 ctl1 (
 if (decide (x4.Kind = 0)) then (
 if ((!decide (x4.Name = [])) || (!decide (x4.Value = []))) then (
 some (.ext (.inr (.ext 4)))
 ) else (
 bnd1 (ref_In x4.Parent (-1) 1073741824) fun (r5 : Bool) =>
 if (!r5) then (
 some (.ext (.inr (.ext 2)))
 ) else (
 bnd1 (ref_Place x4.Place) fun (r6 : Bool) =>
 if (!r6) then (
 some (.ext (.inr (.ext 9)))
 ) else (
 some (.nrm ())
 )
 )
 )
 ) else (
 if ((!decide (x4.Parent = 0)) || (!decide (x4.Place = []))) then (
 some (.ext (.inr (.ext 4)))
 ) else (
 bnd1 (ref_Name x4.Name) fun (r7 : Bool) =>
 if (!r7) then (
 some (.ext (.inr (.ext 9)))
 ) else (
 bnd1 (gd ((!decide (x4.Value = [])) == true) (ref_Value x4.Value)) fun (r8 : Bool) =>
 if ((!decide (x4.Value = [])) && (!r8)) then (
 some (.ext (.inr (.ext 23)))
 ) else (
 some (.nrm ())
 )
 )
 )
 )
 ) fun (u3 : Unit) =>
 bnd1 (gd ((decide (0 < x2)) == true) (chk .i64 (x2 - 1))) fun (x5 : Int) =>
 bnd1 (gd ((decide (0 < x2)) == true) (idx l1 x5)) fun (x6 : GDrawOp) =>
 bnd1 (gd ((decide (0 < x2)) == true) (ref_Earlier x6 x4)) fun (r4 : Bool) =>
 if ((decide (0 < x2)) && (!r4)) then (
 some (.inr (.ext 5))
 ) else (
 bnd1 (chk .i64 (x2 + 1)) fun (x7 : Int) =>
 some (.inl x7)
 )
 )
 )
 ) else (
 some (.inr (.nrm ()))
 )
noncomputable def ref_DrawError (l1 : List GDrawOp) : Option (Int) :=
 ctl1 (iter (fun (a : Int) => ref_DrawError_L1 l1 a) 0) fun (u2 : Unit) =>
 some 0
noncomputable def replica_Both_L1 (a3 : List GDrawOp) (b3 : List GDrawOp) (out2 : List GDrawOp) : Option (((List GDrawOp) × (List GDrawOp) × (List GDrawOp)) ⊕ (Ctl (List GDrawOp) ((List GDrawOp) × Int))) :=
 if ((decide (0 < (a3.length : Int))) || (decide (0 < (b3.length : Int)))) then (
 bnd1 (gd (((decide ((b3.length : Int) = 0)) == false) && ((decide (0 < (a3.length : Int))) == true)) (idx a3 0)) fun (x1 : GDrawOp) =>
 bnd1 (gd (((decide ((b3.length : Int) = 0)) == false) && ((decide (0 < (a3.length : Int))) == true)) (idx b3 0)) fun (x2 : GDrawOp) =>
 bnd1 (gd (((decide ((b3.length : Int) = 0)) == false) && ((decide (0 < (a3.length : Int))) == true)) (replica_stamps x1 x2)) fun (r1 : Int) =>
 if ((decide ((b3.length : Int) = 0)) || ((decide (0 < (a3.length : Int))) && (decide (r1 < 0)))) then (
 bnd1 (idx a3 0) fun (x3 : GDrawOp) =>
 bnd1 (app 88 out2 [x3]) fun (out5 : List GDrawOp) =>
 bnd1 (slc a3 1 (a3.length : Int)) fun (a5 : List GDrawOp) =>
 some (.inl (a5, b3, out5))
 ) else (
 bnd1 (gd ((decide ((a3.length : Int) = 0)) == false) (idx b3 0)) fun (x4 : GDrawOp) =>
 bnd1 (gd ((decide ((a3.length : Int) = 0)) == false) (idx a3 0)) fun (x5 : GDrawOp) =>
 bnd1 (gd ((decide ((a3.length : Int) = 0)) == false) (replica_stamps x4 x5)) fun (r2 : Int) =>
 if ((decide ((a3.length : Int) = 0)) || (decide (r2 < 0))) then (
 bnd1 (idx b3 0) fun (x6 : GDrawOp) =>
 bnd1 (app 88 out2 [x6]) fun (out6 : List GDrawOp) =>
 bnd1 (slc b3 1 (b3.length : Int)) fun (b5 : List GDrawOp) =>
 some (.inl (a3, b5, out6))
 ) else (
 bnd1 (idx a3 0) fun (x7 : GDrawOp) =>
 bnd1 (idx b3 0) fun (x8 : GDrawOp) =>
 if (!(decide (x7.Clock = x8.Clock) && (decide (x7.Site = x8.Site) && (decide (x7.Kind = x8.Kind) && (decide (x7.Item = x8.Item) && (decide (x7.Parent = x8.Parent) && (decide (x7.Place = x8.Place) && (decide (x7.Name = x8.Name) && (decide (x7.Value = x8.Value) && true))))))))) then (
 some (.inr (.ext ([], 6)))
 ) else (
 bnd1 (app 88 out2 [x7]) fun (out7 : List GDrawOp) =>
 bnd1 (slc a3 1 (a3.length : Int)) fun (a6 : List GDrawOp) =>
 bnd1 (slc b3 1 (b3.length : Int)) fun (b6 : List GDrawOp) =>
 some (.inl (a6, b6, out7))
 )
 )
 )
 ) else (
 some (.inr (.nrm out2))
 )
noncomputable def replica_Both (a1 : List GDrawOp) (b1 : List GDrawOp) : Option ((List GDrawOp) × Int) :=
 ctl1 (iter (fun (a : (List GDrawOp) × (List GDrawOp) × (List GDrawOp)) => replica_Both_L1 a.1 a.2.1 a.2.2) (a1, b1, [])) fun (out4 : List GDrawOp) =>
 some (out4, 0)
noncomputable def replica_Join (a1 : List GDrawOp) (b1 : List GDrawOp) : Option ((List GDrawOp) × Int) :=
 bnd1 (replica_Check a1) fun (e1 : Int) =>
 if (!decide (e1 = 0)) then (
 some ([], e1)
 ) else (
 bnd1 (replica_Check b1) fun (e2 : Int) =>
 if (!decide (e2 = 0)) then (
 some ([], e2)
 ) else (
 bnd2 (replica_Both a1 b1) fun (r1 : List GDrawOp) (r2 : Int) =>
 some (r1, r2)
 )
 )
noncomputable def ref_Union_L2 (b1 : List GDrawOp) (out3 : List GDrawOp) (x2 : Int) (at2 : Int) : Option (Int ⊕ Int) :=
 bnd1 (gd ((decide (at2 < (out3.length : Int))) == true) (idx out3 at2)) fun (x10 : GDrawOp) =>
 bnd1 (gd ((decide (at2 < (out3.length : Int))) == true) (idx b1 x2)) fun (x11 : GDrawOp) =>
 bnd1 (gd ((decide (at2 < (out3.length : Int))) == true) (ref_Earlier x10 x11)) fun (r2 : Bool) =>
 if ((decide (at2 < (out3.length : Int))) && r2) then (
 bnd1 (chk .i64 (at2 + 1)) fun (at5 : Int) =>
 some (.inl at5)
 ) else (
 some (.inr at2)
 )
noncomputable def ref_Union_L1 (b1 : List GDrawOp) (out3 : List GDrawOp) (x2 : Int) : Option (((List GDrawOp) × Int) ⊕ (Ctl (List GDrawOp) ((List GDrawOp) × Int))) :=
 if (decide (x2 < (b1.length : Int))) then (
 ctl1 (
 bnd1 (iter (fun (a : Int) => ref_Union_L2 b1 out3 x2 a) 0) fun (at4 : Int) =>
 bnd1 (gd ((decide (at4 < (out3.length : Int))) == true) (idx b1 x2)) fun (x5 : GDrawOp) =>
 bnd1 (gd ((decide (at4 < (out3.length : Int))) == true) (idx out3 at4)) fun (x6 : GDrawOp) =>
 bnd1 (gd ((decide (at4 < (out3.length : Int))) == true) (ref_Earlier x5 x6)) fun (r1 : Bool) =>
 if ((decide (at4 < (out3.length : Int))) && (!r1)) then (
 bnd1 (idx out3 at4) fun (x7 : GDrawOp) =>
 bnd1 (idx b1 x2) fun (x8 : GDrawOp) =>
 if (!(decide (x7.Clock = x8.Clock) && (decide (x7.Site = x8.Site) && (decide (x7.Kind = x8.Kind) && (decide (x7.Item = x8.Item) && (decide (x7.Parent = x8.Parent) && (decide (x7.Place = x8.Place) && (decide (x7.Name = x8.Name) && (decide (x7.Value = x8.Value) && true))))))))) then (
 some (.ext (.inr (.ext ([], 6))))
 ) else (
 some (.nrm out3)
 )
 ) else (
 bnd1 (slc out3 0 at4) fun (l1 : List GDrawOp) =>
 bnd1 (idx b1 x2) fun (x9 : GDrawOp) =>
 bnd1 (slc out3 at4 (out3.length : Int)) fun (l2 : List GDrawOp) =>
 bnd1 (app 88 [x9] l2) fun (l3 : List GDrawOp) =>
 bnd1 (appF 88 l1 l3) fun (out7 : List GDrawOp) =>
 some (.nrm out7)
 )
 ) fun (out6 : List GDrawOp) =>
 bnd1 (chk .i64 (x2 + 1)) fun (x4 : Int) =>
 some (.inl (out6, x4))
 ) else (
 some (.inr (.nrm out3))
 )
noncomputable def ref_Union (a1 : List GDrawOp) (b1 : List GDrawOp) : Option ((List GDrawOp) × Int) :=
 bnd1 (app 88 [] a1) fun (out1 : List GDrawOp) =>
 ctl1 (iter (fun (a : (List GDrawOp) × Int) => ref_Union_L1 b1 a.1 a.2) (out1, 0)) fun (out5 : List GDrawOp) =>
 some (out5, 0)
noncomputable def ref_SameOps_L1 (a1 : List GDrawOp) (b1 : List GDrawOp) (x2 : Int) : Option (Int ⊕ (Ctl Unit Bool)) :=
 if (decide (x2 < (a1.length : Int))) then (
 bnd1 (idx a1 x2) fun (x4 : GDrawOp) =>
 bnd1 (idx b1 x2) fun (x5 : GDrawOp) =>
 if (!(decide (x4.Clock = x5.Clock) && (decide (x4.Site = x5.Site) && (decide (x4.Kind = x5.Kind) && (decide (x4.Item = x5.Item) && (decide (x4.Parent = x5.Parent) && (decide (x4.Place = x5.Place) && (decide (x4.Name = x5.Name) && (decide (x4.Value = x5.Value) && true))))))))) then (
 some (.inr (.ext false))
 ) else (
 bnd1 (chk .i64 (x2 + 1)) fun (x6 : Int) =>
 some (.inl x6)
 )
 ) else (
 some (.inr (.nrm ()))
 )
noncomputable def ref_SameOps (a1 : List GDrawOp) (b1 : List GDrawOp) : Option (Bool) :=
 if (!decide ((a1.length : Int) = (b1.length : Int))) then (
 some false
 ) else (
 ctl1 (iter (fun (a : Int) => ref_SameOps_L1 a1 b1 a) 0) fun (u2 : Unit) =>
 some true
 )
noncomputable def law_ReplicaCheckSays (s1 : List UInt8) (a1 : List GDrawOp) (b1 : List GDrawOp) : Option (Bool) :=
 bnd1 (law_draws) fun (r1 : Bool) =>
 bnd1 (gd ((!r1) == false) (replica_Place s1)) fun (r2 : Bool) =>
 bnd1 (gd ((!r1) == false) (ref_Place s1)) fun (r3 : Bool) =>
 bnd1 (gd (((!r1) || (!(r2 == r3))) == false) (replica_Check a1)) fun (r4 : Int) =>
 bnd1 (gd (((!r1) || (!(r2 == r3))) == false) (ref_DrawError a1)) fun (r5 : Int) =>
 if (((!r1) || (!(r2 == r3))) || (!decide (r4 = r5))) then (
 some false
 ) else (
 bnd2 (replica_Join a1 b1) fun (r6 : List GDrawOp) (r7 : Int) =>
 bnd1 (ref_DrawError a1) fun (f1 : Int) =>
 bnd1 (
 if (decide (f1 = 0)) then (
 bnd1 (ref_DrawError b1) fun (f3 : Int) =>
 some f3
 ) else (
 some f1
 )
 ) fun (f2 : Int) =>
 if (!decide (f2 = 0)) then (
 some ((decide (r7 = f2)) && (decide ((r6.length : Int) = 0)))
 ) else (
 bnd2 (ref_Union a1 b1) fun (r8 : List GDrawOp) (r9 : Int) =>
 bnd1 (gd ((decide (r7 = r9)) == true) (ref_SameOps r6 r8)) fun (r10 : Bool) =>
 some ((decide (r7 = r9)) && r10)
 )
 )
end Go.Proofs.Ytelkfhdgmbahgaa.Al

