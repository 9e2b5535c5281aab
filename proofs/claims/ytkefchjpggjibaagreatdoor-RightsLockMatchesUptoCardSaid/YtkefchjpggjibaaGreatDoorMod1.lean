/- Models, as printed. -/
import Derived.Test.YtkefchjpggjibaaGreatDoorAl3
namespace Go.Proofs.YtkefchjpggjibaaGreatDoor.Al
structure GAxisStep where
 Kind : Int
 N : Int
deriving DecidableEq
instance : Inhabited GAxisStep := ⟨⟨0, 0⟩⟩
@[reducible] def GAxisStep.row (x : GAxisStep) : List RV := [.int .i64 x.Kind, .int .i64 x.N]
structure Axis_Reader where
 steps : List GAxisStep
 used : Int
deriving DecidableEq
instance : Inhabited Axis_Reader := ⟨⟨[], 0⟩⟩
@[reducible] def Axis_Reader.row (x : Axis_Reader) : List RV := [.sl (x.steps.map GAxisStep.row), .int .i64 x.used]
structure Axis_Writer where
 out : List GAxisStep
 add : Int
 cut : Int
deriving DecidableEq
instance : Inhabited Axis_Writer := ⟨⟨[], 0, 0⟩⟩
@[reducible] def Axis_Writer.row (x : Axis_Writer) : List RV := [.sl (x.out.map GAxisStep.row), .int .i64 x.add, .int .i64 x.cut]
structure GAttr where
 Name : List UInt8
 Value : List UInt8
deriving DecidableEq
instance : Inhabited GAttr := ⟨⟨[], []⟩⟩
@[reducible] def GAttr.row (x : GAttr) : List RV := [.str x.Name, .str x.Value]
structure GElem where
 Char : Int
 Ref : Int
 Attrs : List GAttr
deriving DecidableEq
instance : Inhabited GElem := ⟨⟨0, 0, []⟩⟩
@[reducible] def GElem.row (x : GElem) : List RV := [.int .i64 x.Char, .int .i64 x.Ref, .sl (x.Attrs.map GAttr.row)]
structure GCell where
 Row : Int
 Col : Int
 Text : List UInt8
 Ref : Int
 Attrs : List GAttr
deriving DecidableEq
instance : Inhabited GCell := ⟨⟨0, 0, [], 0, []⟩⟩
@[reducible] def GCell.row (x : GCell) : List RV := [.int .i64 x.Row, .int .i64 x.Col, .str x.Text, .int .i64 x.Ref, .sl (x.Attrs.map GAttr.row)]
structure GRect where
 Row : Int
 Col : Int
 H : Int
 W : Int
deriving DecidableEq
instance : Inhabited GRect := ⟨⟨0, 0, 0, 0⟩⟩
@[reducible] def GRect.row (x : GRect) : List RV := [.int .i64 x.Row, .int .i64 x.Col, .int .i64 x.H, .int .i64 x.W]
structure GGrid where
 Rows : Int
 Cols : Int
 Cells : List GCell
 Merges : List GRect
deriving DecidableEq
instance : Inhabited GGrid := ⟨⟨0, 0, [], []⟩⟩
@[reducible] def GGrid.row (x : GGrid) : List RV := [.int .i64 x.Rows, .int .i64 x.Cols, .sl (x.Cells.map GCell.row), .sl (x.Merges.map GRect.row)]
structure GDrawOp where
 Clock : Int
 Site : Int
 Kind : Int
 Item : Int
 Parent : Int
 Place : List UInt8
 Name : List UInt8
 Value : List UInt8
deriving DecidableEq
instance : Inhabited GDrawOp := ⟨⟨0, 0, 0, 0, 0, [], [], []⟩⟩
@[reducible] def GDrawOp.row (x : GDrawOp) : List RV := [.int .i64 x.Clock, .int .i64 x.Site, .int .i64 x.Kind, .int .i64 x.Item, .int .i64 x.Parent, .str x.Place, .str x.Name, .str x.Value]
structure GNode where
 ID : Int
 Kind : Int
 Attrs : List GAttr
 Flow : List GElem
 Grid : GGrid
 Draw : List GDrawOp
deriving DecidableEq
instance : Inhabited GNode := ⟨⟨0, 0, [], [], (GGrid.mk 0 0 [] []), []⟩⟩
@[reducible] def GNode.row (x : GNode) : List RV := [.int .i64 x.ID, .int .i64 x.Kind, .sl (x.Attrs.map GAttr.row), .sl (x.Flow.map GElem.row), .int .i64 x.Grid.Rows, .int .i64 x.Grid.Cols, .sl (x.Grid.Cells.map GCell.row), .sl (x.Grid.Merges.map GRect.row), .sl (x.Draw.map GDrawOp.row)]
structure GStep where
 Kind : Int
 N : Int
 Attrs : List GAttr
 Elems : List GElem
deriving DecidableEq
instance : Inhabited GStep := ⟨⟨0, 0, [], []⟩⟩
@[reducible] def GStep.row (x : GStep) : List RV := [.int .i64 x.Kind, .int .i64 x.N, .sl (x.Attrs.map GAttr.row), .sl (x.Elems.map GElem.row)]
structure GGridEdit where
 Rows : List GAxisStep
 Cols : List GAxisStep
 Cells : List GCell
 Split : List GRect
 Merge : List GRect
deriving DecidableEq
instance : Inhabited GGridEdit := ⟨⟨[], [], [], [], []⟩⟩
@[reducible] def GGridEdit.row (x : GGridEdit) : List RV := [.sl (x.Rows.map GAxisStep.row), .sl (x.Cols.map GAxisStep.row), .sl (x.Cells.map GCell.row), .sl (x.Split.map GRect.row), .sl (x.Merge.map GRect.row)]
structure GOp where
 Kind : Int
 Node : Int
 New : GNode
 Attrs : List GAttr
 Steps : List GStep
 Grid : GGridEdit
 Draw : List GDrawOp
deriving DecidableEq
instance : Inhabited GOp := ⟨⟨0, 0, (GNode.mk 0 0 [] [] (GGrid.mk 0 0 [] []) []), [], [], (GGridEdit.mk [] [] [] [] []), []⟩⟩
@[reducible] def GOp.row (x : GOp) : List RV := [.int .i64 x.Kind, .int .i64 x.Node, .int .i64 x.New.ID, .int .i64 x.New.Kind, .sl (x.New.Attrs.map GAttr.row), .sl (x.New.Flow.map GElem.row), .int .i64 x.New.Grid.Rows, .int .i64 x.New.Grid.Cols, .sl (x.New.Grid.Cells.map GCell.row), .sl (x.New.Grid.Merges.map GRect.row), .sl (x.New.Draw.map GDrawOp.row), .sl (x.Attrs.map GAttr.row), .sl (x.Steps.map GStep.row), .sl (x.Grid.Rows.map GAxisStep.row), .sl (x.Grid.Cols.map GAxisStep.row), .sl (x.Grid.Cells.map GCell.row), .sl (x.Grid.Split.map GRect.row), .sl (x.Grid.Merge.map GRect.row), .sl (x.Draw.map GDrawOp.row)]
structure GEntry where
 Site : Int
 Number : Int
 Change : List GOp
 Undoes : Int
 Refused : Int
deriving DecidableEq
instance : Inhabited GEntry := ⟨⟨0, 0, [], 0, 0⟩⟩
@[reducible] def GEntry.row (x : GEntry) : List RV := [.int .i64 x.Site, .int .i64 x.Number, .sl (x.Change.map GOp.row), .int .i64 x.Undoes, .int .i64 x.Refused]
structure GSpan where
 From : Int
 To : Int
deriving DecidableEq
instance : Inhabited GSpan := ⟨⟨0, 0⟩⟩
@[reducible] def GSpan.row (x : GSpan) : List RV := [.int .i64 x.From, .int .i64 x.To]
noncomputable def ref_In (x1 : Int) (low1 : Int) (high1 : Int) : Option (Bool) :=
 some ((decide (low1 ≤ x1)) && (decide (x1 ≤ high1)))
noncomputable def attr_Name_L1 (s1 : List UInt8) (x2 : Int) : Option (Int ⊕ (Ctl Unit Bool)) :=
 if (decide (x2 < (s1.length : Int))) then (
 bnd1 (idx s1 x2) fun (c1 : UInt8) =>
 if (((((decide ((c1.toNat : Int) < 97)) || (decide (122 < (c1.toNat : Int)))) && ((decide ((c1.toNat : Int) < 48)) || (decide (57 < (c1.toNat : Int))))) && (!decide ((c1.toNat : Int) = 46))) && (!decide ((c1.toNat : Int) = 45))) then (
 some (.inr (.ext false))
 ) else (
 bnd1 (chk .i64 (x2 + 1)) fun (x4 : Int) =>
 some (.inl x4)
 )
 ) else (
 some (.inr (.nrm ()))
 )
noncomputable def attr_Name (s1 : List UInt8) : Option (Bool) :=
 bnd1 (gd (((decide (s1 = [])) || (decide (24 < (s1.length : Int)))) == false) (idx s1 0)) fun (ch1 : UInt8) =>
 bnd1 (gd ((((decide (s1 = [])) || (decide (24 < (s1.length : Int)))) || (decide ((ch1.toNat : Int) < 97))) == false) (idx s1 0)) fun (ch2 : UInt8) =>
 if ((((decide (s1 = [])) || (decide (24 < (s1.length : Int)))) || (decide ((ch1.toNat : Int) < 97))) || (decide (122 < (ch2.toNat : Int)))) then (
 some false
 ) else (
 ctl1 (iter (fun (a : Int) => attr_Name_L1 s1 a) 0) fun (u2 : Unit) =>
 some true
 )
noncomputable def attr_Value_L1 (s1 : List UInt8) (x2 : Int) : Option (Int ⊕ (Ctl Unit Bool)) :=
 if (decide (x2 < (s1.length : Int))) then (
 bnd1 (idx s1 x2) fun (ch1 : UInt8) =>
 if ((decide ((ch1.toNat : Int) < 32)) || (decide (126 < (ch1.toNat : Int)))) then (
 some (.inr (.ext false))
 ) else (
 bnd1 (chk .i64 (x2 + 1)) fun (x4 : Int) =>
 some (.inl x4)
 )
 ) else (
 some (.inr (.nrm ()))
 )
noncomputable def attr_Value (s1 : List UInt8) : Option (Bool) :=
 if ((decide (s1 = [])) || (decide (200 < (s1.length : Int)))) then (
 some false
 ) else (
 ctl1 (iter (fun (a : Int) => attr_Value_L1 s1 a) 0) fun (u2 : Unit) =>
 some true
 )
noncomputable def attr_check_L1 (l1 : List GAttr) (empty1 : Bool) (x2 : Int) : Option (Int ⊕ (Ctl Unit Int)) :=
 if (decide (x2 < (l1.length : Int))) then (
 bnd1 (idx l1 x2) fun (x4 : GAttr) =>
 bnd1 (attr_Name x4.Name) fun (r1 : Bool) =>
 if (!r1) then (
 some (.inr (.ext 9))
 ) else (
 bnd1 (attr_Value x4.Value) fun (r2 : Bool) =>
 if ((!r2) && (!(empty1 && (decide (x4.Value = []))))) then (
 some (.inr (.ext 23))
 ) else (
 bnd1 (gd ((decide (0 < x2)) == true) (chk .i64 (x2 - 1))) fun (x5 : Int) =>
 bnd1 (gd ((decide (0 < x2)) == true) (idx l1 x5)) fun (x6 : GAttr) =>
 if ((decide (0 < x2)) && (sLt x4.Name x6.Name || decide (x4.Name = x6.Name))) then (
 some (.inr (.ext 5))
 ) else (
 bnd1 (chk .i64 (x2 + 1)) fun (x7 : Int) =>
 some (.inl x7)
 )
 )
 )
 ) else (
 some (.inr (.nrm ()))
 )
noncomputable def attr_check (l1 : List GAttr) (empty1 : Bool) : Option (Int) :=
 ctl1 (iter (fun (a : Int) => attr_check_L1 l1 empty1 a) 0) fun (u2 : Unit) =>
 some 0
noncomputable def attr_Check (l1 : List GAttr) : Option (Int) :=
 bnd1 (attr_check l1 false) fun (r1 : Int) =>
 some r1
noncomputable def attr_CheckChange (l1 : List GAttr) : Option (Int) :=
 bnd1 (attr_check l1 true) fun (r1 : Int) =>
 some r1
noncomputable def ref_SameAttrs_L1 (a1 : List GAttr) (b1 : List GAttr) (x2 : Int) : Option (Int ⊕ (Ctl Unit Bool)) :=
 if (decide (x2 < (a1.length : Int))) then (
 bnd1 (idx a1 x2) fun (x4 : GAttr) =>
 bnd1 (idx b1 x2) fun (x5 : GAttr) =>
 if (!(decide (x4.Name = x5.Name) && (decide (x4.Value = x5.Value) && true))) then (
 some (.inr (.ext false))
 ) else (
 bnd1 (chk .i64 (x2 + 1)) fun (x6 : Int) =>
 some (.inl x6)
 )
 ) else (
 some (.inr (.nrm ()))
 )
noncomputable def ref_SameAttrs (a1 : List GAttr) (b1 : List GAttr) : Option (Bool) :=
 if (!decide ((a1.length : Int) = (b1.length : Int))) then (
 some false
 ) else (
 ctl1 (iter (fun (a : Int) => ref_SameAttrs_L1 a1 b1 a) 0) fun (u2 : Unit) =>
 some true
 )
noncomputable def ref_Name_L1 (s1 : List UInt8) (x2 : Int) : Option (Int ⊕ (Ctl Unit Bool)) :=
 if (decide (x2 < (s1.length : Int))) then (
 bnd1 (idx s1 x2) fun (ch1 : UInt8) =>
 if ((!((decide (97 ≤ (ch1.toNat : Int))) && (decide ((ch1.toNat : Int) ≤ 122)))) && ((decide (x2 = 0)) || (((!decide ((ch1.toNat : Int) = 46)) && (!decide ((ch1.toNat : Int) = 45))) && ((decide ((ch1.toNat : Int) < 48)) || (decide (57 < (ch1.toNat : Int))))))) then (
 some (.inr (.ext false))
 ) else (
 bnd1 (chk .i64 (x2 + 1)) fun (x4 : Int) =>
 some (.inl x4)
 )
 ) else (
 some (.inr (.nrm ()))
 )
noncomputable def ref_Name (s1 : List UInt8) : Option (Bool) :=
 ctl1 (iter (fun (a : Int) => ref_Name_L1 s1 a) 0) fun (u2 : Unit) =>
 some ((decide (1 ≤ (s1.length : Int))) && (decide ((s1.length : Int) ≤ 24)))
noncomputable def flow_Char (c1 : Int) : Option (Bool) :=
 some (((((decide (c1 = 9)) || (decide (c1 = 10))) || ((decide (32 ≤ c1)) && (decide (c1 < 127)))) || ((decide (160 ≤ c1)) && (decide (c1 < 55296)))) || ((decide (57343 < c1)) && (decide (c1 ≤ 1114111))))
noncomputable def flow_elem (x1 : GElem) : Option (Int) :=
 if ((!decide (x1.Char = 0)) == (!decide (x1.Ref = 0))) then (
 some 4
 ) else (
 bnd1 (gd ((decide (x1.Ref = 0)) == true) (flow_Char x1.Char)) fun (r1 : Bool) =>
 bnd1 (
 if ((decide (x1.Ref = 0)) && (!r1)) then (
 some ((decide (x1.Ref = 0)) && (!r1))
 ) else (
 some ((!decide (x1.Ref = 0)) && ((decide (x1.Ref < 1)) || (decide (1073741824 < x1.Ref))))
 )
 ) fun (x2 : Bool) =>
 if x2 then (
 some 2
 ) else (
 bnd1 (attr_Check x1.Attrs) fun (r2 : Int) =>
 some r2
 )
 )
noncomputable def flow_CheckPart_L1 (f1 : List GElem) (x2 : Int) : Option (Int ⊕ (Ctl Unit Int)) :=
 if (decide (x2 < (f1.length : Int))) then (
 bnd1 (idx f1 x2) fun (x4 : GElem) =>
 bnd1 (flow_elem x4) fun (e1 : Int) =>
 if (!decide (e1 = 0)) then (
 some (.inr (.ext e1))
 ) else (
 bnd1 (chk .i64 (x2 + 1)) fun (x5 : Int) =>
 some (.inl x5)
 )
 ) else (
 some (.inr (.nrm ()))
 )
noncomputable def flow_CheckPart (f1 : List GElem) : Option (Int) :=
 ctl1 (iter (fun (a : Int) => flow_CheckPart_L1 f1 a) 0) fun (u2 : Unit) =>
 some 0
noncomputable def attr_Same_L1 (a1 : List GAttr) (b1 : List GAttr) (x2 : Int) : Option (Int ⊕ (Ctl Unit Bool)) :=
 if (decide (x2 < (a1.length : Int))) then (
 bnd1 (idx a1 x2) fun (x4 : GAttr) =>
 bnd1 (idx b1 x2) fun (x5 : GAttr) =>
 if (!(decide (x4.Name = x5.Name) && (decide (x4.Value = x5.Value) && true))) then (
 some (.inr (.ext false))
 ) else (
 bnd1 (chk .i64 (x2 + 1)) fun (x6 : Int) =>
 some (.inl x6)
 )
 ) else (
 some (.inr (.nrm ()))
 )
noncomputable def attr_Same (a1 : List GAttr) (b1 : List GAttr) : Option (Bool) :=
 if (!decide ((a1.length : Int) = (b1.length : Int))) then (
 some false
 ) else (
 ctl1 (iter (fun (a : Int) => attr_Same_L1 a1 b1 a) 0) fun (u2 : Unit) =>
 some true
 )
end Go.Proofs.YtkefchjpggjibaaGreatDoor.Al


namespace Go.Proofs.YtkefchjpggjibaaGreatDoor.Al
structure Ref_Act where
 Adds : List (List GElem)
 Cuts : List Bool
 Attrs : List (List GAttr)
deriving DecidableEq
instance : Inhabited Ref_Act := ⟨⟨[], [], []⟩⟩
@[reducible] def Ref_Act.row (x : Ref_Act) : List RV := [.sl (x.Adds.map (rSl GElem.row)), .sl (x.Cuts.map rBool), .sl (x.Attrs.map (rSl GAttr.row))]
noncomputable def ref_DeltaOf_L1 (a1 : Ref_Act) (cuts2 : Int) (i4 : Int) (out2 : List GStep) (adds2 : List GElem) : Option ((Int × Int × (List GStep) × (List GElem)) ⊕ (List GStep)) :=
 if (decide (i4 ≤ (a1.Cuts.length : Int))) then (
 ctl3 (
 bnd1 (idx a1.Adds i4) fun (x1 : List GElem) =>
 bnd1 (app 40 adds2 x1) fun (adds5 : List GElem) =>
 bnd1 (gd ((decide (i4 < (a1.Cuts.length : Int))) == true) (idx a1.Cuts i4)) fun (x2 : Bool) =>
 if ((decide (i4 < (a1.Cuts.length : Int))) && x2) then (
 bnd1 (chk .i64 (cuts2 + 1)) fun (cuts5 : Int) =>
 some (.nrm (cuts5, out2, adds5))
 ) else (
 bnd1 (
 if (decide (0 < (adds5.length : Int))) then (
 bnd1 (app 64 out2 [(GStep.mk 1 0 [] adds5)]) fun (out10 : List GStep) =>
 some out10
 ) else (
 some out2
 )
 ) fun (out6 : List GStep) =>
 bnd1 (
 if (decide (0 < cuts2)) then (
 bnd1 (app 64 out6 [(GStep.mk 2 cuts2 [] [])]) fun (out9 : List GStep) =>
 some out9
 ) else (
 some out6
 )
 ) fun (out7 : List GStep) =>
 if (decide (i4 = (a1.Cuts.length : Int))) then (
 some (.ext (.inr out7))
 ) else (
 bnd1 (chk .i64 ((out7.length : Int) - 1)) fun (k1 : Int) =>
 bnd1 (gd ((decide (0 ≤ k1)) == true) (idx out7 k1)) fun (x3 : GStep) =>
 bnd1 (gd (((decide (0 ≤ k1)) && (decide (x3.Kind = 0))) == true) (idx out7 k1)) fun (x4 : GStep) =>
 bnd1 (gd (((decide (0 ≤ k1)) && (decide (x3.Kind = 0))) == true) (idx a1.Attrs i4)) fun (x5 : List GAttr) =>
 bnd1 (gd (((decide (0 ≤ k1)) && (decide (x3.Kind = 0))) == true) (ref_SameAttrs x4.Attrs x5)) fun (r1 : Bool) =>
 if (((decide (0 ≤ k1)) && (decide (x3.Kind = 0))) && r1) then (
 bnd1 (idx out7 k1) fun (x6 : GStep) =>
 bnd1 (chk .i64 (x6.N + 1)) fun (x7 : Int) =>
 some (.nrm (0, (out7.set k1.toNat (GStep.mk x6.Kind x7 x6.Attrs x6.Elems)), []))
 ) else (
 bnd1 (idx a1.Attrs i4) fun (x8 : List GAttr) =>
 bnd1 (app 64 out7 [(GStep.mk 0 1 x8 [])]) fun (out8 : List GStep) =>
 some (.nrm (0, out8, []))
 )
 )
 )
 ) fun (cuts4 : Int) (out5 : List GStep) (adds4 : List GElem) =>
 bnd1 (chk .i64 (i4 + 1)) fun (i10 : Int) =>
 some (.inl (cuts4, i10, out5, adds4))
 ) else (
 some (.inr out2)
 )
noncomputable def ref_DeltaOf (a1 : Ref_Act) : Option ((List GStep)) :=
 bnd1 (iter (fun (a : Int × Int × (List GStep) × (List GElem)) => ref_DeltaOf_L1 a1 a.1 a.2.1 a.2.2.1 a.2.2.2) (0, 0, [], [])) fun (out4 : List GStep) =>
 some out4
end Go.Proofs.YtkefchjpggjibaaGreatDoor.Al


namespace Go.Proofs.YtkefchjpggjibaaGreatDoor.Al
end Go.Proofs.YtkefchjpggjibaaGreatDoor.Al


namespace Go.Proofs.YtkefchjpggjibaaGreatDoor.Al
structure Delta_Reader where
 steps : List GStep
 used : Int
deriving DecidableEq
instance : Inhabited Delta_Reader := ⟨⟨[], 0⟩⟩
@[reducible] def Delta_Reader.row (x : Delta_Reader) : List RV := [.sl (x.steps.map GStep.row), .int .i64 x.used]
structure Delta_Writer where
 out : List GStep
 add : List GElem
 cut : Int
deriving DecidableEq
instance : Inhabited Delta_Writer := ⟨⟨[], [], 0⟩⟩
@[reducible] def Delta_Writer.row (x : Delta_Writer) : List RV := [.sl (x.out.map GStep.row), .sl (x.add.map GElem.row), .int .i64 x.cut]
noncomputable def delta_step (s1 : GStep) : Option (Int) :=
 bnd1 (
 if (decide (s1.Kind = 0)) then (
 some (decide (s1.Kind = 0))
 ) else (
 some (decide (s1.Kind = 2))
 )
 ) fun (x1 : Bool) =>
 if x1 then (
 if ((decide (0 < (s1.Elems.length : Int))) || ((decide (s1.Kind = 2)) && (decide (0 < (s1.Attrs.length : Int))))) then (
 some 4
 ) else (
 if ((decide (s1.N < 1)) || (decide (2147483647 < s1.N))) then (
 some 2
 ) else (
 bnd1 (attr_CheckChange s1.Attrs) fun (r1 : Int) =>
 some r1
 )
 )
 ) else (
 if (decide (s1.Kind = 1)) then (
 if ((!decide (s1.N = 0)) || (decide (0 < (s1.Attrs.length : Int)))) then (
 some 4
 ) else (
 if (decide ((s1.Elems.length : Int) = 0)) then (
 some 11
 ) else (
 bnd1 (flow_CheckPart s1.Elems) fun (r2 : Int) =>
 some r2
 )
 )
 ) else (
 some 8
 )
 )
noncomputable def delta_size (s1 : GStep) : Option (Int) :=
 if (decide (s1.Kind = 1)) then (
 some (s1.Elems.length : Int)
 ) else (
 some s1.N
 )
noncomputable def delta_Check_L1 (d1 : List GStep) (before2 : Int) (after2 : Int) (x2 : Int) : Option ((Int × Int × Int) ⊕ (Ctl (Int × Int) Int)) :=
 if (decide (x2 < (d1.length : Int))) then (
 ctl2 (
 bnd1 (idx d1 x2) fun (x5 : GStep) =>
 bnd1 (delta_step x5) fun (e1 : Int) =>
 if (!decide (e1 = 0)) then (
 some (.ext (.inr (.ext e1)))
 ) else (
 ctl1 (
 if (decide (0 < x2)) then (
 bnd1 (chk .i64 (x2 - 1)) fun (x8 : Int) =>
 bnd1 (idx d1 x8) fun (x9 : GStep) =>
 bnd1 (gd (((decide (x9.Kind = x5.Kind)) == true) && ((!decide (x5.Kind = 0)) == false)) (attr_Same x9.Attrs x5.Attrs)) fun (r2 : Bool) =>
 if (((decide (x9.Kind = x5.Kind)) && ((!decide (x5.Kind = 0)) || r2)) || ((decide (x9.Kind = 2)) && (decide (x5.Kind = 1)))) then (
 some (.ext (.ext (.inr (.ext 5))))
 ) else (
 some (.nrm ())
 )
 ) else (
 some (.nrm ())
 )
 ) fun (u2 : Unit) =>
 bnd1 (
 if (!decide (x5.Kind = 1)) then (
 bnd1 (chk .i64 (before2 + x5.N)) fun (x7 : Int) =>
 some (min x7 2147483648)
 ) else (
 some before2
 )
 ) fun (before6 : Int) =>
 if (!decide (x5.Kind = 2)) then (
 bnd1 (delta_size x5) fun (r1 : Int) =>
 bnd1 (chk .i64 (after2 + r1)) fun (x6 : Int) =>
 some (.nrm (before6, (min x6 2147483648)))
 ) else (
 some (.nrm (before6, after2))
 )
 )
 ) fun (before5 : Int) (after5 : Int) =>
 bnd1 (chk .i64 (x2 + 1)) fun (x4 : Int) =>
 some (.inl (before5, after5, x4))
 ) else (
 some (.inr (.nrm (before2, after2)))
 )
noncomputable def delta_Check (d1 : List GStep) : Option (Int) :=
 ctl2 (iter (fun (a : Int × Int × Int) => delta_Check_L1 d1 a.1 a.2.1 a.2.2) (0, 0, 0)) fun (before4 : Int) (after4 : Int) =>
 if ((decide (2147483647 < before4)) || (decide (2147483647 < after4))) then (
 some 3
 ) else (
 some 0
 )
noncomputable def delta_writer_flush (w1 : Delta_Writer) : Option (Delta_Writer) :=
 bnd1 (
 if (decide (0 < (w1.add.length : Int))) then (
 bnd1 (app 64 w1.out [(GStep.mk 1 0 [] w1.add)]) fun (l2 : List GStep) =>
 some (Delta_Writer.mk l2 w1.add w1.cut)
 ) else (
 some w1
 )
 ) fun (w2 : Delta_Writer) =>
 bnd1 (
 if (decide (0 < w2.cut)) then (
 bnd1 (app 64 w2.out [(GStep.mk 2 w2.cut [] [])]) fun (l1 : List GStep) =>
 some (Delta_Writer.mk l1 w2.add w2.cut)
 ) else (
 some w2
 )
 ) fun (w3 : Delta_Writer) =>
 some (Delta_Writer.mk w3.out [] 0)
noncomputable def delta_writer_keep (w1 : Delta_Writer) (n1 : Int) (attrs1 : List GAttr) : Option (Delta_Writer) :=
 if (decide (n1 = 0)) then (
 some w1
 ) else (
 bnd1 (delta_writer_flush w1) fun (w2 : Delta_Writer) =>
 bnd1 (chk .i64 ((w2.out.length : Int) - 1)) fun (k1 : Int) =>
 bnd1 (gd ((decide (0 ≤ k1)) == true) (idx w2.out k1)) fun (x1 : GStep) =>
 bnd1 (gd (((decide (0 ≤ k1)) && (decide (x1.Kind = 0))) == true) (idx w2.out k1)) fun (x2 : GStep) =>
 bnd1 (gd (((decide (0 ≤ k1)) && (decide (x1.Kind = 0))) == true) (attr_Same x2.Attrs attrs1)) fun (r1 : Bool) =>
 if (((decide (0 ≤ k1)) && (decide (x1.Kind = 0))) && r1) then (
 bnd1 (idx w2.out k1) fun (x3 : GStep) =>
 bnd1 (chk .i64 (x3.N + n1)) fun (x4 : Int) =>
 some (Delta_Writer.mk (w2.out.set k1.toNat (GStep.mk x3.Kind x4 x3.Attrs x3.Elems)) [] w2.cut)
 ) else (
 bnd1 (app 32 [] attrs1) fun (l1 : List GAttr) =>
 bnd1 (app 64 w2.out [(GStep.mk 0 n1 l1 [])]) fun (l2 : List GStep) =>
 some (Delta_Writer.mk l2 [] w2.cut)
 )
 )
noncomputable def delta_writer_done (w1 : Delta_Writer) : Option ((List GStep) × Int × Delta_Writer) :=
 bnd1 (delta_writer_flush w1) fun (w2 : Delta_Writer) =>
 bnd1 (delta_Check w2.out) fun (r1 : Int) =>
 if (!decide (r1 = 0)) then (
 some ([], 3, (Delta_Writer.mk w2.out [] w2.cut))
 ) else (
 some (w2.out, 0, (Delta_Writer.mk w2.out [] w2.cut))
 )
noncomputable def ref_SameElem (a1 : GElem) (b1 : GElem) : Option (Bool) :=
 bnd1 (gd (((decide (a1.Char = b1.Char)) && (decide (a1.Ref = b1.Ref))) == true) (ref_SameAttrs a1.Attrs b1.Attrs)) fun (r1 : Bool) =>
 some (((decide (a1.Char = b1.Char)) && (decide (a1.Ref = b1.Ref))) && r1)
noncomputable def ref_SameFlow_L1 (a1 : List GElem) (b1 : List GElem) (x2 : Int) : Option (Int ⊕ (Ctl Unit Bool)) :=
 if (decide (x2 < (a1.length : Int))) then (
 bnd1 (idx a1 x2) fun (x4 : GElem) =>
 bnd1 (idx b1 x2) fun (x5 : GElem) =>
 bnd1 (ref_SameElem x4 x5) fun (r1 : Bool) =>
 if (!r1) then (
 some (.inr (.ext false))
 ) else (
 bnd1 (chk .i64 (x2 + 1)) fun (x6 : Int) =>
 some (.inl x6)
 )
 ) else (
 some (.inr (.nrm ()))
 )
noncomputable def ref_SameFlow (a1 : List GElem) (b1 : List GElem) : Option (Bool) :=
 if (!decide ((a1.length : Int) = (b1.length : Int))) then (
 some false
 ) else (
 ctl1 (iter (fun (a : Int) => ref_SameFlow_L1 a1 b1 a) 0) fun (u2 : Unit) =>
 some true
 )
noncomputable def ref_SameDelta_L1 (a1 : List GStep) (b1 : List GStep) (x2 : Int) : Option (Int ⊕ (Ctl Unit Bool)) :=
 if (decide (x2 < (a1.length : Int))) then (
 bnd1 (idx a1 x2) fun (x4 : GStep) =>
 bnd1 (idx b1 x2) fun (x5 : GStep) =>
 bnd1 (gd (((!decide (x4.Kind = x5.Kind)) || (!decide (x4.N = x5.N))) == false) (ref_SameAttrs x4.Attrs x5.Attrs)) fun (r1 : Bool) =>
 bnd1 (gd ((((!decide (x4.Kind = x5.Kind)) || (!decide (x4.N = x5.N))) || (!r1)) == false) (ref_SameFlow x4.Elems x5.Elems)) fun (r2 : Bool) =>
 if ((((!decide (x4.Kind = x5.Kind)) || (!decide (x4.N = x5.N))) || (!r1)) || (!r2)) then (
 some (.inr (.ext false))
 ) else (
 bnd1 (chk .i64 (x2 + 1)) fun (x6 : Int) =>
 some (.inl x6)
 )
 ) else (
 some (.inr (.nrm ()))
 )
noncomputable def ref_SameDelta (a1 : List GStep) (b1 : List GStep) : Option (Bool) :=
 if (!decide ((a1.length : Int) = (b1.length : Int))) then (
 some false
 ) else (
 ctl1 (iter (fun (a : Int) => ref_SameDelta_L1 a1 b1 a) 0) fun (u2 : Unit) =>
 some true
 )
end Go.Proofs.YtkefchjpggjibaaGreatDoor.Al


namespace Go.Proofs.YtkefchjpggjibaaGreatDoor.Al
noncomputable def delta_bounds (n1 : Int) (from1 : Int) (to1 : Int) : Option (Int) :=
 if (((((decide (n1 < 0)) || (decide (2147483647 < n1))) || (decide (from1 < 0))) || (decide (to1 < from1))) || (decide (n1 < to1))) then (
 some 2
 ) else (
 some 0
 )
noncomputable def delta_Restyle (n1 : Int) (from1 : Int) (to1 : Int) (change1 : List GAttr) : Option ((List GStep) × Int) :=
 bnd1 (delta_bounds n1 from1 to1) fun (e1 : Int) =>
 if (!decide (e1 = 0)) then (
 some ([], e1)
 ) else (
 bnd1 (attr_CheckChange change1) fun (e2 : Int) =>
 if (!decide (e2 = 0)) then (
 some ([], e2)
 ) else (
 bnd1 (delta_writer_keep (Delta_Writer.mk [] [] 0) from1 []) fun (w1 : Delta_Writer) =>
 bnd1 (chk .i64 (to1 - from1)) fun (x1 : Int) =>
 bnd1 (delta_writer_keep w1 x1 change1) fun (w2 : Delta_Writer) =>
 bnd1 (chk .i64 (n1 - to1)) fun (x2 : Int) =>
 bnd1 (delta_writer_keep w2 x2 []) fun (w3 : Delta_Writer) =>
 bnd3 (delta_writer_done w3) fun (r1 : List GStep) (r2 : Int) (w4 : Delta_Writer) =>
 some (r1, r2)
 )
 )
end Go.Proofs.YtkefchjpggjibaaGreatDoor.Al


namespace Go.Proofs.YtkefchjpggjibaaGreatDoor.Al
end Go.Proofs.YtkefchjpggjibaaGreatDoor.Al


namespace Go.Proofs.YtkefchjpggjibaaGreatDoor.Al
noncomputable def law_docs : Option (Bool) :=
 some true
noncomputable def law_edits : Option (Bool) :=
 some true
noncomputable def law_mays : Option (Bool) :=
 some true
noncomputable def strings_Join (l1 : List (List UInt8)) (s1 : List UInt8) : Option (List UInt8) :=
 joinS l1 s1
noncomputable def rights_Lock_L1 (users1 : List (List UInt8)) (x2 : Int) : Option (Int ⊕ (Ctl Unit ((List GStep) × Int))) :=
 if (decide (x2 < (users1.length : Int))) then (
 bnd1 (idx users1 x2) fun (x4 : List UInt8) =>
 bnd1 (attr_Name x4) fun (r4 : Bool) =>
 if (!r4) then (
 some (.inr (.ext ([], 9)))
 ) else (
 bnd1 (chk .i64 (x2 + 1)) fun (x5 : Int) =>
 some (.inl x5)
 )
 ) else (
 some (.inr (.nrm ()))
 )
noncomputable def rights_Lock (n1 : Int) (from1 : Int) (to1 : Int) (users1 : List (List UInt8)) : Option ((List GStep) × Int) :=
 ctl1 (iter (fun (a : Int) => rights_Lock_L1 users1 a) 0) fun (u2 : Unit) =>
 bnd1 (strings_Join users1 [44]) fun (r1 : List UInt8) =>
 bnd2 (delta_Restyle n1 from1 to1 [(GAttr.mk [108, 111, 99, 107] r1)]) fun (r2 : List GStep) (r3 : Int) =>
 some (r2, r3)
noncomputable def law_RightsLockMatches_L2 (to1 : Int) (s4 : List UInt8) (i11 : Int) (x6 : Ref_Act) : Option ((Int × Ref_Act) ⊕ Ref_Act) :=
 if (decide (i11 < to1)) then (
 bnd1 (idx x6.Attrs i11) fun (x10 : List GAttr) =>
 bnd1 (chk .i64 (i11 + 1)) fun (i17 : Int) =>
 some (.inl (i17, (Ref_Act.mk x6.Adds x6.Cuts (x6.Attrs.set i11.toNat [(GAttr.mk [108, 111, 99, 107] s4)]))))
 ) else (
 some (.inr x6)
 )
noncomputable def law_RightsLockMatches_L1 (users1 : List (List UInt8)) (s2 : List UInt8) (f2 : Int) (x2 : Int) : Option (((List UInt8) × Int × Int) ⊕ ((List UInt8) × Int)) :=
 if (decide (x2 < (users1.length : Int))) then (
 bnd1 (gd ((decide (f2 = 0)) == true) (idx users1 x2)) fun (x11 : List UInt8) =>
 bnd1 (gd ((decide (f2 = 0)) == true) (ref_Name x11)) fun (r7 : Bool) =>
 bnd1 (
 if ((decide (f2 = 0)) && (!r7)) then (
 some 9
 ) else (
 some f2
 )
 ) fun (f7 : Int) =>
 bnd1 (
 if (decide (0 < x2)) then (
 bnd1 (catM s2 [44]) fun (s7 : List UInt8) =>
 some s7
 ) else (
 some s2
 )
 ) fun (s5 : List UInt8) =>
 bnd1 (idx users1 x2) fun (x12 : List UInt8) =>
 bnd1 (catM s5 x12) fun (s6 : List UInt8) =>
 bnd1 (chk .i64 (x2 + 1)) fun (x13 : Int) =>
 some (.inl (s6, f7, x13))
 ) else (
 some (.inr (s2, f2))
 )
noncomputable def law_RightsLockMatches (n1 : Int) (from1 : Int) (to1 : Int) (users1 : List (List UInt8)) : Option (Bool) :=
 bnd1 (law_mays) fun (r1 : Bool) =>
 if (!r1) then (
 some false
 ) else (
 bnd2 (rights_Lock n1 from1 to1 users1) fun (r2 : List GStep) (r3 : Int) =>
 bnd2 (iter (fun (a : (List UInt8) × Int × Int) => law_RightsLockMatches_L1 users1 a.1 a.2.1 a.2.2) ([], 0, 0)) fun (s4 : List UInt8) (f4 : Int) =>
 bnd1 (gd ((decide (f4 = 0)) == true) (ref_In n1 0 2147483647)) fun (r4 : Bool) =>
 bnd1 (
 if ((decide (f4 = 0)) && ((((!r4) || (decide (from1 < 0))) || (decide (to1 < from1))) || (decide (n1 < to1)))) then (
 some 2
 ) else (
 some f4
 )
 ) fun (f5 : Int) =>
 bnd1 (
 if ((decide (f5 = 0)) && (decide (200 < (s4.length : Int)))) then (
 some 23
 ) else (
 some f5
 )
 ) fun (f6 : Int) =>
 if (!decide (f6 = 0)) then (
 some ((decide (r3 = f6)) && (decide ((r2.length : Int) = 0)))
 ) else (
 if (decide (300 < n1)) then (
 some (decide (r3 = 0))
 ) else (
 bnd1 (chk .i64 (n1 + 1)) fun (x4 : Int) =>
 bnd1 (mk 24 x4 []) fun (l1 : List (List GElem)) =>
 bnd1 (mk 1 n1 false) fun (l2 : List Bool) =>
 bnd1 (mk 24 n1 []) fun (l3 : List (List GAttr)) =>
 bnd1 (iter (fun (a : Int × Ref_Act) => law_RightsLockMatches_L2 to1 s4 a.1 a.2) (from1, (Ref_Act.mk l1 l2 l3))) fun (x8 : Ref_Act) =>
 bnd1 (
 if ((decide (r3 = 0)) == true) then (
 bnd1 (ref_DeltaOf x8) fun (r5 : List GStep) =>
 bnd1 (ref_SameDelta r2 r5) fun (r6 : Bool) =>
 some ((decide (r3 = 0)) && r6)
 ) else (
 some ((decide (r3 = 0)) && false)
 )
 ) fun (x9 : Bool) =>
 some x9
 )
 )
 )
end Go.Proofs.YtkefchjpggjibaaGreatDoor.Al

