/- Models, as printed. -/
import Derived.Test.YthoepnnckmfipaaGreatDoorAl2
namespace Go.Proofs.YthoepnnckmfipaaGreatDoor.Al
structure GAxisStep where
 Kind : Int
 N : Int
deriving DecidableEq
instance : Inhabited GAxisStep := ⟨⟨0, 0⟩⟩
@[reducible] def GAxisStep.row (x : GAxisStep) : List RV := [.int .i64 x.Kind, .int .i64 x.N]
structure Axis_Reader where
 steps : List GAxisStep
 used : Int
deriving DecidableEq
instance : Inhabited Axis_Reader := ⟨⟨[], 0⟩⟩
structure Axis_Writer where
 out : List GAxisStep
 add : Int
 cut : Int
deriving DecidableEq
instance : Inhabited Axis_Writer := ⟨⟨[], 0, 0⟩⟩
structure GAttr where
 Name : List UInt8
 Value : List UInt8
deriving DecidableEq
instance : Inhabited GAttr := ⟨⟨[], []⟩⟩
@[reducible] def GAttr.row (x : GAttr) : List RV := [.str x.Name, .str x.Value]
structure GElem where
 Char : Int
 Ref : Int
 Attrs : List GAttr
deriving DecidableEq
instance : Inhabited GElem := ⟨⟨0, 0, []⟩⟩
@[reducible] def GElem.row (x : GElem) : List RV := [.int .i64 x.Char, .int .i64 x.Ref, .sl (x.Attrs.map GAttr.row)]
structure GCell where
 Row : Int
 Col : Int
 Text : List UInt8
 Ref : Int
 Attrs : List GAttr
deriving DecidableEq
instance : Inhabited GCell := ⟨⟨0, 0, [], 0, []⟩⟩
@[reducible] def GCell.row (x : GCell) : List RV := [.int .i64 x.Row, .int .i64 x.Col, .str x.Text, .int .i64 x.Ref, .sl (x.Attrs.map GAttr.row)]
structure GRect where
 Row : Int
 Col : Int
 H : Int
 W : Int
deriving DecidableEq
instance : Inhabited GRect := ⟨⟨0, 0, 0, 0⟩⟩
@[reducible] def GRect.row (x : GRect) : List RV := [.int .i64 x.Row, .int .i64 x.Col, .int .i64 x.H, .int .i64 x.W]
structure GGrid where
 Rows : Int
 Cols : Int
 Cells : List GCell
 Merges : List GRect
deriving DecidableEq
instance : Inhabited GGrid := ⟨⟨0, 0, [], []⟩⟩
@[reducible] def GGrid.row (x : GGrid) : List RV := [.int .i64 x.Rows, .int .i64 x.Cols, .sl (x.Cells.map GCell.row), .sl (x.Merges.map GRect.row)]
structure GDrawOp where
 Clock : Int
 Site : Int
 Kind : Int
 Item : Int
 Parent : Int
 Place : List UInt8
 Name : List UInt8
 Value : List UInt8
deriving DecidableEq
instance : Inhabited GDrawOp := ⟨⟨0, 0, 0, 0, 0, [], [], []⟩⟩
@[reducible] def GDrawOp.row (x : GDrawOp) : List RV := [.int .i64 x.Clock, .int .i64 x.Site, .int .i64 x.Kind, .int .i64 x.Item, .int .i64 x.Parent, .str x.Place, .str x.Name, .str x.Value]
structure GNode where
 ID : Int
 Kind : Int
 Attrs : List GAttr
 Flow : List GElem
 Grid : GGrid
 Draw : List GDrawOp
deriving DecidableEq
instance : Inhabited GNode := ⟨⟨0, 0, [], [], (GGrid.mk 0 0 [] []), []⟩⟩
@[reducible] def GNode.row (x : GNode) : List RV := [.int .i64 x.ID, .int .i64 x.Kind, .sl (x.Attrs.map GAttr.row), .sl (x.Flow.map GElem.row), .int .i64 x.Grid.Rows, .int .i64 x.Grid.Cols, .sl (x.Grid.Cells.map GCell.row), .sl (x.Grid.Merges.map GRect.row), .sl (x.Draw.map GDrawOp.row)]
structure GStep where
 Kind : Int
 N : Int
 Attrs : List GAttr
 Elems : List GElem
deriving DecidableEq
instance : Inhabited GStep := ⟨⟨0, 0, [], []⟩⟩
@[reducible] def GStep.row (x : GStep) : List RV := [.int .i64 x.Kind, .int .i64 x.N, .sl (x.Attrs.map GAttr.row), .sl (x.Elems.map GElem.row)]
structure GGridEdit where
 Rows : List GAxisStep
 Cols : List GAxisStep
 Cells : List GCell
 Split : List GRect
 Merge : List GRect
deriving DecidableEq
instance : Inhabited GGridEdit := ⟨⟨[], [], [], [], []⟩⟩
@[reducible] def GGridEdit.row (x : GGridEdit) : List RV := [.sl (x.Rows.map GAxisStep.row), .sl (x.Cols.map GAxisStep.row), .sl (x.Cells.map GCell.row), .sl (x.Split.map GRect.row), .sl (x.Merge.map GRect.row)]
structure GOp where
 Kind : Int
 Node : Int
 New : GNode
 Attrs : List GAttr
 Steps : List GStep
 Grid : GGridEdit
 Draw : List GDrawOp
deriving DecidableEq
instance : Inhabited GOp := ⟨⟨0, 0, (GNode.mk 0 0 [] [] (GGrid.mk 0 0 [] []) []), [], [], (GGridEdit.mk [] [] [] [] []), []⟩⟩
@[reducible] def GOp.row (x : GOp) : List RV := [.int .i64 x.Kind, .int .i64 x.Node, .int .i64 x.New.ID, .int .i64 x.New.Kind, .sl (x.New.Attrs.map GAttr.row), .sl (x.New.Flow.map GElem.row), .int .i64 x.New.Grid.Rows, .int .i64 x.New.Grid.Cols, .sl (x.New.Grid.Cells.map GCell.row), .sl (x.New.Grid.Merges.map GRect.row), .sl (x.New.Draw.map GDrawOp.row), .sl (x.Attrs.map GAttr.row), .sl (x.Steps.map GStep.row), .sl (x.Grid.Rows.map GAxisStep.row), .sl (x.Grid.Cols.map GAxisStep.row), .sl (x.Grid.Cells.map GCell.row), .sl (x.Grid.Split.map GRect.row), .sl (x.Grid.Merge.map GRect.row), .sl (x.Draw.map GDrawOp.row)]
structure GEntry where
 Site : Int
 Number : Int
 Change : List GOp
 Undoes : Int
 Refused : Int
deriving DecidableEq
instance : Inhabited GEntry := ⟨⟨0, 0, [], 0, 0⟩⟩
structure GSpan where
 From : Int
 To : Int
deriving DecidableEq
instance : Inhabited GSpan := ⟨⟨0, 0⟩⟩
noncomputable def ref_In (x1 : Int) (low1 : Int) (high1 : Int) : Option (Bool) :=
 some ((decide (low1 ≤ x1)) && (decide (x1 ≤ high1)))
noncomputable def axis_Check_L1 (a1 : List GAxisStep) (before2 : Int) (after2 : Int) (x2 : Int) : Option ((Int × Int × Int) ⊕ (Ctl (Int × Int) Int)) :=
 if (decide (x2 < (a1.length : Int))) then (
 ctl2 (
 bnd1 (idx a1 x2) fun (x5 : GAxisStep) =>
 if ((decide (x5.Kind < 0)) || (decide (2 < x5.Kind))) then (
 some (.ext (.inr (.ext 8)))
 ) else (
 if ((decide (x5.N < 1)) || (decide (2147483647 < x5.N))) then (
 some (.ext (.inr (.ext 2)))
 ) else (
 bnd1 (gd ((decide (0 < x2)) == true) (chk .i64 (x2 - 1))) fun (x6 : Int) =>
 bnd1 (gd ((decide (0 < x2)) == true) (idx a1 x6)) fun (x7 : GAxisStep) =>
 if ((decide (0 < x2)) && ((decide (x7.Kind = x5.Kind)) || ((decide (x7.Kind = 2)) && (decide (x5.Kind = 1))))) then (
 some (.ext (.inr (.ext 5)))
 ) else (
 bnd1 (
 if (!decide (x5.Kind = 1)) then (
 bnd1 (chk .i64 (before2 + x5.N)) fun (x9 : Int) =>
 some (min x9 2147483648)
 ) else (
 some before2
 )
 ) fun (before6 : Int) =>
 if (!decide (x5.Kind = 2)) then (
 bnd1 (chk .i64 (after2 + x5.N)) fun (x8 : Int) =>
 some (.nrm (before6, (min x8 2147483648)))
 ) else (
 some (.nrm (before6, after2))
 )
 )
 )
 )
 ) fun (before5 : Int) (after5 : Int) =>
 bnd1 (chk .i64 (x2 + 1)) fun (x4 : Int) =>
 some (.inl (before5, after5, x4))
 ) else (
 some (.inr (.nrm (before2, after2)))
 )
noncomputable def axis_Check (a1 : List GAxisStep) : Option (Int) :=
 ctl2 (iter (fun (a : Int × Int × Int) => axis_Check_L1 a1 a.1 a.2.1 a.2.2) (0, 0, 0)) fun (before4 : Int) (after4 : Int) =>
 if ((decide (2147483647 < before4)) || (decide (2147483647 < after4))) then (
 some 3
 ) else (
 some 0
 )
noncomputable def ref_AxisError_L1 (a1 : List GAxisStep) (old2 : Int) (now2 : Int) (x2 : Int) : Option ((Int × Int × Int) ⊕ (Ctl (Int × Int) Int)) :=
 if (decide (x2 < (a1.length : Int))) then (
 ctl2 (
 bnd1 (idx a1 x2) fun (x5 : GAxisStep) =>
 bnd1 (ref_In x5.Kind 0 2) fun (r1 : Bool) =>
 if (!r1) then (
 some (.ext (.inr (.ext 8)))
 ) else (
 bnd1 (ref_In x5.N 1 2147483647) fun (r2 : Bool) =>
 if (!r2) then (
 some (.ext (.inr (.ext 2)))
 ) else (
 bnd1 (gd ((decide (0 < x2)) == true) (chk .i64 (x2 - 1))) fun (x6 : Int) =>
 bnd1 (gd ((decide (0 < x2)) == true) (idx a1 x6)) fun (x7 : GAxisStep) =>
 bnd1 (gd ((((decide (0 < x2)) == true) && ((decide (x5.Kind = x7.Kind)) == false)) && ((decide (x5.Kind = 1)) == true)) (chk .i64 (x2 - 1))) fun (x8 : Int) =>
 bnd1 (gd ((((decide (0 < x2)) == true) && ((decide (x5.Kind = x7.Kind)) == false)) && ((decide (x5.Kind = 1)) == true)) (idx a1 x8)) fun (x9 : GAxisStep) =>
 if ((decide (0 < x2)) && ((decide (x5.Kind = x7.Kind)) || ((decide (x5.Kind = 1)) && (decide (x9.Kind = 2))))) then (
 some (.ext (.inr (.ext 5)))
 ) else (
 bnd1 (
 if ((!decide (x5.Kind = 1)) && (decide (old2 < 2147483648))) then (
 bnd1 (chk .i64 (old2 + x5.N)) fun (old7 : Int) =>
 some old7
 ) else (
 some old2
 )
 ) fun (old6 : Int) =>
 if ((!decide (x5.Kind = 2)) && (decide (now2 < 2147483648))) then (
 bnd1 (chk .i64 (now2 + x5.N)) fun (now6 : Int) =>
 some (.nrm (old6, now6))
 ) else (
 some (.nrm (old6, now2))
 )
 )
 )
 )
 ) fun (old5 : Int) (now5 : Int) =>
 bnd1 (chk .i64 (x2 + 1)) fun (x4 : Int) =>
 some (.inl (old5, now5, x4))
 ) else (
 some (.inr (.nrm (old2, now2)))
 )
noncomputable def ref_AxisError (a1 : List GAxisStep) : Option (Int) :=
 ctl2 (iter (fun (a : Int × Int × Int) => ref_AxisError_L1 a1 a.1 a.2.1 a.2.2) (0, 0, 0)) fun (old4 : Int) (now4 : Int) =>
 if ((decide (2147483647 < old4)) || (decide (2147483647 < now4))) then (
 some 3
 ) else (
 some 0
 )
noncomputable def attr_Name_L1 (s1 : List UInt8) (x2 : Int) : Option (Int ⊕ (Ctl Unit Bool)) :=
 if (decide (x2 < (s1.length : Int))) then (
 bnd1 (idx s1 x2) fun (c1 : UInt8) =>
 if (((((decide ((c1.toNat : Int) < 97)) || (decide (122 < (c1.toNat : Int)))) && ((decide ((c1.toNat : Int) < 48)) || (decide (57 < (c1.toNat : Int))))) && (!decide ((c1.toNat : Int) = 46))) && (!decide ((c1.toNat : Int) = 45))) then (
 some (.inr (.ext false))
 ) else (
 bnd1 (chk .i64 (x2 + 1)) fun (x4 : Int) =>
 some (.inl x4)
 )
 ) else (
 some (.inr (.nrm ()))
 )
noncomputable def attr_Name (s1 : List UInt8) : Option (Bool) :=
 bnd1 (gd (((decide (s1 = [])) || (decide (24 < (s1.length : Int)))) == false) (idx s1 0)) fun (ch1 : UInt8) =>
 bnd1 (gd ((((decide (s1 = [])) || (decide (24 < (s1.length : Int)))) || (decide ((ch1.toNat : Int) < 97))) == false) (idx s1 0)) fun (ch2 : UInt8) =>
 if ((((decide (s1 = [])) || (decide (24 < (s1.length : Int)))) || (decide ((ch1.toNat : Int) < 97))) || (decide (122 < (ch2.toNat : Int)))) then (
 some false
 ) else (
 ctl1 (iter (fun (a : Int) => attr_Name_L1 s1 a) 0) fun (u2 : Unit) =>
 some true
 )
noncomputable def attr_Value_L1 (s1 : List UInt8) (x2 : Int) : Option (Int ⊕ (Ctl Unit Bool)) :=
 if (decide (x2 < (s1.length : Int))) then (
 bnd1 (idx s1 x2) fun (ch1 : UInt8) =>
 if ((decide ((ch1.toNat : Int) < 32)) || (decide (126 < (ch1.toNat : Int)))) then (
 some (.inr (.ext false))
 ) else (
 bnd1 (chk .i64 (x2 + 1)) fun (x4 : Int) =>
 some (.inl x4)
 )
 ) else (
 some (.inr (.nrm ()))
 )
noncomputable def attr_Value (s1 : List UInt8) : Option (Bool) :=
 if ((decide (s1 = [])) || (decide (200 < (s1.length : Int)))) then (
 some false
 ) else (
 ctl1 (iter (fun (a : Int) => attr_Value_L1 s1 a) 0) fun (u2 : Unit) =>
 some true
 )
noncomputable def attr_check_L1 (l1 : List GAttr) (empty1 : Bool) (x2 : Int) : Option (Int ⊕ (Ctl Unit Int)) :=
 if (decide (x2 < (l1.length : Int))) then (
 bnd1 (idx l1 x2) fun (x4 : GAttr) =>
 bnd1 (attr_Name x4.Name) fun (r1 : Bool) =>
 if (!r1) then (
 some (.inr (.ext 9))
 ) else (
 bnd1 (attr_Value x4.Value) fun (r2 : Bool) =>
 if ((!r2) && (!(empty1 && (decide (x4.Value = []))))) then (
 some (.inr (.ext 23))
 ) else (
 bnd1 (gd ((decide (0 < x2)) == true) (chk .i64 (x2 - 1))) fun (x5 : Int) =>
 bnd1 (gd ((decide (0 < x2)) == true) (idx l1 x5)) fun (x6 : GAttr) =>
 if ((decide (0 < x2)) && (sLt x4.Name x6.Name || decide (x4.Name = x6.Name))) then (
 some (.inr (.ext 5))
 ) else (
 bnd1 (chk .i64 (x2 + 1)) fun (x7 : Int) =>
 some (.inl x7)
 )
 )
 )
 ) else (
 some (.inr (.nrm ()))
 )
noncomputable def attr_check (l1 : List GAttr) (empty1 : Bool) : Option (Int) :=
 ctl1 (iter (fun (a : Int) => attr_check_L1 l1 empty1 a) 0) fun (u2 : Unit) =>
 some 0
noncomputable def attr_Check (l1 : List GAttr) : Option (Int) :=
 bnd1 (attr_check l1 false) fun (r1 : Int) =>
 some r1
noncomputable def attr_CheckChange (l1 : List GAttr) : Option (Int) :=
 bnd1 (attr_check l1 true) fun (r1 : Int) =>
 some r1
noncomputable def attr_Raw_f1 (c1 : List GAttr) (x1 : GAttr) (y1 : GAttr) : Option ((List GAttr)) :=
 if (decide (y1.Name = [])) then (
 bnd1 (app 32 c1 [x1]) fun (l1 : List GAttr) =>
 some l1
 ) else (
 if (!decide (y1.Value = [])) then (
 bnd1 (app 32 c1 [y1]) fun (l2 : List GAttr) =>
 some l2
 ) else (
 some c1
 )
 )
noncomputable def attr_both__Raw_f1_L1 (a1 : List GAttr) (b1 : List GAttr) (i4 : Int) (j2 : Int) (o2 : List GAttr) : Option ((Int × Int × (List GAttr)) ⊕ (Ctl Unit (List GAttr))) :=
 if ((decide (i4 < (a1.length : Int))) || (decide (j2 < (b1.length : Int)))) then (
 bnd1 (gd (((decide (j2 = (b1.length : Int))) == false) && ((decide (i4 < (a1.length : Int))) == true)) (idx a1 i4)) fun (x1 : GAttr) =>
 bnd1 (gd (((decide (j2 = (b1.length : Int))) == false) && ((decide (i4 < (a1.length : Int))) == true)) (idx b1 j2)) fun (x2 : GAttr) =>
 if ((decide (j2 = (b1.length : Int))) || ((decide (i4 < (a1.length : Int))) && (sLt x1.Name x2.Name))) then (
 bnd1 (idx a1 i4) fun (x3 : GAttr) =>
 bnd1 (attr_Raw_f1 o2 x3 (GAttr.mk [] [])) fun (w1 : List GAttr) =>
 bnd1 (chk .i64 (i4 + 1)) fun (i9 : Int) =>
 some (.inl (i9, j2, w1))
 ) else (
 bnd1 (gd ((decide (i4 = (a1.length : Int))) == false) (idx b1 j2)) fun (x4 : GAttr) =>
 bnd1 (gd ((decide (i4 = (a1.length : Int))) == false) (idx a1 i4)) fun (x5 : GAttr) =>
 if ((decide (i4 = (a1.length : Int))) || (sLt x4.Name x5.Name)) then (
 bnd1 (idx b1 j2) fun (x6 : GAttr) =>
 bnd1 (attr_Raw_f1 o2 (GAttr.mk [] []) x6) fun (w2 : List GAttr) =>
 bnd1 (chk .i64 (j2 + 1)) fun (j4 : Int) =>
 some (.inl (i4, j4, w2))
 ) else (
 bnd1 (idx a1 i4) fun (x7 : GAttr) =>
 bnd1 (idx b1 j2) fun (x8 : GAttr) =>
 bnd1 (attr_Raw_f1 o2 x7 x8) fun (w3 : List GAttr) =>
 bnd1 (chk .i64 (i4 + 1)) fun (i12 : Int) =>
 bnd1 (chk .i64 (j2 + 1)) fun (j5 : Int) =>
 some (.inl (i12, j5, w3))
 )
 )
 ) else (
 some (.inr (.ext o2))
 )
noncomputable def attr_both__Raw_f1 (c1 : List GAttr) (a1 : List GAttr) (b1 : List GAttr) : Option ((List GAttr)) :=
 ctl1 (iter (fun (a : Int × Int × (List GAttr)) => attr_both__Raw_f1_L1 a1 b1 a.1 a.2.1 a.2.2) (0, 0, c1)) fun (u2 : Unit) =>
 none
noncomputable def attr_Raw (l1 : List GAttr) (change1 : List GAttr) : Option ((List GAttr)) :=
 bnd1 (attr_both__Raw_f1 [] l1 change1) fun (w1 : List GAttr) =>
 some w1
noncomputable def ref_SameAttrs_L1 (a1 : List GAttr) (b1 : List GAttr) (x2 : Int) : Option (Int ⊕ (Ctl Unit Bool)) :=
 if (decide (x2 < (a1.length : Int))) then (
 bnd1 (idx a1 x2) fun (x4 : GAttr) =>
 bnd1 (idx b1 x2) fun (x5 : GAttr) =>
 if (!(decide (x4.Name = x5.Name) && (decide (x4.Value = x5.Value) && true))) then (
 some (.inr (.ext false))
 ) else (
 bnd1 (chk .i64 (x2 + 1)) fun (x6 : Int) =>
 some (.inl x6)
 )
 ) else (
 some (.inr (.nrm ()))
 )
noncomputable def ref_SameAttrs (a1 : List GAttr) (b1 : List GAttr) : Option (Bool) :=
 if (!decide ((a1.length : Int) = (b1.length : Int))) then (
 some false
 ) else (
 ctl1 (iter (fun (a : Int) => ref_SameAttrs_L1 a1 b1 a) 0) fun (u2 : Unit) =>
 some true
 )
noncomputable def ref_Name_L1 (s1 : List UInt8) (x2 : Int) : Option (Int ⊕ (Ctl Unit Bool)) :=
 if (decide (x2 < (s1.length : Int))) then (
 bnd1 (idx s1 x2) fun (ch1 : UInt8) =>
 if ((!((decide (97 ≤ (ch1.toNat : Int))) && (decide ((ch1.toNat : Int) ≤ 122)))) && ((decide (x2 = 0)) || (((!decide ((ch1.toNat : Int) = 46)) && (!decide ((ch1.toNat : Int) = 45))) && ((decide ((ch1.toNat : Int) < 48)) || (decide (57 < (ch1.toNat : Int))))))) then (
 some (.inr (.ext false))
 ) else (
 bnd1 (chk .i64 (x2 + 1)) fun (x4 : Int) =>
 some (.inl x4)
 )
 ) else (
 some (.inr (.nrm ()))
 )
noncomputable def ref_Name (s1 : List UInt8) : Option (Bool) :=
 ctl1 (iter (fun (a : Int) => ref_Name_L1 s1 a) 0) fun (u2 : Unit) =>
 some ((decide (1 ≤ (s1.length : Int))) && (decide ((s1.length : Int) ≤ 24)))
noncomputable def ref_Value_L1 (s1 : List UInt8) (x2 : Int) : Option (Int ⊕ (Ctl Unit Bool)) :=
 if (decide (x2 < (s1.length : Int))) then (
 bnd1 (idx s1 x2) fun (ch1 : UInt8) =>
 if ((decide ((ch1.toNat : Int) < 32)) || (decide (126 < (ch1.toNat : Int)))) then (
 some (.inr (.ext false))
 ) else (
 bnd1 (chk .i64 (x2 + 1)) fun (x4 : Int) =>
 some (.inl x4)
 )
 ) else (
 some (.inr (.nrm ()))
 )
noncomputable def ref_Value (s1 : List UInt8) : Option (Bool) :=
 ctl1 (iter (fun (a : Int) => ref_Value_L1 s1 a) 0) fun (u2 : Unit) =>
 some ((decide (1 ≤ (s1.length : Int))) && (decide ((s1.length : Int) ≤ 200)))
noncomputable def ref_AttrsError_L1 (l1 : List GAttr) (change1 : Bool) (x2 : Int) : Option (Int ⊕ (Ctl Unit Int)) :=
 if (decide (x2 < (l1.length : Int))) then (
 bnd1 (idx l1 x2) fun (x4 : GAttr) =>
 bnd1 (ref_Name x4.Name) fun (r1 : Bool) =>
 if (!r1) then (
 some (.inr (.ext 9))
 ) else (
 bnd1 (ref_Value x4.Value) fun (r2 : Bool) =>
 if ((!r2) && ((!decide (x4.Value = [])) || (!change1))) then (
 some (.inr (.ext 23))
 ) else (
 bnd1 (gd ((decide (0 < x2)) == true) (chk .i64 (x2 - 1))) fun (x5 : Int) =>
 bnd1 (gd ((decide (0 < x2)) == true) (idx l1 x5)) fun (x6 : GAttr) =>
 if ((decide (0 < x2)) && (!sLt x6.Name x4.Name)) then (
 some (.inr (.ext 5))
 ) else (
 bnd1 (chk .i64 (x2 + 1)) fun (x7 : Int) =>
 some (.inl x7)
 )
 )
 )
 ) else (
 some (.inr (.nrm ()))
 )
noncomputable def ref_AttrsError (l1 : List GAttr) (change1 : Bool) : Option (Int) :=
 ctl1 (iter (fun (a : Int) => ref_AttrsError_L1 l1 change1 a) 0) fun (u2 : Unit) =>
 some 0
noncomputable def law_end : Option (GElem) :=
 some (GElem.mk 10 0 [])
noncomputable def flow_Char (c1 : Int) : Option (Bool) :=
 some (((((decide (c1 = 9)) || (decide (c1 = 10))) || ((decide (32 ≤ c1)) && (decide (c1 < 127)))) || ((decide (160 ≤ c1)) && (decide (c1 < 55296)))) || ((decide (57343 < c1)) && (decide (c1 ≤ 1114111))))
noncomputable def flow_elem (x1 : GElem) : Option (Int) :=
 if ((!decide (x1.Char = 0)) == (!decide (x1.Ref = 0))) then (
 some 4
 ) else (
 bnd1 (gd ((decide (x1.Ref = 0)) == true) (flow_Char x1.Char)) fun (r1 : Bool) =>
 bnd1 (
 if ((decide (x1.Ref = 0)) && (!r1)) then (
 some ((decide (x1.Ref = 0)) && (!r1))
 ) else (
 some ((!decide (x1.Ref = 0)) && ((decide (x1.Ref < 1)) || (decide (1073741824 < x1.Ref))))
 )
 ) fun (x2 : Bool) =>
 if x2 then (
 some 2
 ) else (
 bnd1 (attr_Check x1.Attrs) fun (r2 : Int) =>
 some r2
 )
 )
noncomputable def flow_CheckPart_L1 (f1 : List GElem) (x2 : Int) : Option (Int ⊕ (Ctl Unit Int)) :=
 if (decide (x2 < (f1.length : Int))) then (
 bnd1 (idx f1 x2) fun (x4 : GElem) =>
 bnd1 (flow_elem x4) fun (e1 : Int) =>
 if (!decide (e1 = 0)) then (
 some (.inr (.ext e1))
 ) else (
 bnd1 (chk .i64 (x2 + 1)) fun (x5 : Int) =>
 some (.inl x5)
 )
 ) else (
 some (.inr (.nrm ()))
 )
noncomputable def flow_CheckPart (f1 : List GElem) : Option (Int) :=
 ctl1 (iter (fun (a : Int) => flow_CheckPart_L1 f1 a) 0) fun (u2 : Unit) =>
 some 0
noncomputable def ref_Char (c1 : Int) : Option (Bool) :=
 bnd1 (gd (((decide (c1 = 9)) || (decide (c1 = 10))) == false) (ref_In c1 32 126)) fun (r1 : Bool) =>
 bnd1 (gd ((((decide (c1 = 9)) || (decide (c1 = 10))) || r1) == false) (ref_In c1 160 55295)) fun (r2 : Bool) =>
 bnd1 (gd (((((decide (c1 = 9)) || (decide (c1 = 10))) || r1) || r2) == false) (ref_In c1 57344 1114111)) fun (r3 : Bool) =>
 some (((((decide (c1 = 9)) || (decide (c1 = 10))) || r1) || r2) || r3)
noncomputable def ref_ElemError (x1 : GElem) : Option (Int) :=
 if (((decide (x1.Char = 0)) && (decide (x1.Ref = 0))) || ((!decide (x1.Char = 0)) && (!decide (x1.Ref = 0)))) then (
 some 4
 ) else (
 bnd1 (gd ((!decide (x1.Char = 0)) == true) (ref_Char x1.Char)) fun (r1 : Bool) =>
 bnd1 (gd ((((!decide (x1.Char = 0)) && (!r1)) == false) && ((!decide (x1.Ref = 0)) == true)) (ref_In x1.Ref 1 1073741824)) fun (r2 : Bool) =>
 if (((!decide (x1.Char = 0)) && (!r1)) || ((!decide (x1.Ref = 0)) && (!r2))) then (
 some 2
 ) else (
 bnd1 (ref_AttrsError x1.Attrs false) fun (r3 : Int) =>
 some r3
 )
 )
noncomputable def ref_PartError_L1 (f1 : List GElem) (x2 : Int) : Option (Int ⊕ (Ctl Unit Int)) :=
 if (decide (x2 < (f1.length : Int))) then (
 bnd1 (idx f1 x2) fun (x4 : GElem) =>
 bnd1 (ref_ElemError x4) fun (e1 : Int) =>
 if (!decide (e1 = 0)) then (
 some (.inr (.ext e1))
 ) else (
 bnd1 (chk .i64 (x2 + 1)) fun (x5 : Int) =>
 some (.inl x5)
 )
 ) else (
 some (.inr (.nrm ()))
 )
noncomputable def ref_PartError (f1 : List GElem) : Option (Int) :=
 ctl1 (iter (fun (a : Int) => ref_PartError_L1 f1 a) 0) fun (u2 : Unit) =>
 some 0
noncomputable def attr_Same_L1 (a1 : List GAttr) (b1 : List GAttr) (x2 : Int) : Option (Int ⊕ (Ctl Unit Bool)) :=
 if (decide (x2 < (a1.length : Int))) then (
 bnd1 (idx a1 x2) fun (x4 : GAttr) =>
 bnd1 (idx b1 x2) fun (x5 : GAttr) =>
 if (!(decide (x4.Name = x5.Name) && (decide (x4.Value = x5.Value) && true))) then (
 some (.inr (.ext false))
 ) else (
 bnd1 (chk .i64 (x2 + 1)) fun (x6 : Int) =>
 some (.inl x6)
 )
 ) else (
 some (.inr (.nrm ()))
 )
noncomputable def attr_Same (a1 : List GAttr) (b1 : List GAttr) : Option (Bool) :=
 if (!decide ((a1.length : Int) = (b1.length : Int))) then (
 some false
 ) else (
 ctl1 (iter (fun (a : Int) => attr_Same_L1 a1 b1 a) 0) fun (u2 : Unit) =>
 some true
 )
end Go.Proofs.YthoepnnckmfipaaGreatDoor.Al


namespace Go.Proofs.YthoepnnckmfipaaGreatDoor.Al
structure Ref_Act where
 Adds : List (List GElem)
 Cuts : List Bool
 Attrs : List (List GAttr)
deriving DecidableEq
instance : Inhabited Ref_Act := ⟨⟨[], [], []⟩⟩
end Go.Proofs.YthoepnnckmfipaaGreatDoor.Al


namespace Go.Proofs.YthoepnnckmfipaaGreatDoor.Al
end Go.Proofs.YthoepnnckmfipaaGreatDoor.Al


namespace Go.Proofs.YthoepnnckmfipaaGreatDoor.Al
structure Delta_Reader where
 steps : List GStep
 used : Int
deriving DecidableEq
instance : Inhabited Delta_Reader := ⟨⟨[], 0⟩⟩
structure Delta_Writer where
 out : List GStep
 add : List GElem
 cut : Int
deriving DecidableEq
instance : Inhabited Delta_Writer := ⟨⟨[], [], 0⟩⟩
noncomputable def law_on (name1 : List UInt8) : Option ((List GAttr)) :=
 some [(GAttr.mk name1 [111, 110])]
noncomputable def delta_step (s1 : GStep) : Option (Int) :=
 bnd1 (
 if (decide (s1.Kind = 0)) then (
 some (decide (s1.Kind = 0))
 ) else (
 some (decide (s1.Kind = 2))
 )
 ) fun (x1 : Bool) =>
 if x1 then (
 if ((decide (0 < (s1.Elems.length : Int))) || ((decide (s1.Kind = 2)) && (decide (0 < (s1.Attrs.length : Int))))) then (
 some 4
 ) else (
 if ((decide (s1.N < 1)) || (decide (2147483647 < s1.N))) then (
 some 2
 ) else (
 bnd1 (attr_CheckChange s1.Attrs) fun (r1 : Int) =>
 some r1
 )
 )
 ) else (
 if (decide (s1.Kind = 1)) then (
 if ((!decide (s1.N = 0)) || (decide (0 < (s1.Attrs.length : Int)))) then (
 some 4
 ) else (
 if (decide ((s1.Elems.length : Int) = 0)) then (
 some 11
 ) else (
 bnd1 (flow_CheckPart s1.Elems) fun (r2 : Int) =>
 some r2
 )
 )
 ) else (
 some 8
 )
 )
noncomputable def delta_size (s1 : GStep) : Option (Int) :=
 if (decide (s1.Kind = 1)) then (
 some (s1.Elems.length : Int)
 ) else (
 some s1.N
 )
noncomputable def delta_Check_L1 (d1 : List GStep) (before2 : Int) (after2 : Int) (x2 : Int) : Option ((Int × Int × Int) ⊕ (Ctl (Int × Int) Int)) :=
 if (decide (x2 < (d1.length : Int))) then (
 ctl2 (
 bnd1 (idx d1 x2) fun (x5 : GStep) =>
 bnd1 (delta_step x5) fun (e1 : Int) =>
 if (!decide (e1 = 0)) then (
 some (.ext (.inr (.ext e1)))
 ) else (
 ctl1 (
 if (decide (0 < x2)) then (
 bnd1 (chk .i64 (x2 - 1)) fun (x8 : Int) =>
 bnd1 (idx d1 x8) fun (x9 : GStep) =>
 bnd1 (gd (((decide (x9.Kind = x5.Kind)) == true) && ((!decide (x5.Kind = 0)) == false)) (attr_Same x9.Attrs x5.Attrs)) fun (r2 : Bool) =>
 if (((decide (x9.Kind = x5.Kind)) && ((!decide (x5.Kind = 0)) || r2)) || ((decide (x9.Kind = 2)) && (decide (x5.Kind = 1)))) then (
 some (.ext (.ext (.inr (.ext 5))))
 ) else (
 some (.nrm ())
 )
 ) else (
 some (.nrm ())
 )
 ) fun (u2 : Unit) =>
 bnd1 (
 if (!decide (x5.Kind = 1)) then (
 bnd1 (chk .i64 (before2 + x5.N)) fun (x7 : Int) =>
 some (min x7 2147483648)
 ) else (
 some before2
 )
 ) fun (before6 : Int) =>
 if (!decide (x5.Kind = 2)) then (
 bnd1 (delta_size x5) fun (r1 : Int) =>
 bnd1 (chk .i64 (after2 + r1)) fun (x6 : Int) =>
 some (.nrm (before6, (min x6 2147483648)))
 ) else (
 some (.nrm (before6, after2))
 )
 )
 ) fun (before5 : Int) (after5 : Int) =>
 bnd1 (chk .i64 (x2 + 1)) fun (x4 : Int) =>
 some (.inl (before5, after5, x4))
 ) else (
 some (.inr (.nrm (before2, after2)))
 )
noncomputable def delta_Check (d1 : List GStep) : Option (Int) :=
 ctl2 (iter (fun (a : Int × Int × Int) => delta_Check_L1 d1 a.1 a.2.1 a.2.2) (0, 0, 0)) fun (before4 : Int) (after4 : Int) =>
 if ((decide (2147483647 < before4)) || (decide (2147483647 < after4))) then (
 some 3
 ) else (
 some 0
 )
noncomputable def flow_Copy_L1 (f1 : List GElem) (x2 : Int) (out3 : List GElem) : Option ((Int × (List GElem)) ⊕ (List GElem)) :=
 if (decide (x2 < (f1.length : Int))) then (
 bnd1 (idx f1 x2) fun (x4 : GElem) =>
 bnd1 (app 32 [] x4.Attrs) fun (l1 : List GAttr) =>
 bnd1 (idx out3 x2) fun (x5 : GElem) =>
 bnd1 (chk .i64 (x2 + 1)) fun (x6 : Int) =>
 some (.inl (x6, (out3.set x2.toNat (GElem.mk x4.Char x4.Ref l1))))
 ) else (
 some (.inr out3)
 )
noncomputable def flow_Copy (f1 : List GElem) : Option ((List GElem)) :=
 bnd1 (mk 40 (f1.length : Int) (GElem.mk 0 0 [])) fun (out1 : List GElem) =>
 bnd1 (iter (fun (a : Int × (List GElem)) => flow_Copy_L1 f1 a.1 a.2) (0, out1)) fun (out5 : List GElem) =>
 some out5
noncomputable def ref_StepError (s1 : GStep) : Option (Int) :=
 bnd1 (ref_In s1.Kind 0 2) fun (r1 : Bool) =>
 if (!r1) then (
 some 8
 ) else (
 if (decide (s1.Kind = 1)) then (
 if ((!decide (s1.N = 0)) || (decide (0 < (s1.Attrs.length : Int)))) then (
 some 4
 ) else (
 if (decide ((s1.Elems.length : Int) = 0)) then (
 some 11
 ) else (
 bnd1 (ref_PartError s1.Elems) fun (r2 : Int) =>
 some r2
 )
 )
 ) else (
 if ((decide (0 < (s1.Elems.length : Int))) || ((decide (s1.Kind = 2)) && (decide (0 < (s1.Attrs.length : Int))))) then (
 some 4
 ) else (
 bnd1 (ref_In s1.N 1 2147483647) fun (r3 : Bool) =>
 if (!r3) then (
 some 2
 ) else (
 bnd1 (ref_AttrsError s1.Attrs true) fun (r4 : Int) =>
 some r4
 )
 )
 )
 )
noncomputable def ref_DeltaError_L1 (d1 : List GStep) (old2 : Int) (now2 : Int) (x2 : Int) : Option ((Int × Int × Int) ⊕ (Ctl (Int × Int) Int)) :=
 if (decide (x2 < (d1.length : Int))) then (
 ctl2 (
 bnd1 (idx d1 x2) fun (x5 : GStep) =>
 bnd1 (ref_StepError x5) fun (e1 : Int) =>
 if (!decide (e1 = 0)) then (
 some (.ext (.inr (.ext e1)))
 ) else (
 ctl1 (
 if (decide (0 < x2)) then (
 bnd1 (chk .i64 (x2 - 1)) fun (x7 : Int) =>
 bnd1 (idx d1 x7) fun (x8 : GStep) =>
 if (decide (x5.Kind = 1)) then (
 if (!decide (x8.Kind = 0)) then (
 some (.ext (.ext (.inr (.ext 5))))
 ) else (
 some (.nrm ())
 )
 ) else (
 if (decide (x5.Kind = 2)) then (
 if (decide (x8.Kind = 2)) then (
 some (.ext (.ext (.inr (.ext 5))))
 ) else (
 some (.nrm ())
 )
 ) else (
 bnd1 (gd ((decide (x8.Kind = 0)) == true) (ref_SameAttrs x8.Attrs x5.Attrs)) fun (r1 : Bool) =>
 if ((decide (x8.Kind = 0)) && r1) then (
 some (.ext (.ext (.inr (.ext 5))))
 ) else (
 some (.nrm ())
 )
 )
 )
 ) else (
 some (.nrm ())
 )
 ) fun (u2 : Unit) =>
 bnd1 (
 if ((!decide (x5.Kind = 1)) && (decide (old2 < 2147483648))) then (
 bnd1 (chk .i64 (old2 + x5.N)) fun (old7 : Int) =>
 some old7
 ) else (
 some old2
 )
 ) fun (old6 : Int) =>
 if ((!decide (x5.Kind = 2)) && (decide (now2 < 2147483648))) then (
 bnd1 (chk .i64 (x5.N + (x5.Elems.length : Int))) fun (x6 : Int) =>
 bnd1 (chk .i64 (now2 + x6)) fun (now6 : Int) =>
 some (.nrm (old6, now6))
 ) else (
 some (.nrm (old6, now2))
 )
 )
 ) fun (old5 : Int) (now5 : Int) =>
 bnd1 (chk .i64 (x2 + 1)) fun (x4 : Int) =>
 some (.inl (old5, now5, x4))
 ) else (
 some (.inr (.nrm (old2, now2)))
 )
noncomputable def ref_DeltaError (d1 : List GStep) : Option (Int) :=
 ctl2 (iter (fun (a : Int × Int × Int) => ref_DeltaError_L1 d1 a.1 a.2.1 a.2.2) (0, 0, 0)) fun (old4 : Int) (now4 : Int) =>
 if ((decide (2147483647 < old4)) || (decide (2147483647 < now4))) then (
 some 3
 ) else (
 some 0
 )
noncomputable def ref_SameElem (a1 : GElem) (b1 : GElem) : Option (Bool) :=
 bnd1 (gd (((decide (a1.Char = b1.Char)) && (decide (a1.Ref = b1.Ref))) == true) (ref_SameAttrs a1.Attrs b1.Attrs)) fun (r1 : Bool) =>
 some (((decide (a1.Char = b1.Char)) && (decide (a1.Ref = b1.Ref))) && r1)
noncomputable def ref_SameFlow_L1 (a1 : List GElem) (b1 : List GElem) (x2 : Int) : Option (Int ⊕ (Ctl Unit Bool)) :=
 if (decide (x2 < (a1.length : Int))) then (
 bnd1 (idx a1 x2) fun (x4 : GElem) =>
 bnd1 (idx b1 x2) fun (x5 : GElem) =>
 bnd1 (ref_SameElem x4 x5) fun (r1 : Bool) =>
 if (!r1) then (
 some (.inr (.ext false))
 ) else (
 bnd1 (chk .i64 (x2 + 1)) fun (x6 : Int) =>
 some (.inl x6)
 )
 ) else (
 some (.inr (.nrm ()))
 )
noncomputable def ref_SameFlow (a1 : List GElem) (b1 : List GElem) : Option (Bool) :=
 if (!decide ((a1.length : Int) = (b1.length : Int))) then (
 some false
 ) else (
 ctl1 (iter (fun (a : Int) => ref_SameFlow_L1 a1 b1 a) 0) fun (u2 : Unit) =>
 some true
 )
noncomputable def flow_Check_L1 (f1 : List GElem) (text1 : Bool) (x2 : Int) : Option (Int ⊕ (Ctl Unit Int)) :=
 if (decide (x2 < (f1.length : Int))) then (
 bnd1 (idx f1 x2) fun (x6 : GElem) =>
 bnd1 (flow_elem x6) fun (e1 : Int) =>
 if (!decide (e1 = 0)) then (
 some (.inr (.ext e1))
 ) else (
 if ((!text1) && (decide (x6.Ref = 0))) then (
 some (.inr (.ext 8))
 ) else (
 bnd1 (chk .i64 (x2 + 1)) fun (x7 : Int) =>
 some (.inl x7)
 )
 )
 ) else (
 some (.inr (.nrm ()))
 )
noncomputable def flow_Check (f1 : List GElem) (text1 : Bool) : Option (Int) :=
 ctl1 (iter (fun (a : Int) => flow_Check_L1 f1 text1 a) 0) fun (u2 : Unit) =>
 bnd1 (gd ((text1 == true) && ((decide ((f1.length : Int) = 0)) == false)) (chk .i64 ((f1.length : Int) - 1))) fun (x4 : Int) =>
 bnd1 (gd ((text1 == true) && ((decide ((f1.length : Int) = 0)) == false)) (idx f1 x4)) fun (x5 : GElem) =>
 if (text1 && ((decide ((f1.length : Int) = 0)) || (!decide (x5.Char = 10)))) then (
 some 11
 ) else (
 some 0
 )
noncomputable def ref_FlowError_L1 (f1 : List GElem) (text1 : Bool) (x2 : Int) : Option (Int ⊕ (Ctl Unit Int)) :=
 if (decide (x2 < (f1.length : Int))) then (
 bnd1 (idx f1 x2) fun (x6 : GElem) =>
 bnd1 (ref_ElemError x6) fun (e1 : Int) =>
 if (!decide (e1 = 0)) then (
 some (.inr (.ext e1))
 ) else (
 if ((!text1) && (!decide (x6.Char = 0))) then (
 some (.inr (.ext 8))
 ) else (
 bnd1 (chk .i64 (x2 + 1)) fun (x7 : Int) =>
 some (.inl x7)
 )
 )
 ) else (
 some (.inr (.nrm ()))
 )
noncomputable def ref_FlowError (f1 : List GElem) (text1 : Bool) : Option (Int) :=
 ctl1 (iter (fun (a : Int) => ref_FlowError_L1 f1 text1 a) 0) fun (u2 : Unit) =>
 bnd1 (gd ((text1 == true) && ((decide ((f1.length : Int) = 0)) == false)) (chk .i64 ((f1.length : Int) - 1))) fun (x4 : Int) =>
 bnd1 (gd ((text1 == true) && ((decide ((f1.length : Int) = 0)) == false)) (idx f1 x4)) fun (x5 : GElem) =>
 if (text1 && ((decide ((f1.length : Int) = 0)) || (!decide (x5.Char = 10)))) then (
 some 11
 ) else (
 some 0
 )
end Go.Proofs.YthoepnnckmfipaaGreatDoor.Al


namespace Go.Proofs.YthoepnnckmfipaaGreatDoor.Al
structure Utf8_AcceptRange where
 lo : Int
 hi : Int
deriving DecidableEq
instance : Inhabited Utf8_AcceptRange := ⟨⟨0, 0⟩⟩
@[reducible] def Utf8_AcceptRange.row (x : Utf8_AcceptRange) : List RV := [.int .u8 x.lo, .int .u8 x.hi]
noncomputable def tabAccept : List Utf8_AcceptRange := tabAccept0.map fun p => Utf8_AcceptRange.mk p.1 p.2
noncomputable def unicode_utf8_decodeRuneInStringSlow (s1 : List UInt8) : Option (Int × Int) :=
 if (decide ((s1.length : Int) < 1)) then (
 some (65533, 0)
 ) else (
 bnd1 (idx s1 0) fun (s01 : UInt8) =>
 bnd1 (idx tabFirst (s01.toNat : Int)) fun (x1 : Int) =>
 if (decide (240 ≤ x1)) then (
 some ((bOr .i32 (bAndNot .i32 (IntKind.i32.wrap (s01.toNat : Int)) (shrC .i32 (shlC .i32 (IntKind.i32.wrap x1) 31) 31)) (bAnd .i32 65533 (shrC .i32 (shlC .i32 (IntKind.i32.wrap x1) 31) 31))), 1)
 ) else (
 bnd1 (idx tabAccept (shrC .u8 x1 4)) fun (x2 : Utf8_AcceptRange) =>
 if (decide ((s1.length : Int) < (IntKind.i64.wrap (bAnd .u8 x1 7)))) then (
 some (65533, 1)
 ) else (
 bnd1 (idx s1 1) fun (s11 : UInt8) =>
 if ((decide ((s11.toNat : Int) < x2.lo)) || (decide (x2.hi < (s11.toNat : Int)))) then (
 some (65533, 1)
 ) else (
 if (decide ((IntKind.i64.wrap (bAnd .u8 x1 7)) ≤ 2)) then (
 some ((bOr .i32 (shlC .i32 (IntKind.i32.wrap (bAnd .u8 (s01.toNat : Int) 31)) 6) (IntKind.i32.wrap (bAnd .u8 (s11.toNat : Int) 63))), 2)
 ) else (
 bnd1 (idx s1 2) fun (s21 : UInt8) =>
 if ((decide ((s21.toNat : Int) < 128)) || (decide (191 < (s21.toNat : Int)))) then (
 some (65533, 1)
 ) else (
 if (decide ((IntKind.i64.wrap (bAnd .u8 x1 7)) ≤ 3)) then (
 some ((bOr .i32 (bOr .i32 (shlC .i32 (IntKind.i32.wrap (bAnd .u8 (s01.toNat : Int) 15)) 12) (shlC .i32 (IntKind.i32.wrap (bAnd .u8 (s11.toNat : Int) 63)) 6)) (IntKind.i32.wrap (bAnd .u8 (s21.toNat : Int) 63))), 3)
 ) else (
 bnd1 (idx s1 3) fun (s31 : UInt8) =>
 if ((decide ((s31.toNat : Int) < 128)) || (decide (191 < (s31.toNat : Int)))) then (
 some (65533, 1)
 ) else (
 some ((bOr .i32 (bOr .i32 (bOr .i32 (shlC .i32 (IntKind.i32.wrap (bAnd .u8 (s01.toNat : Int) 7)) 18) (shlC .i32 (IntKind.i32.wrap (bAnd .u8 (s11.toNat : Int) 63)) 12)) (shlC .i32 (IntKind.i32.wrap (bAnd .u8 (s21.toNat : Int) 63)) 6)) (IntKind.i32.wrap (bAnd .u8 (s31.toNat : Int) 63))), 4)
 )
 )
 )
 )
 )
 )
 )
 )
noncomputable def unicode_utf8_DecodeRuneInString (s1 : List UInt8) : Option (Int × Int) :=
 bnd1 (gd ((!decide (s1 = [])) == true) (idx s1 0)) fun (ch1 : UInt8) =>
 if ((!decide (s1 = [])) && (decide ((ch1.toNat : Int) < 128))) then (
 bnd1 (idx s1 0) fun (ch2 : UInt8) =>
 some ((IntKind.i32.wrap (ch2.toNat : Int)), 1)
 ) else (
 bnd2 (unicode_utf8_decodeRuneInStringSlow s1) fun (r1 : Int) (r2 : Int) =>
 some (r1, r2)
 )
end Go.Proofs.YthoepnnckmfipaaGreatDoor.Al


namespace Go.Proofs.YthoepnnckmfipaaGreatDoor.Al
noncomputable def flow_Same_L1 (a1 : List GElem) (b1 : List GElem) (x2 : Int) : Option (Int ⊕ (Ctl Unit Bool)) :=
 if (decide (x2 < (a1.length : Int))) then (
 bnd1 (idx a1 x2) fun (x4 : GElem) =>
 bnd1 (idx b1 x2) fun (x5 : GElem) =>
 bnd1 (gd (((!decide (x4.Char = x5.Char)) || (!decide (x4.Ref = x5.Ref))) == false) (attr_Same x4.Attrs x5.Attrs)) fun (r1 : Bool) =>
 if (((!decide (x4.Char = x5.Char)) || (!decide (x4.Ref = x5.Ref))) || (!r1)) then (
 some (.inr (.ext false))
 ) else (
 bnd1 (chk .i64 (x2 + 1)) fun (x6 : Int) =>
 some (.inl x6)
 )
 ) else (
 some (.inr (.nrm ()))
 )
noncomputable def flow_Same (a1 : List GElem) (b1 : List GElem) : Option (Bool) :=
 if (!decide ((a1.length : Int) = (b1.length : Int))) then (
 some false
 ) else (
 ctl1 (iter (fun (a : Int) => flow_Same_L1 a1 b1 a) 0) fun (u2 : Unit) =>
 some true
 )
noncomputable def flow_Refs_L1 (f1 : List GElem) (x2 : Int) (out2 : List Int) : Option ((Int × (List Int)) ⊕ (List Int)) :=
 if (decide (x2 < (f1.length : Int))) then (
 bnd1 (
 bnd1 (idx f1 x2) fun (x5 : GElem) =>
 if (!decide (x5.Ref = 0)) then (
 bnd1 (app 8 out2 [x5.Ref]) fun (out6 : List Int) =>
 some out6
 ) else (
 some out2
 )
 ) fun (out5 : List Int) =>
 bnd1 (chk .i64 (x2 + 1)) fun (x4 : Int) =>
 some (.inl (x4, out5))
 ) else (
 some (.inr out2)
 )
noncomputable def flow_Refs (f1 : List GElem) : Option ((List Int)) :=
 bnd1 (iter (fun (a : Int × (List Int)) => flow_Refs_L1 f1 a.1 a.2) (0, [])) fun (out4 : List Int) =>
 some out4
end Go.Proofs.YthoepnnckmfipaaGreatDoor.Al


namespace Go.Proofs.YthoepnnckmfipaaGreatDoor.Al
end Go.Proofs.YthoepnnckmfipaaGreatDoor.Al


namespace Go.Proofs.YthoepnnckmfipaaGreatDoor.Al
structure GDoc where
 Nodes : List GNode
deriving DecidableEq
instance : Inhabited GDoc := ⟨⟨[]⟩⟩
noncomputable def doc_First : Option (GDoc) :=
 some (GDoc.mk [(GNode.mk 1 0 [] [(GElem.mk 0 2 [])] (GGrid.mk 0 0 [] []) []), (GNode.mk 2 1 [] [(GElem.mk 10 0 [])] (GGrid.mk 0 0 [] []) [])])
noncomputable def doc_Texts (kind1 : Int) : Option (Bool) :=
 some ((((decide (kind1 = 1)) || (decide (kind1 = 3))) || (decide (kind1 = 4))) || (decide (kind1 = 12)))
noncomputable def doc_Lists (kind1 : Int) : Option (Bool) :=
 some ((decide (kind1 = 0)) || (decide (kind1 = 7)))
noncomputable def doc_Grids (kind1 : Int) : Option (Bool) :=
 some ((decide (kind1 = 2)) || (decide (kind1 = 6)))
noncomputable def slices_Equal_api_Rect_api_Rect_L1 (s11 : List GRect) (s21 : List GRect) (x2 : Int) : Option (Int ⊕ (Ctl Unit Bool)) :=
 if (decide (x2 < (s11.length : Int))) then (
 bnd1 (idx s11 x2) fun (x4 : GRect) =>
 bnd1 (idx s21 x2) fun (x5 : GRect) =>
 if (!(decide (x4.Row = x5.Row) && (decide (x4.Col = x5.Col) && (decide (x4.H = x5.H) && (decide (x4.W = x5.W) && true))))) then (
 some (.inr (.ext false))
 ) else (
 bnd1 (chk .i64 (x2 + 1)) fun (x6 : Int) =>
 some (.inl x6)
 )
 ) else (
 some (.inr (.nrm ()))
 )
noncomputable def slices_Equal_api_Rect_api_Rect (s11 : List GRect) (s21 : List GRect) : Option (Bool) :=
 if (!decide ((s11.length : Int) = (s21.length : Int))) then (
 some false
 ) else (
 ctl1 (iter (fun (a : Int) => slices_Equal_api_Rect_api_Rect_L1 s11 s21 a) 0) fun (u2 : Unit) =>
 some true
 )
noncomputable def grid_SameCell (a1 : GCell) (b1 : GCell) : Option (Bool) :=
 bnd1 (gd (((((decide (a1.Row = b1.Row)) && (decide (a1.Col = b1.Col))) && (decide (a1.Text = b1.Text))) && (decide (a1.Ref = b1.Ref))) == true) (attr_Same a1.Attrs b1.Attrs)) fun (r1 : Bool) =>
 some (((((decide (a1.Row = b1.Row)) && (decide (a1.Col = b1.Col))) && (decide (a1.Text = b1.Text))) && (decide (a1.Ref = b1.Ref))) && r1)
noncomputable def slices_EqualFunc_api_Cell_api_Cell_api_Cell_api_Cell__SameCell_L1 (s11 : List GCell) (s21 : List GCell) (x2 : Int) : Option (Int ⊕ (Ctl Unit Bool)) :=
 if (decide (x2 < (s11.length : Int))) then (
 bnd1 (idx s11 x2) fun (x4 : GCell) =>
 bnd1 (idx s21 x2) fun (x5 : GCell) =>
 bnd1 (grid_SameCell x4 x5) fun (r1 : Bool) =>
 if (!r1) then (
 some (.inr (.ext false))
 ) else (
 bnd1 (chk .i64 (x2 + 1)) fun (x6 : Int) =>
 some (.inl x6)
 )
 ) else (
 some (.inr (.nrm ()))
 )
noncomputable def slices_EqualFunc_api_Cell_api_Cell_api_Cell_api_Cell__SameCell (s11 : List GCell) (s21 : List GCell) : Option (Bool) :=
 if (!decide ((s11.length : Int) = (s21.length : Int))) then (
 some false
 ) else (
 ctl1 (iter (fun (a : Int) => slices_EqualFunc_api_Cell_api_Cell_api_Cell_api_Cell__SameCell_L1 s11 s21 a) 0) fun (u2 : Unit) =>
 some true
 )
noncomputable def grid_Same (a1 : GGrid) (b1 : GGrid) : Option (Bool) :=
 bnd1 (gd (((decide (a1.Rows = b1.Rows)) && (decide (a1.Cols = b1.Cols))) == true) (slices_Equal_api_Rect_api_Rect a1.Merges b1.Merges)) fun (r1 : Bool) =>
 bnd1 (gd ((((decide (a1.Rows = b1.Rows)) && (decide (a1.Cols = b1.Cols))) && r1) == true) (slices_EqualFunc_api_Cell_api_Cell_api_Cell_api_Cell__SameCell a1.Cells b1.Cells)) fun (r2 : Bool) =>
 some ((((decide (a1.Rows = b1.Rows)) && (decide (a1.Cols = b1.Cols))) && r1) && r2)
noncomputable def doc_Draws (kind1 : Int) : Option (Bool) :=
 some (((decide (kind1 = 8)) || (decide (kind1 = 9))) || (decide (kind1 = 10)))
noncomputable def grid_Text_L1 (s3 : List UInt8) : Option ((List UInt8) ⊕ (Ctl Unit Bool)) :=
 if (!decide (s3 = [])) then (
 bnd2 (unicode_utf8_DecodeRuneInString s3) fun (r1 : Int) (r2 : Int) =>
 bnd1 (gd ((((decide (r1 = 65533)) && (decide (r2 = 1))) || (decide (r1 = 10))) == false) (flow_Char (IntKind.i64.wrap r1))) fun (r3 : Bool) =>
 if ((((decide (r1 = 65533)) && (decide (r2 = 1))) || (decide (r1 = 10))) || (!r3)) then (
 some (.inr (.ext false))
 ) else (
 bnd1 (slc s3 r2 (s3.length : Int)) fun (s5 : List UInt8) =>
 some (.inl s5)
 )
 ) else (
 some (.inr (.nrm ()))
 )
noncomputable def grid_Text (s1 : List UInt8) : Option (Bool) :=
 ctl1 (iter (fun (a : (List UInt8)) => grid_Text_L1 a) s1) fun (u2 : Unit) =>
 some true
noncomputable def grid_empty (c1 : GCell) : Option (Bool) :=
 some (((decide (c1.Text = [])) && (decide (c1.Ref = 0))) && (decide ((c1.Attrs.length : Int) = 0)))
noncomputable def cmp_isNaN_int (x1 : Int) : Option (Bool) :=
 some (!decide (x1 = x1))
noncomputable def cmp_Compare_int (x1 : Int) (y1 : Int) : Option (Int) :=
 bnd1 (cmp_isNaN_int x1) fun (xNaN1 : Bool) =>
 bnd1 (cmp_isNaN_int y1) fun (yNaN1 : Bool) =>
 if xNaN1 then (
 if yNaN1 then (
 some 0
 ) else (
 some (-1)
 )
 ) else (
 if yNaN1 then (
 some 1
 ) else (
 if (decide (x1 < y1)) then (
 some (-1)
 ) else (
 if (decide (y1 < x1)) then (
 some 1
 ) else (
 some 0
 )
 )
 )
 )
noncomputable def cmp_Or_int_L1 (vals1 : List Int) (x2 : Int) : Option (Int ⊕ (Ctl Unit Int)) :=
 if (decide (x2 < (vals1.length : Int))) then (
 bnd1 (idx vals1 x2) fun (x4 : Int) =>
 if (!decide (x4 = 0)) then (
 some (.inr (.ext x4))
 ) else (
 bnd1 (chk .i64 (x2 + 1)) fun (x5 : Int) =>
 some (.inl x5)
 )
 ) else (
 some (.inr (.nrm ()))
 )
noncomputable def cmp_Or_int (vals1 : List Int) : Option (Int) :=
 ctl1 (iter (fun (a : Int) => cmp_Or_int_L1 vals1 a) 0) fun (u2 : Unit) =>
 some 0
noncomputable def grid_order (a1 : GCell) (b1 : GCell) : Option (Int) :=
 bnd1 (cmp_Compare_int a1.Row b1.Row) fun (r1 : Int) =>
 bnd1 (cmp_Compare_int a1.Col b1.Col) fun (r2 : Int) =>
 bnd1 (cmp_Or_int [r1, r2]) fun (r3 : Int) =>
 some r3
noncomputable def grid_cells_L1 (l1 : List GCell) (rows1 : Int) (cols1 : Int) (none1 : Bool) (x2 : Int) : Option (Int ⊕ (Ctl Unit Int)) :=
 if (decide (x2 < (l1.length : Int))) then (
 bnd1 (idx l1 x2) fun (x4 : GCell) =>
 if ((((decide (x4.Row < 0)) || (decide (rows1 ≤ x4.Row))) || (decide (x4.Col < 0))) || (decide (cols1 ≤ x4.Col))) then (
 some (.inr (.ext 2))
 ) else (
 if ((decide (x4.Ref < 0)) || (decide (1073741824 < x4.Ref))) then (
 some (.inr (.ext 2))
 ) else (
 bnd1 (grid_Text x4.Text) fun (r1 : Bool) =>
 if (!r1) then (
 some (.inr (.ext 23))
 ) else (
 bnd1 (attr_Check x4.Attrs) fun (e1 : Int) =>
 if (!decide (e1 = 0)) then (
 some (.inr (.ext e1))
 ) else (
 bnd1 (grid_empty x4) fun (r2 : Bool) =>
 if (r2 && (!none1)) then (
 some (.inr (.ext 4))
 ) else (
 bnd1 (gd ((decide (0 < x2)) == true) (chk .i64 (x2 - 1))) fun (x5 : Int) =>
 bnd1 (gd ((decide (0 < x2)) == true) (idx l1 x5)) fun (x6 : GCell) =>
 bnd1 (gd ((decide (0 < x2)) == true) (grid_order x6 x4)) fun (r3 : Int) =>
 if ((decide (0 < x2)) && (decide (0 ≤ r3))) then (
 some (.inr (.ext 5))
 ) else (
 bnd1 (chk .i64 (x2 + 1)) fun (x7 : Int) =>
 some (.inl x7)
 )
 )
 )
 )
 )
 )
 ) else (
 some (.inr (.nrm ()))
 )
noncomputable def grid_cells (l1 : List GCell) (rows1 : Int) (cols1 : Int) (none1 : Bool) : Option (Int) :=
 ctl1 (iter (fun (a : Int) => grid_cells_L1 l1 rows1 cols1 none1 a) 0) fun (u2 : Unit) =>
 some 0
noncomputable def grid_inside (r1 : GRect) (rows1 : Int) (cols1 : Int) : Option (Bool) :=
 bnd1 (gd (((((((decide (0 ≤ r1.Row)) && (decide (0 ≤ r1.Col))) && (decide (1 ≤ r1.H))) && (decide (1 ≤ r1.W))) && (decide (r1.Row < rows1))) && (decide (r1.Col < cols1))) == true) (chk .i64 (rows1 - r1.Row))) fun (x1 : Int) =>
 bnd1 (gd ((((((((decide (0 ≤ r1.Row)) && (decide (0 ≤ r1.Col))) && (decide (1 ≤ r1.H))) && (decide (1 ≤ r1.W))) && (decide (r1.Row < rows1))) && (decide (r1.Col < cols1))) && (decide (r1.H ≤ x1))) == true) (chk .i64 (cols1 - r1.Col))) fun (x2 : Int) =>
 some ((((((((decide (0 ≤ r1.Row)) && (decide (0 ≤ r1.Col))) && (decide (1 ≤ r1.H))) && (decide (1 ≤ r1.W))) && (decide (r1.Row < rows1))) && (decide (r1.Col < cols1))) && (decide (r1.H ≤ x1))) && (decide (r1.W ≤ x2)))
noncomputable def grid_before (a1 : GRect) (b1 : GRect) : Option (Bool) :=
 some ((decide (a1.Row < b1.Row)) || ((decide (a1.Row = b1.Row)) && (decide (a1.Col < b1.Col))))
noncomputable def grid_meets (a1 : GRect) (b1 : GRect) : Option (Bool) :=
 bnd1 (chk .i64 (b1.Row + b1.H)) fun (x1 : Int) =>
 bnd1 (gd ((decide (a1.Row < x1)) == true) (chk .i64 (a1.Row + a1.H))) fun (x2 : Int) =>
 bnd1 (gd (((decide (a1.Row < x1)) && (decide (b1.Row < x2))) == true) (chk .i64 (b1.Col + b1.W))) fun (x3 : Int) =>
 bnd1 (gd ((((decide (a1.Row < x1)) && (decide (b1.Row < x2))) && (decide (a1.Col < x3))) == true) (chk .i64 (a1.Col + a1.W))) fun (x4 : Int) =>
 some ((((decide (a1.Row < x1)) && (decide (b1.Row < x2))) && (decide (a1.Col < x3))) && (decide (b1.Col < x4)))
noncomputable def grid_Check_f1 (w1 : GRect) (q1 : GRect) : Option (Bool) :=
 bnd1 (grid_meets q1 w1) fun (r1 : Bool) =>
 some r1
noncomputable def slices_IndexFunc_api_Rect_api_Rect__Check_f1_L1 (w1 : GRect) (s1 : List GRect) (x2 : Int) : Option (Int ⊕ (Ctl Unit Int)) :=
 if (decide (x2 < (s1.length : Int))) then (
 bnd1 (idx s1 x2) fun (x4 : GRect) =>
 bnd1 (grid_Check_f1 w1 x4) fun (r1 : Bool) =>
 if r1 then (
 some (.inr (.ext x2))
 ) else (
 bnd1 (chk .i64 (x2 + 1)) fun (x5 : Int) =>
 some (.inl x5)
 )
 ) else (
 some (.inr (.nrm ()))
 )
noncomputable def slices_IndexFunc_api_Rect_api_Rect__Check_f1 (w1 : GRect) (s1 : List GRect) : Option (Int) :=
 ctl1 (iter (fun (a : Int) => slices_IndexFunc_api_Rect_api_Rect__Check_f1_L1 w1 s1 a) 0) fun (u2 : Unit) =>
 some (-1)
noncomputable def slices_ContainsFunc_api_Rect_api_Rect__Check_f1 (w1 : GRect) (s1 : List GRect) : Option (Bool) :=
 bnd1 (slices_IndexFunc_api_Rect_api_Rect__Check_f1 w1 s1) fun (r1 : Int) =>
 some (decide (0 ≤ r1))
noncomputable def grid_Check_L1 (g1 : GGrid) (x2 : Int) : Option (Int ⊕ (Ctl Unit Int)) :=
 if (decide (x2 < (g1.Merges.length : Int))) then (
 bnd1 (idx g1.Merges x2) fun (x4 : GRect) =>
 bnd1 (grid_inside x4 g1.Rows g1.Cols) fun (r1 : Bool) =>
 if (!r1) then (
 some (.inr (.ext 2))
 ) else (
 if ((decide (x4.H = 1)) && (decide (x4.W = 1))) then (
 some (.inr (.ext 4))
 ) else (
 bnd1 (gd ((decide (0 < x2)) == true) (chk .i64 (x2 - 1))) fun (x5 : Int) =>
 bnd1 (gd ((decide (0 < x2)) == true) (idx g1.Merges x5)) fun (x6 : GRect) =>
 bnd1 (gd ((decide (0 < x2)) == true) (grid_before x6 x4)) fun (r2 : Bool) =>
 if ((decide (0 < x2)) && (!r2)) then (
 some (.inr (.ext 5))
 ) else (
 bnd1 (slc g1.Merges 0 x2) fun (l1 : List GRect) =>
 bnd1 (slices_ContainsFunc_api_Rect_api_Rect__Check_f1 x4 l1) fun (r3 : Bool) =>
 if r3 then (
 some (.inr (.ext 21))
 ) else (
 bnd1 (chk .i64 (x2 + 1)) fun (x7 : Int) =>
 some (.inl x7)
 )
 )
 )
 )
 ) else (
 some (.inr (.nrm ()))
 )
noncomputable def grid_Check (g1 : GGrid) : Option (Int) :=
 if ((((decide (g1.Rows < 0)) || (decide (2147483647 < g1.Rows))) || (decide (g1.Cols < 0))) || (decide (2147483647 < g1.Cols))) then (
 some 2
 ) else (
 bnd1 (grid_cells g1.Cells g1.Rows g1.Cols false) fun (e1 : Int) =>
 if (!decide (e1 = 0)) then (
 some e1
 ) else (
 ctl1 (iter (fun (a : Int) => grid_Check_L1 g1 a) 0) fun (u2 : Unit) =>
 some 0
 )
 )
noncomputable def doc_CheckCells_L1 (kind1 : Int) (l1 : List GCell) (x2 : Int) : Option (Int ⊕ (Ctl Unit Int)) :=
 if (decide (x2 < (l1.length : Int))) then (
 bnd1 (idx l1 x2) fun (x4 : GCell) =>
 if (((decide (kind1 = 2)) && ((!decide (x4.Text = [])) || (decide (0 < (x4.Attrs.length : Int))))) || ((decide (kind1 = 6)) && (!decide (x4.Ref = 0)))) then (
 some (.inr (.ext 4))
 ) else (
 bnd1 (chk .i64 (x2 + 1)) fun (x5 : Int) =>
 some (.inl x5)
 )
 ) else (
 some (.inr (.nrm ()))
 )
noncomputable def doc_CheckCells (kind1 : Int) (l1 : List GCell) : Option (Int) :=
 ctl1 (iter (fun (a : Int) => doc_CheckCells_L1 kind1 l1 a) 0) fun (u2 : Unit) =>
 some 0
noncomputable def replica_Place_L1 (s1 : List UInt8) (x3 : Int) : Option (Int ⊕ (Ctl Unit Bool)) :=
 if (decide (x3 < (s1.length : Int))) then (
 bnd1 (idx s1 x3) fun (ch2 : UInt8) =>
 if ((decide ((ch2.toNat : Int) < 97)) || (decide (122 < (ch2.toNat : Int)))) then (
 some (.inr (.ext false))
 ) else (
 bnd1 (chk .i64 (x3 + 1)) fun (x5 : Int) =>
 some (.inl x5)
 )
 ) else (
 some (.inr (.nrm ()))
 )
noncomputable def replica_Place (s1 : List UInt8) : Option (Bool) :=
 bnd1 (gd (((decide (s1 = [])) || (decide (200 < (s1.length : Int)))) == false) (chk .i64 ((s1.length : Int) - 1))) fun (x1 : Int) =>
 bnd1 (gd (((decide (s1 = [])) || (decide (200 < (s1.length : Int)))) == false) (idx s1 x1)) fun (ch1 : UInt8) =>
 if (((decide (s1 = [])) || (decide (200 < (s1.length : Int)))) || (decide ((ch1.toNat : Int) = 97))) then (
 some false
 ) else (
 ctl1 (iter (fun (a : Int) => replica_Place_L1 s1 a) 0) fun (u2 : Unit) =>
 some true
 )
noncomputable def replica_op (o1 : GDrawOp) : Option (Int) :=
 if ((!decide (o1.Kind = 0)) && (!decide (o1.Kind = 1))) then (
 some 8
 ) else (
 if ((((((decide (o1.Clock < 1)) || (decide (1073741824 < o1.Clock))) || (decide (o1.Site < 0))) || (decide (1000 < o1.Site))) || (decide (o1.Item < 1))) || (decide (1073741824 < o1.Item))) then (
 some 2
 ) else (
 bnd1 (
 if ((decide (o1.Kind = 0)) && ((!decide (o1.Name = [])) || (!decide (o1.Value = [])))) then (
 some ((decide (o1.Kind = 0)) && ((!decide (o1.Name = [])) || (!decide (o1.Value = []))))
 ) else (
 some ((decide (o1.Kind = 1)) && ((!decide (o1.Parent = 0)) || (!decide (o1.Place = []))))
 )
 ) fun (x1 : Bool) =>
 if x1 then (
 some 4
 ) else (
 if ((decide (o1.Kind = 0)) && ((decide (o1.Parent < (-1))) || (decide (1073741824 < o1.Parent)))) then (
 some 2
 ) else (
 bnd1 (gd ((decide (o1.Kind = 0)) == true) (replica_Place o1.Place)) fun (r1 : Bool) =>
 bnd1 (
 if ((decide (o1.Kind = 0)) && (!r1)) then (
 some ((decide (o1.Kind = 0)) && (!r1))
 ) else (
 bnd1 (gd ((decide (o1.Kind = 1)) == true) (attr_Name o1.Name)) fun (r3 : Bool) =>
 some ((decide (o1.Kind = 1)) && (!r3))
 )
 ) fun (x2 : Bool) =>
 if x2 then (
 some 9
 ) else (
 bnd1 (gd (((decide (o1.Kind = 1)) && (!decide (o1.Value = []))) == true) (attr_Value o1.Value)) fun (r2 : Bool) =>
 if (((decide (o1.Kind = 1)) && (!decide (o1.Value = []))) && (!r2)) then (
 some 23
 ) else (
 some 0
 )
 )
 )
 )
 )
 )
noncomputable def replica_stamps (a1 : GDrawOp) (b1 : GDrawOp) : Option (Int) :=
 bnd1 (cmp_Compare_int a1.Clock b1.Clock) fun (r1 : Int) =>
 bnd1 (cmp_Compare_int a1.Site b1.Site) fun (r2 : Int) =>
 bnd1 (cmp_Or_int [r1, r2]) fun (r3 : Int) =>
 some r3
noncomputable def replica_Check_L1 (l1 : List GDrawOp) (x2 : Int) : Option (Int ⊕ (Ctl Unit Int)) :=
 if (decide (x2 < (l1.length : Int))) then (
 bnd1 (idx l1 x2) fun (x4 : GDrawOp) =>
 bnd1 (replica_op x4) fun (e1 : Int) =>
 if (!decide (e1 = 0)) then (
 some (.inr (.ext e1))
 ) else (
 bnd1 (gd ((decide (0 < x2)) == true) (chk .i64 (x2 - 1))) fun (x5 : Int) =>
 bnd1 (gd ((decide (0 < x2)) == true) (idx l1 x5)) fun (x6 : GDrawOp) =>
 bnd1 (gd ((decide (0 < x2)) == true) (replica_stamps x6 x4)) fun (r1 : Int) =>
 if ((decide (0 < x2)) && (decide (0 ≤ r1))) then (
 some (.inr (.ext 5))
 ) else (
 bnd1 (chk .i64 (x2 + 1)) fun (x7 : Int) =>
 some (.inl x7)
 )
 )
 ) else (
 some (.inr (.nrm ()))
 )
noncomputable def replica_Check (l1 : List GDrawOp) : Option (Int) :=
 ctl1 (iter (fun (a : Int) => replica_Check_L1 l1 a) 0) fun (u2 : Unit) =>
 some 0
noncomputable def doc_CheckNode (n1 : GNode) : Option (Int) :=
 if ((decide (n1.ID < 1)) || (decide (1073741824 < n1.ID))) then (
 some 2
 ) else (
 if (((decide (n1.Kind < 0)) || (decide (13 ≤ n1.Kind))) || (!((decide (n1.ID = 1)) == (decide (n1.Kind = 0))))) then (
 some 8
 ) else (
 bnd1 (attr_Check n1.Attrs) fun (e1 : Int) =>
 if (!decide (e1 = 0)) then (
 some e1
 ) else (
 bnd1 (doc_Texts n1.Kind) fun (r1 : Bool) =>
 bnd1 (gd (r1 == false) (doc_Lists n1.Kind)) fun (r2 : Bool) =>
 bnd1 (doc_Grids n1.Kind) fun (grids1 : Bool) =>
 bnd1 (
 if (((!(r1 || r2)) && (decide (0 < (n1.Flow.length : Int)))) == false) then (
 if ((!grids1) == true) then (
 bnd1 (grid_Same n1.Grid (GGrid.mk 0 0 [] [])) fun (r7 : Bool) =>
 bnd1 (gd ((((!(r1 || r2)) && (decide (0 < (n1.Flow.length : Int)))) || ((!grids1) && (!r7))) == false) (doc_Draws n1.Kind)) fun (r8 : Bool) =>
 some ((((!(r1 || r2)) && (decide (0 < (n1.Flow.length : Int)))) || ((!grids1) && (!r7))) || ((!r8) && (decide (0 < (n1.Draw.length : Int)))))
 ) else (
 bnd1 (gd ((((!(r1 || r2)) && (decide (0 < (n1.Flow.length : Int)))) || ((!grids1) && false)) == false) (doc_Draws n1.Kind)) fun (r9 : Bool) =>
 some ((((!(r1 || r2)) && (decide (0 < (n1.Flow.length : Int)))) || ((!grids1) && false)) || ((!r9) && (decide (0 < (n1.Draw.length : Int)))))
 )
 ) else (
 bnd1 (gd ((((!(r1 || r2)) && (decide (0 < (n1.Flow.length : Int)))) || false) == false) (doc_Draws n1.Kind)) fun (r10 : Bool) =>
 some ((((!(r1 || r2)) && (decide (0 < (n1.Flow.length : Int)))) || false) || ((!r10) && (decide (0 < (n1.Draw.length : Int)))))
 )
 ) fun (x1 : Bool) =>
 if x1 then (
 some 4
 ) else (
 if (r1 || r2) then (
 bnd1 (flow_Check n1.Flow r1) fun (r4 : Int) =>
 some r4
 ) else (
 if grids1 then (
 bnd1 (grid_Check n1.Grid) fun (e2 : Int) =>
 if (!decide (e2 = 0)) then (
 some e2
 ) else (
 bnd1 (doc_CheckCells n1.Kind n1.Grid.Cells) fun (r5 : Int) =>
 some r5
 )
 ) else (
 bnd1 (replica_Check n1.Draw) fun (r6 : Int) =>
 some r6
 )
 )
 )
 )
 )
 )
noncomputable def flow_Refs_o_L1 (f1 : List GElem) (x2 : Int) (out2 : List Int) : Option ((Int × (List Int)) ⊕ (List Int)) :=
 if (decide (x2 < (f1.length : Int))) then (
 bnd1 (
 bnd1 (idx f1 x2) fun (x5 : GElem) =>
 if (!decide (x5.Ref = 0)) then (
 bnd1 (app 8 out2 [x5.Ref]) fun (out6 : List Int) =>
 some out6
 ) else (
 some out2
 )
 ) fun (out5 : List Int) =>
 bnd1 (chk .i64 (x2 + 1)) fun (x4 : Int) =>
 some (.inl (x4, out5))
 ) else (
 some (.inr out2)
 )
noncomputable def flow_Refs_o (f1 : List GElem) : Option ((List Int)) :=
 bnd1 (iter (fun (a : Int × (List Int)) => flow_Refs_o_L1 f1 a.1 a.2) (0, [])) fun (out4 : List Int) =>
 some out4
noncomputable def doc_Refs_L1 (n1 : GNode) (x2 : Int) (out2 : List Int) : Option ((Int × (List Int)) ⊕ (List Int)) :=
 if (decide (x2 < (n1.Grid.Cells.length : Int))) then (
 bnd1 (
 bnd1 (idx n1.Grid.Cells x2) fun (x5 : GCell) =>
 if (!decide (x5.Ref = 0)) then (
 bnd1 (app 8 out2 [x5.Ref]) fun (out6 : List Int) =>
 some out6
 ) else (
 some out2
 )
 ) fun (out5 : List Int) =>
 bnd1 (chk .i64 (x2 + 1)) fun (x4 : Int) =>
 some (.inl (x4, out5))
 ) else (
 some (.inr out2)
 )
noncomputable def doc_Refs (n1 : GNode) : Option ((List Int)) :=
 bnd1 (flow_Refs_o n1.Flow) fun (w1 : List Int) =>
 bnd1 (iter (fun (a : Int × (List Int)) => doc_Refs_L1 n1 a.1 a.2) (0, w1)) fun (out4 : List Int) =>
 some out4
noncomputable def doc_find_f1 (n1 : GNode) (id1 : Int) : Option (Int) :=
 if (decide (n1.ID < id1)) then (
 some (-1)
 ) else (
 if (decide (id1 < n1.ID)) then (
 some 1
 ) else (
 some 0
 )
 )
noncomputable def slices_BinarySearchFunc_api_Node_api_Node_int__find_f1_L1 (x1 : List GNode) (target1 : Int) (i4 : Int) (j2 : Int) : Option ((Int × Int) ⊕ Int) :=
 if (decide (i4 < j2)) then (
 bnd1 (chk .i64 (i4 + j2)) fun (x3 : Int) =>
 bnd1 (idx x1 (IntKind.i64.wrap (shrC .u64 (IntKind.u64.wrap x3) 1))) fun (x4 : GNode) =>
 bnd1 (doc_find_f1 x4 target1) fun (r2 : Int) =>
 if (decide (r2 < 0)) then (
 bnd1 (chk .i64 ((IntKind.i64.wrap (shrC .u64 (IntKind.u64.wrap x3) 1)) + 1)) fun (i10 : Int) =>
 some (.inl (i10, j2))
 ) else (
 some (.inl (i4, (IntKind.i64.wrap (shrC .u64 (IntKind.u64.wrap x3) 1))))
 )
 ) else (
 some (.inr i4)
 )
noncomputable def slices_BinarySearchFunc_api_Node_api_Node_int__find_f1 (x1 : List GNode) (target1 : Int) : Option (Int × Bool) :=
 bnd1 (iter (fun (a : Int × Int) => slices_BinarySearchFunc_api_Node_api_Node_int__find_f1_L1 x1 target1 a.1 a.2) (0, (x1.length : Int))) fun (i8 : Int) =>
 bnd1 (gd ((decide (i8 < (x1.length : Int))) == true) (idx x1 i8)) fun (x2 : GNode) =>
 bnd1 (gd ((decide (i8 < (x1.length : Int))) == true) (doc_find_f1 x2 target1)) fun (r1 : Int) =>
 some (i8, ((decide (i8 < (x1.length : Int))) && (decide (r1 = 0))))
noncomputable def doc_find (d1 : GDoc) (id1 : Int) : Option (Int × Bool) :=
 bnd2 (slices_BinarySearchFunc_api_Node_api_Node_int__find_f1 d1.Nodes id1) fun (r1 : Int) (r2 : Bool) =>
 some (r1, r2)
noncomputable def slices_Index_int_int_L1 (s1 : List Int) (v1 : Int) (x2 : Int) : Option (Int ⊕ (Ctl Unit Int)) :=
 if (decide (x2 < (s1.length : Int))) then (
 bnd1 (idx s1 x2) fun (x4 : Int) =>
 if (decide (v1 = x4)) then (
 some (.inr (.ext x2))
 ) else (
 bnd1 (chk .i64 (x2 + 1)) fun (x5 : Int) =>
 some (.inl x5)
 )
 ) else (
 some (.inr (.nrm ()))
 )
noncomputable def slices_Index_int_int (s1 : List Int) (v1 : Int) : Option (Int) :=
 ctl1 (iter (fun (a : Int) => slices_Index_int_int_L1 s1 v1 a) 0) fun (u2 : Unit) =>
 some (-1)
noncomputable def slices_Contains_int_int (s1 : List Int) (v1 : Int) : Option (Bool) :=
 bnd1 (slices_Index_int_int s1 v1) fun (r1 : Int) =>
 some (decide (0 ≤ r1))
noncomputable def doc_Permitted (parent1 : Int) (kid1 : Int) : Option (Bool) :=
 bnd1 (
 if (decide (parent1 = 0)) then (
 some [1, 6, 7, 10, 11, 12]
 ) else (
 if (decide (parent1 = 1)) then (
 some [2, 4, 5, 10]
 ) else (
 if (decide (parent1 = 3)) then (
 some [4, 5, 10]
 ) else (
 bnd1 (
 if (decide (parent1 = 4)) then (
 some (decide (parent1 = 4))
 ) else (
 some (decide (parent1 = 12))
 )
 ) fun (x1 : Bool) =>
 if x1 then (
 some [5]
 ) else (
 if (decide (parent1 = 2)) then (
 some [3]
 ) else (
 if (decide (parent1 = 7)) then (
 some [8, 9]
 ) else (
 some []
 )
 )
 )
 )
 )
 )
 ) fun (l1 : List Int) =>
 bnd1 (slices_Contains_int_int l1 kid1) fun (r1 : Bool) =>
 some r1
noncomputable def doc_CheckRefs_L1 (d1 : GDoc) (kind1 : Int) (refs1 : List Int) (x2 : Int) : Option (Int ⊕ (Ctl Unit Int)) :=
 if (decide (x2 < (refs1.length : Int))) then (
 bnd1 (idx refs1 x2) fun (x4 : Int) =>
 bnd2 (doc_find d1 x4) fun (r1 : Int) (r2 : Bool) =>
 if (!r2) then (
 some (.inr (.ext 7))
 ) else (
 bnd1 (idx d1.Nodes r1) fun (x5 : GNode) =>
 bnd1 (doc_Permitted kind1 x5.Kind) fun (r3 : Bool) =>
 if (!r3) then (
 some (.inr (.ext 8))
 ) else (
 bnd1 (chk .i64 (x2 + 1)) fun (x6 : Int) =>
 some (.inl x6)
 )
 )
 ) else (
 some (.inr (.nrm ()))
 )
noncomputable def doc_CheckRefs (d1 : GDoc) (kind1 : Int) (refs1 : List Int) : Option (Int) :=
 ctl1 (iter (fun (a : Int) => doc_CheckRefs_L1 d1 kind1 refs1 a) 0) fun (u2 : Unit) =>
 some 0
noncomputable def doc_Check_L2 (d1 : GDoc) (x5 : Int) : Option (Int ⊕ (Ctl Unit Int)) :=
 if (decide (x5 < (d1.Nodes.length : Int))) then (
 bnd1 (idx d1.Nodes x5) fun (x7 : GNode) =>
 bnd1 (doc_Refs x7) fun (r1 : List Int) =>
 bnd1 (doc_CheckRefs d1 x7.Kind r1) fun (e1 : Int) =>
 if (!decide (e1 = 0)) then (
 some (.inr (.ext e1))
 ) else (
 bnd1 (chk .i64 (x5 + 1)) fun (x8 : Int) =>
 some (.inl x8)
 )
 ) else (
 some (.inr (.nrm ()))
 )
noncomputable def doc_Check_L1 (d1 : GDoc) (x2 : Int) : Option (Int ⊕ (Ctl Unit Int)) :=
 if (decide (x2 < (d1.Nodes.length : Int))) then (
 bnd1 (idx d1.Nodes x2) fun (x9 : GNode) =>
 bnd1 (doc_CheckNode x9) fun (e2 : Int) =>
 if (!decide (e2 = 0)) then (
 some (.inr (.ext e2))
 ) else (
 bnd1 (gd ((((decide (x2 = 0)) && (!decide (x9.ID = 1))) == false) && ((decide (0 < x2)) == true)) (chk .i64 (x2 - 1))) fun (x10 : Int) =>
 bnd1 (gd ((((decide (x2 = 0)) && (!decide (x9.ID = 1))) == false) && ((decide (0 < x2)) == true)) (idx d1.Nodes x10)) fun (x11 : GNode) =>
 if (((decide (x2 = 0)) && (!decide (x9.ID = 1))) || ((decide (0 < x2)) && (decide (x9.ID ≤ x11.ID)))) then (
 some (.inr (.ext 5))
 ) else (
 bnd1 (chk .i64 (x2 + 1)) fun (x12 : Int) =>
 some (.inl x12)
 )
 )
 ) else (
 some (.inr (.nrm ()))
 )
noncomputable def doc_Check (d1 : GDoc) : Option (Int) :=
 if (decide ((d1.Nodes.length : Int) = 0)) then (
 some 11
 ) else (
 ctl1 (iter (fun (a : Int) => doc_Check_L1 d1 a) 0) fun (u2 : Unit) =>
 ctl1 (iter (fun (a : Int) => doc_Check_L2 d1 a) 0) fun (u4 : Unit) =>
 some 0
 )
noncomputable def law_simple (f1 : List GElem) : Option (GDoc) :=
 some (GDoc.mk [(GNode.mk 1 0 [] [(GElem.mk 0 2 [])] (GGrid.mk 0 0 [] []) []), (GNode.mk 2 1 [] f1 (GGrid.mk 0 0 [] []) [])])
noncomputable def ref_SameCell (a1 : GCell) (b1 : GCell) : Option (Bool) :=
 bnd1 (gd (((((decide (a1.Row = b1.Row)) && (decide (a1.Col = b1.Col))) && (decide (a1.Text = b1.Text))) && (decide (a1.Ref = b1.Ref))) == true) (ref_SameAttrs a1.Attrs b1.Attrs)) fun (r1 : Bool) =>
 some (((((decide (a1.Row = b1.Row)) && (decide (a1.Col = b1.Col))) && (decide (a1.Text = b1.Text))) && (decide (a1.Ref = b1.Ref))) && r1)
noncomputable def ref_SameCells_L1 (a1 : List GCell) (b1 : List GCell) (x2 : Int) : Option (Int ⊕ (Ctl Unit Bool)) :=
 if (decide (x2 < (a1.length : Int))) then (
 bnd1 (idx a1 x2) fun (x4 : GCell) =>
 bnd1 (idx b1 x2) fun (x5 : GCell) =>
 bnd1 (ref_SameCell x4 x5) fun (r1 : Bool) =>
 if (!r1) then (
 some (.inr (.ext false))
 ) else (
 bnd1 (chk .i64 (x2 + 1)) fun (x6 : Int) =>
 some (.inl x6)
 )
 ) else (
 some (.inr (.nrm ()))
 )
noncomputable def ref_SameCells (a1 : List GCell) (b1 : List GCell) : Option (Bool) :=
 if (!decide ((a1.length : Int) = (b1.length : Int))) then (
 some false
 ) else (
 ctl1 (iter (fun (a : Int) => ref_SameCells_L1 a1 b1 a) 0) fun (u2 : Unit) =>
 some true
 )
noncomputable def ref_SameRects_L1 (a1 : List GRect) (b1 : List GRect) (x2 : Int) : Option (Int ⊕ (Ctl Unit Bool)) :=
 if (decide (x2 < (a1.length : Int))) then (
 bnd1 (idx a1 x2) fun (x4 : GRect) =>
 bnd1 (idx b1 x2) fun (x5 : GRect) =>
 if (!(decide (x4.Row = x5.Row) && (decide (x4.Col = x5.Col) && (decide (x4.H = x5.H) && (decide (x4.W = x5.W) && true))))) then (
 some (.inr (.ext false))
 ) else (
 bnd1 (chk .i64 (x2 + 1)) fun (x6 : Int) =>
 some (.inl x6)
 )
 ) else (
 some (.inr (.nrm ()))
 )
noncomputable def ref_SameRects (a1 : List GRect) (b1 : List GRect) : Option (Bool) :=
 if (!decide ((a1.length : Int) = (b1.length : Int))) then (
 some false
 ) else (
 ctl1 (iter (fun (a : Int) => ref_SameRects_L1 a1 b1 a) 0) fun (u2 : Unit) =>
 some true
 )
noncomputable def ref_SameGrid (a1 : GGrid) (b1 : GGrid) : Option (Bool) :=
 bnd1 (gd (((decide (a1.Rows = b1.Rows)) && (decide (a1.Cols = b1.Cols))) == true) (ref_SameCells a1.Cells b1.Cells)) fun (r1 : Bool) =>
 bnd1 (gd ((((decide (a1.Rows = b1.Rows)) && (decide (a1.Cols = b1.Cols))) && r1) == true) (ref_SameRects a1.Merges b1.Merges)) fun (r2 : Bool) =>
 some ((((decide (a1.Rows = b1.Rows)) && (decide (a1.Cols = b1.Cols))) && r1) && r2)
noncomputable def ref_SameOps_L1 (a1 : List GDrawOp) (b1 : List GDrawOp) (x2 : Int) : Option (Int ⊕ (Ctl Unit Bool)) :=
 if (decide (x2 < (a1.length : Int))) then (
 bnd1 (idx a1 x2) fun (x4 : GDrawOp) =>
 bnd1 (idx b1 x2) fun (x5 : GDrawOp) =>
 if (!(decide (x4.Clock = x5.Clock) && (decide (x4.Site = x5.Site) && (decide (x4.Kind = x5.Kind) && (decide (x4.Item = x5.Item) && (decide (x4.Parent = x5.Parent) && (decide (x4.Place = x5.Place) && (decide (x4.Name = x5.Name) && (decide (x4.Value = x5.Value) && true))))))))) then (
 some (.inr (.ext false))
 ) else (
 bnd1 (chk .i64 (x2 + 1)) fun (x6 : Int) =>
 some (.inl x6)
 )
 ) else (
 some (.inr (.nrm ()))
 )
noncomputable def ref_SameOps (a1 : List GDrawOp) (b1 : List GDrawOp) : Option (Bool) :=
 if (!decide ((a1.length : Int) = (b1.length : Int))) then (
 some false
 ) else (
 ctl1 (iter (fun (a : Int) => ref_SameOps_L1 a1 b1 a) 0) fun (u2 : Unit) =>
 some true
 )
noncomputable def ref_SameNode (a1 : GNode) (b1 : GNode) : Option (Bool) :=
 bnd1 (gd (((decide (a1.ID = b1.ID)) && (decide (a1.Kind = b1.Kind))) == true) (ref_SameAttrs a1.Attrs b1.Attrs)) fun (r1 : Bool) =>
 bnd1 (gd ((((decide (a1.ID = b1.ID)) && (decide (a1.Kind = b1.Kind))) && r1) == true) (ref_SameFlow a1.Flow b1.Flow)) fun (r2 : Bool) =>
 bnd1 (gd (((((decide (a1.ID = b1.ID)) && (decide (a1.Kind = b1.Kind))) && r1) && r2) == true) (ref_SameGrid a1.Grid b1.Grid)) fun (r3 : Bool) =>
 bnd1 (gd ((((((decide (a1.ID = b1.ID)) && (decide (a1.Kind = b1.Kind))) && r1) && r2) && r3) == true) (ref_SameOps a1.Draw b1.Draw)) fun (r4 : Bool) =>
 some ((((((decide (a1.ID = b1.ID)) && (decide (a1.Kind = b1.Kind))) && r1) && r2) && r3) && r4)
noncomputable def ref_SameDoc_L1 (a1 : GDoc) (b1 : GDoc) (x2 : Int) : Option (Int ⊕ (Ctl Unit Bool)) :=
 if (decide (x2 < (a1.Nodes.length : Int))) then (
 bnd1 (idx a1.Nodes x2) fun (x4 : GNode) =>
 bnd1 (idx b1.Nodes x2) fun (x5 : GNode) =>
 bnd1 (ref_SameNode x4 x5) fun (r1 : Bool) =>
 if (!r1) then (
 some (.inr (.ext false))
 ) else (
 bnd1 (chk .i64 (x2 + 1)) fun (x6 : Int) =>
 some (.inl x6)
 )
 ) else (
 some (.inr (.nrm ()))
 )
noncomputable def ref_SameDoc (a1 : GDoc) (b1 : GDoc) : Option (Bool) :=
 if (!decide ((a1.Nodes.length : Int) = (b1.Nodes.length : Int))) then (
 some false
 ) else (
 ctl1 (iter (fun (a : Int) => ref_SameDoc_L1 a1 b1 a) 0) fun (u2 : Unit) =>
 some true
 )
noncomputable def law_docs : Option (Bool) :=
 bnd1 (doc_First) fun (r1 : GDoc) =>
 bnd1 (doc_Check r1) fun (r2 : Int) =>
 bnd1 (
 if ((decide (r2 = 0)) == true) then (
 bnd1 (law_end) fun (r4 : GElem) =>
 bnd1 (law_simple [r4]) fun (r5 : GDoc) =>
 bnd1 (ref_SameDoc r1 r5) fun (r6 : Bool) =>
 some ((decide (r2 = 0)) && r6)
 ) else (
 some ((decide (r2 = 0)) && false)
 )
 ) fun (x1 : Bool) =>
 some x1
noncomputable def slices_Equal_api_DrawOp_api_DrawOp_L1 (s11 : List GDrawOp) (s21 : List GDrawOp) (x2 : Int) : Option (Int ⊕ (Ctl Unit Bool)) :=
 if (decide (x2 < (s11.length : Int))) then (
 bnd1 (idx s11 x2) fun (x4 : GDrawOp) =>
 bnd1 (idx s21 x2) fun (x5 : GDrawOp) =>
 if (!(decide (x4.Clock = x5.Clock) && (decide (x4.Site = x5.Site) && (decide (x4.Kind = x5.Kind) && (decide (x4.Item = x5.Item) && (decide (x4.Parent = x5.Parent) && (decide (x4.Place = x5.Place) && (decide (x4.Name = x5.Name) && (decide (x4.Value = x5.Value) && true))))))))) then (
 some (.inr (.ext false))
 ) else (
 bnd1 (chk .i64 (x2 + 1)) fun (x6 : Int) =>
 some (.inl x6)
 )
 ) else (
 some (.inr (.nrm ()))
 )
noncomputable def slices_Equal_api_DrawOp_api_DrawOp (s11 : List GDrawOp) (s21 : List GDrawOp) : Option (Bool) :=
 if (!decide ((s11.length : Int) = (s21.length : Int))) then (
 some false
 ) else (
 ctl1 (iter (fun (a : Int) => slices_Equal_api_DrawOp_api_DrawOp_L1 s11 s21 a) 0) fun (u2 : Unit) =>
 some true
 )
noncomputable def doc_SameNode (a1 : GNode) (b1 : GNode) : Option (Bool) :=
 bnd1 (gd (((decide (a1.ID = b1.ID)) && (decide (a1.Kind = b1.Kind))) == true) (attr_Same a1.Attrs b1.Attrs)) fun (r1 : Bool) =>
 bnd1 (gd ((((decide (a1.ID = b1.ID)) && (decide (a1.Kind = b1.Kind))) && r1) == true) (flow_Same a1.Flow b1.Flow)) fun (r2 : Bool) =>
 bnd1 (gd (((((decide (a1.ID = b1.ID)) && (decide (a1.Kind = b1.Kind))) && r1) && r2) == true) (grid_Same a1.Grid b1.Grid)) fun (r3 : Bool) =>
 bnd1 (gd ((((((decide (a1.ID = b1.ID)) && (decide (a1.Kind = b1.Kind))) && r1) && r2) && r3) == true) (slices_Equal_api_DrawOp_api_DrawOp a1.Draw b1.Draw)) fun (r4 : Bool) =>
 some ((((((decide (a1.ID = b1.ID)) && (decide (a1.Kind = b1.Kind))) && r1) && r2) && r3) && r4)
noncomputable def slices_EqualFunc_api_Node_api_Node_api_Node_api_Node__SameNode_L1 (s11 : List GNode) (s21 : List GNode) (x2 : Int) : Option (Int ⊕ (Ctl Unit Bool)) :=
 if (decide (x2 < (s11.length : Int))) then (
 bnd1 (idx s11 x2) fun (x4 : GNode) =>
 bnd1 (idx s21 x2) fun (x5 : GNode) =>
 bnd1 (doc_SameNode x4 x5) fun (r1 : Bool) =>
 if (!r1) then (
 some (.inr (.ext false))
 ) else (
 bnd1 (chk .i64 (x2 + 1)) fun (x6 : Int) =>
 some (.inl x6)
 )
 ) else (
 some (.inr (.nrm ()))
 )
noncomputable def slices_EqualFunc_api_Node_api_Node_api_Node_api_Node__SameNode (s11 : List GNode) (s21 : List GNode) : Option (Bool) :=
 if (!decide ((s11.length : Int) = (s21.length : Int))) then (
 some false
 ) else (
 ctl1 (iter (fun (a : Int) => slices_EqualFunc_api_Node_api_Node_api_Node_api_Node__SameNode_L1 s11 s21 a) 0) fun (u2 : Unit) =>
 some true
 )
noncomputable def doc_Same (a1 : GDoc) (b1 : GDoc) : Option (Bool) :=
 bnd1 (slices_EqualFunc_api_Node_api_Node_api_Node_api_Node__SameNode a1.Nodes b1.Nodes) fun (r1 : Bool) =>
 some r1
noncomputable def doc_CopyNode_L1 (l4 : List GCell) (x2 : Int) (g2 : GGrid) : Option ((Int × GGrid) ⊕ GGrid) :=
 if (decide (x2 < (l4.length : Int))) then (
 bnd1 (idx g2.Cells x2) fun (x4 : GCell) =>
 bnd1 (app 32 [] x4.Attrs) fun (l5 : List GAttr) =>
 bnd1 (chk .i64 (x2 + 1)) fun (x5 : Int) =>
 some (.inl (x5, (GGrid.mk g2.Rows g2.Cols (g2.Cells.set x2.toNat (GCell.mk x4.Row x4.Col x4.Text x4.Ref l5)) g2.Merges)))
 ) else (
 some (.inr g2)
 )
noncomputable def doc_CopyNode (n1 : GNode) : Option (GNode) :=
 bnd1 (app 32 [] n1.Attrs) fun (l1 : List GAttr) =>
 bnd1 (flow_Copy n1.Flow) fun (r1 : List GElem) =>
 bnd1 (app 88 [] n1.Draw) fun (l2 : List GDrawOp) =>
 bnd1 (app 32 [] n1.Grid.Merges) fun (l3 : List GRect) =>
 bnd1 (app 64 [] n1.Grid.Cells) fun (l4 : List GCell) =>
 bnd1 (iter (fun (a : Int × GGrid) => doc_CopyNode_L1 l4 a.1 a.2) (0, (GGrid.mk n1.Grid.Rows n1.Grid.Cols l4 l3))) fun (g4 : GGrid) =>
 some (GNode.mk n1.ID n1.Kind l1 r1 g4 l2)
end Go.Proofs.YthoepnnckmfipaaGreatDoor.Al


namespace Go.Proofs.YthoepnnckmfipaaGreatDoor.Al
noncomputable def ref_HasText (kind1 : Int) : Option (Bool) :=
 some ((((decide (kind1 = 1)) || (decide (kind1 = 3))) || (decide (kind1 = 4))) || (decide (kind1 = 12)))
noncomputable def ref_HasList (kind1 : Int) : Option (Bool) :=
 some ((decide (kind1 = 0)) || (decide (kind1 = 7)))
noncomputable def ref_zeroGrid (g1 : GGrid) : Option (Bool) :=
 some ((((decide (g1.Rows = 0)) && (decide (g1.Cols = 0))) && (decide ((g1.Cells.length : Int) = 0))) && (decide ((g1.Merges.length : Int) = 0)))
noncomputable def ref_HasGrid (kind1 : Int) : Option (Bool) :=
 some ((decide (kind1 = 2)) || (decide (kind1 = 6)))
noncomputable def ref_HasDraw (kind1 : Int) : Option (Bool) :=
 some (((decide (kind1 = 8)) || (decide (kind1 = 9))) || (decide (kind1 = 10)))
noncomputable def unicode_utf8_ValidString (s1 : List UInt8) : Option (Bool) :=
 validS s1
noncomputable def ref_CellText_L1 (s1 : List UInt8) (p2 : (Nat)) : Option ((Nat) ⊕ (Ctl Unit Bool)) :=
 if (decide (p2 < s1.length)) then (
 bnd1 (gd ((decide (((runeAt s1 p2).1 : Int) = 10)) == false) (ref_Char (IntKind.i64.wrap ((runeAt s1 p2).1 : Int)))) fun (r2 : Bool) =>
 if ((decide (((runeAt s1 p2).1 : Int) = 10)) || (!r2)) then (
 some (.inr (.ext false))
 ) else (
 some (.inl (p2 + (runeAt s1 p2).2))
 )
 ) else (
 some (.inr (.nrm ()))
 )
noncomputable def ref_CellText (s1 : List UInt8) : Option (Bool) :=
 bnd1 (unicode_utf8_ValidString s1) fun (r1 : Bool) =>
 if (!r1) then (
 some false
 ) else (
 ctl1 (iter (fun (a : (Nat)) => ref_CellText_L1 s1 a) 0) fun (u2 : Unit) =>
 some true
 )
noncomputable def ref_EmptyCell (c1 : GCell) : Option (Bool) :=
 some (((decide (c1.Text = [])) && (decide (c1.Ref = 0))) && (decide ((c1.Attrs.length : Int) = 0)))
noncomputable def ref_CellsError_L1 (l1 : List GCell) (rows1 : Int) (cols1 : Int) (none1 : Bool) (x2 : Int) : Option (Int ⊕ (Ctl Unit Int)) :=
 if (decide (x2 < (l1.length : Int))) then (
 bnd1 (idx l1 x2) fun (x4 : GCell) =>
 bnd1 (chk .i64 (rows1 - 1)) fun (x5 : Int) =>
 bnd1 (ref_In x4.Row 0 x5) fun (r1 : Bool) =>
 bnd1 (gd ((!r1) == false) (chk .i64 (cols1 - 1))) fun (x6 : Int) =>
 bnd1 (gd ((!r1) == false) (ref_In x4.Col 0 x6)) fun (r2 : Bool) =>
 bnd1 (gd (((!r1) || (!r2)) == false) (ref_In x4.Ref 0 1073741824)) fun (r3 : Bool) =>
 if (((!r1) || (!r2)) || (!r3)) then (
 some (.inr (.ext 2))
 ) else (
 bnd1 (ref_CellText x4.Text) fun (r4 : Bool) =>
 if (!r4) then (
 some (.inr (.ext 23))
 ) else (
 bnd1 (ref_AttrsError x4.Attrs false) fun (e1 : Int) =>
 if (!decide (e1 = 0)) then (
 some (.inr (.ext e1))
 ) else (
 bnd1 (gd ((!none1) == true) (ref_EmptyCell x4)) fun (r5 : Bool) =>
 if ((!none1) && r5) then (
 some (.inr (.ext 4))
 ) else (
 bnd1 (gd ((decide (0 < x2)) == true) (chk .i64 (x2 - 1))) fun (x7 : Int) =>
 bnd1 (gd ((decide (0 < x2)) == true) (idx l1 x7)) fun (x8 : GCell) =>
 bnd1 (gd ((((decide (0 < x2)) == true) && ((decide (x4.Row < x8.Row)) == false)) && ((decide (x4.Row = x8.Row)) == true)) (chk .i64 (x2 - 1))) fun (x9 : Int) =>
 bnd1 (gd ((((decide (0 < x2)) == true) && ((decide (x4.Row < x8.Row)) == false)) && ((decide (x4.Row = x8.Row)) == true)) (idx l1 x9)) fun (x10 : GCell) =>
 if ((decide (0 < x2)) && ((decide (x4.Row < x8.Row)) || ((decide (x4.Row = x8.Row)) && (decide (x4.Col ≤ x10.Col))))) then (
 some (.inr (.ext 5))
 ) else (
 bnd1 (chk .i64 (x2 + 1)) fun (x11 : Int) =>
 some (.inl x11)
 )
 )
 )
 )
 )
 ) else (
 some (.inr (.nrm ()))
 )
noncomputable def ref_CellsError (l1 : List GCell) (rows1 : Int) (cols1 : Int) (none1 : Bool) : Option (Int) :=
 ctl1 (iter (fun (a : Int) => ref_CellsError_L1 l1 rows1 cols1 none1 a) 0) fun (u2 : Unit) =>
 some 0
noncomputable def ref_Lies (r1 : GRect) (rows1 : Int) (cols1 : Int) : Option (Bool) :=
 bnd1 (chk .i64 (rows1 - 1)) fun (x1 : Int) =>
 bnd1 (ref_In r1.Row 0 x1) fun (r2 : Bool) =>
 bnd1 (gd (r2 == true) (chk .i64 (cols1 - 1))) fun (x2 : Int) =>
 bnd1 (gd (r2 == true) (ref_In r1.Col 0 x2)) fun (r3 : Bool) =>
 bnd1 (gd ((r2 && r3) == true) (chk .i64 (rows1 - r1.Row))) fun (x3 : Int) =>
 bnd1 (gd ((r2 && r3) == true) (ref_In r1.H 1 x3)) fun (r4 : Bool) =>
 bnd1 (gd (((r2 && r3) && r4) == true) (chk .i64 (cols1 - r1.Col))) fun (x4 : Int) =>
 bnd1 (gd (((r2 && r3) && r4) == true) (ref_In r1.W 1 x4)) fun (r5 : Bool) =>
 some (((r2 && r3) && r4) && r5)
noncomputable def ref_Share (a1 : GRect) (b1 : GRect) : Option (Bool) :=
 bnd1 (chk .i64 (a1.Row + a1.H)) fun (x1 : Int) =>
 bnd1 (chk .i64 (b1.Row + b1.H)) fun (x2 : Int) =>
 bnd1 (gd ((decide ((max a1.Row b1.Row) < (min x1 x2))) == true) (chk .i64 (a1.Col + a1.W))) fun (x3 : Int) =>
 bnd1 (gd ((decide ((max a1.Row b1.Row) < (min x1 x2))) == true) (chk .i64 (b1.Col + b1.W))) fun (x4 : Int) =>
 some ((decide ((max a1.Row b1.Row) < (min x1 x2))) && (decide ((max a1.Col b1.Col) < (min x3 x4))))
noncomputable def ref_GridError_L2 (g1 : GGrid) (x2 : Int) (x4 : GRect) (x10 : Int) : Option (Int ⊕ (Ctl Unit (Int ⊕ (Ctl Unit Int)))) :=
 if (decide (x10 < x2)) then (
 bnd1 (idx g1.Merges x10) fun (x13 : GRect) =>
 bnd1 (ref_Share x4 x13) fun (r4 : Bool) =>
 if r4 then (
 some (.inr (.ext (.inr (.ext 21))))
 ) else (
 bnd1 (chk .i64 (x10 + 1)) fun (x14 : Int) =>
 some (.inl x14)
 )
 ) else (
 some (.inr (.nrm ()))
 )
noncomputable def ref_GridError_L1 (g1 : GGrid) (x2 : Int) : Option (Int ⊕ (Ctl Unit Int)) :=
 if (decide (x2 < (g1.Merges.length : Int))) then (
 bnd1 (idx g1.Merges x2) fun (x4 : GRect) =>
 bnd1 (ref_Lies x4 g1.Rows g1.Cols) fun (r3 : Bool) =>
 if (!r3) then (
 some (.inr (.ext 2))
 ) else (
 if ((decide (x4.H = 1)) && (decide (x4.W = 1))) then (
 some (.inr (.ext 4))
 ) else (
 bnd1 (gd ((decide (0 < x2)) == true) (chk .i64 (x2 - 1))) fun (x5 : Int) =>
 bnd1 (gd ((decide (0 < x2)) == true) (idx g1.Merges x5)) fun (x6 : GRect) =>
 bnd1 (gd ((((decide (0 < x2)) == true) && ((decide (x4.Row < x6.Row)) == false)) && ((decide (x4.Row = x6.Row)) == true)) (chk .i64 (x2 - 1))) fun (x7 : Int) =>
 bnd1 (gd ((((decide (0 < x2)) == true) && ((decide (x4.Row < x6.Row)) == false)) && ((decide (x4.Row = x6.Row)) == true)) (idx g1.Merges x7)) fun (x8 : GRect) =>
 if ((decide (0 < x2)) && ((decide (x4.Row < x6.Row)) || ((decide (x4.Row = x6.Row)) && (decide (x4.Col ≤ x8.Col))))) then (
 some (.inr (.ext 5))
 ) else (
 ctl1 (iter (fun (a : Int) => ref_GridError_L2 g1 x2 x4 a) 0) fun (u4 : Unit) =>
 bnd1 (chk .i64 (x2 + 1)) fun (x12 : Int) =>
 some (.inl x12)
 )
 )
 )
 ) else (
 some (.inr (.nrm ()))
 )
noncomputable def ref_GridError (g1 : GGrid) : Option (Int) :=
 bnd1 (ref_In g1.Rows 0 2147483647) fun (r1 : Bool) =>
 bnd1 (gd ((!r1) == false) (ref_In g1.Cols 0 2147483647)) fun (r2 : Bool) =>
 if ((!r1) || (!r2)) then (
 some 2
 ) else (
 bnd1 (ref_CellsError g1.Cells g1.Rows g1.Cols false) fun (e1 : Int) =>
 if (!decide (e1 = 0)) then (
 some e1
 ) else (
 ctl1 (iter (fun (a : Int) => ref_GridError_L1 g1 a) 0) fun (u2 : Unit) =>
 some 0
 )
 )
noncomputable def ref_CellKinds_L1 (kind1 : Int) (l1 : List GCell) (x2 : Int) : Option (Int ⊕ (Ctl Unit Int)) :=
 if (decide (x2 < (l1.length : Int))) then (
 bnd1 (gd ((decide (kind1 = 2)) == true) (idx l1 x2)) fun (x4 : GCell) =>
 bnd1 (gd ((((decide (kind1 = 2)) && ((!decide (x4.Text = [])) || (decide (0 < (x4.Attrs.length : Int))))) == false) && ((decide (kind1 = 6)) == true)) (idx l1 x2)) fun (x5 : GCell) =>
 if (((decide (kind1 = 2)) && ((!decide (x4.Text = [])) || (decide (0 < (x4.Attrs.length : Int))))) || ((decide (kind1 = 6)) && (!decide (x5.Ref = 0)))) then (
 some (.inr (.ext 4))
 ) else (
 bnd1 (chk .i64 (x2 + 1)) fun (x6 : Int) =>
 some (.inl x6)
 )
 ) else (
 some (.inr (.nrm ()))
 )
noncomputable def ref_CellKinds (kind1 : Int) (l1 : List GCell) : Option (Int) :=
 ctl1 (iter (fun (a : Int) => ref_CellKinds_L1 kind1 l1 a) 0) fun (u2 : Unit) =>
 some 0
noncomputable def ref_Place_L1 (s1 : List UInt8) (x2 : Int) : Option (Int ⊕ (Ctl Unit Bool)) :=
 if (decide (x2 < (s1.length : Int))) then (
 bnd1 (idx s1 x2) fun (ch2 : UInt8) =>
 if ((decide ((ch2.toNat : Int) < 97)) || (decide (122 < (ch2.toNat : Int)))) then (
 some (.inr (.ext false))
 ) else (
 bnd1 (chk .i64 (x2 + 1)) fun (x5 : Int) =>
 some (.inl x5)
 )
 ) else (
 some (.inr (.nrm ()))
 )
noncomputable def ref_Place (s1 : List UInt8) : Option (Bool) :=
 ctl1 (iter (fun (a : Int) => ref_Place_L1 s1 a) 0) fun (u2 : Unit) =>
 bnd1 (gd (((decide (1 ≤ (s1.length : Int))) && (decide ((s1.length : Int) ≤ 200))) == true) (chk .i64 ((s1.length : Int) - 1))) fun (x4 : Int) =>
 bnd1 (gd (((decide (1 ≤ (s1.length : Int))) && (decide ((s1.length : Int) ≤ 200))) == true) (idx s1 x4)) fun (ch1 : UInt8) =>
 some (((decide (1 ≤ (s1.length : Int))) && (decide ((s1.length : Int) ≤ 200))) && (!decide ((ch1.toNat : Int) = 97)))
noncomputable def ref_Earlier (a1 : GDrawOp) (b1 : GDrawOp) : Option (Bool) :=
 some ((decide (a1.Clock < b1.Clock)) || ((decide (a1.Clock = b1.Clock)) && (decide (a1.Site < b1.Site))))
noncomputable def ref_DrawError_L1 (l1 : List GDrawOp) (x2 : Int) : Option (Int ⊕ (Ctl Unit Int)) :=
 if (decide (x2 < (l1.length : Int))) then (
 bnd1 (idx l1 x2) fun (x4 : GDrawOp) =>
 if ((!decide (x4.Kind = 0)) && (!decide (x4.Kind = 1))) then (
 some (.inr (.ext 8))
 ) else (
 bnd1 (ref_In x4.Clock 1 1073741824) fun (r1 : Bool) =>
 bnd1 (gd ((!r1) == false) (ref_In x4.Site 0 1000)) fun (r2 : Bool) =>
 bnd1 (gd (((!r1) || (!r2)) == false) (ref_In x4.Item 1 1073741824)) fun (r3 : Bool) =>
 if (((!r1) || (!r2)) || (!r3)) then (
 some (.inr (.ext 2))
 ) else (
 ctl1 (
 if (decide (x4.Kind = 0)) then (
 if ((!decide (x4.Name = [])) || (!decide (x4.Value = []))) then (
 some (.ext (.inr (.ext 4)))
 ) else (
 bnd1 (ref_In x4.Parent (-1) 1073741824) fun (r5 : Bool) =>
 if (!r5) then (
 some (.ext (.inr (.ext 2)))
 ) else (
 bnd1 (ref_Place x4.Place) fun (r6 : Bool) =>
 if (!r6) then (
 some (.ext (.inr (.ext 9)))
 ) else (
 some (.nrm ())
 )
 )
 )
 ) else (
 if ((!decide (x4.Parent = 0)) || (!decide (x4.Place = []))) then (
 some (.ext (.inr (.ext 4)))
 ) else (
 bnd1 (ref_Name x4.Name) fun (r7 : Bool) =>
 if (!r7) then (
 some (.ext (.inr (.ext 9)))
 ) else (
 bnd1 (gd ((!decide (x4.Value = [])) == true) (ref_Value x4.Value)) fun (r8 : Bool) =>
 if ((!decide (x4.Value = [])) && (!r8)) then (
 some (.ext (.inr (.ext 23)))
 ) else (
 some (.nrm ())
 )
 )
 )
 )
 ) fun (u3 : Unit) =>
 bnd1 (gd ((decide (0 < x2)) == true) (chk .i64 (x2 - 1))) fun (x5 : Int) =>
 bnd1 (gd ((decide (0 < x2)) == true) (idx l1 x5)) fun (x6 : GDrawOp) =>
 bnd1 (gd ((decide (0 < x2)) == true) (ref_Earlier x6 x4)) fun (r4 : Bool) =>
 if ((decide (0 < x2)) && (!r4)) then (
 some (.inr (.ext 5))
 ) else (
 bnd1 (chk .i64 (x2 + 1)) fun (x7 : Int) =>
 some (.inl x7)
 )
 )
 )
 ) else (
 some (.inr (.nrm ()))
 )
noncomputable def ref_DrawError (l1 : List GDrawOp) : Option (Int) :=
 ctl1 (iter (fun (a : Int) => ref_DrawError_L1 l1 a) 0) fun (u2 : Unit) =>
 some 0
noncomputable def ref_NodeError (n1 : GNode) : Option (Int) :=
 bnd1 (ref_In n1.ID 1 1073741824) fun (r1 : Bool) =>
 if (!r1) then (
 some 2
 ) else (
 bnd1 (ref_In n1.Kind 0 12) fun (r2 : Bool) =>
 if (((!r2) || ((decide (n1.ID = 1)) && (!decide (n1.Kind = 0)))) || ((!decide (n1.ID = 1)) && (decide (n1.Kind = 0)))) then (
 some 8
 ) else (
 bnd1 (ref_AttrsError n1.Attrs false) fun (e1 : Int) =>
 if (!decide (e1 = 0)) then (
 some e1
 ) else (
 bnd1 (ref_HasText n1.Kind) fun (r3 : Bool) =>
 bnd1 (gd (r3 == false) (ref_HasList n1.Kind)) fun (r4 : Bool) =>
 bnd1 (gd (((decide (0 < (n1.Flow.length : Int))) && (!(r3 || r4))) == false) (ref_zeroGrid n1.Grid)) fun (r5 : Bool) =>
 bnd1 (gd ((((decide (0 < (n1.Flow.length : Int))) && (!(r3 || r4))) == false) && ((!r5) == true)) (ref_HasGrid n1.Kind)) fun (r6 : Bool) =>
 bnd1 (gd (((((decide (0 < (n1.Flow.length : Int))) && (!(r3 || r4))) || ((!r5) && (!r6))) == false) && ((decide (0 < (n1.Draw.length : Int))) == true)) (ref_HasDraw n1.Kind)) fun (r7 : Bool) =>
 if ((((decide (0 < (n1.Flow.length : Int))) && (!(r3 || r4))) || ((!r5) && (!r6))) || ((decide (0 < (n1.Draw.length : Int))) && (!r7))) then (
 some 4
 ) else (
 if (r3 || r4) then (
 bnd1 (ref_FlowError n1.Flow r3) fun (r9 : Int) =>
 some r9
 ) else (
 bnd1 (ref_HasGrid n1.Kind) fun (r10 : Bool) =>
 if r10 then (
 bnd1 (ref_GridError n1.Grid) fun (e2 : Int) =>
 if (!decide (e2 = 0)) then (
 some e2
 ) else (
 bnd1 (ref_CellKinds n1.Kind n1.Grid.Cells) fun (r11 : Int) =>
 some r11
 )
 ) else (
 bnd1 (ref_DrawError n1.Draw) fun (r12 : Int) =>
 some r12
 )
 )
 )
 )
 )
 )
end Go.Proofs.YthoepnnckmfipaaGreatDoor.Al


namespace Go.Proofs.YthoepnnckmfipaaGreatDoor.Al
noncomputable def grid_CheckEdit_L3 (x5 : Int) (l1 : List GRect) (x8 : Int) : Option (Int ⊕ (Ctl Unit (Int ⊕ (Ctl Unit Int)))) :=
 if (decide (x8 < (l1.length : Int))) then (
 bnd1 (idx l1 x8) fun (x11 : GRect) =>
 bnd1 (grid_inside x11 2147483647 2147483647) fun (r1 : Bool) =>
 if (!r1) then (
 some (.inr (.ext (.inr (.ext 2))))
 ) else (
 if (((decide (x5 = 1)) && (decide (x11.H = 1))) && (decide (x11.W = 1))) then (
 some (.inr (.ext (.inr (.ext 4))))
 ) else (
 bnd1 (chk .i64 (x8 + 1)) fun (x12 : Int) =>
 some (.inl x12)
 )
 )
 ) else (
 some (.inr (.nrm ()))
 )
noncomputable def grid_CheckEdit_L2 (e1 : GGridEdit) (x5 : Int) : Option (Int ⊕ (Ctl Unit Int)) :=
 if (decide (x5 < 2)) then (
 bnd1 (idx ([e1.Split, e1.Merge] : List (List GRect)) x5) fun (l1 : List GRect) =>
 ctl1 (iter (fun (a : Int) => grid_CheckEdit_L3 x5 l1 a) 0) fun (u6 : Unit) =>
 bnd1 (chk .i64 (x5 + 1)) fun (x10 : Int) =>
 some (.inl x10)
 ) else (
 some (.inr (.nrm ()))
 )
noncomputable def grid_CheckEdit_L1 (e1 : GGridEdit) (x2 : Int) : Option (Int ⊕ (Ctl Unit Int)) :=
 if (decide (x2 < 2)) then (
 bnd1 (idx ([e1.Rows, e1.Cols] : List (List GAxisStep)) x2) fun (a1 : List GAxisStep) =>
 bnd1 (axis_Check a1) fun (f2 : Int) =>
 if (!decide (f2 = 0)) then (
 some (.inr (.ext f2))
 ) else (
 bnd1 (chk .i64 (x2 + 1)) fun (x13 : Int) =>
 some (.inl x13)
 )
 ) else (
 some (.inr (.nrm ()))
 )
noncomputable def grid_CheckEdit (e1 : GGridEdit) : Option (Int) :=
 ctl1 (iter (fun (a : Int) => grid_CheckEdit_L1 e1 a) 0) fun (u2 : Unit) =>
 bnd1 (grid_cells e1.Cells 2147483647 2147483647 true) fun (f1 : Int) =>
 if (!decide (f1 = 0)) then (
 some f1
 ) else (
 ctl1 (iter (fun (a : Int) => grid_CheckEdit_L2 e1 a) 0) fun (u4 : Unit) =>
 some 0
 )
noncomputable def ref_EditError_L2 (e1 : GGridEdit) (x5 : Int) : Option (Int ⊕ (Ctl Unit Int)) :=
 if (decide (x5 < (e1.Merge.length : Int))) then (
 bnd1 (idx e1.Merge x5) fun (x7 : GRect) =>
 bnd1 (ref_Lies x7 2147483647 2147483647) fun (r1 : Bool) =>
 if (!r1) then (
 some (.inr (.ext 2))
 ) else (
 if ((decide (x7.H = 1)) && (decide (x7.W = 1))) then (
 some (.inr (.ext 4))
 ) else (
 bnd1 (chk .i64 (x5 + 1)) fun (x8 : Int) =>
 some (.inl x8)
 )
 )
 ) else (
 some (.inr (.nrm ()))
 )
noncomputable def ref_EditError_L1 (e1 : GGridEdit) (x2 : Int) : Option (Int ⊕ (Ctl Unit Int)) :=
 if (decide (x2 < (e1.Split.length : Int))) then (
 bnd1 (idx e1.Split x2) fun (x9 : GRect) =>
 bnd1 (ref_Lies x9 2147483647 2147483647) fun (r2 : Bool) =>
 if (!r2) then (
 some (.inr (.ext 2))
 ) else (
 bnd1 (chk .i64 (x2 + 1)) fun (x10 : Int) =>
 some (.inl x10)
 )
 ) else (
 some (.inr (.nrm ()))
 )
noncomputable def ref_EditError (e1 : GGridEdit) : Option (Int) :=
 bnd1 (ref_AxisError e1.Rows) fun (f1 : Int) =>
 if (!decide (f1 = 0)) then (
 some f1
 ) else (
 bnd1 (ref_AxisError e1.Cols) fun (f2 : Int) =>
 if (!decide (f2 = 0)) then (
 some f2
 ) else (
 bnd1 (ref_CellsError e1.Cells 2147483647 2147483647 true) fun (f3 : Int) =>
 if (!decide (f3 = 0)) then (
 some f3
 ) else (
 ctl1 (iter (fun (a : Int) => ref_EditError_L1 e1 a) 0) fun (u2 : Unit) =>
 ctl1 (iter (fun (a : Int) => ref_EditError_L2 e1 a) 0) fun (u4 : Unit) =>
 some 0
 )
 )
 )
end Go.Proofs.YthoepnnckmfipaaGreatDoor.Al


namespace Go.Proofs.YthoepnnckmfipaaGreatDoor.Al
noncomputable def edit_unused (o1 : GOp) : Option (Bool) :=
 bnd1 (chk .i64 ((o1.Grid.Rows.length : Int) + (o1.Grid.Cols.length : Int))) fun (x1 : Int) =>
 bnd1 (chk .i64 (x1 + (o1.Grid.Cells.length : Int))) fun (x2 : Int) =>
 bnd1 (chk .i64 (x2 + (o1.Grid.Split.length : Int))) fun (x3 : Int) =>
 bnd1 (chk .i64 (x3 + (o1.Grid.Merge.length : Int))) fun (x4 : Int) =>
 bnd1 (
 if (((decide (o1.Kind = 0)) && (!decide (o1.Node = 0))) == false) then (
 if ((!decide (o1.Kind = 0)) == true) then (
 bnd1 (doc_SameNode o1.New (GNode.mk 0 0 [] [] (GGrid.mk 0 0 [] []) [])) fun (r1 : Bool) =>
 some (((((((decide (o1.Kind = 0)) && (!decide (o1.Node = 0))) || ((!decide (o1.Kind = 0)) && (!r1))) || ((!decide (o1.Kind = 1)) && (decide (0 < (o1.Attrs.length : Int))))) || ((!decide (o1.Kind = 2)) && (decide (0 < (o1.Steps.length : Int))))) || ((!decide (o1.Kind = 3)) && (decide (0 < x4)))) || ((!decide (o1.Kind = 4)) && (decide (0 < (o1.Draw.length : Int)))))
 ) else (
 some (((((((decide (o1.Kind = 0)) && (!decide (o1.Node = 0))) || ((!decide (o1.Kind = 0)) && false)) || ((!decide (o1.Kind = 1)) && (decide (0 < (o1.Attrs.length : Int))))) || ((!decide (o1.Kind = 2)) && (decide (0 < (o1.Steps.length : Int))))) || ((!decide (o1.Kind = 3)) && (decide (0 < x4)))) || ((!decide (o1.Kind = 4)) && (decide (0 < (o1.Draw.length : Int)))))
 )
 ) else (
 some (((((((decide (o1.Kind = 0)) && (!decide (o1.Node = 0))) || false) || ((!decide (o1.Kind = 1)) && (decide (0 < (o1.Attrs.length : Int))))) || ((!decide (o1.Kind = 2)) && (decide (0 < (o1.Steps.length : Int))))) || ((!decide (o1.Kind = 3)) && (decide (0 < x4)))) || ((!decide (o1.Kind = 4)) && (decide (0 < (o1.Draw.length : Int)))))
 )
 ) fun (x5 : Bool) =>
 some x5
noncomputable def edit_CheckOp (o1 : GOp) : Option (Int) :=
 if ((decide (o1.Kind < 0)) || (decide (4 < o1.Kind))) then (
 some 8
 ) else (
 bnd1 (edit_unused o1) fun (r1 : Bool) =>
 if r1 then (
 some 4
 ) else (
 if (decide (o1.Kind = 0)) then (
 bnd1 (doc_CheckNode o1.New) fun (r2 : Int) =>
 some r2
 ) else (
 if ((decide (o1.Node < 1)) || (decide (1073741824 < o1.Node))) then (
 some 2
 ) else (
 if (decide (o1.Kind = 1)) then (
 bnd1 (attr_CheckChange o1.Attrs) fun (r3 : Int) =>
 some r3
 ) else (
 if (decide (o1.Kind = 2)) then (
 bnd1 (delta_Check o1.Steps) fun (r4 : Int) =>
 some r4
 ) else (
 if (decide (o1.Kind = 3)) then (
 bnd1 (grid_CheckEdit o1.Grid) fun (r5 : Int) =>
 some r5
 ) else (
 bnd1 (replica_Check o1.Draw) fun (r6 : Int) =>
 some r6
 )
 )
 )
 )
 )
 )
 )
noncomputable def edit_Check_L1 (c1 : List GOp) (x2 : Int) : Option (Int ⊕ (Ctl Unit Int)) :=
 if (decide (x2 < (c1.length : Int))) then (
 bnd1 (idx c1 x2) fun (x4 : GOp) =>
 bnd1 (edit_CheckOp x4) fun (e1 : Int) =>
 if (!decide (e1 = 0)) then (
 some (.inr (.ext e1))
 ) else (
 bnd1 (chk .i64 (x2 + 1)) fun (x5 : Int) =>
 some (.inl x5)
 )
 ) else (
 some (.inr (.nrm ()))
 )
noncomputable def edit_Check (c1 : List GOp) : Option (Int) :=
 ctl1 (iter (fun (a : Int) => edit_Check_L1 c1 a) 0) fun (u2 : Unit) =>
 some 0
noncomputable def doc_Copy_o_L1 (d1 : GDoc) (x2 : Int) (out2 : GDoc) : Option ((Int × GDoc) ⊕ GDoc) :=
 if (decide (x2 < (d1.Nodes.length : Int))) then (
 bnd1 (idx d1.Nodes x2) fun (x4 : GNode) =>
 bnd1 (doc_CopyNode x4) fun (r1 : GNode) =>
 bnd1 (idx out2.Nodes x2) fun (x5 : GNode) =>
 bnd1 (chk .i64 (x2 + 1)) fun (x6 : Int) =>
 some (.inl (x6, (GDoc.mk (out2.Nodes.set x2.toNat r1))))
 ) else (
 some (.inr out2)
 )
noncomputable def doc_Copy_o (d1 : GDoc) : Option ((List GNode)) :=
 bnd1 (mk 152 (d1.Nodes.length : Int) (GNode.mk 0 0 [] [] (GGrid.mk 0 0 [] []) [])) fun (l1 : List GNode) =>
 bnd1 (iter (fun (a : Int × GDoc) => doc_Copy_o_L1 d1 a.1 a.2) (0, (GDoc.mk l1))) fun (out4 : GDoc) =>
 some out4.Nodes
noncomputable def doc_Index (d1 : GDoc) (id1 : Int) : Option (Int) :=
 bnd2 (doc_find d1 id1) fun (r1 : Int) (r2 : Bool) =>
 if r2 then (
 some r1
 ) else (
 some (-1)
 )
noncomputable def edit_one (w1 : GDoc) (o1 : GOp) : Option (Int × GDoc) :=
 if (decide (o1.Kind = 0)) then (
 none
 ) else (
 bnd1 (doc_Index w1 o1.Node) fun (i1 : Int) =>
 if (decide (i1 < 0)) then (
 some (7, w1)
 ) else (
 bnd1 (idx w1.Nodes i1) fun (n1 : GNode) =>
 if (decide (o1.Kind = 1)) then (
 bnd1 (attr_Raw n1.Attrs o1.Attrs) fun (r1 : List GAttr) =>
 some (0, (GDoc.mk (w1.Nodes.set i1.toNat (GNode.mk n1.ID n1.Kind r1 n1.Flow n1.Grid n1.Draw))))
 ) else (
 if (decide (o1.Kind = 2)) then (
 none
 ) else (
 if (decide (o1.Kind = 3)) then (
 none
 ) else (
 none
 )
 )
 )
 )
 )
noncomputable def edit_Apply_L1 (c1 : List GOp) (x2 : Int) (out2 : GDoc) : Option ((Int × GDoc) ⊕ (Ctl GDoc (GDoc × Int))) :=
 if (decide (x2 < (c1.length : Int))) then (
 bnd1 (idx c1 x2) fun (x4 : GOp) =>
 bnd2 (edit_one out2 x4) fun (e3 : Int) (w2 : GDoc) =>
 if (!decide (e3 = 0)) then (
 some (.inr (.ext ((GDoc.mk []), e3)))
 ) else (
 bnd1 (chk .i64 (x2 + 1)) fun (x5 : Int) =>
 some (.inl (x5, w2))
 )
 ) else (
 some (.inr (.nrm out2))
 )
noncomputable def edit_Apply (d1 : GDoc) (c1 : List GOp) : Option (GDoc × Int) :=
 bnd1 (doc_Check d1) fun (e1 : Int) =>
 if (!decide (e1 = 0)) then (
 some ((GDoc.mk []), e1)
 ) else (
 bnd1 (edit_Check c1) fun (e2 : Int) =>
 if (!decide (e2 = 0)) then (
 some ((GDoc.mk []), e2)
 ) else (
 bnd1 (doc_Copy_o d1) fun (w1 : List GNode) =>
 ctl1 (iter (fun (a : Int × GDoc) => edit_Apply_L1 c1 a.1 a.2) (0, (GDoc.mk w1))) fun (out4 : GDoc) =>
 some (out4, 0)
 )
 )
noncomputable def law_edits : Option (Bool) :=
 bnd1 (doc_First) fun (r1 : GDoc) =>
 bnd1 (law_on [116, 105, 116, 108, 101]) fun (r2 : List GAttr) =>
 bnd2 (edit_Apply r1 [(GOp.mk 1 2 (GNode.mk 0 0 [] [] (GGrid.mk 0 0 [] []) []) r2 [] (GGridEdit.mk [] [] [] [] []) [])]) fun (r3 : GDoc) (r4 : Int) =>
 bnd1 (law_docs) fun (r5 : Bool) =>
 bnd1 (gd (((r5 && (decide (r4 = 0))) && (decide ((r3.Nodes.length : Int) = 2))) == true) (idx r3.Nodes 1)) fun (x1 : GNode) =>
 bnd1 (gd (((r5 && (decide (r4 = 0))) && (decide ((r3.Nodes.length : Int) = 2))) == true) (ref_SameAttrs x1.Attrs r2)) fun (r7 : Bool) =>
 some (((r5 && (decide (r4 = 0))) && (decide ((r3.Nodes.length : Int) = 2))) && r7)
noncomputable def ref_OpError_L1 (o1 : GOp) (r2 : Bool) (x4 : Int) (x6 : Int) : Option (Int ⊕ (Ctl Unit Int)) :=
 if (decide (x6 < 5)) then (
 bnd1 (idx ([(!r2), (decide (0 < (o1.Attrs.length : Int))), (decide (0 < (o1.Steps.length : Int))), (decide (0 < x4)), (decide (0 < (o1.Draw.length : Int)))] : List Bool) x6) fun (x8 : Bool) =>
 if (x8 && (!decide (x6 = o1.Kind))) then (
 some (.inr (.ext 4))
 ) else (
 bnd1 (chk .i64 (x6 + 1)) fun (x9 : Int) =>
 some (.inl x9)
 )
 ) else (
 some (.inr (.nrm ()))
 )
noncomputable def ref_OpError (o1 : GOp) : Option (Int) :=
 bnd1 (ref_In o1.Kind 0 4) fun (r1 : Bool) =>
 if (!r1) then (
 some 8
 ) else (
 bnd1 (ref_SameNode o1.New (GNode.mk 0 0 [] [] (GGrid.mk 0 0 [] []) [])) fun (r2 : Bool) =>
 bnd1 (chk .i64 ((o1.Grid.Rows.length : Int) + (o1.Grid.Cols.length : Int))) fun (x1 : Int) =>
 bnd1 (chk .i64 (x1 + (o1.Grid.Cells.length : Int))) fun (x2 : Int) =>
 bnd1 (chk .i64 (x2 + (o1.Grid.Split.length : Int))) fun (x3 : Int) =>
 bnd1 (chk .i64 (x3 + (o1.Grid.Merge.length : Int))) fun (x4 : Int) =>
 ctl1 (iter (fun (a : Int) => ref_OpError_L1 o1 r2 x4 a) 0) fun (u2 : Unit) =>
 if (decide (o1.Kind = 0)) then (
 if (!decide (o1.Node = 0)) then (
 some 4
 ) else (
 bnd1 (ref_NodeError o1.New) fun (r3 : Int) =>
 some r3
 )
 ) else (
 bnd1 (ref_In o1.Node 1 1073741824) fun (r4 : Bool) =>
 if (!r4) then (
 some 2
 ) else (
 if (decide (o1.Kind = 1)) then (
 bnd1 (ref_AttrsError o1.Attrs true) fun (r5 : Int) =>
 some r5
 ) else (
 if (decide (o1.Kind = 2)) then (
 bnd1 (ref_DeltaError o1.Steps) fun (r6 : Int) =>
 some r6
 ) else (
 if (decide (o1.Kind = 3)) then (
 bnd1 (ref_EditError o1.Grid) fun (r7 : Int) =>
 some r7
 ) else (
 bnd1 (ref_DrawError o1.Draw) fun (r8 : Int) =>
 some r8
 )
 )
 )
 )
 )
 )
noncomputable def law_EditCheckSays_L1 (c1 : List GOp) (f2 : Int) (x2 : Int) : Option ((Int × Int) ⊕ (Ctl Int Bool)) :=
 if (decide (x2 < (c1.length : Int))) then (
 ctl1 (
 bnd1 (idx c1 x2) fun (x5 : GOp) =>
 bnd1 (ref_OpError x5) fun (e1 : Int) =>
 bnd1 (edit_CheckOp x5) fun (r3 : Int) =>
 if (!decide (r3 = e1)) then (
 some (.ext (.inr (.ext false)))
 ) else (
 if (decide (f2 = 0)) then (
 some (.nrm e1)
 ) else (
 some (.nrm f2)
 )
 )
 ) fun (f5 : Int) =>
 bnd1 (chk .i64 (x2 + 1)) fun (x4 : Int) =>
 some (.inl (f5, x4))
 ) else (
 some (.inr (.nrm f2))
 )
noncomputable def law_EditCheckSays (c1 : List GOp) : Option (Bool) :=
 bnd1 (law_edits) fun (r1 : Bool) =>
 if (!r1) then (
 some false
 ) else (
 ctl1 (iter (fun (a : Int × Int) => law_EditCheckSays_L1 c1 a.1 a.2) (0, 0)) fun (f4 : Int) =>
 bnd1 (edit_Check c1) fun (r2 : Int) =>
 some (decide (r2 = f4))
 )
end Go.Proofs.YthoepnnckmfipaaGreatDoor.Al

