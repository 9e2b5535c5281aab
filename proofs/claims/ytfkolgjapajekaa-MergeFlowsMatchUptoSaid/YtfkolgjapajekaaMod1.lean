/- Models, as printed. -/
import Derived.Test.YtfkolgjapajekaaAl2
namespace Go.Proofs.Ytfkolgjapajekaa.Al
structure GAxisStep where
  Kind : Int
  N : Int
deriving DecidableEq
instance : Inhabited GAxisStep := ⟨⟨0, 0⟩⟩
@[reducible] def GAxisStep.row (x : GAxisStep) : List RV := [.int .i64 x.Kind, .int .i64 x.N]
structure Axis_Reader where
  steps : List GAxisStep
  used : Int
deriving DecidableEq
instance : Inhabited Axis_Reader := ⟨⟨[], 0⟩⟩
@[reducible] def Axis_Reader.row (x : Axis_Reader) : List RV := [.sl (x.steps.map GAxisStep.row), .int .i64 x.used]
structure Axis_Writer where
  out : List GAxisStep
  add : Int
  cut : Int
deriving DecidableEq
instance : Inhabited Axis_Writer := ⟨⟨[], 0, 0⟩⟩
@[reducible] def Axis_Writer.row (x : Axis_Writer) : List RV := [.sl (x.out.map GAxisStep.row), .int .i64 x.add, .int .i64 x.cut]
structure GAttr where
  Name : List UInt8
  Value : List UInt8
deriving DecidableEq
instance : Inhabited GAttr := ⟨⟨[], []⟩⟩
@[reducible] def GAttr.row (x : GAttr) : List RV := [.str x.Name, .str x.Value]
structure GElem where
  Char : Int
  Ref : Int
  Attrs : List GAttr
deriving DecidableEq
instance : Inhabited GElem := ⟨⟨0, 0, []⟩⟩
@[reducible] def GElem.row (x : GElem) : List RV := [.int .i64 x.Char, .int .i64 x.Ref, .sl (x.Attrs.map GAttr.row)]
structure GCell where
  Row : Int
  Col : Int
  Text : List UInt8
  Ref : Int
  Attrs : List GAttr
deriving DecidableEq
instance : Inhabited GCell := ⟨⟨0, 0, [], 0, []⟩⟩
@[reducible] def GCell.row (x : GCell) : List RV := [.int .i64 x.Row, .int .i64 x.Col, .str x.Text, .int .i64 x.Ref, .sl (x.Attrs.map GAttr.row)]
structure GRect where
  Row : Int
  Col : Int
  H : Int
  W : Int
deriving DecidableEq
instance : Inhabited GRect := ⟨⟨0, 0, 0, 0⟩⟩
@[reducible] def GRect.row (x : GRect) : List RV := [.int .i64 x.Row, .int .i64 x.Col, .int .i64 x.H, .int .i64 x.W]
structure GGrid where
  Rows : Int
  Cols : Int
  Cells : List GCell
  Merges : List GRect
deriving DecidableEq
instance : Inhabited GGrid := ⟨⟨0, 0, [], []⟩⟩
@[reducible] def GGrid.row (x : GGrid) : List RV := [.int .i64 x.Rows, .int .i64 x.Cols, .sl (x.Cells.map GCell.row), .sl (x.Merges.map GRect.row)]
structure GDrawOp where
  Clock : Int
  Site : Int
  Kind : Int
  Item : Int
  Parent : Int
  Place : List UInt8
  Name : List UInt8
  Value : List UInt8
deriving DecidableEq
instance : Inhabited GDrawOp := ⟨⟨0, 0, 0, 0, 0, [], [], []⟩⟩
@[reducible] def GDrawOp.row (x : GDrawOp) : List RV := [.int .i64 x.Clock, .int .i64 x.Site, .int .i64 x.Kind, .int .i64 x.Item, .int .i64 x.Parent, .str x.Place, .str x.Name, .str x.Value]
structure GNode where
  ID : Int
  Kind : Int
  Attrs : List GAttr
  Flow : List GElem
  Grid : GGrid
  Draw : List GDrawOp
deriving DecidableEq
instance : Inhabited GNode := ⟨⟨0, 0, [], [], (GGrid.mk 0 0 [] []), []⟩⟩
@[reducible] def GNode.row (x : GNode) : List RV := [.int .i64 x.ID, .int .i64 x.Kind, .sl (x.Attrs.map GAttr.row), .sl (x.Flow.map GElem.row), .int .i64 x.Grid.Rows, .int .i64 x.Grid.Cols, .sl (x.Grid.Cells.map GCell.row), .sl (x.Grid.Merges.map GRect.row), .sl (x.Draw.map GDrawOp.row)]
structure GStep where
  Kind : Int
  N : Int
  Attrs : List GAttr
  Elems : List GElem
deriving DecidableEq
instance : Inhabited GStep := ⟨⟨0, 0, [], []⟩⟩
@[reducible] def GStep.row (x : GStep) : List RV := [.int .i64 x.Kind, .int .i64 x.N, .sl (x.Attrs.map GAttr.row), .sl (x.Elems.map GElem.row)]
structure GGridEdit where
  Rows : List GAxisStep
  Cols : List GAxisStep
  Cells : List GCell
  Split : List GRect
  Merge : List GRect
deriving DecidableEq
instance : Inhabited GGridEdit := ⟨⟨[], [], [], [], []⟩⟩
@[reducible] def GGridEdit.row (x : GGridEdit) : List RV := [.sl (x.Rows.map GAxisStep.row), .sl (x.Cols.map GAxisStep.row), .sl (x.Cells.map GCell.row), .sl (x.Split.map GRect.row), .sl (x.Merge.map GRect.row)]
structure GOp where
  Kind : Int
  Node : Int
  New : GNode
  Attrs : List GAttr
  Steps : List GStep
  Grid : GGridEdit
  Draw : List GDrawOp
deriving DecidableEq
instance : Inhabited GOp := ⟨⟨0, 0, (GNode.mk 0 0 [] [] (GGrid.mk 0 0 [] []) []), [], [], (GGridEdit.mk [] [] [] [] []), []⟩⟩
@[reducible] def GOp.row (x : GOp) : List RV := [.int .i64 x.Kind, .int .i64 x.Node, .int .i64 x.New.ID, .int .i64 x.New.Kind, .sl (x.New.Attrs.map GAttr.row), .sl (x.New.Flow.map GElem.row), .int .i64 x.New.Grid.Rows, .int .i64 x.New.Grid.Cols, .sl (x.New.Grid.Cells.map GCell.row), .sl (x.New.Grid.Merges.map GRect.row), .sl (x.New.Draw.map GDrawOp.row), .sl (x.Attrs.map GAttr.row), .sl (x.Steps.map GStep.row), .sl (x.Grid.Rows.map GAxisStep.row), .sl (x.Grid.Cols.map GAxisStep.row), .sl (x.Grid.Cells.map GCell.row), .sl (x.Grid.Split.map GRect.row), .sl (x.Grid.Merge.map GRect.row), .sl (x.Draw.map GDrawOp.row)]
structure GEntry where
  Site : Int
  Number : Int
  Change : List GOp
  Undoes : Int
  Refused : Int
deriving DecidableEq
instance : Inhabited GEntry := ⟨⟨0, 0, [], 0, 0⟩⟩
@[reducible] def GEntry.row (x : GEntry) : List RV := [.int .i64 x.Site, .int .i64 x.Number, .sl (x.Change.map GOp.row), .int .i64 x.Undoes, .int .i64 x.Refused]
structure GSpan where
  From : Int
  To : Int
deriving DecidableEq
instance : Inhabited GSpan := ⟨⟨0, 0⟩⟩
@[reducible] def GSpan.row (x : GSpan) : List RV := [.int .i64 x.From, .int .i64 x.To]
noncomputable def ref_In (x1 : Int) (low1 : Int) (high1 : Int) : Option (Bool) :=
  some ((decide (low1 ≤ x1)) && (decide (x1 ≤ high1)))
noncomputable def attr_Name_L1 (s1 : List UInt8) (x2 : Int) : Option (Int ⊕ (Ctl Unit Bool)) :=
  if (decide (x2 < (s1.length : Int))) then (
    bnd1 (idx s1 x2) fun (c1 : UInt8) =>
    if (((((decide ((c1.toNat : Int) < 97)) || (decide (122 < (c1.toNat : Int)))) && ((decide ((c1.toNat : Int) < 48)) || (decide (57 < (c1.toNat : Int))))) && (!decide ((c1.toNat : Int) = 46))) && (!decide ((c1.toNat : Int) = 45))) then (
      some (.inr (.ext false))
    ) else (
      bnd1 (chk .i64 (x2 + 1)) fun (x4 : Int) =>
      some (.inl x4)
    )
  ) else (
    some (.inr (.nrm ()))
  )
noncomputable def attr_Name (s1 : List UInt8) : Option (Bool) :=
  bnd1 (gd (((decide (s1 = [])) || (decide (24 < (s1.length : Int)))) == false) (idx s1 0)) fun (ch1 : UInt8) =>
  bnd1 (gd ((((decide (s1 = [])) || (decide (24 < (s1.length : Int)))) || (decide ((ch1.toNat : Int) < 97))) == false) (idx s1 0)) fun (ch2 : UInt8) =>
  if ((((decide (s1 = [])) || (decide (24 < (s1.length : Int)))) || (decide ((ch1.toNat : Int) < 97))) || (decide (122 < (ch2.toNat : Int)))) then (
    some false
  ) else (
    ctl1 (iter (fun (a : Int) => attr_Name_L1 s1 a) 0) fun (u2 : Unit) =>
    some true
  )
noncomputable def attr_Value_L1 (s1 : List UInt8) (x2 : Int) : Option (Int ⊕ (Ctl Unit Bool)) :=
  if (decide (x2 < (s1.length : Int))) then (
    bnd1 (idx s1 x2) fun (ch1 : UInt8) =>
    if ((decide ((ch1.toNat : Int) < 32)) || (decide (126 < (ch1.toNat : Int)))) then (
      some (.inr (.ext false))
    ) else (
      bnd1 (chk .i64 (x2 + 1)) fun (x4 : Int) =>
      some (.inl x4)
    )
  ) else (
    some (.inr (.nrm ()))
  )
noncomputable def attr_Value (s1 : List UInt8) : Option (Bool) :=
  if ((decide (s1 = [])) || (decide (200 < (s1.length : Int)))) then (
    some false
  ) else (
    ctl1 (iter (fun (a : Int) => attr_Value_L1 s1 a) 0) fun (u2 : Unit) =>
    some true
  )
noncomputable def attr_check_L1 (l1 : List GAttr) (empty1 : Bool) (x2 : Int) : Option (Int ⊕ (Ctl Unit Int)) :=
  if (decide (x2 < (l1.length : Int))) then (
    bnd1 (idx l1 x2) fun (x4 : GAttr) =>
    bnd1 (attr_Name x4.Name) fun (r1 : Bool) =>
    if (!r1) then (
      some (.inr (.ext 9))
    ) else (
      bnd1 (attr_Value x4.Value) fun (r2 : Bool) =>
      if ((!r2) && (!(empty1 && (decide (x4.Value = []))))) then (
        some (.inr (.ext 23))
      ) else (
        bnd1 (gd ((decide (0 < x2)) == true) (chk .i64 (x2 - 1))) fun (x5 : Int) =>
        bnd1 (gd ((decide (0 < x2)) == true) (idx l1 x5)) fun (x6 : GAttr) =>
        if ((decide (0 < x2)) && (sLt x4.Name x6.Name || decide (x4.Name = x6.Name))) then (
          some (.inr (.ext 5))
        ) else (
          bnd1 (chk .i64 (x2 + 1)) fun (x7 : Int) =>
          some (.inl x7)
        )
      )
    )
  ) else (
    some (.inr (.nrm ()))
  )
noncomputable def attr_check (l1 : List GAttr) (empty1 : Bool) : Option (Int) :=
  ctl1 (iter (fun (a : Int) => attr_check_L1 l1 empty1 a) 0) fun (u2 : Unit) =>
  some 0
noncomputable def attr_Check (l1 : List GAttr) : Option (Int) :=
  bnd1 (attr_check l1 false) fun (r1 : Int) =>
  some r1
noncomputable def attr_CheckChange (l1 : List GAttr) : Option (Int) :=
  bnd1 (attr_check l1 true) fun (r1 : Int) =>
  some r1
noncomputable def attr_Raw_f1 (c1 : List GAttr) (x1 : GAttr) (y1 : GAttr) : Option ((List GAttr)) :=
  if (decide (y1.Name = [])) then (
    bnd1 (app 32 c1 [x1]) fun (l1 : List GAttr) =>
    some l1
  ) else (
    if (!decide (y1.Value = [])) then (
      bnd1 (app 32 c1 [y1]) fun (l2 : List GAttr) =>
      some l2
    ) else (
      some c1
    )
  )
noncomputable def attr_both__Raw_f1_L1 (a1 : List GAttr) (b1 : List GAttr) (i4 : Int) (j2 : Int) (o2 : List GAttr) : Option ((Int × Int × (List GAttr)) ⊕ (Ctl Unit (List GAttr))) :=
  if ((decide (i4 < (a1.length : Int))) || (decide (j2 < (b1.length : Int)))) then (
    bnd1 (gd (((decide (j2 = (b1.length : Int))) == false) && ((decide (i4 < (a1.length : Int))) == true)) (idx a1 i4)) fun (x1 : GAttr) =>
    bnd1 (gd (((decide (j2 = (b1.length : Int))) == false) && ((decide (i4 < (a1.length : Int))) == true)) (idx b1 j2)) fun (x2 : GAttr) =>
    if ((decide (j2 = (b1.length : Int))) || ((decide (i4 < (a1.length : Int))) && (sLt x1.Name x2.Name))) then (
      bnd1 (idx a1 i4) fun (x3 : GAttr) =>
      bnd1 (attr_Raw_f1 o2 x3 (GAttr.mk [] [])) fun (w1 : List GAttr) =>
      bnd1 (chk .i64 (i4 + 1)) fun (i9 : Int) =>
      some (.inl (i9, j2, w1))
    ) else (
      bnd1 (gd ((decide (i4 = (a1.length : Int))) == false) (idx b1 j2)) fun (x4 : GAttr) =>
      bnd1 (gd ((decide (i4 = (a1.length : Int))) == false) (idx a1 i4)) fun (x5 : GAttr) =>
      if ((decide (i4 = (a1.length : Int))) || (sLt x4.Name x5.Name)) then (
        bnd1 (idx b1 j2) fun (x6 : GAttr) =>
        bnd1 (attr_Raw_f1 o2 (GAttr.mk [] []) x6) fun (w2 : List GAttr) =>
        bnd1 (chk .i64 (j2 + 1)) fun (j4 : Int) =>
        some (.inl (i4, j4, w2))
      ) else (
        bnd1 (idx a1 i4) fun (x7 : GAttr) =>
        bnd1 (idx b1 j2) fun (x8 : GAttr) =>
        bnd1 (attr_Raw_f1 o2 x7 x8) fun (w3 : List GAttr) =>
        bnd1 (chk .i64 (i4 + 1)) fun (i12 : Int) =>
        bnd1 (chk .i64 (j2 + 1)) fun (j5 : Int) =>
        some (.inl (i12, j5, w3))
      )
    )
  ) else (
    some (.inr (.ext o2))
  )
noncomputable def attr_both__Raw_f1 (c1 : List GAttr) (a1 : List GAttr) (b1 : List GAttr) : Option ((List GAttr)) :=
  ctl1 (iter (fun (a : Int × Int × (List GAttr)) => attr_both__Raw_f1_L1 a1 b1 a.1 a.2.1 a.2.2) (0, 0, c1)) fun (u2 : Unit) =>
  none
noncomputable def attr_Raw (l1 : List GAttr) (change1 : List GAttr) : Option ((List GAttr)) :=
  bnd1 (attr_both__Raw_f1 [] l1 change1) fun (w1 : List GAttr) =>
  some w1
noncomputable def ref_SameAttrs_L1 (a1 : List GAttr) (b1 : List GAttr) (x2 : Int) : Option (Int ⊕ (Ctl Unit Bool)) :=
  if (decide (x2 < (a1.length : Int))) then (
    bnd1 (idx a1 x2) fun (x4 : GAttr) =>
    bnd1 (idx b1 x2) fun (x5 : GAttr) =>
    if (!(decide (x4.Name = x5.Name) && (decide (x4.Value = x5.Value) && true))) then (
      some (.inr (.ext false))
    ) else (
      bnd1 (chk .i64 (x2 + 1)) fun (x6 : Int) =>
      some (.inl x6)
    )
  ) else (
    some (.inr (.nrm ()))
  )
noncomputable def ref_SameAttrs (a1 : List GAttr) (b1 : List GAttr) : Option (Bool) :=
  if (!decide ((a1.length : Int) = (b1.length : Int))) then (
    some false
  ) else (
    ctl1 (iter (fun (a : Int) => ref_SameAttrs_L1 a1 b1 a) 0) fun (u2 : Unit) =>
    some true
  )
noncomputable def ref_Name_L1 (s1 : List UInt8) (x2 : Int) : Option (Int ⊕ (Ctl Unit Bool)) :=
  if (decide (x2 < (s1.length : Int))) then (
    bnd1 (idx s1 x2) fun (ch1 : UInt8) =>
    if ((!((decide (97 ≤ (ch1.toNat : Int))) && (decide ((ch1.toNat : Int) ≤ 122)))) && ((decide (x2 = 0)) || (((!decide ((ch1.toNat : Int) = 46)) && (!decide ((ch1.toNat : Int) = 45))) && ((decide ((ch1.toNat : Int) < 48)) || (decide (57 < (ch1.toNat : Int))))))) then (
      some (.inr (.ext false))
    ) else (
      bnd1 (chk .i64 (x2 + 1)) fun (x4 : Int) =>
      some (.inl x4)
    )
  ) else (
    some (.inr (.nrm ()))
  )
noncomputable def ref_Name (s1 : List UInt8) : Option (Bool) :=
  ctl1 (iter (fun (a : Int) => ref_Name_L1 s1 a) 0) fun (u2 : Unit) =>
  some ((decide (1 ≤ (s1.length : Int))) && (decide ((s1.length : Int) ≤ 24)))
noncomputable def ref_Value_L1 (s1 : List UInt8) (x2 : Int) : Option (Int ⊕ (Ctl Unit Bool)) :=
  if (decide (x2 < (s1.length : Int))) then (
    bnd1 (idx s1 x2) fun (ch1 : UInt8) =>
    if ((decide ((ch1.toNat : Int) < 32)) || (decide (126 < (ch1.toNat : Int)))) then (
      some (.inr (.ext false))
    ) else (
      bnd1 (chk .i64 (x2 + 1)) fun (x4 : Int) =>
      some (.inl x4)
    )
  ) else (
    some (.inr (.nrm ()))
  )
noncomputable def ref_Value (s1 : List UInt8) : Option (Bool) :=
  ctl1 (iter (fun (a : Int) => ref_Value_L1 s1 a) 0) fun (u2 : Unit) =>
  some ((decide (1 ≤ (s1.length : Int))) && (decide ((s1.length : Int) ≤ 200)))
noncomputable def ref_AttrsError_L1 (l1 : List GAttr) (change1 : Bool) (x2 : Int) : Option (Int ⊕ (Ctl Unit Int)) :=
  if (decide (x2 < (l1.length : Int))) then (
    bnd1 (idx l1 x2) fun (x4 : GAttr) =>
    bnd1 (ref_Name x4.Name) fun (r1 : Bool) =>
    if (!r1) then (
      some (.inr (.ext 9))
    ) else (
      bnd1 (ref_Value x4.Value) fun (r2 : Bool) =>
      if ((!r2) && ((!decide (x4.Value = [])) || (!change1))) then (
        some (.inr (.ext 23))
      ) else (
        bnd1 (gd ((decide (0 < x2)) == true) (chk .i64 (x2 - 1))) fun (x5 : Int) =>
        bnd1 (gd ((decide (0 < x2)) == true) (idx l1 x5)) fun (x6 : GAttr) =>
        if ((decide (0 < x2)) && (!sLt x6.Name x4.Name)) then (
          some (.inr (.ext 5))
        ) else (
          bnd1 (chk .i64 (x2 + 1)) fun (x7 : Int) =>
          some (.inl x7)
        )
      )
    )
  ) else (
    some (.inr (.nrm ()))
  )
noncomputable def ref_AttrsError (l1 : List GAttr) (change1 : Bool) : Option (Int) :=
  ctl1 (iter (fun (a : Int) => ref_AttrsError_L1 l1 change1 a) 0) fun (u2 : Unit) =>
  some 0
noncomputable def ref_Get_L1 (l1 : List GAttr) (name1 : List UInt8) (x2 : Int) : Option (Int ⊕ (Ctl Unit (List UInt8))) :=
  if (decide (x2 < (l1.length : Int))) then (
    bnd1 (idx l1 x2) fun (x4 : GAttr) =>
    if (decide (x4.Name = name1)) then (
      some (.inr (.ext x4.Value))
    ) else (
      bnd1 (chk .i64 (x2 + 1)) fun (x5 : Int) =>
      some (.inl x5)
    )
  ) else (
    some (.inr (.nrm ()))
  )
noncomputable def ref_Get (l1 : List GAttr) (name1 : List UInt8) : Option ((List UInt8)) :=
  ctl1 (iter (fun (a : Int) => ref_Get_L1 l1 name1 a) 0) fun (u2 : Unit) =>
  some []
noncomputable def attr_Change_f1 (c1 : List GAttr) (x1 : GAttr) (y1 : GAttr) : Option ((List GAttr)) :=
  if (decide (y1.Name = [])) then (
    bnd1 (app 32 c1 [(GAttr.mk x1.Name [])]) fun (l1 : List GAttr) =>
    some l1
  ) else (
    if (!(decide (x1.Name = y1.Name) && (decide (x1.Value = y1.Value) && true))) then (
      bnd1 (app 32 c1 [y1]) fun (l2 : List GAttr) =>
      some l2
    ) else (
      some c1
    )
  )
noncomputable def attr_both__Change_f1_L1 (a1 : List GAttr) (b1 : List GAttr) (i4 : Int) (j2 : Int) (o2 : List GAttr) : Option ((Int × Int × (List GAttr)) ⊕ (Ctl Unit (List GAttr))) :=
  if ((decide (i4 < (a1.length : Int))) || (decide (j2 < (b1.length : Int)))) then (
    bnd1 (gd (((decide (j2 = (b1.length : Int))) == false) && ((decide (i4 < (a1.length : Int))) == true)) (idx a1 i4)) fun (x1 : GAttr) =>
    bnd1 (gd (((decide (j2 = (b1.length : Int))) == false) && ((decide (i4 < (a1.length : Int))) == true)) (idx b1 j2)) fun (x2 : GAttr) =>
    if ((decide (j2 = (b1.length : Int))) || ((decide (i4 < (a1.length : Int))) && (sLt x1.Name x2.Name))) then (
      bnd1 (idx a1 i4) fun (x3 : GAttr) =>
      bnd1 (attr_Change_f1 o2 x3 (GAttr.mk [] [])) fun (w1 : List GAttr) =>
      bnd1 (chk .i64 (i4 + 1)) fun (i9 : Int) =>
      some (.inl (i9, j2, w1))
    ) else (
      bnd1 (gd ((decide (i4 = (a1.length : Int))) == false) (idx b1 j2)) fun (x4 : GAttr) =>
      bnd1 (gd ((decide (i4 = (a1.length : Int))) == false) (idx a1 i4)) fun (x5 : GAttr) =>
      if ((decide (i4 = (a1.length : Int))) || (sLt x4.Name x5.Name)) then (
        bnd1 (idx b1 j2) fun (x6 : GAttr) =>
        bnd1 (attr_Change_f1 o2 (GAttr.mk [] []) x6) fun (w2 : List GAttr) =>
        bnd1 (chk .i64 (j2 + 1)) fun (j4 : Int) =>
        some (.inl (i4, j4, w2))
      ) else (
        bnd1 (idx a1 i4) fun (x7 : GAttr) =>
        bnd1 (idx b1 j2) fun (x8 : GAttr) =>
        bnd1 (attr_Change_f1 o2 x7 x8) fun (w3 : List GAttr) =>
        bnd1 (chk .i64 (i4 + 1)) fun (i12 : Int) =>
        bnd1 (chk .i64 (j2 + 1)) fun (j5 : Int) =>
        some (.inl (i12, j5, w3))
      )
    )
  ) else (
    some (.inr (.ext o2))
  )
noncomputable def attr_both__Change_f1 (c1 : List GAttr) (a1 : List GAttr) (b1 : List GAttr) : Option ((List GAttr)) :=
  ctl1 (iter (fun (a : Int × Int × (List GAttr)) => attr_both__Change_f1_L1 a1 b1 a.1 a.2.1 a.2.2) (0, 0, c1)) fun (u2 : Unit) =>
  none
noncomputable def attr_Change (a1 : List GAttr) (b1 : List GAttr) : Option ((List GAttr)) :=
  bnd1 (attr_both__Change_f1 [] a1 b1) fun (w1 : List GAttr) =>
  some w1
noncomputable def ref_put_L1 (l1 : List GAttr) (a1 : GAttr) (done2 : Bool) (x2 : Int) (out2 : List GAttr) : Option ((Bool × Int × (List GAttr)) ⊕ (Bool × (List GAttr))) :=
  if (decide (x2 < (l1.length : Int))) then (
    bnd2 (
      bnd1 (gd ((!done2) == true) (idx l1 x2)) fun (x5 : GAttr) =>
      bnd2 (
        if ((!done2) && (!sLt x5.Name a1.Name)) then (
          bnd1 (app 32 out2 [a1]) fun (out10 : List GAttr) =>
          some (true, out10)
        ) else (
          some (done2, out2)
        )
      ) fun (done6 : Bool) (out8 : List GAttr) =>
      bnd1 (idx l1 x2) fun (x6 : GAttr) =>
      if (!decide (x6.Name = a1.Name)) then (
        bnd1 (app 32 out8 [x6]) fun (out9 : List GAttr) =>
        some (done6, out9)
      ) else (
        some (done6, out8)
      )
    ) fun (done5 : Bool) (out7 : List GAttr) =>
    bnd1 (chk .i64 (x2 + 1)) fun (x4 : Int) =>
    some (.inl (done5, x4, out7))
  ) else (
    some (.inr (done2, out2))
  )
noncomputable def ref_put (l1 : List GAttr) (a1 : GAttr) : Option ((List GAttr)) :=
  bnd2 (iter (fun (a : Bool × Int × (List GAttr)) => ref_put_L1 l1 a1 a.1 a.2.1 a.2.2) (false, 0, [])) fun (done4 : Bool) (out4 : List GAttr) =>
  bnd1 (
    if (!done4) then (
      bnd1 (app 32 out4 [a1]) fun (out6 : List GAttr) =>
      some out6
    ) else (
      some out4
    )
  ) fun (out5 : List GAttr) =>
  some out5
noncomputable def ref_Changed_L3 (out8 : List GAttr) (x8 : Int) (rest2 : List GAttr) : Option ((Int × (List GAttr)) ⊕ (List GAttr)) :=
  if (decide (x8 < (out8.length : Int))) then (
    bnd1 (
      bnd1 (idx out8 x8) fun (x11 : GAttr) =>
      if (!decide (x11.Value = [])) then (
        bnd1 (app 32 rest2 [x11]) fun (rest6 : List GAttr) =>
        some rest6
      ) else (
        some rest2
      )
    ) fun (rest5 : List GAttr) =>
    bnd1 (chk .i64 (x8 + 1)) fun (x10 : Int) =>
    some (.inl (x10, rest5))
  ) else (
    some (.inr rest2)
  )
noncomputable def ref_Changed_L2 (change1 : List GAttr) (out6 : List GAttr) (x5 : Int) : Option (((List GAttr) × Int) ⊕ (List GAttr)) :=
  if (decide (x5 < (change1.length : Int))) then (
    bnd1 (idx change1 x5) fun (x12 : GAttr) =>
    bnd1 (ref_put out6 x12) fun (out9 : List GAttr) =>
    bnd1 (chk .i64 (x5 + 1)) fun (x13 : Int) =>
    some (.inl (out9, x13))
  ) else (
    some (.inr out6)
  )
noncomputable def ref_Changed_L1 (l1 : List GAttr) (out2 : List GAttr) (x2 : Int) : Option (((List GAttr) × Int) ⊕ (List GAttr)) :=
  if (decide (x2 < (l1.length : Int))) then (
    bnd1 (idx l1 x2) fun (x14 : GAttr) =>
    bnd1 (ref_put out2 x14) fun (out10 : List GAttr) =>
    bnd1 (chk .i64 (x2 + 1)) fun (x15 : Int) =>
    some (.inl (out10, x15))
  ) else (
    some (.inr out2)
  )
noncomputable def ref_Changed (l1 : List GAttr) (change1 : List GAttr) : Option ((List GAttr)) :=
  bnd1 (iter (fun (a : (List GAttr) × Int) => ref_Changed_L1 l1 a.1 a.2) ([], 0)) fun (out4 : List GAttr) =>
  bnd1 (iter (fun (a : (List GAttr) × Int) => ref_Changed_L2 change1 a.1 a.2) (out4, 0)) fun (out8 : List GAttr) =>
  bnd1 (iter (fun (a : Int × (List GAttr)) => ref_Changed_L3 out8 a.1 a.2) (0, [])) fun (rest4 : List GAttr) =>
  some rest4
noncomputable def ref_Between_L2 (a1 : List GAttr) (b1 : List GAttr) (out6 : List GAttr) (x5 : Int) : Option (((List GAttr) × Int) ⊕ (List GAttr)) :=
  if (decide (x5 < (a1.length : Int))) then (
    bnd1 (
      bnd1 (idx a1 x5) fun (x8 : GAttr) =>
      bnd1 (ref_Get b1 x8.Name) fun (r1 : List UInt8) =>
      if (decide (r1 = [])) then (
        bnd1 (ref_put out6 (GAttr.mk x8.Name [])) fun (out10 : List GAttr) =>
        some out10
      ) else (
        some out6
      )
    ) fun (out9 : List GAttr) =>
    bnd1 (chk .i64 (x5 + 1)) fun (x7 : Int) =>
    some (.inl (out9, x7))
  ) else (
    some (.inr out6)
  )
noncomputable def ref_Between_L1 (a1 : List GAttr) (b1 : List GAttr) (out2 : List GAttr) (x2 : Int) : Option (((List GAttr) × Int) ⊕ (List GAttr)) :=
  if (decide (x2 < (b1.length : Int))) then (
    bnd1 (
      bnd1 (idx b1 x2) fun (x10 : GAttr) =>
      bnd1 (ref_Get a1 x10.Name) fun (r2 : List UInt8) =>
      if (!decide (r2 = x10.Value)) then (
        bnd1 (ref_put out2 x10) fun (out12 : List GAttr) =>
        some out12
      ) else (
        some out2
      )
    ) fun (out11 : List GAttr) =>
    bnd1 (chk .i64 (x2 + 1)) fun (x9 : Int) =>
    some (.inl (out11, x9))
  ) else (
    some (.inr out2)
  )
noncomputable def ref_Between (a1 : List GAttr) (b1 : List GAttr) : Option ((List GAttr)) :=
  bnd1 (iter (fun (a : (List GAttr) × Int) => ref_Between_L1 a1 b1 a.1 a.2) ([], 0)) fun (out4 : List GAttr) =>
  bnd1 (iter (fun (a : (List GAttr) × Int) => ref_Between_L2 a1 b1 a.1 a.2) (out4, 0)) fun (out8 : List GAttr) =>
  some out8
noncomputable def flow_Char (c1 : Int) : Option (Bool) :=
  some (((((decide (c1 = 9)) || (decide (c1 = 10))) || ((decide (32 ≤ c1)) && (decide (c1 < 127)))) || ((decide (160 ≤ c1)) && (decide (c1 < 55296)))) || ((decide (57343 < c1)) && (decide (c1 ≤ 1114111))))
noncomputable def flow_elem (x1 : GElem) : Option (Int) :=
  if ((!decide (x1.Char = 0)) == (!decide (x1.Ref = 0))) then (
    some 4
  ) else (
    bnd1 (gd ((decide (x1.Ref = 0)) == true) (flow_Char x1.Char)) fun (r1 : Bool) =>
    bnd1 (
      if ((decide (x1.Ref = 0)) && (!r1)) then (
        some ((decide (x1.Ref = 0)) && (!r1))
      ) else (
        some ((!decide (x1.Ref = 0)) && ((decide (x1.Ref < 1)) || (decide (1073741824 < x1.Ref))))
      )
    ) fun (x2 : Bool) =>
    if x2 then (
      some 2
    ) else (
      bnd1 (attr_Check x1.Attrs) fun (r2 : Int) =>
      some r2
    )
  )
noncomputable def flow_CheckPart_L1 (f1 : List GElem) (x2 : Int) : Option (Int ⊕ (Ctl Unit Int)) :=
  if (decide (x2 < (f1.length : Int))) then (
    bnd1 (idx f1 x2) fun (x4 : GElem) =>
    bnd1 (flow_elem x4) fun (e1 : Int) =>
    if (!decide (e1 = 0)) then (
      some (.inr (.ext e1))
    ) else (
      bnd1 (chk .i64 (x2 + 1)) fun (x5 : Int) =>
      some (.inl x5)
    )
  ) else (
    some (.inr (.nrm ()))
  )
noncomputable def flow_CheckPart (f1 : List GElem) : Option (Int) :=
  ctl1 (iter (fun (a : Int) => flow_CheckPart_L1 f1 a) 0) fun (u2 : Unit) =>
  some 0
noncomputable def ref_Char (c1 : Int) : Option (Bool) :=
  bnd1 (gd (((decide (c1 = 9)) || (decide (c1 = 10))) == false) (ref_In c1 32 126)) fun (r1 : Bool) =>
  bnd1 (gd ((((decide (c1 = 9)) || (decide (c1 = 10))) || r1) == false) (ref_In c1 160 55295)) fun (r2 : Bool) =>
  bnd1 (gd (((((decide (c1 = 9)) || (decide (c1 = 10))) || r1) || r2) == false) (ref_In c1 57344 1114111)) fun (r3 : Bool) =>
  some (((((decide (c1 = 9)) || (decide (c1 = 10))) || r1) || r2) || r3)
noncomputable def ref_ElemError (x1 : GElem) : Option (Int) :=
  if (((decide (x1.Char = 0)) && (decide (x1.Ref = 0))) || ((!decide (x1.Char = 0)) && (!decide (x1.Ref = 0)))) then (
    some 4
  ) else (
    bnd1 (gd ((!decide (x1.Char = 0)) == true) (ref_Char x1.Char)) fun (r1 : Bool) =>
    bnd1 (gd ((((!decide (x1.Char = 0)) && (!r1)) == false) && ((!decide (x1.Ref = 0)) == true)) (ref_In x1.Ref 1 1073741824)) fun (r2 : Bool) =>
    if (((!decide (x1.Char = 0)) && (!r1)) || ((!decide (x1.Ref = 0)) && (!r2))) then (
      some 2
    ) else (
      bnd1 (ref_AttrsError x1.Attrs false) fun (r3 : Int) =>
      some r3
    )
  )
noncomputable def ref_PartError_L1 (f1 : List GElem) (x2 : Int) : Option (Int ⊕ (Ctl Unit Int)) :=
  if (decide (x2 < (f1.length : Int))) then (
    bnd1 (idx f1 x2) fun (x4 : GElem) =>
    bnd1 (ref_ElemError x4) fun (e1 : Int) =>
    if (!decide (e1 = 0)) then (
      some (.inr (.ext e1))
    ) else (
      bnd1 (chk .i64 (x2 + 1)) fun (x5 : Int) =>
      some (.inl x5)
    )
  ) else (
    some (.inr (.nrm ()))
  )
noncomputable def ref_PartError (f1 : List GElem) : Option (Int) :=
  ctl1 (iter (fun (a : Int) => ref_PartError_L1 f1 a) 0) fun (u2 : Unit) =>
  some 0
noncomputable def ref_Has_L1 (l1 : List GAttr) (name1 : List UInt8) (x2 : Int) : Option (Int ⊕ (Ctl Unit Bool)) :=
  if (decide (x2 < (l1.length : Int))) then (
    bnd1 (idx l1 x2) fun (x4 : GAttr) =>
    if (decide (x4.Name = name1)) then (
      some (.inr (.ext true))
    ) else (
      bnd1 (chk .i64 (x2 + 1)) fun (x5 : Int) =>
      some (.inl x5)
    )
  ) else (
    some (.inr (.nrm ()))
  )
noncomputable def ref_Has (l1 : List GAttr) (name1 : List UInt8) : Option (Bool) :=
  ctl1 (iter (fun (a : Int) => ref_Has_L1 l1 name1 a) 0) fun (u2 : Unit) =>
  some false
noncomputable def attr_Same_L1 (a1 : List GAttr) (b1 : List GAttr) (x2 : Int) : Option (Int ⊕ (Ctl Unit Bool)) :=
  if (decide (x2 < (a1.length : Int))) then (
    bnd1 (idx a1 x2) fun (x4 : GAttr) =>
    bnd1 (idx b1 x2) fun (x5 : GAttr) =>
    if (!(decide (x4.Name = x5.Name) && (decide (x4.Value = x5.Value) && true))) then (
      some (.inr (.ext false))
    ) else (
      bnd1 (chk .i64 (x2 + 1)) fun (x6 : Int) =>
      some (.inl x6)
    )
  ) else (
    some (.inr (.nrm ()))
  )
noncomputable def attr_Same (a1 : List GAttr) (b1 : List GAttr) : Option (Bool) :=
  if (!decide ((a1.length : Int) = (b1.length : Int))) then (
    some false
  ) else (
    ctl1 (iter (fun (a : Int) => attr_Same_L1 a1 b1 a) 0) fun (u2 : Unit) =>
    some true
  )
end Go.Proofs.Ytfkolgjapajekaa.Al


namespace Go.Proofs.Ytfkolgjapajekaa.Al
structure Ref_Act where
  Adds : List (List GElem)
  Cuts : List Bool
  Attrs : List (List GAttr)
deriving DecidableEq
instance : Inhabited Ref_Act := ⟨⟨[], [], []⟩⟩
@[reducible] def Ref_Act.row (x : Ref_Act) : List RV := [.sl (x.Adds.map (rSl GElem.row)), .sl (x.Cuts.map rBool), .sl (x.Attrs.map (rSl GAttr.row))]
end Go.Proofs.Ytfkolgjapajekaa.Al


namespace Go.Proofs.Ytfkolgjapajekaa.Al
end Go.Proofs.Ytfkolgjapajekaa.Al


namespace Go.Proofs.Ytfkolgjapajekaa.Al
structure Delta_Reader where
  steps : List GStep
  used : Int
deriving DecidableEq
instance : Inhabited Delta_Reader := ⟨⟨[], 0⟩⟩
@[reducible] def Delta_Reader.row (x : Delta_Reader) : List RV := [.sl (x.steps.map GStep.row), .int .i64 x.used]
structure Delta_Writer where
  out : List GStep
  add : List GElem
  cut : Int
deriving DecidableEq
instance : Inhabited Delta_Writer := ⟨⟨[], [], 0⟩⟩
@[reducible] def Delta_Writer.row (x : Delta_Writer) : List RV := [.sl (x.out.map GStep.row), .sl (x.add.map GElem.row), .int .i64 x.cut]
noncomputable def law_letters_L1 (s1 : List UInt8) (x2 : Int) (out2 : List GElem) : Option ((Int × (List GElem)) ⊕ (List GElem)) :=
  if (decide (x2 < (s1.length : Int))) then (
    bnd1 (idx s1 x2) fun (ch1 : UInt8) =>
    bnd1 (app 40 out2 [(GElem.mk (IntKind.i64.wrap (ch1.toNat : Int)) 0 [])]) fun (out5 : List GElem) =>
    bnd1 (chk .i64 (x2 + 1)) fun (x4 : Int) =>
    some (.inl (x4, out5))
  ) else (
    some (.inr out2)
  )
noncomputable def law_letters (s1 : List UInt8) : Option ((List GElem)) :=
  bnd1 (iter (fun (a : Int × (List GElem)) => law_letters_L1 s1 a.1 a.2) (0, [])) fun (out4 : List GElem) =>
  some out4
noncomputable def delta_step (s1 : GStep) : Option (Int) :=
  bnd1 (
    if (decide (s1.Kind = 0)) then (
      some (decide (s1.Kind = 0))
    ) else (
      some (decide (s1.Kind = 2))
    )
  ) fun (x1 : Bool) =>
  if x1 then (
    if ((decide (0 < (s1.Elems.length : Int))) || ((decide (s1.Kind = 2)) && (decide (0 < (s1.Attrs.length : Int))))) then (
      some 4
    ) else (
      if ((decide (s1.N < 1)) || (decide (2147483647 < s1.N))) then (
        some 2
      ) else (
        bnd1 (attr_CheckChange s1.Attrs) fun (r1 : Int) =>
        some r1
      )
    )
  ) else (
    if (decide (s1.Kind = 1)) then (
      if ((!decide (s1.N = 0)) || (decide (0 < (s1.Attrs.length : Int)))) then (
        some 4
      ) else (
        if (decide ((s1.Elems.length : Int) = 0)) then (
          some 11
        ) else (
          bnd1 (flow_CheckPart s1.Elems) fun (r2 : Int) =>
          some r2
        )
      )
    ) else (
      some 8
    )
  )
noncomputable def delta_size (s1 : GStep) : Option (Int) :=
  if (decide (s1.Kind = 1)) then (
    some (s1.Elems.length : Int)
  ) else (
    some s1.N
  )
noncomputable def delta_Check_L1 (d1 : List GStep) (before2 : Int) (after2 : Int) (x2 : Int) : Option ((Int × Int × Int) ⊕ (Ctl (Int × Int) Int)) :=
  if (decide (x2 < (d1.length : Int))) then (
    ctl2 (
      bnd1 (idx d1 x2) fun (x5 : GStep) =>
      bnd1 (delta_step x5) fun (e1 : Int) =>
      if (!decide (e1 = 0)) then (
        some (.ext (.inr (.ext e1)))
      ) else (
        ctl1 (
          if (decide (0 < x2)) then (
            bnd1 (chk .i64 (x2 - 1)) fun (x8 : Int) =>
            bnd1 (idx d1 x8) fun (x9 : GStep) =>
            bnd1 (gd (((decide (x9.Kind = x5.Kind)) == true) && ((!decide (x5.Kind = 0)) == false)) (attr_Same x9.Attrs x5.Attrs)) fun (r2 : Bool) =>
            if (((decide (x9.Kind = x5.Kind)) && ((!decide (x5.Kind = 0)) || r2)) || ((decide (x9.Kind = 2)) && (decide (x5.Kind = 1)))) then (
              some (.ext (.ext (.inr (.ext 5))))
            ) else (
              some (.nrm ())
            )
          ) else (
            some (.nrm ())
          )
        ) fun (u2 : Unit) =>
        bnd1 (
          if (!decide (x5.Kind = 1)) then (
            bnd1 (chk .i64 (before2 + x5.N)) fun (x7 : Int) =>
            some (min x7 2147483648)
          ) else (
            some before2
          )
        ) fun (before6 : Int) =>
        if (!decide (x5.Kind = 2)) then (
          bnd1 (delta_size x5) fun (r1 : Int) =>
          bnd1 (chk .i64 (after2 + r1)) fun (x6 : Int) =>
          some (.nrm (before6, (min x6 2147483648)))
        ) else (
          some (.nrm (before6, after2))
        )
      )
    ) fun (before5 : Int) (after5 : Int) =>
    bnd1 (chk .i64 (x2 + 1)) fun (x4 : Int) =>
    some (.inl (before5, after5, x4))
  ) else (
    some (.inr (.nrm (before2, after2)))
  )
noncomputable def delta_Check (d1 : List GStep) : Option (Int) :=
  ctl2 (iter (fun (a : Int × Int × Int) => delta_Check_L1 d1 a.1 a.2.1 a.2.2) (0, 0, 0)) fun (before4 : Int) (after4 : Int) =>
  if ((decide (2147483647 < before4)) || (decide (2147483647 < after4))) then (
    some 3
  ) else (
    some 0
  )
noncomputable def flow_Copy_L1 (f1 : List GElem) (x2 : Int) (out3 : List GElem) : Option ((Int × (List GElem)) ⊕ (List GElem)) :=
  if (decide (x2 < (f1.length : Int))) then (
    bnd1 (idx f1 x2) fun (x4 : GElem) =>
    bnd1 (app 32 [] x4.Attrs) fun (l1 : List GAttr) =>
    bnd1 (idx out3 x2) fun (x5 : GElem) =>
    bnd1 (chk .i64 (x2 + 1)) fun (x6 : Int) =>
    some (.inl (x6, (out3.set x2.toNat (GElem.mk x4.Char x4.Ref l1))))
  ) else (
    some (.inr out3)
  )
noncomputable def flow_Copy (f1 : List GElem) : Option ((List GElem)) :=
  bnd1 (mk 40 (f1.length : Int) (GElem.mk 0 0 [])) fun (out1 : List GElem) =>
  bnd1 (iter (fun (a : Int × (List GElem)) => flow_Copy_L1 f1 a.1 a.2) (0, out1)) fun (out5 : List GElem) =>
  some out5
noncomputable def delta_writer_flush (w1 : Delta_Writer) : Option (Delta_Writer) :=
  bnd1 (
    if (decide (0 < (w1.add.length : Int))) then (
      bnd1 (app 64 w1.out [(GStep.mk 1 0 [] w1.add)]) fun (l2 : List GStep) =>
      some (Delta_Writer.mk l2 w1.add w1.cut)
    ) else (
      some w1
    )
  ) fun (w2 : Delta_Writer) =>
  bnd1 (
    if (decide (0 < w2.cut)) then (
      bnd1 (app 64 w2.out [(GStep.mk 2 w2.cut [] [])]) fun (l1 : List GStep) =>
      some (Delta_Writer.mk l1 w2.add w2.cut)
    ) else (
      some w2
    )
  ) fun (w3 : Delta_Writer) =>
  some (Delta_Writer.mk w3.out [] 0)
noncomputable def delta_writer_keep (w1 : Delta_Writer) (n1 : Int) (attrs1 : List GAttr) : Option (Delta_Writer) :=
  if (decide (n1 = 0)) then (
    some w1
  ) else (
    bnd1 (delta_writer_flush w1) fun (w2 : Delta_Writer) =>
    bnd1 (chk .i64 ((w2.out.length : Int) - 1)) fun (k1 : Int) =>
    bnd1 (gd ((decide (0 ≤ k1)) == true) (idx w2.out k1)) fun (x1 : GStep) =>
    bnd1 (gd (((decide (0 ≤ k1)) && (decide (x1.Kind = 0))) == true) (idx w2.out k1)) fun (x2 : GStep) =>
    bnd1 (gd (((decide (0 ≤ k1)) && (decide (x1.Kind = 0))) == true) (attr_Same x2.Attrs attrs1)) fun (r1 : Bool) =>
    if (((decide (0 ≤ k1)) && (decide (x1.Kind = 0))) && r1) then (
      bnd1 (idx w2.out k1) fun (x3 : GStep) =>
      bnd1 (chk .i64 (x3.N + n1)) fun (x4 : Int) =>
      some (Delta_Writer.mk (w2.out.set k1.toNat (GStep.mk x3.Kind x4 x3.Attrs x3.Elems)) [] w2.cut)
    ) else (
      bnd1 (app 32 [] attrs1) fun (l1 : List GAttr) =>
      bnd1 (app 64 w2.out [(GStep.mk 0 n1 l1 [])]) fun (l2 : List GStep) =>
      some (Delta_Writer.mk l2 [] w2.cut)
    )
  )
noncomputable def delta_writer_elems (w1 : Delta_Writer) (l1 : List GElem) : Option (Delta_Writer) :=
  bnd1 (flow_Copy l1) fun (r1 : List GElem) =>
  bnd1 (app 40 w1.add r1) fun (l2 : List GElem) =>
  some (Delta_Writer.mk w1.out l2 w1.cut)
noncomputable def delta_writer_done (w1 : Delta_Writer) : Option ((List GStep) × Int × Delta_Writer) :=
  bnd1 (delta_writer_flush w1) fun (w2 : Delta_Writer) =>
  bnd1 (delta_Check w2.out) fun (r1 : Int) =>
  if (!decide (r1 = 0)) then (
    some ([], 3, (Delta_Writer.mk w2.out [] w2.cut))
  ) else (
    some (w2.out, 0, (Delta_Writer.mk w2.out [] w2.cut))
  )
noncomputable def ref_SameElem (a1 : GElem) (b1 : GElem) : Option (Bool) :=
  bnd1 (gd (((decide (a1.Char = b1.Char)) && (decide (a1.Ref = b1.Ref))) == true) (ref_SameAttrs a1.Attrs b1.Attrs)) fun (r1 : Bool) =>
  some (((decide (a1.Char = b1.Char)) && (decide (a1.Ref = b1.Ref))) && r1)
noncomputable def ref_SameFlow_L1 (a1 : List GElem) (b1 : List GElem) (x2 : Int) : Option (Int ⊕ (Ctl Unit Bool)) :=
  if (decide (x2 < (a1.length : Int))) then (
    bnd1 (idx a1 x2) fun (x4 : GElem) =>
    bnd1 (idx b1 x2) fun (x5 : GElem) =>
    bnd1 (ref_SameElem x4 x5) fun (r1 : Bool) =>
    if (!r1) then (
      some (.inr (.ext false))
    ) else (
      bnd1 (chk .i64 (x2 + 1)) fun (x6 : Int) =>
      some (.inl x6)
    )
  ) else (
    some (.inr (.nrm ()))
  )
noncomputable def ref_SameFlow (a1 : List GElem) (b1 : List GElem) : Option (Bool) :=
  if (!decide ((a1.length : Int) = (b1.length : Int))) then (
    some false
  ) else (
    ctl1 (iter (fun (a : Int) => ref_SameFlow_L1 a1 b1 a) 0) fun (u2 : Unit) =>
    some true
  )
noncomputable def delta_Tidy_L1 (d1 : List GStep) (x2 : Int) (w2 : Delta_Writer) : Option ((Int × Delta_Writer) ⊕ (Ctl Delta_Writer ((List GStep) × Int))) :=
  if (decide (x2 < (d1.length : Int))) then (
    ctl1 (
      bnd1 (idx d1 x2) fun (x5 : GStep) =>
      bnd1 (delta_step x5) fun (e1 : Int) =>
      bnd1 (
        if ((((decide (x5.Kind = 1)) && (decide ((x5.Elems.length : Int) = 0))) && (decide (e1 = 11))) || (((!decide (x5.Kind = 1)) && (decide (x5.N = 0))) && (decide (e1 = 2)))) then (
          bnd1 (attr_CheckChange x5.Attrs) fun (e3 : Int) =>
          some e3
        ) else (
          some e1
        )
      ) fun (e2 : Int) =>
      if (!decide (e2 = 0)) then (
        some (.ext (.inr (.ext ([], e2))))
      ) else (
        if (decide (x5.Kind = 0)) then (
          bnd1 (delta_writer_keep w2 x5.N x5.Attrs) fun (w7 : Delta_Writer) =>
          some (.nrm w7)
        ) else (
          if (decide (x5.Kind = 1)) then (
            bnd1 (delta_writer_elems w2 x5.Elems) fun (w8 : Delta_Writer) =>
            some (.nrm w8)
          ) else (
            bnd1 (chk .i64 (w2.cut + x5.N)) fun (x6 : Int) =>
            if (decide (2147483647 < x6)) then (
              some (.ext (.inr (.ext ([], 3))))
            ) else (
              some (.nrm (Delta_Writer.mk w2.out w2.add x6))
            )
          )
        )
      )
    ) fun (w6 : Delta_Writer) =>
    bnd1 (chk .i64 (x2 + 1)) fun (x4 : Int) =>
    some (.inl (x4, w6))
  ) else (
    some (.inr (.nrm w2))
  )
noncomputable def delta_Tidy (d1 : List GStep) : Option ((List GStep) × Int) :=
  ctl1 (iter (fun (a : Int × Delta_Writer) => delta_Tidy_L1 d1 a.1 a.2) (0, (Delta_Writer.mk [] [] 0))) fun (w4 : Delta_Writer) =>
  bnd3 (delta_writer_done w4) fun (r1 : List GStep) (r2 : Int) (w5 : Delta_Writer) =>
  some (r1, r2)
end Go.Proofs.Ytfkolgjapajekaa.Al


namespace Go.Proofs.Ytfkolgjapajekaa.Al
end Go.Proofs.Ytfkolgjapajekaa.Al


namespace Go.Proofs.Ytfkolgjapajekaa.Al
end Go.Proofs.Ytfkolgjapajekaa.Al


namespace Go.Proofs.Ytfkolgjapajekaa.Al
noncomputable def diff_alike (a1 : GElem) (b1 : GElem) : Option (Bool) :=
  some ((decide (a1.Char = b1.Char)) && (decide (a1.Ref = b1.Ref)))
noncomputable def diff_price (a1 : GElem) (b1 : GElem) : Option (Int) :=
  bnd1 (attr_Same a1.Attrs b1.Attrs) fun (r1 : Bool) =>
  if r1 then (
    some 0
  ) else (
    some 1
  )
noncomputable def diff_table_L2 (a1 : List GElem) (b1 : List GElem) (i4 : Int) (t3 : List (List Int)) (k2 : Int) (o3 : List Int) : Option ((Int × (List Int)) ⊕ (List Int)) :=
  if (decide (0 ≤ k2)) then (
    bnd1 (
      if (decide (i4 = (a1.length : Int))) then (
        bnd1 (chk .i64 ((b1.length : Int) - k2)) fun (x4 : Int) =>
        bnd1 (idx o3 k2) fun (x5 : Int) =>
        some (o3.set k2.toNat x4)
      ) else (
        if (decide (k2 = (b1.length : Int))) then (
          bnd1 (chk .i64 ((a1.length : Int) - i4)) fun (x6 : Int) =>
          bnd1 (idx o3 k2) fun (x7 : Int) =>
          some (o3.set k2.toNat x6)
        ) else (
          bnd1 (chk .i64 (i4 + 1)) fun (x8 : Int) =>
          bnd1 (idx t3 x8) fun (x9 : List Int) =>
          bnd1 (idx x9 k2) fun (x10 : Int) =>
          bnd1 (chk .i64 (k2 + 1)) fun (x11 : Int) =>
          bnd1 (idx o3 x11) fun (x12 : Int) =>
          bnd1 (chk .i64 (1 + (min x10 x12))) fun (x13 : Int) =>
          bnd1 (idx o3 k2) fun (x14 : Int) =>
          bnd1 (idx a1 i4) fun (x15 : GElem) =>
          bnd1 (idx b1 k2) fun (x16 : GElem) =>
          bnd1 (diff_alike x15 x16) fun (r1 : Bool) =>
          if r1 then (
            bnd1 (idx (o3.set k2.toNat x13) k2) fun (x17 : Int) =>
            bnd1 (idx x9 x11) fun (x18 : Int) =>
            bnd1 (diff_price x15 x16) fun (r2 : Int) =>
            bnd1 (chk .i64 (x18 + r2)) fun (x19 : Int) =>
            some ((o3.set k2.toNat x13).set k2.toNat (min x17 x19))
          ) else (
            some (o3.set k2.toNat x13)
          )
        )
      )
    ) fun (o7 : List Int) =>
    bnd1 (chk .i64 (k2 - 1)) fun (k4 : Int) =>
    some (.inl (k4, o7))
  ) else (
    some (.inr o3)
  )
noncomputable def diff_table_L1 (a1 : List GElem) (b1 : List GElem) (i4 : Int) (t3 : List (List Int)) : Option ((Int × (List (List Int))) ⊕ (List (List Int))) :=
  if (decide (0 ≤ i4)) then (
    bnd1 (chk .i64 ((b1.length : Int) + 1)) fun (x2 : Int) =>
    bnd1 (mk 8 x2 0) fun (l1 : List Int) =>
    bnd1 (idx t3 i4) fun (x3 : List Int) =>
    bnd1 (iter (fun (a : Int × (List Int)) => diff_table_L2 a1 b1 i4 t3 a.1 a.2) ((b1.length : Int), l1)) fun (o5 : List Int) =>
    bnd1 (chk .i64 (i4 - 1)) fun (i14 : Int) =>
    some (.inl (i14, (t3.set i4.toNat o5)))
  ) else (
    some (.inr t3)
  )
noncomputable def diff_table (a1 : List GElem) (b1 : List GElem) : Option ((List (List Int))) :=
  bnd1 (chk .i64 ((a1.length : Int) + 1)) fun (x1 : Int) =>
  bnd1 (mk 24 x1 []) fun (t1 : List (List Int)) =>
  bnd1 (iter (fun (a : Int × (List (List Int))) => diff_table_L1 a1 b1 a.1 a.2) ((a1.length : Int), t1)) fun (t5 : List (List Int)) =>
  some t5
noncomputable def diff_Raw_L1 (a2 : List GElem) (b2 : List GElem) (t1 : List (List Int)) (i5 : Int) (k2 : Int) (out2 : List GStep) : Option ((Int × Int × (List GStep)) ⊕ (List GStep)) :=
  if ((decide (i5 < (a2.length : Int))) || (decide (k2 < (b2.length : Int)))) then (
    bnd1 (gd (((decide (i5 < (a2.length : Int))) && (decide (k2 < (b2.length : Int)))) == true) (idx a2 i5)) fun (x5 : GElem) =>
    bnd1 (gd (((decide (i5 < (a2.length : Int))) && (decide (k2 < (b2.length : Int)))) == true) (idx b2 k2)) fun (x6 : GElem) =>
    bnd1 (gd (((decide (i5 < (a2.length : Int))) && (decide (k2 < (b2.length : Int)))) == true) (diff_alike x5 x6)) fun (r3 : Bool) =>
    bnd1 (gd ((((decide (i5 < (a2.length : Int))) && (decide (k2 < (b2.length : Int)))) && r3) == true) (idx t1 i5)) fun (x7 : List Int) =>
    bnd1 (gd ((((decide (i5 < (a2.length : Int))) && (decide (k2 < (b2.length : Int)))) && r3) == true) (idx x7 k2)) fun (x8 : Int) =>
    bnd1 (gd ((((decide (i5 < (a2.length : Int))) && (decide (k2 < (b2.length : Int)))) && r3) == true) (chk .i64 (i5 + 1))) fun (x9 : Int) =>
    bnd1 (gd ((((decide (i5 < (a2.length : Int))) && (decide (k2 < (b2.length : Int)))) && r3) == true) (idx t1 x9)) fun (x10 : List Int) =>
    bnd1 (gd ((((decide (i5 < (a2.length : Int))) && (decide (k2 < (b2.length : Int)))) && r3) == true) (chk .i64 (k2 + 1))) fun (x11 : Int) =>
    bnd1 (gd ((((decide (i5 < (a2.length : Int))) && (decide (k2 < (b2.length : Int)))) && r3) == true) (idx x10 x11)) fun (x12 : Int) =>
    bnd1 (gd ((((decide (i5 < (a2.length : Int))) && (decide (k2 < (b2.length : Int)))) && r3) == true) (idx a2 i5)) fun (x13 : GElem) =>
    bnd1 (gd ((((decide (i5 < (a2.length : Int))) && (decide (k2 < (b2.length : Int)))) && r3) == true) (idx b2 k2)) fun (x14 : GElem) =>
    bnd1 (gd ((((decide (i5 < (a2.length : Int))) && (decide (k2 < (b2.length : Int)))) && r3) == true) (diff_price x13 x14)) fun (r4 : Int) =>
    bnd1 (gd ((((decide (i5 < (a2.length : Int))) && (decide (k2 < (b2.length : Int)))) && r3) == true) (chk .i64 (x12 + r4))) fun (x15 : Int) =>
    if ((((decide (i5 < (a2.length : Int))) && (decide (k2 < (b2.length : Int)))) && r3) && (decide (x8 = x15))) then (
      bnd1 (idx a2 i5) fun (x16 : GElem) =>
      bnd1 (idx b2 k2) fun (x17 : GElem) =>
      bnd1 (attr_Change x16.Attrs x17.Attrs) fun (r5 : List GAttr) =>
      bnd1 (app 64 out2 [(GStep.mk 0 1 r5 [])]) fun (out5 : List GStep) =>
      bnd1 (chk .i64 (i5 + 1)) fun (i10 : Int) =>
      bnd1 (chk .i64 (k2 + 1)) fun (k4 : Int) =>
      some (.inl (i10, k4, out5))
    ) else (
      bnd1 (gd (((decide (i5 < (a2.length : Int))) == true) && ((decide (k2 = (b2.length : Int))) == false)) (idx t1 i5)) fun (x18 : List Int) =>
      bnd1 (gd (((decide (i5 < (a2.length : Int))) == true) && ((decide (k2 = (b2.length : Int))) == false)) (idx x18 k2)) fun (x19 : Int) =>
      bnd1 (gd (((decide (i5 < (a2.length : Int))) == true) && ((decide (k2 = (b2.length : Int))) == false)) (chk .i64 (i5 + 1))) fun (x20 : Int) =>
      bnd1 (gd (((decide (i5 < (a2.length : Int))) == true) && ((decide (k2 = (b2.length : Int))) == false)) (idx t1 x20)) fun (x21 : List Int) =>
      bnd1 (gd (((decide (i5 < (a2.length : Int))) == true) && ((decide (k2 = (b2.length : Int))) == false)) (idx x21 k2)) fun (x22 : Int) =>
      bnd1 (gd (((decide (i5 < (a2.length : Int))) == true) && ((decide (k2 = (b2.length : Int))) == false)) (chk .i64 (1 + x22))) fun (x23 : Int) =>
      if ((decide (i5 < (a2.length : Int))) && ((decide (k2 = (b2.length : Int))) || (decide (x19 = x23)))) then (
        bnd1 (app 64 out2 [(GStep.mk 2 1 [] [])]) fun (out6 : List GStep) =>
        bnd1 (chk .i64 (i5 + 1)) fun (i11 : Int) =>
        some (.inl (i11, k2, out6))
      ) else (
        bnd1 (chk .i64 (k2 + 1)) fun (x24 : Int) =>
        bnd1 (slc b2 k2 x24) fun (l2 : List GElem) =>
        bnd1 (app 64 out2 [(GStep.mk 1 0 [] l2)]) fun (out7 : List GStep) =>
        some (.inl (i5, x24, out7))
      )
    )
  ) else (
    some (.inr out2)
  )
noncomputable def diff_Raw (a1 : List GElem) (b1 : List GElem) : Option ((List GStep)) :=
  bnd1 (gd (((decide (0 < (a1.length : Int))) && (decide (0 < (b1.length : Int)))) == true) (chk .i64 ((a1.length : Int) - 1))) fun (x1 : Int) =>
  bnd1 (gd (((decide (0 < (a1.length : Int))) && (decide (0 < (b1.length : Int)))) == true) (idx a1 x1)) fun (x2 : GElem) =>
  bnd1 (gd ((((decide (0 < (a1.length : Int))) && (decide (0 < (b1.length : Int)))) && (decide (x2.Char = 10))) == true) (chk .i64 ((b1.length : Int) - 1))) fun (x3 : Int) =>
  bnd1 (gd ((((decide (0 < (a1.length : Int))) && (decide (0 < (b1.length : Int)))) && (decide (x2.Char = 10))) == true) (idx b1 x3)) fun (x4 : GElem) =>
  bnd3 (
    if ((((decide (0 < (a1.length : Int))) && (decide (0 < (b1.length : Int)))) && (decide (x2.Char = 10))) && (decide (x4.Char = 10))) then (
      bnd1 (chk .i64 ((a1.length : Int) - 1)) fun (x25 : Int) =>
      bnd1 (idx a1 x25) fun (x26 : GElem) =>
      bnd1 (chk .i64 ((b1.length : Int) - 1)) fun (x27 : Int) =>
      bnd1 (idx b1 x27) fun (x28 : GElem) =>
      bnd1 (attr_Change x26.Attrs x28.Attrs) fun (r6 : List GAttr) =>
      bnd1 (slc a1 0 x25) fun (a3 : List GElem) =>
      bnd1 (slc b1 0 x27) fun (b3 : List GElem) =>
      some (a3, b3, [(GStep.mk 0 1 r6 [])])
    ) else (
      some (a1, b1, [])
    )
  ) fun (a2 : List GElem) (b2 : List GElem) (last1 : List GStep) =>
  bnd1 (diff_table a2 b2) fun (t1 : List (List Int)) =>
  bnd1 (iter (fun (a : Int × Int × (List GStep)) => diff_Raw_L1 a2 b2 t1 a.1 a.2.1 a.2.2) (0, 0, [])) fun (out4 : List GStep) =>
  bnd1 (app 64 out4 last1) fun (l1 : List GStep) =>
  bnd2 (delta_Tidy l1) fun (r1 : List GStep) (r2 : Int) =>
  some r1
noncomputable def ref_Tied (a1 : List GElem) (b1 : List GElem) : Option (Bool) :=
  bnd1 (gd (((decide (0 < (a1.length : Int))) && (decide (0 < (b1.length : Int)))) == true) (chk .i64 ((a1.length : Int) - 1))) fun (x1 : Int) =>
  bnd1 (gd (((decide (0 < (a1.length : Int))) && (decide (0 < (b1.length : Int)))) == true) (idx a1 x1)) fun (x2 : GElem) =>
  bnd1 (gd ((((decide (0 < (a1.length : Int))) && (decide (0 < (b1.length : Int)))) && (decide (x2.Char = 10))) == true) (chk .i64 ((b1.length : Int) - 1))) fun (x3 : Int) =>
  bnd1 (gd ((((decide (0 < (a1.length : Int))) && (decide (0 < (b1.length : Int)))) && (decide (x2.Char = 10))) == true) (idx b1 x3)) fun (x4 : GElem) =>
  some ((((decide (0 < (a1.length : Int))) && (decide (0 < (b1.length : Int)))) && (decide (x2.Char = 10))) && (decide (x4.Char = 10)))
noncomputable def ref_DiffCost_L3 (a1 : List GElem) (b1 : List GElem) (line7 : List Int) (x11 : Int) (x16 : Int) (next2 : List Int) : Option ((Int × (List Int)) ⊕ (List Int)) :=
  if (decide (x16 < (b1.length : Int))) then (
    bnd1 (chk .i64 (x16 + 1)) fun (x18 : Int) =>
    bnd1 (idx line7 x18) fun (x19 : Int) =>
    bnd1 (idx next2 x16) fun (x20 : Int) =>
    bnd1 (chk .i64 (1 + (min x19 x20))) fun (n2 : Int) =>
    bnd1 (idx a1 x11) fun (x21 : GElem) =>
    bnd1 (idx b1 x16) fun (x22 : GElem) =>
    bnd1 (
      if ((decide (x21.Char = x22.Char)) && (decide (x21.Ref = x22.Ref))) then (
        bnd1 (idx line7 x16) fun (x23 : Int) =>
        bnd1 (ref_SameAttrs x21.Attrs x22.Attrs) fun (r3 : Bool) =>
        bnd1 (
          if (!r3) then (
            bnd1 (chk .i64 (x23 + 1)) fun (p5 : Int) =>
            some p5
          ) else (
            some x23
          )
        ) fun (p3 : Int) =>
        some (min n2 p3)
      ) else (
        some n2
      )
    ) fun (n3 : Int) =>
    bnd1 (app 8 next2 [n3]) fun (next5 : List Int) =>
    some (.inl (x18, next5))
  ) else (
    some (.inr next2)
  )
noncomputable def ref_DiffCost_L2 (a1 : List GElem) (b1 : List GElem) (line7 : List Int) (x11 : Int) : Option (((List Int) × Int) ⊕ (List Int)) :=
  if (decide (x11 < (a1.length : Int))) then (
    bnd1 (chk .i64 (x11 + 1)) fun (x14 : Int) =>
    bnd1 (iter (fun (a : Int × (List Int)) => ref_DiffCost_L3 a1 b1 line7 x11 a.1 a.2) (0, [x14])) fun (next4 : List Int) =>
    some (.inl (next4, x14))
  ) else (
    some (.inr line7)
  )
noncomputable def ref_DiffCost_L1 (line1 : List Int) (x8 : Int) (line3 : List Int) : Option ((Int × (List Int)) ⊕ (List Int)) :=
  if (decide (x8 < (line1.length : Int))) then (
    bnd1 (idx line3 x8) fun (x24 : Int) =>
    bnd1 (chk .i64 (x8 + 1)) fun (x25 : Int) =>
    some (.inl (x25, (line3.set x8.toNat x8)))
  ) else (
    some (.inr line3)
  )
noncomputable def ref_DiffCost_B (self : (List GElem) → (List GElem) → Bool → Option Int) (a1 : List GElem) (b1 : List GElem) (tied1 : Bool) : Option (Int) :=
  if tied1 then (
    bnd1 (chk .i64 ((a1.length : Int) - 1)) fun (x1 : Int) =>
    bnd1 (idx a1 x1) fun (x2 : GElem) =>
    bnd1 (chk .i64 ((b1.length : Int) - 1)) fun (x3 : Int) =>
    bnd1 (idx b1 x3) fun (x4 : GElem) =>
    bnd1 (ref_SameAttrs x2.Attrs x4.Attrs) fun (r1 : Bool) =>
    bnd1 (
      if (!r1) then (
        some 1
      ) else (
        some 0
      )
    ) fun (n1 : Int) =>
    bnd1 (slc a1 0 x1) fun (l1 : List GElem) =>
    bnd1 (slc b1 0 x3) fun (l2 : List GElem) =>
    bnd1 (self l1 l2 false) fun (r2 : Int) =>
    bnd1 (chk .i64 (n1 + r2)) fun (x5 : Int) =>
    some x5
  ) else (
    bnd1 (chk .i64 ((b1.length : Int) + 1)) fun (x6 : Int) =>
    bnd1 (mk 8 x6 0) fun (line1 : List Int) =>
    bnd1 (iter (fun (a : Int × (List Int)) => ref_DiffCost_L1 line1 a.1 a.2) (0, line1)) fun (line5 : List Int) =>
    bnd1 (iter (fun (a : (List Int) × Int) => ref_DiffCost_L2 a1 b1 a.1 a.2) (line5, 0)) fun (line9 : List Int) =>
    bnd1 (idx line9 (b1.length : Int)) fun (x13 : Int) =>
    some x13
  )
noncomputable def ref_DiffCost_N : Nat → (List GElem) → (List GElem) → Bool → Option Int
  | 0, _, _, _ => none
  | n + 1, a1, b1, tied1 => ref_DiffCost_B (fun a1 b1 tied1 => ref_DiffCost_N n a1 b1 tied1) a1 b1 tied1
noncomputable def ref_DiffCost (a1 : List GElem) (b1 : List GElem) (tied1 : Bool) : Option (Int) :=
  @dite _ (∃ n r, ref_DiffCost_N n a1 b1 tied1 = some r) (Classical.propDecidable _) (fun h => ref_DiffCost_N h.choose a1 b1 tied1) (fun _ => none)
noncomputable def ref_DiffAct_L2 (out2 : Ref_Act) (k3 : Int) : Option (Int ⊕ Int) :=
  bnd1 (gd ((decide (0 < k3)) == true) (chk .i64 (k3 - 1))) fun (x10 : Int) =>
  bnd1 (gd ((decide (0 < k3)) == true) (idx out2.Cuts x10)) fun (x11 : Bool) =>
  if ((decide (0 < k3)) && x11) then (
    bnd1 (chk .i64 (k3 - 1)) fun (k6 : Int) =>
    some (.inl k6)
  ) else (
    some (.inr k3)
  )
noncomputable def ref_DiffAct_L1 (tied1 : Bool) (a3 : List GElem) (b3 : List GElem) (out2 : Ref_Act) : Option (((List GElem) × (List GElem) × Ref_Act) ⊕ (Ctl Ref_Act Ref_Act)) :=
  if ((decide (0 < (a3.length : Int))) || (decide (0 < (b3.length : Int)))) then (
    bnd1 (ref_DiffCost a3 b3 tied1) fun (rest1 : Int) =>
    bnd1 (gd (((decide (0 < (a3.length : Int))) && (decide (0 < (b3.length : Int)))) == true) (idx a3 0)) fun (x1 : GElem) =>
    bnd1 (gd (((decide (0 < (a3.length : Int))) && (decide (0 < (b3.length : Int)))) == true) (idx b3 0)) fun (x2 : GElem) =>
    bnd1 (gd ((((decide (0 < (a3.length : Int))) && (decide (0 < (b3.length : Int)))) && (decide (x1.Char = x2.Char))) == true) (idx a3 0)) fun (x3 : GElem) =>
    bnd1 (gd ((((decide (0 < (a3.length : Int))) && (decide (0 < (b3.length : Int)))) && (decide (x1.Char = x2.Char))) == true) (idx b3 0)) fun (x4 : GElem) =>
    bnd1 (
      if ((((((decide (0 < (a3.length : Int))) && (decide (0 < (b3.length : Int)))) && (decide (x1.Char = x2.Char))) && (decide (x3.Ref = x4.Ref))) && (((!tied1) || ((tied1 && (decide ((a3.length : Int) = 1))) && (decide ((b3.length : Int) = 1)))) || ((decide (1 < (a3.length : Int))) && (decide (1 < (b3.length : Int)))))) && (!((tied1 && (decide ((a3.length : Int) = 1))) && (decide ((b3.length : Int) = 1))))) then (
        bnd1 (idx a3 0) fun (x12 : GElem) =>
        bnd1 (idx b3 0) fun (x13 : GElem) =>
        bnd1 (ref_SameAttrs x12.Attrs x13.Attrs) fun (r3 : Bool) =>
        bnd1 (
          if (!r3) then (
            some 1
          ) else (
            some 0
          )
        ) fun (p2 : Int) =>
        bnd1 (slc a3 1 (a3.length : Int)) fun (l10 : List GElem) =>
        bnd1 (slc b3 1 (b3.length : Int)) fun (l11 : List GElem) =>
        bnd1 (ref_DiffCost l10 l11 tied1) fun (r4 : Int) =>
        bnd1 (chk .i64 (p2 + r4)) fun (x14 : Int) =>
        some (decide (rest1 = x14))
      ) else (
        some (((((decide (0 < (a3.length : Int))) && (decide (0 < (b3.length : Int)))) && (decide (x1.Char = x2.Char))) && (decide (x3.Ref = x4.Ref))) && (((!tied1) || ((tied1 && (decide ((a3.length : Int) = 1))) && (decide ((b3.length : Int) = 1)))) || ((decide (1 < (a3.length : Int))) && (decide (1 < (b3.length : Int))))))
      )
    ) fun (keep1 : Bool) =>
    bnd1 (chk .i64 ((out2.Adds.length : Int) - 1)) fun (k1 : Int) =>
    if keep1 then (
      bnd1 (app 24 out2.Adds [[]]) fun (l1 : List (List GElem)) =>
      bnd1 (app 1 out2.Cuts [false]) fun (l2 : List Bool) =>
      bnd1 (idx a3 0) fun (x5 : GElem) =>
      bnd1 (idx b3 0) fun (x6 : GElem) =>
      bnd1 (ref_Between x5.Attrs x6.Attrs) fun (r1 : List GAttr) =>
      bnd1 (app 24 out2.Attrs [r1]) fun (l3 : List (List GAttr)) =>
      bnd1 (slc a3 1 (a3.length : Int)) fun (a5 : List GElem) =>
      bnd1 (slc b3 1 (b3.length : Int)) fun (b5 : List GElem) =>
      if ((tied1 && (decide ((a3.length : Int) = 1))) && (decide ((b3.length : Int) = 1))) then (
        some (.inr (.ext (Ref_Act.mk l1 l2 l3)))
      ) else (
        some (.inl (a5, b5, (Ref_Act.mk l1 l2 l3)))
      )
    ) else (
      bnd1 (gd (((decide (0 < (a3.length : Int))) && ((!tied1) || (decide (1 < (a3.length : Int))))) == true) (slc a3 1 (a3.length : Int))) fun (l4 : List GElem) =>
      bnd1 (gd (((decide (0 < (a3.length : Int))) && ((!tied1) || (decide (1 < (a3.length : Int))))) == true) (ref_DiffCost l4 b3 tied1)) fun (r2 : Int) =>
      bnd1 (gd (((decide (0 < (a3.length : Int))) && ((!tied1) || (decide (1 < (a3.length : Int))))) == true) (chk .i64 (1 + r2))) fun (x7 : Int) =>
      if (((decide (0 < (a3.length : Int))) && ((!tied1) || (decide (1 < (a3.length : Int))))) && (decide (rest1 = x7))) then (
        bnd1 (app 24 out2.Adds [[]]) fun (l5 : List (List GElem)) =>
        bnd1 (app 1 out2.Cuts [true]) fun (l6 : List Bool) =>
        bnd1 (app 24 out2.Attrs [[]]) fun (l7 : List (List GAttr)) =>
        bnd1 (slc a3 1 (a3.length : Int)) fun (a6 : List GElem) =>
        some (.inl (a6, b3, (Ref_Act.mk l5 l6 l7)))
      ) else (
        bnd1 (iter (fun (a : Int) => ref_DiffAct_L2 out2 a) k1) fun (k5 : Int) =>
        bnd1 (idx out2.Adds k5) fun (x8 : List GElem) =>
        bnd1 (app 40 [] x8) fun (l8 : List GElem) =>
        bnd1 (idx b3 0) fun (x9 : GElem) =>
        bnd1 (app 40 l8 [x9]) fun (l9 : List GElem) =>
        bnd1 (slc b3 1 (b3.length : Int)) fun (b6 : List GElem) =>
        some (.inl (a3, b6, (Ref_Act.mk (out2.Adds.set k5.toNat l9) out2.Cuts out2.Attrs)))
      )
    )
  ) else (
    some (.inr (.nrm out2))
  )
noncomputable def ref_DiffAct (a1 : List GElem) (b1 : List GElem) : Option (Ref_Act) :=
  bnd1 (ref_Tied a1 b1) fun (tied1 : Bool) =>
  ctl1 (iter (fun (a : (List GElem) × (List GElem) × Ref_Act) => ref_DiffAct_L1 tied1 a.1 a.2.1 a.2.2) (a1, b1, (Ref_Act.mk [[]] [] []))) fun (out4 : Ref_Act) =>
  some out4
end Go.Proofs.Ytfkolgjapajekaa.Al


namespace Go.Proofs.Ytfkolgjapajekaa.Al
structure GConflict where
  Kind : Int
  Node : Int
  From : Int
  To : Int
  Name : List UInt8
deriving DecidableEq
instance : Inhabited GConflict := ⟨⟨0, 0, 0, 0, []⟩⟩
@[reducible] def GConflict.row (x : GConflict) : List RV := [.int .i64 x.Kind, .int .i64 x.Node, .int .i64 x.From, .int .i64 x.To, .str x.Name]
structure Merge_Joined where
  node : Int
  out : List GElem
  bad : List GConflict
deriving DecidableEq
instance : Inhabited Merge_Joined := ⟨⟨0, [], []⟩⟩
@[reducible] def Merge_Joined.row (x : Merge_Joined) : List RV := [.int .i64 x.node, .sl (x.out.map GElem.row), .sl (x.bad.map GConflict.row)]
structure Merge_Side where
  adds : List (List GElem)
  cut : List Bool
  attrs : List (List GAttr)
deriving DecidableEq
instance : Inhabited Merge_Side := ⟨⟨[], [], []⟩⟩
@[reducible] def Merge_Side.row (x : Merge_Side) : List RV := [.sl (x.adds.map (rSl GElem.row)), .sl (x.cut.map rBool), .sl (x.attrs.map (rSl GAttr.row))]
noncomputable def merge_read_L2 (at2 : Int) (x6 : GStep) (x9 : Int) (s8 : Merge_Side) : Option ((Int × Merge_Side) ⊕ (Ctl Unit (Ctl Merge_Side (Int × Merge_Side)))) :=
  if (decide (x9 < x6.N)) then (
    bnd1 (chk .i64 (at2 + x9)) fun (x11 : Int) =>
    bnd1 (idx s8.cut x11) fun (x12 : Bool) =>
    bnd1 (chk .i64 (x9 + 1)) fun (x13 : Int) =>
    some (.inl (x13, (Merge_Side.mk s8.adds (s8.cut.set x11.toNat true) s8.attrs)))
  ) else (
    some (.inr (.ext (.nrm s8)))
  )
noncomputable def merge_read_L3 (at2 : Int) (x6 : GStep) (x15 : Int) (s11 : Merge_Side) : Option ((Int × Merge_Side) ⊕ (Ctl Unit (Ctl Merge_Side (Int × Merge_Side)))) :=
  if (decide (x15 < x6.N)) then (
    bnd1 (chk .i64 (at2 + x15)) fun (x17 : Int) =>
    bnd1 (idx s11.attrs x17) fun (x18 : List GAttr) =>
    bnd1 (chk .i64 (x15 + 1)) fun (x19 : Int) =>
    some (.inl (x19, (Merge_Side.mk s11.adds s11.cut (s11.attrs.set x17.toNat x6.Attrs))))
  ) else (
    some (.inr (.ext (.nrm s11)))
  )
noncomputable def merge_read_L1 (d1 : List GStep) (at2 : Int) (x3 : Int) (s2 : Merge_Side) : Option ((Int × Int × Merge_Side) ⊕ Merge_Side) :=
  if (decide (x3 < (d1.length : Int))) then (
    bnd2 (
      bnd1 (idx d1 x3) fun (x6 : GStep) =>
      ctl1 (
        if (decide (x6.Kind = 1)) then (
          bnd1 (idx s2.adds at2) fun (x7 : List GElem) =>
          some (.ext (at2, (Merge_Side.mk (s2.adds.set at2.toNat x6.Elems) s2.cut s2.attrs)))
        ) else (
          if (decide (x6.Kind = 2)) then (
            ctl1 (iter (fun (a : Int × Merge_Side) => merge_read_L2 at2 x6 a.1 a.2) (0, s2)) fun (u3 : Unit) =>
            none
          ) else (
            ctl1 (iter (fun (a : Int × Merge_Side) => merge_read_L3 at2 x6 a.1 a.2) (0, s2)) fun (u5 : Unit) =>
            none
          )
        )
      ) fun (s6 : Merge_Side) =>
      bnd1 (chk .i64 (at2 + x6.N)) fun (at5 : Int) =>
      some (at5, s6)
    ) fun (at4 : Int) (s5 : Merge_Side) =>
    bnd1 (chk .i64 (x3 + 1)) fun (x5 : Int) =>
    some (.inl (at4, x5, s5))
  ) else (
    some (.inr s2)
  )
noncomputable def merge_read (n1 : Int) (d1 : List GStep) : Option (Merge_Side) :=
  bnd1 (chk .i64 (n1 + 1)) fun (x1 : Int) =>
  bnd1 (mk 24 x1 []) fun (l1 : List (List GElem)) =>
  bnd1 (mk 1 n1 false) fun (l2 : List Bool) =>
  bnd1 (mk 24 n1 []) fun (l3 : List (List GAttr)) =>
  bnd1 (iter (fun (a : Int × Int × Merge_Side) => merge_read_L1 d1 a.1 a.2.1 a.2.2) (0, 0, (Merge_Side.mk l1 l2 l3))) fun (s4 : Merge_Side) =>
  some s4
noncomputable def flow_Same_L1 (a1 : List GElem) (b1 : List GElem) (x2 : Int) : Option (Int ⊕ (Ctl Unit Bool)) :=
  if (decide (x2 < (a1.length : Int))) then (
    bnd1 (idx a1 x2) fun (x4 : GElem) =>
    bnd1 (idx b1 x2) fun (x5 : GElem) =>
    bnd1 (gd (((!decide (x4.Char = x5.Char)) || (!decide (x4.Ref = x5.Ref))) == false) (attr_Same x4.Attrs x5.Attrs)) fun (r1 : Bool) =>
    if (((!decide (x4.Char = x5.Char)) || (!decide (x4.Ref = x5.Ref))) || (!r1)) then (
      some (.inr (.ext false))
    ) else (
      bnd1 (chk .i64 (x2 + 1)) fun (x6 : Int) =>
      some (.inl x6)
    )
  ) else (
    some (.inr (.nrm ()))
  )
noncomputable def flow_Same (a1 : List GElem) (b1 : List GElem) : Option (Bool) :=
  if (!decide ((a1.length : Int) = (b1.length : Int))) then (
    some false
  ) else (
    ctl1 (iter (fun (a : Int) => flow_Same_L1 a1 b1 a) 0) fun (u2 : Unit) =>
    some true
  )
noncomputable def merge_joined_gap (w1 : Merge_Joined) (a1 : List GElem) (b1 : List GElem) : Option (Merge_Joined) :=
  bnd1 (app 40 w1.out a1) fun (l1 : List GElem) =>
  bnd1 (gd ((decide ((b1.length : Int) = 0)) == false) (flow_Same a1 b1)) fun (r1 : Bool) =>
  if ((decide ((b1.length : Int) = 0)) || r1) then (
    some (Merge_Joined.mk w1.node l1 w1.bad)
  ) else (
    bnd1 (app 40 l1 b1) fun (l2 : List GElem) =>
    if (decide (0 < (a1.length : Int))) then (
      bnd1 (app 48 w1.bad [(GConflict.mk 0 w1.node (w1.out.length : Int) (l2.length : Int) [])]) fun (l3 : List GConflict) =>
      some (Merge_Joined.mk w1.node l2 l3)
    ) else (
      some (Merge_Joined.mk w1.node l2 w1.bad)
    )
  )
noncomputable def merge_joined_elem_f1 (w1 : GAttr) (d1 : GAttr) : Option (Bool) :=
  some (decide (d1.Name = w1.Name))
noncomputable def slices_IndexFunc_api_Attr_api_Attr__joined_elem_f1_L1 (w1 : GAttr) (s1 : List GAttr) (x2 : Int) : Option (Int ⊕ (Ctl Unit Int)) :=
  if (decide (x2 < (s1.length : Int))) then (
    bnd1 (idx s1 x2) fun (x4 : GAttr) =>
    bnd1 (merge_joined_elem_f1 w1 x4) fun (r1 : Bool) =>
    if r1 then (
      some (.inr (.ext x2))
    ) else (
      bnd1 (chk .i64 (x2 + 1)) fun (x5 : Int) =>
      some (.inl x5)
    )
  ) else (
    some (.inr (.nrm ()))
  )
noncomputable def slices_IndexFunc_api_Attr_api_Attr__joined_elem_f1 (w1 : GAttr) (s1 : List GAttr) : Option (Int) :=
  ctl1 (iter (fun (a : Int) => slices_IndexFunc_api_Attr_api_Attr__joined_elem_f1_L1 w1 s1 a) 0) fun (u2 : Unit) =>
  some (-1)
noncomputable def merge_joined_elem_L1 (w1 : Merge_Joined) (a1 : List GAttr) (b1 : List GAttr) (x3 : Int) (j3 : Merge_Joined) : Option ((Int × Merge_Joined) ⊕ Merge_Joined) :=
  if (decide (x3 < (a1.length : Int))) then (
    bnd1 (
      bnd1 (idx a1 x3) fun (x6 : GAttr) =>
      bnd1 (slices_IndexFunc_api_Attr_api_Attr__joined_elem_f1 x6 b1) fun (i8 : Int) =>
      bnd1 (gd ((decide (0 ≤ i8)) == true) (idx b1 i8)) fun (x7 : GAttr) =>
      if ((decide (0 ≤ i8)) && (!decide (x7.Value = x6.Value))) then (
        bnd1 (chk .i64 ((w1.out.length : Int) + 1)) fun (x8 : Int) =>
        bnd1 (app 48 j3.bad [(GConflict.mk 2 j3.node (w1.out.length : Int) x8 x6.Name)]) fun (l3 : List GConflict) =>
        some (Merge_Joined.mk j3.node j3.out l3)
      ) else (
        some j3
      )
    ) fun (j6 : Merge_Joined) =>
    bnd1 (chk .i64 (x3 + 1)) fun (x5 : Int) =>
    some (.inl (x5, j6))
  ) else (
    some (.inr j3)
  )
noncomputable def merge_joined_elem (w1 : Merge_Joined) (x1 : GElem) (a1 : List GAttr) (b1 : List GAttr) (cutA1 : Bool) (cutB1 : Bool) : Option (Merge_Joined) :=
  if (cutA1 || cutB1) then (
    bnd1 (
      if (((!cutA1) && (decide (0 < (a1.length : Int)))) || ((!cutB1) && (decide (0 < (b1.length : Int))))) then (
        bnd1 (app 48 w1.bad [(GConflict.mk 1 w1.node (w1.out.length : Int) (w1.out.length : Int) [])]) fun (l1 : List GConflict) =>
        some (Merge_Joined.mk w1.node w1.out l1)
      ) else (
        some w1
      )
    ) fun (j1 : Merge_Joined) =>
    some j1
  ) else (
    bnd1 (iter (fun (a : Int × Merge_Joined) => merge_joined_elem_L1 w1 a1 b1 a.1 a.2) (0, w1)) fun (j5 : Merge_Joined) =>
    bnd1 (attr_Raw x1.Attrs b1) fun (r1 : List GAttr) =>
    bnd1 (attr_Raw r1 a1) fun (r2 : List GAttr) =>
    bnd1 (app 40 j5.out [(GElem.mk x1.Char x1.Ref r2)]) fun (l2 : List GElem) =>
    some (Merge_Joined.mk j5.node l2 j5.bad)
  )
noncomputable def merge_flows_L1 (o1 : List GElem) (r2 : Merge_Side) (r4 : Merge_Side) (x2 : Int) (j2 : Merge_Joined) : Option ((Int × Merge_Joined) ⊕ Merge_Joined) :=
  if (decide (x2 < (o1.length : Int))) then (
    bnd1 (idx o1 x2) fun (x6 : GElem) =>
    bnd1 (idx r2.adds x2) fun (x7 : List GElem) =>
    bnd1 (idx r4.adds x2) fun (x8 : List GElem) =>
    bnd1 (merge_joined_gap j2 x7 x8) fun (w2 : Merge_Joined) =>
    bnd1 (idx r2.attrs x2) fun (x9 : List GAttr) =>
    bnd1 (idx r4.attrs x2) fun (x10 : List GAttr) =>
    bnd1 (idx r2.cut x2) fun (x11 : Bool) =>
    bnd1 (idx r4.cut x2) fun (x12 : Bool) =>
    bnd1 (merge_joined_elem w2 x6 x9 x10 x11 x12) fun (w3 : Merge_Joined) =>
    bnd1 (chk .i64 (x2 + 1)) fun (x13 : Int) =>
    some (.inl (x13, w3))
  ) else (
    some (.inr j2)
  )
noncomputable def merge_flows (node1 : Int) (o1 : List GElem) (a1 : List GElem) (b1 : List GElem) : Option ((List GElem) × (List GConflict)) :=
  bnd1 (diff_Raw o1 a1) fun (r1 : List GStep) =>
  bnd1 (merge_read (o1.length : Int) r1) fun (r2 : Merge_Side) =>
  bnd1 (diff_Raw o1 b1) fun (r3 : List GStep) =>
  bnd1 (merge_read (o1.length : Int) r3) fun (r4 : Merge_Side) =>
  bnd1 (iter (fun (a : Int × Merge_Joined) => merge_flows_L1 o1 r2 r4 a.1 a.2) (0, (Merge_Joined.mk node1 [] []))) fun (j4 : Merge_Joined) =>
  bnd1 (idx r2.adds (o1.length : Int)) fun (x4 : List GElem) =>
  bnd1 (idx r4.adds (o1.length : Int)) fun (x5 : List GElem) =>
  bnd1 (merge_joined_gap j4 x4 x5) fun (w1 : Merge_Joined) =>
  bnd1 (flow_Copy w1.out) fun (r5 : List GElem) =>
  some (r5, w1.bad)
noncomputable def merge_Flows_L2 (o1 : List GElem) (a1 : List GElem) (b1 : List GElem) (x5 : Int) : Option (Int ⊕ (Ctl Unit ((List GElem) × (List GConflict) × Int))) :=
  if (decide (x5 < 3)) then (
    bnd1 (idx ([o1, a1, b1] : List (List GElem)) x5) fun (f1 : List GElem) =>
    if (decide (2000 < (f1.length : Int))) then (
      some (.inr (.ext ([], [], 3)))
    ) else (
      bnd1 (chk .i64 (x5 + 1)) fun (x7 : Int) =>
      some (.inl x7)
    )
  ) else (
    some (.inr (.nrm ()))
  )
noncomputable def merge_Flows_L1 (o1 : List GElem) (a1 : List GElem) (b1 : List GElem) (x2 : Int) : Option (Int ⊕ (Ctl Unit ((List GElem) × (List GConflict) × Int))) :=
  if (decide (x2 < 3)) then (
    bnd1 (idx ([o1, a1, b1] : List (List GElem)) x2) fun (f2 : List GElem) =>
    bnd1 (flow_CheckPart f2) fun (e1 : Int) =>
    if (!decide (e1 = 0)) then (
      some (.inr (.ext ([], [], e1)))
    ) else (
      bnd1 (chk .i64 (x2 + 1)) fun (x8 : Int) =>
      some (.inl x8)
    )
  ) else (
    some (.inr (.nrm ()))
  )
noncomputable def merge_Flows (o1 : List GElem) (a1 : List GElem) (b1 : List GElem) : Option ((List GElem) × (List GConflict) × Int) :=
  ctl1 (iter (fun (a : Int) => merge_Flows_L1 o1 a1 b1 a) 0) fun (u2 : Unit) =>
  ctl1 (iter (fun (a : Int) => merge_Flows_L2 o1 a1 b1 a) 0) fun (u4 : Unit) =>
  bnd2 (merge_flows 0 o1 a1 b1) fun (r1 : List GElem) (r2 : List GConflict) =>
  some (r1, r2, 0)
noncomputable def law_merges : Option (Bool) :=
  bnd1 (law_letters [97, 98]) fun (r1 : List GElem) =>
  bnd1 (law_letters [97, 120, 98]) fun (r2 : List GElem) =>
  bnd1 (law_letters [97, 121, 98]) fun (r3 : List GElem) =>
  bnd3 (merge_Flows r1 r2 r3) fun (r4 : List GElem) (r5 : List GConflict) (r6 : Int) =>
  bnd1 (
    if ((decide (r6 = 0)) == true) then (
      bnd1 (law_letters [97, 120, 121, 98]) fun (r7 : List GElem) =>
      bnd1 (ref_SameFlow r4 r7) fun (r8 : Bool) =>
      bnd1 (gd ((((decide (r6 = 0)) && r8) && (decide ((r5.length : Int) = 1))) == true) (idx r5 0)) fun (x2 : GConflict) =>
      some ((((decide (r6 = 0)) && r8) && (decide ((r5.length : Int) = 1))) && (decide (x2.Kind = 0) && (decide (x2.Node = 0) && (decide (x2.From = 1) && (decide (x2.To = 3) && (decide (x2.Name = []) && true))))))
    ) else (
      bnd1 (gd ((((decide (r6 = 0)) && false) && (decide ((r5.length : Int) = 1))) == true) (idx r5 0)) fun (x3 : GConflict) =>
      some ((((decide (r6 = 0)) && false) && (decide ((r5.length : Int) = 1))) && (decide (x3.Kind = 0) && (decide (x3.Node = 0) && (decide (x3.From = 1) && (decide (x3.To = 3) && (decide (x3.Name = []) && true))))))
    )
  ) fun (x1 : Bool) =>
  some x1
noncomputable def ref_Merged_L2 (r2 : Ref_Act) (i4 : Int) (out7 : List GElem) (x8 : List GAttr) (x10 : Int) (bad10 : List GConflict) : Option ((Int × (List GConflict)) ⊕ (List GConflict)) :=
  if (decide (x10 < (x8.length : Int))) then (
    bnd1 (
      bnd1 (idx x8 x10) fun (x15 : GAttr) =>
      bnd1 (idx r2.Attrs i4) fun (x16 : List GAttr) =>
      bnd1 (ref_Has x16 x15.Name) fun (r6 : Bool) =>
      bnd1 (gd (r6 == true) (ref_Get x16 x15.Name)) fun (r7 : List UInt8) =>
      if (r6 && (!decide (r7 = x15.Value))) then (
        bnd1 (chk .i64 ((out7.length : Int) + 1)) fun (x17 : Int) =>
        bnd1 (app 48 bad10 [(GConflict.mk 2 0 (out7.length : Int) x17 x15.Name)]) fun (bad14 : List GConflict) =>
        some bad14
      ) else (
        some bad10
      )
    ) fun (bad13 : List GConflict) =>
    bnd1 (chk .i64 (x10 + 1)) fun (x14 : Int) =>
    some (.inl (x14, bad13))
  ) else (
    some (.inr bad10)
  )
noncomputable def ref_Merged_L1 (o1 : List GElem) (r1 : Ref_Act) (r2 : Ref_Act) (i4 : Int) (out2 : List GElem) (bad2 : List GConflict) : Option ((Int × (List GElem) × (List GConflict)) ⊕ ((List GElem) × (List GConflict))) :=
  if (decide (i4 ≤ (o1.length : Int))) then (
    ctl2 (
      bnd1 (idx r1.Adds i4) fun (x1 : List GElem) =>
      bnd1 (idx r2.Adds i4) fun (x2 : List GElem) =>
      bnd1 (app 40 out2 x1) fun (out6 : List GElem) =>
      bnd1 (ref_SameFlow x1 x2) fun (r3 : Bool) =>
      bnd2 (
        if (!r3) then (
          bnd1 (app 40 out6 x2) fun (out9 : List GElem) =>
          if ((decide (0 < (x1.length : Int))) && (decide (0 < (x2.length : Int)))) then (
            bnd1 (app 48 bad2 [(GConflict.mk 0 0 (out2.length : Int) (out9.length : Int) [])]) fun (bad15 : List GConflict) =>
            some (out9, bad15)
          ) else (
            some (out9, bad2)
          )
        ) else (
          some (out6, bad2)
        )
      ) fun (out7 : List GElem) (bad6 : List GConflict) =>
      if (decide (i4 = (o1.length : Int))) then (
        some (.ext (.inr (out7, bad6)))
      ) else (
        bnd1 (idx r1.Cuts i4) fun (x3 : Bool) =>
        bnd1 (gd (x3 == false) (idx r2.Cuts i4)) fun (x4 : Bool) =>
        if (x3 || x4) then (
          bnd1 (gd ((!x3) == true) (idx r1.Attrs i4)) fun (x5 : List GAttr) =>
          bnd1 (gd (((!x3) && (decide (0 < (x5.length : Int)))) == false) (idx r2.Cuts i4)) fun (x6 : Bool) =>
          bnd1 (gd ((((!x3) && (decide (0 < (x5.length : Int)))) == false) && ((!x6) == true)) (idx r2.Attrs i4)) fun (x7 : List GAttr) =>
          bnd1 (
            if (((!x3) && (decide (0 < (x5.length : Int)))) || ((!x6) && (decide (0 < (x7.length : Int))))) then (
              bnd1 (app 48 bad6 [(GConflict.mk 1 0 (out7.length : Int) (out7.length : Int) [])]) fun (bad8 : List GConflict) =>
              some bad8
            ) else (
              some bad6
            )
          ) fun (bad7 : List GConflict) =>
          some (.nrm (out7, bad7))
        ) else (
          bnd1 (idx r1.Attrs i4) fun (x8 : List GAttr) =>
          bnd1 (iter (fun (a : Int × (List GConflict)) => ref_Merged_L2 r2 i4 out7 x8 a.1 a.2) (0, bad6)) fun (bad12 : List GConflict) =>
          bnd1 (idx o1 i4) fun (x12 : GElem) =>
          bnd1 (idx r2.Attrs i4) fun (x13 : List GAttr) =>
          bnd1 (ref_Changed x12.Attrs x13) fun (r4 : List GAttr) =>
          bnd1 (ref_Changed r4 x8) fun (r5 : List GAttr) =>
          bnd1 (app 40 out7 [(GElem.mk x12.Char x12.Ref r5)]) fun (out8 : List GElem) =>
          some (.nrm (out8, bad12))
        )
      )
    ) fun (out5 : List GElem) (bad5 : List GConflict) =>
    bnd1 (chk .i64 (i4 + 1)) fun (i10 : Int) =>
    some (.inl (i10, out5, bad5))
  ) else (
    some (.inr (out2, bad2))
  )
noncomputable def ref_Merged (o1 : List GElem) (a1 : List GElem) (b1 : List GElem) : Option ((List GElem) × (List GConflict)) :=
  bnd1 (ref_DiffAct o1 a1) fun (r1 : Ref_Act) =>
  bnd1 (ref_DiffAct o1 b1) fun (r2 : Ref_Act) =>
  bnd2 (iter (fun (a : Int × (List GElem) × (List GConflict)) => ref_Merged_L1 o1 r1 r2 a.1 a.2.1 a.2.2) (0, [], [])) fun (out4 : List GElem) (bad4 : List GConflict) =>
  some (out4, bad4)
noncomputable def ref_SameConflicts_L1 (a1 : List GConflict) (b1 : List GConflict) (node1 : Int) (x2 : Int) : Option (Int ⊕ (Ctl Unit Bool)) :=
  if (decide (x2 < (a1.length : Int))) then (
    bnd1 (idx b1 x2) fun (x4 : GConflict) =>
    bnd1 (idx a1 x2) fun (x5 : GConflict) =>
    if (!(decide (x5.Kind = x4.Kind) && (decide (x5.Node = node1) && (decide (x5.From = x4.From) && (decide (x5.To = x4.To) && (decide (x5.Name = x4.Name) && true)))))) then (
      some (.inr (.ext false))
    ) else (
      bnd1 (chk .i64 (x2 + 1)) fun (x6 : Int) =>
      some (.inl x6)
    )
  ) else (
    some (.inr (.nrm ()))
  )
noncomputable def ref_SameConflicts (a1 : List GConflict) (b1 : List GConflict) (node1 : Int) : Option (Bool) :=
  if (!decide ((a1.length : Int) = (b1.length : Int))) then (
    some false
  ) else (
    ctl1 (iter (fun (a : Int) => ref_SameConflicts_L1 a1 b1 node1 a) 0) fun (u2 : Unit) =>
    some true
  )
noncomputable def law_MergeFlowsMatch_L1 (o2 : List GElem) (a2 : List GElem) (b2 : List GElem) (r2 : List GElem) (r3 : List GConflict) (r4 : Int) (x2 : Int) : Option (Int ⊕ (Ctl Unit Bool)) :=
  if (decide (x2 < 3)) then (
    bnd1 (idx ([o2, a2, b2] : List (List GElem)) x2) fun (x4 : List GElem) =>
    bnd1 (ref_PartError x4) fun (g1 : Int) =>
    if (!decide (g1 = 0)) then (
      bnd1 (gd ((decide (r4 = g1)) == true) (chk .i64 ((r2.length : Int) + (r3.length : Int)))) fun (x5 : Int) =>
      some (.inr (.ext ((decide (r4 = g1)) && (decide (x5 = 0)))))
    ) else (
      bnd1 (chk .i64 (x2 + 1)) fun (x6 : Int) =>
      some (.inl x6)
    )
  ) else (
    some (.inr (.nrm ()))
  )
noncomputable def law_MergeFlowsMatch (o1 : List GElem) (a1 : List GElem) (b1 : List GElem) : Option (Bool) :=
  bnd1 (law_merges) fun (r1 : Bool) =>
  if (!r1) then (
    some false
  ) else (
    bnd1 (
      if (decide (8 < (o1.length : Int))) then (
        bnd1 (slc o1 0 8) fun (o4 : List GElem) =>
        some o4
      ) else (
        some o1
      )
    ) fun (o2 : List GElem) =>
    bnd1 (
      if (decide (8 < (a1.length : Int))) then (
        bnd1 (slc a1 0 8) fun (a3 : List GElem) =>
        some a3
      ) else (
        some a1
      )
    ) fun (a2 : List GElem) =>
    bnd1 (
      if (decide (8 < (b1.length : Int))) then (
        bnd1 (slc b1 0 8) fun (b3 : List GElem) =>
        some b3
      ) else (
        some b1
      )
    ) fun (b2 : List GElem) =>
    bnd3 (merge_Flows o2 a2 b2) fun (r2 : List GElem) (r3 : List GConflict) (r4 : Int) =>
    ctl1 (iter (fun (a : Int) => law_MergeFlowsMatch_L1 o2 a2 b2 r2 r3 r4 a) 0) fun (u2 : Unit) =>
    bnd2 (ref_Merged o2 a2 b2) fun (r5 : List GElem) (r6 : List GConflict) =>
    bnd1 (gd ((decide (r4 = 0)) == true) (ref_SameFlow r2 r5)) fun (r7 : Bool) =>
    bnd1 (gd (((decide (r4 = 0)) && r7) == true) (ref_SameConflicts r3 r6 0)) fun (r8 : Bool) =>
    some (((decide (r4 = 0)) && r7) && r8)
  )
end Go.Proofs.Ytfkolgjapajekaa.Al

