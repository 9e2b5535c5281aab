/- Models, as printed. -/
import Derived.Test.YtdeglnbioiicaaaDoorAl2
namespace Go.Proofs.YtdeglnbioiicaaaDoor.Al
structure GAxisStep where
  Kind : Int
  N : Int
deriving DecidableEq
instance : Inhabited GAxisStep := ⟨⟨0, 0⟩⟩
@[reducible] def GAxisStep.row (x : GAxisStep) : List RV := [.int .i64 x.Kind, .int .i64 x.N]
structure Axis_Reader where
  steps : List GAxisStep
  used : Int
deriving DecidableEq
instance : Inhabited Axis_Reader := ⟨⟨[], 0⟩⟩
@[reducible] def Axis_Reader.row (x : Axis_Reader) : List RV := [.sl (x.steps.map GAxisStep.row), .int .i64 x.used]
structure Axis_Writer where
  out : List GAxisStep
  add : Int
  cut : Int
deriving DecidableEq
instance : Inhabited Axis_Writer := ⟨⟨[], 0, 0⟩⟩
@[reducible] def Axis_Writer.row (x : Axis_Writer) : List RV := [.sl (x.out.map GAxisStep.row), .int .i64 x.add, .int .i64 x.cut]
structure GAttr where
  Name : List UInt8
  Value : List UInt8
deriving DecidableEq
instance : Inhabited GAttr := ⟨⟨[], []⟩⟩
@[reducible] def GAttr.row (x : GAttr) : List RV := [.str x.Name, .str x.Value]
structure GElem where
  Char : Int
  Ref : Int
  Attrs : List GAttr
deriving DecidableEq
instance : Inhabited GElem := ⟨⟨0, 0, []⟩⟩
@[reducible] def GElem.row (x : GElem) : List RV := [.int .i64 x.Char, .int .i64 x.Ref, .sl (x.Attrs.map GAttr.row)]
structure GCell where
  Row : Int
  Col : Int
  Text : List UInt8
  Ref : Int
  Attrs : List GAttr
deriving DecidableEq
instance : Inhabited GCell := ⟨⟨0, 0, [], 0, []⟩⟩
@[reducible] def GCell.row (x : GCell) : List RV := [.int .i64 x.Row, .int .i64 x.Col, .str x.Text, .int .i64 x.Ref, .sl (x.Attrs.map GAttr.row)]
structure GRect where
  Row : Int
  Col : Int
  H : Int
  W : Int
deriving DecidableEq
instance : Inhabited GRect := ⟨⟨0, 0, 0, 0⟩⟩
@[reducible] def GRect.row (x : GRect) : List RV := [.int .i64 x.Row, .int .i64 x.Col, .int .i64 x.H, .int .i64 x.W]
structure GGrid where
  Rows : Int
  Cols : Int
  Cells : List GCell
  Merges : List GRect
deriving DecidableEq
instance : Inhabited GGrid := ⟨⟨0, 0, [], []⟩⟩
@[reducible] def GGrid.row (x : GGrid) : List RV := [.int .i64 x.Rows, .int .i64 x.Cols, .sl (x.Cells.map GCell.row), .sl (x.Merges.map GRect.row)]
structure GDrawOp where
  Clock : Int
  Site : Int
  Kind : Int
  Item : Int
  Parent : Int
  Place : List UInt8
  Name : List UInt8
  Value : List UInt8
deriving DecidableEq
instance : Inhabited GDrawOp := ⟨⟨0, 0, 0, 0, 0, [], [], []⟩⟩
@[reducible] def GDrawOp.row (x : GDrawOp) : List RV := [.int .i64 x.Clock, .int .i64 x.Site, .int .i64 x.Kind, .int .i64 x.Item, .int .i64 x.Parent, .str x.Place, .str x.Name, .str x.Value]
structure GNode where
  ID : Int
  Kind : Int
  Attrs : List GAttr
  Flow : List GElem
  Grid : GGrid
  Draw : List GDrawOp
deriving DecidableEq
instance : Inhabited GNode := ⟨⟨0, 0, [], [], (GGrid.mk 0 0 [] []), []⟩⟩
@[reducible] def GNode.row (x : GNode) : List RV := [.int .i64 x.ID, .int .i64 x.Kind, .sl (x.Attrs.map GAttr.row), .sl (x.Flow.map GElem.row), .int .i64 x.Grid.Rows, .int .i64 x.Grid.Cols, .sl (x.Grid.Cells.map GCell.row), .sl (x.Grid.Merges.map GRect.row), .sl (x.Draw.map GDrawOp.row)]
structure GStep where
  Kind : Int
  N : Int
  Attrs : List GAttr
  Elems : List GElem
deriving DecidableEq
instance : Inhabited GStep := ⟨⟨0, 0, [], []⟩⟩
@[reducible] def GStep.row (x : GStep) : List RV := [.int .i64 x.Kind, .int .i64 x.N, .sl (x.Attrs.map GAttr.row), .sl (x.Elems.map GElem.row)]
structure GGridEdit where
  Rows : List GAxisStep
  Cols : List GAxisStep
  Cells : List GCell
  Split : List GRect
  Merge : List GRect
deriving DecidableEq
instance : Inhabited GGridEdit := ⟨⟨[], [], [], [], []⟩⟩
@[reducible] def GGridEdit.row (x : GGridEdit) : List RV := [.sl (x.Rows.map GAxisStep.row), .sl (x.Cols.map GAxisStep.row), .sl (x.Cells.map GCell.row), .sl (x.Split.map GRect.row), .sl (x.Merge.map GRect.row)]
structure GOp where
  Kind : Int
  Node : Int
  New : GNode
  Attrs : List GAttr
  Steps : List GStep
  Grid : GGridEdit
  Draw : List GDrawOp
deriving DecidableEq
instance : Inhabited GOp := ⟨⟨0, 0, (GNode.mk 0 0 [] [] (GGrid.mk 0 0 [] []) []), [], [], (GGridEdit.mk [] [] [] [] []), []⟩⟩
@[reducible] def GOp.row (x : GOp) : List RV := [.int .i64 x.Kind, .int .i64 x.Node, .int .i64 x.New.ID, .int .i64 x.New.Kind, .sl (x.New.Attrs.map GAttr.row), .sl (x.New.Flow.map GElem.row), .int .i64 x.New.Grid.Rows, .int .i64 x.New.Grid.Cols, .sl (x.New.Grid.Cells.map GCell.row), .sl (x.New.Grid.Merges.map GRect.row), .sl (x.New.Draw.map GDrawOp.row), .sl (x.Attrs.map GAttr.row), .sl (x.Steps.map GStep.row), .sl (x.Grid.Rows.map GAxisStep.row), .sl (x.Grid.Cols.map GAxisStep.row), .sl (x.Grid.Cells.map GCell.row), .sl (x.Grid.Split.map GRect.row), .sl (x.Grid.Merge.map GRect.row), .sl (x.Draw.map GDrawOp.row)]
structure GEntry where
  Site : Int
  Number : Int
  Change : List GOp
  Undoes : Int
  Refused : Int
deriving DecidableEq
instance : Inhabited GEntry := ⟨⟨0, 0, [], 0, 0⟩⟩
@[reducible] def GEntry.row (x : GEntry) : List RV := [.int .i64 x.Site, .int .i64 x.Number, .sl (x.Change.map GOp.row), .int .i64 x.Undoes, .int .i64 x.Refused]
structure GSpan where
  From : Int
  To : Int
deriving DecidableEq
instance : Inhabited GSpan := ⟨⟨0, 0⟩⟩
@[reducible] def GSpan.row (x : GSpan) : List RV := [.int .i64 x.From, .int .i64 x.To]
noncomputable def ref_In (x1 : Int) (low1 : Int) (high1 : Int) : Option (Bool) :=
  some ((decide (low1 ≤ x1)) && (decide (x1 ≤ high1)))
noncomputable def ref_SameInts_L1 (a1 : List Int) (b1 : List Int) (x2 : Int) : Option (Int ⊕ (Ctl Unit Bool)) :=
  if (decide (x2 < (a1.length : Int))) then (
    bnd1 (idx a1 x2) fun (x4 : Int) =>
    bnd1 (idx b1 x2) fun (x5 : Int) =>
    if (!decide (x4 = x5)) then (
      some (.inr (.ext false))
    ) else (
      bnd1 (chk .i64 (x2 + 1)) fun (x6 : Int) =>
      some (.inl x6)
    )
  ) else (
    some (.inr (.nrm ()))
  )
noncomputable def ref_SameInts (a1 : List Int) (b1 : List Int) : Option (Bool) :=
  if (!decide ((a1.length : Int) = (b1.length : Int))) then (
    some false
  ) else (
    ctl1 (iter (fun (a : Int) => ref_SameInts_L1 a1 b1 a) 0) fun (u2 : Unit) =>
    some true
  )
noncomputable def attr_Name_L1 (s1 : List UInt8) (x2 : Int) : Option (Int ⊕ (Ctl Unit Bool)) :=
  if (decide (x2 < (s1.length : Int))) then (
    bnd1 (idx s1 x2) fun (c1 : UInt8) =>
    if (((((decide ((c1.toNat : Int) < 97)) || (decide (122 < (c1.toNat : Int)))) && ((decide ((c1.toNat : Int) < 48)) || (decide (57 < (c1.toNat : Int))))) && (!decide ((c1.toNat : Int) = 46))) && (!decide ((c1.toNat : Int) = 45))) then (
      some (.inr (.ext false))
    ) else (
      bnd1 (chk .i64 (x2 + 1)) fun (x4 : Int) =>
      some (.inl x4)
    )
  ) else (
    some (.inr (.nrm ()))
  )
noncomputable def attr_Name (s1 : List UInt8) : Option (Bool) :=
  bnd1 (gd (((decide (s1 = [])) || (decide (24 < (s1.length : Int)))) == false) (idx s1 0)) fun (ch1 : UInt8) =>
  bnd1 (gd ((((decide (s1 = [])) || (decide (24 < (s1.length : Int)))) || (decide ((ch1.toNat : Int) < 97))) == false) (idx s1 0)) fun (ch2 : UInt8) =>
  if ((((decide (s1 = [])) || (decide (24 < (s1.length : Int)))) || (decide ((ch1.toNat : Int) < 97))) || (decide (122 < (ch2.toNat : Int)))) then (
    some false
  ) else (
    ctl1 (iter (fun (a : Int) => attr_Name_L1 s1 a) 0) fun (u2 : Unit) =>
    some true
  )
noncomputable def attr_Value_L1 (s1 : List UInt8) (x2 : Int) : Option (Int ⊕ (Ctl Unit Bool)) :=
  if (decide (x2 < (s1.length : Int))) then (
    bnd1 (idx s1 x2) fun (ch1 : UInt8) =>
    if ((decide ((ch1.toNat : Int) < 32)) || (decide (126 < (ch1.toNat : Int)))) then (
      some (.inr (.ext false))
    ) else (
      bnd1 (chk .i64 (x2 + 1)) fun (x4 : Int) =>
      some (.inl x4)
    )
  ) else (
    some (.inr (.nrm ()))
  )
noncomputable def attr_Value (s1 : List UInt8) : Option (Bool) :=
  if ((decide (s1 = [])) || (decide (200 < (s1.length : Int)))) then (
    some false
  ) else (
    ctl1 (iter (fun (a : Int) => attr_Value_L1 s1 a) 0) fun (u2 : Unit) =>
    some true
  )
noncomputable def attr_check_L1 (l1 : List GAttr) (empty1 : Bool) (x2 : Int) : Option (Int ⊕ (Ctl Unit Int)) :=
  if (decide (x2 < (l1.length : Int))) then (
    bnd1 (idx l1 x2) fun (x4 : GAttr) =>
    bnd1 (attr_Name x4.Name) fun (r1 : Bool) =>
    if (!r1) then (
      some (.inr (.ext 9))
    ) else (
      bnd1 (attr_Value x4.Value) fun (r2 : Bool) =>
      if ((!r2) && (!(empty1 && (decide (x4.Value = []))))) then (
        some (.inr (.ext 23))
      ) else (
        bnd1 (gd ((decide (0 < x2)) == true) (chk .i64 (x2 - 1))) fun (x5 : Int) =>
        bnd1 (gd ((decide (0 < x2)) == true) (idx l1 x5)) fun (x6 : GAttr) =>
        if ((decide (0 < x2)) && (sLt x4.Name x6.Name || decide (x4.Name = x6.Name))) then (
          some (.inr (.ext 5))
        ) else (
          bnd1 (chk .i64 (x2 + 1)) fun (x7 : Int) =>
          some (.inl x7)
        )
      )
    )
  ) else (
    some (.inr (.nrm ()))
  )
noncomputable def attr_check (l1 : List GAttr) (empty1 : Bool) : Option (Int) :=
  ctl1 (iter (fun (a : Int) => attr_check_L1 l1 empty1 a) 0) fun (u2 : Unit) =>
  some 0
noncomputable def attr_Check (l1 : List GAttr) : Option (Int) :=
  bnd1 (attr_check l1 false) fun (r1 : Int) =>
  some r1
noncomputable def ref_SameAttrs_L1 (a1 : List GAttr) (b1 : List GAttr) (x2 : Int) : Option (Int ⊕ (Ctl Unit Bool)) :=
  if (decide (x2 < (a1.length : Int))) then (
    bnd1 (idx a1 x2) fun (x4 : GAttr) =>
    bnd1 (idx b1 x2) fun (x5 : GAttr) =>
    if (!(decide (x4.Name = x5.Name) && (decide (x4.Value = x5.Value) && true))) then (
      some (.inr (.ext false))
    ) else (
      bnd1 (chk .i64 (x2 + 1)) fun (x6 : Int) =>
      some (.inl x6)
    )
  ) else (
    some (.inr (.nrm ()))
  )
noncomputable def ref_SameAttrs (a1 : List GAttr) (b1 : List GAttr) : Option (Bool) :=
  if (!decide ((a1.length : Int) = (b1.length : Int))) then (
    some false
  ) else (
    ctl1 (iter (fun (a : Int) => ref_SameAttrs_L1 a1 b1 a) 0) fun (u2 : Unit) =>
    some true
  )
noncomputable def ref_Name_L1 (s1 : List UInt8) (x2 : Int) : Option (Int ⊕ (Ctl Unit Bool)) :=
  if (decide (x2 < (s1.length : Int))) then (
    bnd1 (idx s1 x2) fun (ch1 : UInt8) =>
    if ((!((decide (97 ≤ (ch1.toNat : Int))) && (decide ((ch1.toNat : Int) ≤ 122)))) && ((decide (x2 = 0)) || (((!decide ((ch1.toNat : Int) = 46)) && (!decide ((ch1.toNat : Int) = 45))) && ((decide ((ch1.toNat : Int) < 48)) || (decide (57 < (ch1.toNat : Int))))))) then (
      some (.inr (.ext false))
    ) else (
      bnd1 (chk .i64 (x2 + 1)) fun (x4 : Int) =>
      some (.inl x4)
    )
  ) else (
    some (.inr (.nrm ()))
  )
noncomputable def ref_Name (s1 : List UInt8) : Option (Bool) :=
  ctl1 (iter (fun (a : Int) => ref_Name_L1 s1 a) 0) fun (u2 : Unit) =>
  some ((decide (1 ≤ (s1.length : Int))) && (decide ((s1.length : Int) ≤ 24)))
noncomputable def ref_Value_L1 (s1 : List UInt8) (x2 : Int) : Option (Int ⊕ (Ctl Unit Bool)) :=
  if (decide (x2 < (s1.length : Int))) then (
    bnd1 (idx s1 x2) fun (ch1 : UInt8) =>
    if ((decide ((ch1.toNat : Int) < 32)) || (decide (126 < (ch1.toNat : Int)))) then (
      some (.inr (.ext false))
    ) else (
      bnd1 (chk .i64 (x2 + 1)) fun (x4 : Int) =>
      some (.inl x4)
    )
  ) else (
    some (.inr (.nrm ()))
  )
noncomputable def ref_Value (s1 : List UInt8) : Option (Bool) :=
  ctl1 (iter (fun (a : Int) => ref_Value_L1 s1 a) 0) fun (u2 : Unit) =>
  some ((decide (1 ≤ (s1.length : Int))) && (decide ((s1.length : Int) ≤ 200)))
noncomputable def ref_AttrsError_L1 (l1 : List GAttr) (change1 : Bool) (x2 : Int) : Option (Int ⊕ (Ctl Unit Int)) :=
  if (decide (x2 < (l1.length : Int))) then (
    bnd1 (idx l1 x2) fun (x4 : GAttr) =>
    bnd1 (ref_Name x4.Name) fun (r1 : Bool) =>
    if (!r1) then (
      some (.inr (.ext 9))
    ) else (
      bnd1 (ref_Value x4.Value) fun (r2 : Bool) =>
      if ((!r2) && ((!decide (x4.Value = [])) || (!change1))) then (
        some (.inr (.ext 23))
      ) else (
        bnd1 (gd ((decide (0 < x2)) == true) (chk .i64 (x2 - 1))) fun (x5 : Int) =>
        bnd1 (gd ((decide (0 < x2)) == true) (idx l1 x5)) fun (x6 : GAttr) =>
        if ((decide (0 < x2)) && (!sLt x6.Name x4.Name)) then (
          some (.inr (.ext 5))
        ) else (
          bnd1 (chk .i64 (x2 + 1)) fun (x7 : Int) =>
          some (.inl x7)
        )
      )
    )
  ) else (
    some (.inr (.nrm ()))
  )
noncomputable def ref_AttrsError (l1 : List GAttr) (change1 : Bool) : Option (Int) :=
  ctl1 (iter (fun (a : Int) => ref_AttrsError_L1 l1 change1 a) 0) fun (u2 : Unit) =>
  some 0
noncomputable def flow_Char (c1 : Int) : Option (Bool) :=
  some (((((decide (c1 = 9)) || (decide (c1 = 10))) || ((decide (32 ≤ c1)) && (decide (c1 < 127)))) || ((decide (160 ≤ c1)) && (decide (c1 < 55296)))) || ((decide (57343 < c1)) && (decide (c1 ≤ 1114111))))
noncomputable def flow_elem (x1 : GElem) : Option (Int) :=
  if ((!decide (x1.Char = 0)) == (!decide (x1.Ref = 0))) then (
    some 4
  ) else (
    bnd1 (gd ((decide (x1.Ref = 0)) == true) (flow_Char x1.Char)) fun (r1 : Bool) =>
    bnd1 (
      if ((decide (x1.Ref = 0)) && (!r1)) then (
        some ((decide (x1.Ref = 0)) && (!r1))
      ) else (
        some ((!decide (x1.Ref = 0)) && ((decide (x1.Ref < 1)) || (decide (1073741824 < x1.Ref))))
      )
    ) fun (x2 : Bool) =>
    if x2 then (
      some 2
    ) else (
      bnd1 (attr_Check x1.Attrs) fun (r2 : Int) =>
      some r2
    )
  )
noncomputable def flow_CheckPart_L1 (f1 : List GElem) (x2 : Int) : Option (Int ⊕ (Ctl Unit Int)) :=
  if (decide (x2 < (f1.length : Int))) then (
    bnd1 (idx f1 x2) fun (x4 : GElem) =>
    bnd1 (flow_elem x4) fun (e1 : Int) =>
    if (!decide (e1 = 0)) then (
      some (.inr (.ext e1))
    ) else (
      bnd1 (chk .i64 (x2 + 1)) fun (x5 : Int) =>
      some (.inl x5)
    )
  ) else (
    some (.inr (.nrm ()))
  )
noncomputable def flow_CheckPart (f1 : List GElem) : Option (Int) :=
  ctl1 (iter (fun (a : Int) => flow_CheckPart_L1 f1 a) 0) fun (u2 : Unit) =>
  some 0
noncomputable def ref_Char (c1 : Int) : Option (Bool) :=
  bnd1 (gd (((decide (c1 = 9)) || (decide (c1 = 10))) == false) (ref_In c1 32 126)) fun (r1 : Bool) =>
  bnd1 (gd ((((decide (c1 = 9)) || (decide (c1 = 10))) || r1) == false) (ref_In c1 160 55295)) fun (r2 : Bool) =>
  bnd1 (gd (((((decide (c1 = 9)) || (decide (c1 = 10))) || r1) || r2) == false) (ref_In c1 57344 1114111)) fun (r3 : Bool) =>
  some (((((decide (c1 = 9)) || (decide (c1 = 10))) || r1) || r2) || r3)
noncomputable def ref_ElemError (x1 : GElem) : Option (Int) :=
  if (((decide (x1.Char = 0)) && (decide (x1.Ref = 0))) || ((!decide (x1.Char = 0)) && (!decide (x1.Ref = 0)))) then (
    some 4
  ) else (
    bnd1 (gd ((!decide (x1.Char = 0)) == true) (ref_Char x1.Char)) fun (r1 : Bool) =>
    bnd1 (gd ((((!decide (x1.Char = 0)) && (!r1)) == false) && ((!decide (x1.Ref = 0)) == true)) (ref_In x1.Ref 1 1073741824)) fun (r2 : Bool) =>
    if (((!decide (x1.Char = 0)) && (!r1)) || ((!decide (x1.Ref = 0)) && (!r2))) then (
      some 2
    ) else (
      bnd1 (ref_AttrsError x1.Attrs false) fun (r3 : Int) =>
      some r3
    )
  )
noncomputable def ref_PartError_L1 (f1 : List GElem) (x2 : Int) : Option (Int ⊕ (Ctl Unit Int)) :=
  if (decide (x2 < (f1.length : Int))) then (
    bnd1 (idx f1 x2) fun (x4 : GElem) =>
    bnd1 (ref_ElemError x4) fun (e1 : Int) =>
    if (!decide (e1 = 0)) then (
      some (.inr (.ext e1))
    ) else (
      bnd1 (chk .i64 (x2 + 1)) fun (x5 : Int) =>
      some (.inl x5)
    )
  ) else (
    some (.inr (.nrm ()))
  )
noncomputable def ref_PartError (f1 : List GElem) : Option (Int) :=
  ctl1 (iter (fun (a : Int) => ref_PartError_L1 f1 a) 0) fun (u2 : Unit) =>
  some 0
noncomputable def attr_Same_L1 (a1 : List GAttr) (b1 : List GAttr) (x2 : Int) : Option (Int ⊕ (Ctl Unit Bool)) :=
  if (decide (x2 < (a1.length : Int))) then (
    bnd1 (idx a1 x2) fun (x4 : GAttr) =>
    bnd1 (idx b1 x2) fun (x5 : GAttr) =>
    if (!(decide (x4.Name = x5.Name) && (decide (x4.Value = x5.Value) && true))) then (
      some (.inr (.ext false))
    ) else (
      bnd1 (chk .i64 (x2 + 1)) fun (x6 : Int) =>
      some (.inl x6)
    )
  ) else (
    some (.inr (.nrm ()))
  )
noncomputable def attr_Same (a1 : List GAttr) (b1 : List GAttr) : Option (Bool) :=
  if (!decide ((a1.length : Int) = (b1.length : Int))) then (
    some false
  ) else (
    ctl1 (iter (fun (a : Int) => attr_Same_L1 a1 b1 a) 0) fun (u2 : Unit) =>
    some true
  )
end Go.Proofs.YtdeglnbioiicaaaDoor.Al


namespace Go.Proofs.YtdeglnbioiicaaaDoor.Al
structure Ref_Act where
  Adds : List (List GElem)
  Cuts : List Bool
  Attrs : List (List GAttr)
deriving DecidableEq
instance : Inhabited Ref_Act := ⟨⟨[], [], []⟩⟩
@[reducible] def Ref_Act.row (x : Ref_Act) : List RV := [.sl (x.Adds.map (rSl GElem.row)), .sl (x.Cuts.map rBool), .sl (x.Attrs.map (rSl GAttr.row))]
end Go.Proofs.YtdeglnbioiicaaaDoor.Al


namespace Go.Proofs.YtdeglnbioiicaaaDoor.Al
end Go.Proofs.YtdeglnbioiicaaaDoor.Al


namespace Go.Proofs.YtdeglnbioiicaaaDoor.Al
structure Delta_Reader where
  steps : List GStep
  used : Int
deriving DecidableEq
instance : Inhabited Delta_Reader := ⟨⟨[], 0⟩⟩
@[reducible] def Delta_Reader.row (x : Delta_Reader) : List RV := [.sl (x.steps.map GStep.row), .int .i64 x.used]
structure Delta_Writer where
  out : List GStep
  add : List GElem
  cut : Int
deriving DecidableEq
instance : Inhabited Delta_Writer := ⟨⟨[], [], 0⟩⟩
@[reducible] def Delta_Writer.row (x : Delta_Writer) : List RV := [.sl (x.out.map GStep.row), .sl (x.add.map GElem.row), .int .i64 x.cut]
noncomputable def law_on (name1 : List UInt8) : Option ((List GAttr)) :=
  some [(GAttr.mk name1 [111, 110])]
noncomputable def ref_SameElem (a1 : GElem) (b1 : GElem) : Option (Bool) :=
  bnd1 (gd (((decide (a1.Char = b1.Char)) && (decide (a1.Ref = b1.Ref))) == true) (ref_SameAttrs a1.Attrs b1.Attrs)) fun (r1 : Bool) =>
  some (((decide (a1.Char = b1.Char)) && (decide (a1.Ref = b1.Ref))) && r1)
noncomputable def ref_SameFlow_L1 (a1 : List GElem) (b1 : List GElem) (x2 : Int) : Option (Int ⊕ (Ctl Unit Bool)) :=
  if (decide (x2 < (a1.length : Int))) then (
    bnd1 (idx a1 x2) fun (x4 : GElem) =>
    bnd1 (idx b1 x2) fun (x5 : GElem) =>
    bnd1 (ref_SameElem x4 x5) fun (r1 : Bool) =>
    if (!r1) then (
      some (.inr (.ext false))
    ) else (
      bnd1 (chk .i64 (x2 + 1)) fun (x6 : Int) =>
      some (.inl x6)
    )
  ) else (
    some (.inr (.nrm ()))
  )
noncomputable def ref_SameFlow (a1 : List GElem) (b1 : List GElem) : Option (Bool) :=
  if (!decide ((a1.length : Int) = (b1.length : Int))) then (
    some false
  ) else (
    ctl1 (iter (fun (a : Int) => ref_SameFlow_L1 a1 b1 a) 0) fun (u2 : Unit) =>
    some true
  )
noncomputable def flow_Check_L1 (f1 : List GElem) (text1 : Bool) (x2 : Int) : Option (Int ⊕ (Ctl Unit Int)) :=
  if (decide (x2 < (f1.length : Int))) then (
    bnd1 (idx f1 x2) fun (x6 : GElem) =>
    bnd1 (flow_elem x6) fun (e1 : Int) =>
    if (!decide (e1 = 0)) then (
      some (.inr (.ext e1))
    ) else (
      if ((!text1) && (decide (x6.Ref = 0))) then (
        some (.inr (.ext 8))
      ) else (
        bnd1 (chk .i64 (x2 + 1)) fun (x7 : Int) =>
        some (.inl x7)
      )
    )
  ) else (
    some (.inr (.nrm ()))
  )
noncomputable def flow_Check (f1 : List GElem) (text1 : Bool) : Option (Int) :=
  ctl1 (iter (fun (a : Int) => flow_Check_L1 f1 text1 a) 0) fun (u2 : Unit) =>
  bnd1 (gd ((text1 == true) && ((decide ((f1.length : Int) = 0)) == false)) (chk .i64 ((f1.length : Int) - 1))) fun (x4 : Int) =>
  bnd1 (gd ((text1 == true) && ((decide ((f1.length : Int) = 0)) == false)) (idx f1 x4)) fun (x5 : GElem) =>
  if (text1 && ((decide ((f1.length : Int) = 0)) || (!decide (x5.Char = 10)))) then (
    some 11
  ) else (
    some 0
  )
noncomputable def ref_FlowError_L1 (f1 : List GElem) (text1 : Bool) (x2 : Int) : Option (Int ⊕ (Ctl Unit Int)) :=
  if (decide (x2 < (f1.length : Int))) then (
    bnd1 (idx f1 x2) fun (x6 : GElem) =>
    bnd1 (ref_ElemError x6) fun (e1 : Int) =>
    if (!decide (e1 = 0)) then (
      some (.inr (.ext e1))
    ) else (
      if ((!text1) && (!decide (x6.Char = 0))) then (
        some (.inr (.ext 8))
      ) else (
        bnd1 (chk .i64 (x2 + 1)) fun (x7 : Int) =>
        some (.inl x7)
      )
    )
  ) else (
    some (.inr (.nrm ()))
  )
noncomputable def ref_FlowError (f1 : List GElem) (text1 : Bool) : Option (Int) :=
  ctl1 (iter (fun (a : Int) => ref_FlowError_L1 f1 text1 a) 0) fun (u2 : Unit) =>
  bnd1 (gd ((text1 == true) && ((decide ((f1.length : Int) = 0)) == false)) (chk .i64 ((f1.length : Int) - 1))) fun (x4 : Int) =>
  bnd1 (gd ((text1 == true) && ((decide ((f1.length : Int) = 0)) == false)) (idx f1 x4)) fun (x5 : GElem) =>
  if (text1 && ((decide ((f1.length : Int) = 0)) || (!decide (x5.Char = 10)))) then (
    some 11
  ) else (
    some 0
  )
end Go.Proofs.YtdeglnbioiicaaaDoor.Al


namespace Go.Proofs.YtdeglnbioiicaaaDoor.Al
structure Utf8_AcceptRange where
  lo : Int
  hi : Int
deriving DecidableEq
instance : Inhabited Utf8_AcceptRange := ⟨⟨0, 0⟩⟩
@[reducible] def Utf8_AcceptRange.row (x : Utf8_AcceptRange) : List RV := [.int .u8 x.lo, .int .u8 x.hi]
noncomputable def tabAccept : List Utf8_AcceptRange := tabAccept0.map fun p => Utf8_AcceptRange.mk p.1 p.2
noncomputable def unicode_utf8_decodeRuneInStringSlow (s1 : List UInt8) : Option (Int × Int) :=
  if (decide ((s1.length : Int) < 1)) then (
    some (65533, 0)
  ) else (
    bnd1 (idx s1 0) fun (s01 : UInt8) =>
    bnd1 (idx tabFirst (s01.toNat : Int)) fun (x1 : Int) =>
    if (decide (240 ≤ x1)) then (
      some ((bOr .i32 (bAndNot .i32 (IntKind.i32.wrap (s01.toNat : Int)) (shrC .i32 (shlC .i32 (IntKind.i32.wrap x1) 31) 31)) (bAnd .i32 65533 (shrC .i32 (shlC .i32 (IntKind.i32.wrap x1) 31) 31))), 1)
    ) else (
      bnd1 (idx tabAccept (shrC .u8 x1 4)) fun (x2 : Utf8_AcceptRange) =>
      if (decide ((s1.length : Int) < (IntKind.i64.wrap (bAnd .u8 x1 7)))) then (
        some (65533, 1)
      ) else (
        bnd1 (idx s1 1) fun (s11 : UInt8) =>
        if ((decide ((s11.toNat : Int) < x2.lo)) || (decide (x2.hi < (s11.toNat : Int)))) then (
          some (65533, 1)
        ) else (
          if (decide ((IntKind.i64.wrap (bAnd .u8 x1 7)) ≤ 2)) then (
            some ((bOr .i32 (shlC .i32 (IntKind.i32.wrap (bAnd .u8 (s01.toNat : Int) 31)) 6) (IntKind.i32.wrap (bAnd .u8 (s11.toNat : Int) 63))), 2)
          ) else (
            bnd1 (idx s1 2) fun (s21 : UInt8) =>
            if ((decide ((s21.toNat : Int) < 128)) || (decide (191 < (s21.toNat : Int)))) then (
              some (65533, 1)
            ) else (
              if (decide ((IntKind.i64.wrap (bAnd .u8 x1 7)) ≤ 3)) then (
                some ((bOr .i32 (bOr .i32 (shlC .i32 (IntKind.i32.wrap (bAnd .u8 (s01.toNat : Int) 15)) 12) (shlC .i32 (IntKind.i32.wrap (bAnd .u8 (s11.toNat : Int) 63)) 6)) (IntKind.i32.wrap (bAnd .u8 (s21.toNat : Int) 63))), 3)
              ) else (
                bnd1 (idx s1 3) fun (s31 : UInt8) =>
                if ((decide ((s31.toNat : Int) < 128)) || (decide (191 < (s31.toNat : Int)))) then (
                  some (65533, 1)
                ) else (
                  some ((bOr .i32 (bOr .i32 (bOr .i32 (shlC .i32 (IntKind.i32.wrap (bAnd .u8 (s01.toNat : Int) 7)) 18) (shlC .i32 (IntKind.i32.wrap (bAnd .u8 (s11.toNat : Int) 63)) 12)) (shlC .i32 (IntKind.i32.wrap (bAnd .u8 (s21.toNat : Int) 63)) 6)) (IntKind.i32.wrap (bAnd .u8 (s31.toNat : Int) 63))), 4)
                )
              )
            )
          )
        )
      )
    )
  )
noncomputable def unicode_utf8_DecodeRuneInString (s1 : List UInt8) : Option (Int × Int) :=
  bnd1 (gd ((!decide (s1 = [])) == true) (idx s1 0)) fun (ch1 : UInt8) =>
  if ((!decide (s1 = [])) && (decide ((ch1.toNat : Int) < 128))) then (
    bnd1 (idx s1 0) fun (ch2 : UInt8) =>
    some ((IntKind.i32.wrap (ch2.toNat : Int)), 1)
  ) else (
    bnd2 (unicode_utf8_decodeRuneInStringSlow s1) fun (r1 : Int) (r2 : Int) =>
    some (r1, r2)
  )
noncomputable def flow_Of_L1 (attrs1 : List GAttr) (s3 : List UInt8) (out2 : List GElem) : Option (((List UInt8) × (List GElem)) ⊕ (Ctl (List GElem) ((List GElem) × Int))) :=
  if (!decide (s3 = [])) then (
    bnd2 (unicode_utf8_DecodeRuneInString s3) fun (r1 : Int) (r2 : Int) =>
    if ((decide (r1 = 65533)) && (decide (r2 = 1))) then (
      some (.inr (.ext ([], 10)))
    ) else (
      bnd1 (flow_Char (IntKind.i64.wrap r1)) fun (r3 : Bool) =>
      if (!r3) then (
        some (.inr (.ext ([], 2)))
      ) else (
        bnd1 (app 32 [] attrs1) fun (l1 : List GAttr) =>
        bnd1 (app 40 out2 [(GElem.mk (IntKind.i64.wrap r1) 0 l1)]) fun (out5 : List GElem) =>
        bnd1 (slc s3 r2 (s3.length : Int)) fun (s5 : List UInt8) =>
        some (.inl (s5, out5))
      )
    )
  ) else (
    some (.inr (.nrm out2))
  )
noncomputable def flow_Of (s1 : List UInt8) (attrs1 : List GAttr) : Option ((List GElem) × Int) :=
  bnd1 (attr_Check attrs1) fun (e1 : Int) =>
  if (!decide (e1 = 0)) then (
    some ([], e1)
  ) else (
    ctl1 (iter (fun (a : (List UInt8) × (List GElem)) => flow_Of_L1 attrs1 a.1 a.2) (s1, [])) fun (out4 : List GElem) =>
    some (out4, 0)
  )
noncomputable def law_flows : Option (Bool) :=
  bnd1 (law_on [98, 111, 108, 100]) fun (r1 : List GAttr) =>
  bnd2 (flow_Of [97, 98] r1) fun (r2 : List GElem) (r3 : Int) =>
  bnd1 (gd (((decide (r3 = 0)) && (decide ((r2.length : Int) = 2))) == true) (idx r2 1)) fun (x1 : GElem) =>
  bnd1 (gd ((((decide (r3 = 0)) && (decide ((r2.length : Int) = 2))) && (decide (x1.Char = 98))) == true) (idx r2 0)) fun (x2 : GElem) =>
  bnd1 (gd ((((decide (r3 = 0)) && (decide ((r2.length : Int) = 2))) && (decide (x1.Char = 98))) == true) (ref_SameAttrs x2.Attrs r1)) fun (r5 : Bool) =>
  bnd1 (gd (((((decide (r3 = 0)) && (decide ((r2.length : Int) = 2))) && (decide (x1.Char = 98))) && r5) == true) (flow_Check [] true)) fun (r6 : Int) =>
  some (((((decide (r3 = 0)) && (decide ((r2.length : Int) = 2))) && (decide (x1.Char = 98))) && r5) && (decide (r6 = 11)))
end Go.Proofs.YtdeglnbioiicaaaDoor.Al


namespace Go.Proofs.YtdeglnbioiicaaaDoor.Al
noncomputable def flow_Same_L1 (a1 : List GElem) (b1 : List GElem) (x2 : Int) : Option (Int ⊕ (Ctl Unit Bool)) :=
  if (decide (x2 < (a1.length : Int))) then (
    bnd1 (idx a1 x2) fun (x4 : GElem) =>
    bnd1 (idx b1 x2) fun (x5 : GElem) =>
    bnd1 (gd (((!decide (x4.Char = x5.Char)) || (!decide (x4.Ref = x5.Ref))) == false) (attr_Same x4.Attrs x5.Attrs)) fun (r1 : Bool) =>
    if (((!decide (x4.Char = x5.Char)) || (!decide (x4.Ref = x5.Ref))) || (!r1)) then (
      some (.inr (.ext false))
    ) else (
      bnd1 (chk .i64 (x2 + 1)) fun (x6 : Int) =>
      some (.inl x6)
    )
  ) else (
    some (.inr (.nrm ()))
  )
noncomputable def flow_Same (a1 : List GElem) (b1 : List GElem) : Option (Bool) :=
  if (!decide ((a1.length : Int) = (b1.length : Int))) then (
    some false
  ) else (
    ctl1 (iter (fun (a : Int) => flow_Same_L1 a1 b1 a) 0) fun (u2 : Unit) =>
    some true
  )
noncomputable def flow_Refs_L1 (f1 : List GElem) (x2 : Int) (out2 : List Int) : Option ((Int × (List Int)) ⊕ (List Int)) :=
  if (decide (x2 < (f1.length : Int))) then (
    bnd1 (
      bnd1 (idx f1 x2) fun (x5 : GElem) =>
      if (!decide (x5.Ref = 0)) then (
        bnd1 (app 8 out2 [x5.Ref]) fun (out6 : List Int) =>
        some out6
      ) else (
        some out2
      )
    ) fun (out5 : List Int) =>
    bnd1 (chk .i64 (x2 + 1)) fun (x4 : Int) =>
    some (.inl (x4, out5))
  ) else (
    some (.inr out2)
  )
noncomputable def flow_Refs (f1 : List GElem) : Option ((List Int)) :=
  bnd1 (iter (fun (a : Int × (List Int)) => flow_Refs_L1 f1 a.1 a.2) (0, [])) fun (out4 : List Int) =>
  some out4
noncomputable def law_FlowCheckSays_L1 (f1 : List GElem) (x2 : Int) (want2 : List Int) : Option ((Int × (List Int)) ⊕ (List Int)) :=
  if (decide (x2 < (f1.length : Int))) then (
    bnd1 (
      bnd1 (idx f1 x2) fun (x5 : GElem) =>
      if (!decide (x5.Ref = 0)) then (
        bnd1 (app 8 want2 [x5.Ref]) fun (want6 : List Int) =>
        some want6
      ) else (
        some want2
      )
    ) fun (want5 : List Int) =>
    bnd1 (chk .i64 (x2 + 1)) fun (x4 : Int) =>
    some (.inl (x4, want5))
  ) else (
    some (.inr want2)
  )
noncomputable def law_FlowCheckSays (c1 : Int) (f1 : List GElem) (g1 : List GElem) (text1 : Bool) : Option (Bool) :=
  bnd1 (law_flows) fun (r1 : Bool) =>
  bnd1 (gd ((!r1) == false) (flow_Char c1)) fun (r2 : Bool) =>
  bnd1 (gd ((!r1) == false) (ref_Char c1)) fun (r3 : Bool) =>
  bnd1 (gd (((!r1) || (!(r2 == r3))) == false) (flow_CheckPart f1)) fun (r4 : Int) =>
  bnd1 (gd (((!r1) || (!(r2 == r3))) == false) (ref_PartError f1)) fun (r5 : Int) =>
  bnd1 (gd ((((!r1) || (!(r2 == r3))) || (!decide (r4 = r5))) == false) (flow_Check f1 text1)) fun (r6 : Int) =>
  bnd1 (gd ((((!r1) || (!(r2 == r3))) || (!decide (r4 = r5))) == false) (ref_FlowError f1 text1)) fun (r7 : Int) =>
  bnd1 (gd (((((!r1) || (!(r2 == r3))) || (!decide (r4 = r5))) || (!decide (r6 = r7))) == false) (flow_Same f1 g1)) fun (r8 : Bool) =>
  bnd1 (gd (((((!r1) || (!(r2 == r3))) || (!decide (r4 = r5))) || (!decide (r6 = r7))) == false) (ref_SameFlow f1 g1)) fun (r9 : Bool) =>
  if (((((!r1) || (!(r2 == r3))) || (!decide (r4 = r5))) || (!decide (r6 = r7))) || (!(r8 == r9))) then (
    some false
  ) else (
    bnd1 (iter (fun (a : Int × (List Int)) => law_FlowCheckSays_L1 f1 a.1 a.2) (0, [])) fun (want4 : List Int) =>
    bnd1 (flow_Refs f1) fun (r10 : List Int) =>
    bnd1 (ref_SameInts r10 want4) fun (r11 : Bool) =>
    some r11
  )
end Go.Proofs.YtdeglnbioiicaaaDoor.Al

