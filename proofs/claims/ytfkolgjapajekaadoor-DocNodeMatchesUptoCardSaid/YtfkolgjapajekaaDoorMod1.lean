/- Models, as printed. -/
import Derived.Test.YtfkolgjapajekaaDoorAl2
namespace Go.Proofs.YtfkolgjapajekaaDoor.Al
structure GAxisStep where
  Kind : Int
  N : Int
deriving DecidableEq
instance : Inhabited GAxisStep := ⟨⟨0, 0⟩⟩
@[reducible] def GAxisStep.row (x : GAxisStep) : List RV := [.int .i64 x.Kind, .int .i64 x.N]
structure Axis_Reader where
  steps : List GAxisStep
  used : Int
deriving DecidableEq
instance : Inhabited Axis_Reader := ⟨⟨[], 0⟩⟩
@[reducible] def Axis_Reader.row (x : Axis_Reader) : List RV := [.sl (x.steps.map GAxisStep.row), .int .i64 x.used]
structure Axis_Writer where
  out : List GAxisStep
  add : Int
  cut : Int
deriving DecidableEq
instance : Inhabited Axis_Writer := ⟨⟨[], 0, 0⟩⟩
@[reducible] def Axis_Writer.row (x : Axis_Writer) : List RV := [.sl (x.out.map GAxisStep.row), .int .i64 x.add, .int .i64 x.cut]
structure GAttr where
  Name : List UInt8
  Value : List UInt8
deriving DecidableEq
instance : Inhabited GAttr := ⟨⟨[], []⟩⟩
@[reducible] def GAttr.row (x : GAttr) : List RV := [.str x.Name, .str x.Value]
structure GElem where
  Char : Int
  Ref : Int
  Attrs : List GAttr
deriving DecidableEq
instance : Inhabited GElem := ⟨⟨0, 0, []⟩⟩
@[reducible] def GElem.row (x : GElem) : List RV := [.int .i64 x.Char, .int .i64 x.Ref, .sl (x.Attrs.map GAttr.row)]
structure GCell where
  Row : Int
  Col : Int
  Text : List UInt8
  Ref : Int
  Attrs : List GAttr
deriving DecidableEq
instance : Inhabited GCell := ⟨⟨0, 0, [], 0, []⟩⟩
@[reducible] def GCell.row (x : GCell) : List RV := [.int .i64 x.Row, .int .i64 x.Col, .str x.Text, .int .i64 x.Ref, .sl (x.Attrs.map GAttr.row)]
structure GRect where
  Row : Int
  Col : Int
  H : Int
  W : Int
deriving DecidableEq
instance : Inhabited GRect := ⟨⟨0, 0, 0, 0⟩⟩
@[reducible] def GRect.row (x : GRect) : List RV := [.int .i64 x.Row, .int .i64 x.Col, .int .i64 x.H, .int .i64 x.W]
structure GGrid where
  Rows : Int
  Cols : Int
  Cells : List GCell
  Merges : List GRect
deriving DecidableEq
instance : Inhabited GGrid := ⟨⟨0, 0, [], []⟩⟩
@[reducible] def GGrid.row (x : GGrid) : List RV := [.int .i64 x.Rows, .int .i64 x.Cols, .sl (x.Cells.map GCell.row), .sl (x.Merges.map GRect.row)]
structure GDrawOp where
  Clock : Int
  Site : Int
  Kind : Int
  Item : Int
  Parent : Int
  Place : List UInt8
  Name : List UInt8
  Value : List UInt8
deriving DecidableEq
instance : Inhabited GDrawOp := ⟨⟨0, 0, 0, 0, 0, [], [], []⟩⟩
@[reducible] def GDrawOp.row (x : GDrawOp) : List RV := [.int .i64 x.Clock, .int .i64 x.Site, .int .i64 x.Kind, .int .i64 x.Item, .int .i64 x.Parent, .str x.Place, .str x.Name, .str x.Value]
structure GNode where
  ID : Int
  Kind : Int
  Attrs : List GAttr
  Flow : List GElem
  Grid : GGrid
  Draw : List GDrawOp
deriving DecidableEq
instance : Inhabited GNode := ⟨⟨0, 0, [], [], (GGrid.mk 0 0 [] []), []⟩⟩
@[reducible] def GNode.row (x : GNode) : List RV := [.int .i64 x.ID, .int .i64 x.Kind, .sl (x.Attrs.map GAttr.row), .sl (x.Flow.map GElem.row), .int .i64 x.Grid.Rows, .int .i64 x.Grid.Cols, .sl (x.Grid.Cells.map GCell.row), .sl (x.Grid.Merges.map GRect.row), .sl (x.Draw.map GDrawOp.row)]
structure GStep where
  Kind : Int
  N : Int
  Attrs : List GAttr
  Elems : List GElem
deriving DecidableEq
instance : Inhabited GStep := ⟨⟨0, 0, [], []⟩⟩
@[reducible] def GStep.row (x : GStep) : List RV := [.int .i64 x.Kind, .int .i64 x.N, .sl (x.Attrs.map GAttr.row), .sl (x.Elems.map GElem.row)]
structure GGridEdit where
  Rows : List GAxisStep
  Cols : List GAxisStep
  Cells : List GCell
  Split : List GRect
  Merge : List GRect
deriving DecidableEq
instance : Inhabited GGridEdit := ⟨⟨[], [], [], [], []⟩⟩
@[reducible] def GGridEdit.row (x : GGridEdit) : List RV := [.sl (x.Rows.map GAxisStep.row), .sl (x.Cols.map GAxisStep.row), .sl (x.Cells.map GCell.row), .sl (x.Split.map GRect.row), .sl (x.Merge.map GRect.row)]
structure GOp where
  Kind : Int
  Node : Int
  New : GNode
  Attrs : List GAttr
  Steps : List GStep
  Grid : GGridEdit
  Draw : List GDrawOp
deriving DecidableEq
instance : Inhabited GOp := ⟨⟨0, 0, (GNode.mk 0 0 [] [] (GGrid.mk 0 0 [] []) []), [], [], (GGridEdit.mk [] [] [] [] []), []⟩⟩
@[reducible] def GOp.row (x : GOp) : List RV := [.int .i64 x.Kind, .int .i64 x.Node, .int .i64 x.New.ID, .int .i64 x.New.Kind, .sl (x.New.Attrs.map GAttr.row), .sl (x.New.Flow.map GElem.row), .int .i64 x.New.Grid.Rows, .int .i64 x.New.Grid.Cols, .sl (x.New.Grid.Cells.map GCell.row), .sl (x.New.Grid.Merges.map GRect.row), .sl (x.New.Draw.map GDrawOp.row), .sl (x.Attrs.map GAttr.row), .sl (x.Steps.map GStep.row), .sl (x.Grid.Rows.map GAxisStep.row), .sl (x.Grid.Cols.map GAxisStep.row), .sl (x.Grid.Cells.map GCell.row), .sl (x.Grid.Split.map GRect.row), .sl (x.Grid.Merge.map GRect.row), .sl (x.Draw.map GDrawOp.row)]
structure GEntry where
  Site : Int
  Number : Int
  Change : List GOp
  Undoes : Int
  Refused : Int
deriving DecidableEq
instance : Inhabited GEntry := ⟨⟨0, 0, [], 0, 0⟩⟩
@[reducible] def GEntry.row (x : GEntry) : List RV := [.int .i64 x.Site, .int .i64 x.Number, .sl (x.Change.map GOp.row), .int .i64 x.Undoes, .int .i64 x.Refused]
structure GSpan where
  From : Int
  To : Int
deriving DecidableEq
instance : Inhabited GSpan := ⟨⟨0, 0⟩⟩
@[reducible] def GSpan.row (x : GSpan) : List RV := [.int .i64 x.From, .int .i64 x.To]
noncomputable def attr_Name_L1 (s1 : List UInt8) (x2 : Int) : Option (Int ⊕ (Ctl Unit Bool)) :=
  if (decide (x2 < (s1.length : Int))) then (
    bnd1 (idx s1 x2) fun (c1 : UInt8) =>
    if (((((decide ((c1.toNat : Int) < 97)) || (decide (122 < (c1.toNat : Int)))) && ((decide ((c1.toNat : Int) < 48)) || (decide (57 < (c1.toNat : Int))))) && (!decide ((c1.toNat : Int) = 46))) && (!decide ((c1.toNat : Int) = 45))) then (
      some (.inr (.ext false))
    ) else (
      bnd1 (chk .i64 (x2 + 1)) fun (x4 : Int) =>
      some (.inl x4)
    )
  ) else (
    some (.inr (.nrm ()))
  )
noncomputable def attr_Name (s1 : List UInt8) : Option (Bool) :=
  bnd1 (gd (((decide (s1 = [])) || (decide (24 < (s1.length : Int)))) == false) (idx s1 0)) fun (ch1 : UInt8) =>
  bnd1 (gd ((((decide (s1 = [])) || (decide (24 < (s1.length : Int)))) || (decide ((ch1.toNat : Int) < 97))) == false) (idx s1 0)) fun (ch2 : UInt8) =>
  if ((((decide (s1 = [])) || (decide (24 < (s1.length : Int)))) || (decide ((ch1.toNat : Int) < 97))) || (decide (122 < (ch2.toNat : Int)))) then (
    some false
  ) else (
    ctl1 (iter (fun (a : Int) => attr_Name_L1 s1 a) 0) fun (u2 : Unit) =>
    some true
  )
noncomputable def attr_Value_L1 (s1 : List UInt8) (x2 : Int) : Option (Int ⊕ (Ctl Unit Bool)) :=
  if (decide (x2 < (s1.length : Int))) then (
    bnd1 (idx s1 x2) fun (ch1 : UInt8) =>
    if ((decide ((ch1.toNat : Int) < 32)) || (decide (126 < (ch1.toNat : Int)))) then (
      some (.inr (.ext false))
    ) else (
      bnd1 (chk .i64 (x2 + 1)) fun (x4 : Int) =>
      some (.inl x4)
    )
  ) else (
    some (.inr (.nrm ()))
  )
noncomputable def attr_Value (s1 : List UInt8) : Option (Bool) :=
  if ((decide (s1 = [])) || (decide (200 < (s1.length : Int)))) then (
    some false
  ) else (
    ctl1 (iter (fun (a : Int) => attr_Value_L1 s1 a) 0) fun (u2 : Unit) =>
    some true
  )
noncomputable def attr_check_L1 (l1 : List GAttr) (empty1 : Bool) (x2 : Int) : Option (Int ⊕ (Ctl Unit Int)) :=
  if (decide (x2 < (l1.length : Int))) then (
    bnd1 (idx l1 x2) fun (x4 : GAttr) =>
    bnd1 (attr_Name x4.Name) fun (r1 : Bool) =>
    if (!r1) then (
      some (.inr (.ext 9))
    ) else (
      bnd1 (attr_Value x4.Value) fun (r2 : Bool) =>
      if ((!r2) && (!(empty1 && (decide (x4.Value = []))))) then (
        some (.inr (.ext 23))
      ) else (
        bnd1 (gd ((decide (0 < x2)) == true) (chk .i64 (x2 - 1))) fun (x5 : Int) =>
        bnd1 (gd ((decide (0 < x2)) == true) (idx l1 x5)) fun (x6 : GAttr) =>
        if ((decide (0 < x2)) && (sLt x4.Name x6.Name || decide (x4.Name = x6.Name))) then (
          some (.inr (.ext 5))
        ) else (
          bnd1 (chk .i64 (x2 + 1)) fun (x7 : Int) =>
          some (.inl x7)
        )
      )
    )
  ) else (
    some (.inr (.nrm ()))
  )
noncomputable def attr_check (l1 : List GAttr) (empty1 : Bool) : Option (Int) :=
  ctl1 (iter (fun (a : Int) => attr_check_L1 l1 empty1 a) 0) fun (u2 : Unit) =>
  some 0
noncomputable def attr_Check (l1 : List GAttr) : Option (Int) :=
  bnd1 (attr_check l1 false) fun (r1 : Int) =>
  some r1
noncomputable def ref_SameAttrs_L1 (a1 : List GAttr) (b1 : List GAttr) (x2 : Int) : Option (Int ⊕ (Ctl Unit Bool)) :=
  if (decide (x2 < (a1.length : Int))) then (
    bnd1 (idx a1 x2) fun (x4 : GAttr) =>
    bnd1 (idx b1 x2) fun (x5 : GAttr) =>
    if (!(decide (x4.Name = x5.Name) && (decide (x4.Value = x5.Value) && true))) then (
      some (.inr (.ext false))
    ) else (
      bnd1 (chk .i64 (x2 + 1)) fun (x6 : Int) =>
      some (.inl x6)
    )
  ) else (
    some (.inr (.nrm ()))
  )
noncomputable def ref_SameAttrs (a1 : List GAttr) (b1 : List GAttr) : Option (Bool) :=
  if (!decide ((a1.length : Int) = (b1.length : Int))) then (
    some false
  ) else (
    ctl1 (iter (fun (a : Int) => ref_SameAttrs_L1 a1 b1 a) 0) fun (u2 : Unit) =>
    some true
  )
noncomputable def law_end : Option (GElem) :=
  some (GElem.mk 10 0 [])
noncomputable def flow_Char (c1 : Int) : Option (Bool) :=
  some (((((decide (c1 = 9)) || (decide (c1 = 10))) || ((decide (32 ≤ c1)) && (decide (c1 < 127)))) || ((decide (160 ≤ c1)) && (decide (c1 < 55296)))) || ((decide (57343 < c1)) && (decide (c1 ≤ 1114111))))
noncomputable def flow_elem (x1 : GElem) : Option (Int) :=
  if ((!decide (x1.Char = 0)) == (!decide (x1.Ref = 0))) then (
    some 4
  ) else (
    bnd1 (gd ((decide (x1.Ref = 0)) == true) (flow_Char x1.Char)) fun (r1 : Bool) =>
    bnd1 (
      if ((decide (x1.Ref = 0)) && (!r1)) then (
        some ((decide (x1.Ref = 0)) && (!r1))
      ) else (
        some ((!decide (x1.Ref = 0)) && ((decide (x1.Ref < 1)) || (decide (1073741824 < x1.Ref))))
      )
    ) fun (x2 : Bool) =>
    if x2 then (
      some 2
    ) else (
      bnd1 (attr_Check x1.Attrs) fun (r2 : Int) =>
      some r2
    )
  )
noncomputable def attr_Same_L1 (a1 : List GAttr) (b1 : List GAttr) (x2 : Int) : Option (Int ⊕ (Ctl Unit Bool)) :=
  if (decide (x2 < (a1.length : Int))) then (
    bnd1 (idx a1 x2) fun (x4 : GAttr) =>
    bnd1 (idx b1 x2) fun (x5 : GAttr) =>
    if (!(decide (x4.Name = x5.Name) && (decide (x4.Value = x5.Value) && true))) then (
      some (.inr (.ext false))
    ) else (
      bnd1 (chk .i64 (x2 + 1)) fun (x6 : Int) =>
      some (.inl x6)
    )
  ) else (
    some (.inr (.nrm ()))
  )
noncomputable def attr_Same (a1 : List GAttr) (b1 : List GAttr) : Option (Bool) :=
  if (!decide ((a1.length : Int) = (b1.length : Int))) then (
    some false
  ) else (
    ctl1 (iter (fun (a : Int) => attr_Same_L1 a1 b1 a) 0) fun (u2 : Unit) =>
    some true
  )
end Go.Proofs.YtfkolgjapajekaaDoor.Al


namespace Go.Proofs.YtfkolgjapajekaaDoor.Al
structure Ref_Act where
  Adds : List (List GElem)
  Cuts : List Bool
  Attrs : List (List GAttr)
deriving DecidableEq
instance : Inhabited Ref_Act := ⟨⟨[], [], []⟩⟩
@[reducible] def Ref_Act.row (x : Ref_Act) : List RV := [.sl (x.Adds.map (rSl GElem.row)), .sl (x.Cuts.map rBool), .sl (x.Attrs.map (rSl GAttr.row))]
end Go.Proofs.YtfkolgjapajekaaDoor.Al


namespace Go.Proofs.YtfkolgjapajekaaDoor.Al
end Go.Proofs.YtfkolgjapajekaaDoor.Al


namespace Go.Proofs.YtfkolgjapajekaaDoor.Al
structure Delta_Reader where
  steps : List GStep
  used : Int
deriving DecidableEq
instance : Inhabited Delta_Reader := ⟨⟨[], 0⟩⟩
@[reducible] def Delta_Reader.row (x : Delta_Reader) : List RV := [.sl (x.steps.map GStep.row), .int .i64 x.used]
structure Delta_Writer where
  out : List GStep
  add : List GElem
  cut : Int
deriving DecidableEq
instance : Inhabited Delta_Writer := ⟨⟨[], [], 0⟩⟩
@[reducible] def Delta_Writer.row (x : Delta_Writer) : List RV := [.sl (x.out.map GStep.row), .sl (x.add.map GElem.row), .int .i64 x.cut]
noncomputable def flow_Copy_L1 (f1 : List GElem) (x2 : Int) (out3 : List GElem) : Option ((Int × (List GElem)) ⊕ (List GElem)) :=
  if (decide (x2 < (f1.length : Int))) then (
    bnd1 (idx f1 x2) fun (x4 : GElem) =>
    bnd1 (app 32 [] x4.Attrs) fun (l1 : List GAttr) =>
    bnd1 (idx out3 x2) fun (x5 : GElem) =>
    bnd1 (chk .i64 (x2 + 1)) fun (x6 : Int) =>
    some (.inl (x6, (out3.set x2.toNat (GElem.mk x4.Char x4.Ref l1))))
  ) else (
    some (.inr out3)
  )
noncomputable def flow_Copy (f1 : List GElem) : Option ((List GElem)) :=
  bnd1 (mk 40 (f1.length : Int) (GElem.mk 0 0 [])) fun (out1 : List GElem) =>
  bnd1 (iter (fun (a : Int × (List GElem)) => flow_Copy_L1 f1 a.1 a.2) (0, out1)) fun (out5 : List GElem) =>
  some out5
noncomputable def ref_SameElem (a1 : GElem) (b1 : GElem) : Option (Bool) :=
  bnd1 (gd (((decide (a1.Char = b1.Char)) && (decide (a1.Ref = b1.Ref))) == true) (ref_SameAttrs a1.Attrs b1.Attrs)) fun (r1 : Bool) =>
  some (((decide (a1.Char = b1.Char)) && (decide (a1.Ref = b1.Ref))) && r1)
noncomputable def ref_SameFlow_L1 (a1 : List GElem) (b1 : List GElem) (x2 : Int) : Option (Int ⊕ (Ctl Unit Bool)) :=
  if (decide (x2 < (a1.length : Int))) then (
    bnd1 (idx a1 x2) fun (x4 : GElem) =>
    bnd1 (idx b1 x2) fun (x5 : GElem) =>
    bnd1 (ref_SameElem x4 x5) fun (r1 : Bool) =>
    if (!r1) then (
      some (.inr (.ext false))
    ) else (
      bnd1 (chk .i64 (x2 + 1)) fun (x6 : Int) =>
      some (.inl x6)
    )
  ) else (
    some (.inr (.nrm ()))
  )
noncomputable def ref_SameFlow (a1 : List GElem) (b1 : List GElem) : Option (Bool) :=
  if (!decide ((a1.length : Int) = (b1.length : Int))) then (
    some false
  ) else (
    ctl1 (iter (fun (a : Int) => ref_SameFlow_L1 a1 b1 a) 0) fun (u2 : Unit) =>
    some true
  )
noncomputable def flow_Check_L1 (f1 : List GElem) (text1 : Bool) (x2 : Int) : Option (Int ⊕ (Ctl Unit Int)) :=
  if (decide (x2 < (f1.length : Int))) then (
    bnd1 (idx f1 x2) fun (x6 : GElem) =>
    bnd1 (flow_elem x6) fun (e1 : Int) =>
    if (!decide (e1 = 0)) then (
      some (.inr (.ext e1))
    ) else (
      if ((!text1) && (decide (x6.Ref = 0))) then (
        some (.inr (.ext 8))
      ) else (
        bnd1 (chk .i64 (x2 + 1)) fun (x7 : Int) =>
        some (.inl x7)
      )
    )
  ) else (
    some (.inr (.nrm ()))
  )
noncomputable def flow_Check (f1 : List GElem) (text1 : Bool) : Option (Int) :=
  ctl1 (iter (fun (a : Int) => flow_Check_L1 f1 text1 a) 0) fun (u2 : Unit) =>
  bnd1 (gd ((text1 == true) && ((decide ((f1.length : Int) = 0)) == false)) (chk .i64 ((f1.length : Int) - 1))) fun (x4 : Int) =>
  bnd1 (gd ((text1 == true) && ((decide ((f1.length : Int) = 0)) == false)) (idx f1 x4)) fun (x5 : GElem) =>
  if (text1 && ((decide ((f1.length : Int) = 0)) || (!decide (x5.Char = 10)))) then (
    some 11
  ) else (
    some 0
  )
end Go.Proofs.YtfkolgjapajekaaDoor.Al


namespace Go.Proofs.YtfkolgjapajekaaDoor.Al
structure Utf8_AcceptRange where
  lo : Int
  hi : Int
deriving DecidableEq
instance : Inhabited Utf8_AcceptRange := ⟨⟨0, 0⟩⟩
@[reducible] def Utf8_AcceptRange.row (x : Utf8_AcceptRange) : List RV := [.int .u8 x.lo, .int .u8 x.hi]
noncomputable def tabAccept : List Utf8_AcceptRange := tabAccept0.map fun p => Utf8_AcceptRange.mk p.1 p.2
noncomputable def unicode_utf8_decodeRuneInStringSlow (s1 : List UInt8) : Option (Int × Int) :=
  if (decide ((s1.length : Int) < 1)) then (
    some (65533, 0)
  ) else (
    bnd1 (idx s1 0) fun (s01 : UInt8) =>
    bnd1 (idx tabFirst (s01.toNat : Int)) fun (x1 : Int) =>
    if (decide (240 ≤ x1)) then (
      some ((bOr .i32 (bAndNot .i32 (IntKind.i32.wrap (s01.toNat : Int)) (shrC .i32 (shlC .i32 (IntKind.i32.wrap x1) 31) 31)) (bAnd .i32 65533 (shrC .i32 (shlC .i32 (IntKind.i32.wrap x1) 31) 31))), 1)
    ) else (
      bnd1 (idx tabAccept (shrC .u8 x1 4)) fun (x2 : Utf8_AcceptRange) =>
      if (decide ((s1.length : Int) < (IntKind.i64.wrap (bAnd .u8 x1 7)))) then (
        some (65533, 1)
      ) else (
        bnd1 (idx s1 1) fun (s11 : UInt8) =>
        if ((decide ((s11.toNat : Int) < x2.lo)) || (decide (x2.hi < (s11.toNat : Int)))) then (
          some (65533, 1)
        ) else (
          if (decide ((IntKind.i64.wrap (bAnd .u8 x1 7)) ≤ 2)) then (
            some ((bOr .i32 (shlC .i32 (IntKind.i32.wrap (bAnd .u8 (s01.toNat : Int) 31)) 6) (IntKind.i32.wrap (bAnd .u8 (s11.toNat : Int) 63))), 2)
          ) else (
            bnd1 (idx s1 2) fun (s21 : UInt8) =>
            if ((decide ((s21.toNat : Int) < 128)) || (decide (191 < (s21.toNat : Int)))) then (
              some (65533, 1)
            ) else (
              if (decide ((IntKind.i64.wrap (bAnd .u8 x1 7)) ≤ 3)) then (
                some ((bOr .i32 (bOr .i32 (shlC .i32 (IntKind.i32.wrap (bAnd .u8 (s01.toNat : Int) 15)) 12) (shlC .i32 (IntKind.i32.wrap (bAnd .u8 (s11.toNat : Int) 63)) 6)) (IntKind.i32.wrap (bAnd .u8 (s21.toNat : Int) 63))), 3)
              ) else (
                bnd1 (idx s1 3) fun (s31 : UInt8) =>
                if ((decide ((s31.toNat : Int) < 128)) || (decide (191 < (s31.toNat : Int)))) then (
                  some (65533, 1)
                ) else (
                  some ((bOr .i32 (bOr .i32 (bOr .i32 (shlC .i32 (IntKind.i32.wrap (bAnd .u8 (s01.toNat : Int) 7)) 18) (shlC .i32 (IntKind.i32.wrap (bAnd .u8 (s11.toNat : Int) 63)) 12)) (shlC .i32 (IntKind.i32.wrap (bAnd .u8 (s21.toNat : Int) 63)) 6)) (IntKind.i32.wrap (bAnd .u8 (s31.toNat : Int) 63))), 4)
                )
              )
            )
          )
        )
      )
    )
  )
noncomputable def unicode_utf8_DecodeRuneInString (s1 : List UInt8) : Option (Int × Int) :=
  bnd1 (gd ((!decide (s1 = [])) == true) (idx s1 0)) fun (ch1 : UInt8) =>
  if ((!decide (s1 = [])) && (decide ((ch1.toNat : Int) < 128))) then (
    bnd1 (idx s1 0) fun (ch2 : UInt8) =>
    some ((IntKind.i32.wrap (ch2.toNat : Int)), 1)
  ) else (
    bnd2 (unicode_utf8_decodeRuneInStringSlow s1) fun (r1 : Int) (r2 : Int) =>
    some (r1, r2)
  )
end Go.Proofs.YtfkolgjapajekaaDoor.Al


namespace Go.Proofs.YtfkolgjapajekaaDoor.Al
noncomputable def flow_Same_L1 (a1 : List GElem) (b1 : List GElem) (x2 : Int) : Option (Int ⊕ (Ctl Unit Bool)) :=
  if (decide (x2 < (a1.length : Int))) then (
    bnd1 (idx a1 x2) fun (x4 : GElem) =>
    bnd1 (idx b1 x2) fun (x5 : GElem) =>
    bnd1 (gd (((!decide (x4.Char = x5.Char)) || (!decide (x4.Ref = x5.Ref))) == false) (attr_Same x4.Attrs x5.Attrs)) fun (r1 : Bool) =>
    if (((!decide (x4.Char = x5.Char)) || (!decide (x4.Ref = x5.Ref))) || (!r1)) then (
      some (.inr (.ext false))
    ) else (
      bnd1 (chk .i64 (x2 + 1)) fun (x6 : Int) =>
      some (.inl x6)
    )
  ) else (
    some (.inr (.nrm ()))
  )
noncomputable def flow_Same (a1 : List GElem) (b1 : List GElem) : Option (Bool) :=
  if (!decide ((a1.length : Int) = (b1.length : Int))) then (
    some false
  ) else (
    ctl1 (iter (fun (a : Int) => flow_Same_L1 a1 b1 a) 0) fun (u2 : Unit) =>
    some true
  )
noncomputable def flow_Refs_L1 (f1 : List GElem) (x2 : Int) (out2 : List Int) : Option ((Int × (List Int)) ⊕ (List Int)) :=
  if (decide (x2 < (f1.length : Int))) then (
    bnd1 (
      bnd1 (idx f1 x2) fun (x5 : GElem) =>
      if (!decide (x5.Ref = 0)) then (
        bnd1 (app 8 out2 [x5.Ref]) fun (out6 : List Int) =>
        some out6
      ) else (
        some out2
      )
    ) fun (out5 : List Int) =>
    bnd1 (chk .i64 (x2 + 1)) fun (x4 : Int) =>
    some (.inl (x4, out5))
  ) else (
    some (.inr out2)
  )
noncomputable def flow_Refs (f1 : List GElem) : Option ((List Int)) :=
  bnd1 (iter (fun (a : Int × (List Int)) => flow_Refs_L1 f1 a.1 a.2) (0, [])) fun (out4 : List Int) =>
  some out4
end Go.Proofs.YtfkolgjapajekaaDoor.Al


namespace Go.Proofs.YtfkolgjapajekaaDoor.Al
end Go.Proofs.YtfkolgjapajekaaDoor.Al


namespace Go.Proofs.YtfkolgjapajekaaDoor.Al
structure GDoc where
  Nodes : List GNode
deriving DecidableEq
instance : Inhabited GDoc := ⟨⟨[]⟩⟩
@[reducible] def GDoc.row (x : GDoc) : List RV := [.sl (x.Nodes.map GNode.row)]
noncomputable def doc_First : Option (GDoc) :=
  some (GDoc.mk [(GNode.mk 1 0 [] [(GElem.mk 0 2 [])] (GGrid.mk 0 0 [] []) []), (GNode.mk 2 1 [] [(GElem.mk 10 0 [])] (GGrid.mk 0 0 [] []) [])])
noncomputable def doc_Texts (kind1 : Int) : Option (Bool) :=
  some ((((decide (kind1 = 1)) || (decide (kind1 = 3))) || (decide (kind1 = 4))) || (decide (kind1 = 12)))
noncomputable def doc_Lists (kind1 : Int) : Option (Bool) :=
  some ((decide (kind1 = 0)) || (decide (kind1 = 7)))
noncomputable def doc_Grids (kind1 : Int) : Option (Bool) :=
  some ((decide (kind1 = 2)) || (decide (kind1 = 6)))
noncomputable def slices_Equal_api_Rect_api_Rect_L1 (s11 : List GRect) (s21 : List GRect) (x2 : Int) : Option (Int ⊕ (Ctl Unit Bool)) :=
  if (decide (x2 < (s11.length : Int))) then (
    bnd1 (idx s11 x2) fun (x4 : GRect) =>
    bnd1 (idx s21 x2) fun (x5 : GRect) =>
    if (!(decide (x4.Row = x5.Row) && (decide (x4.Col = x5.Col) && (decide (x4.H = x5.H) && (decide (x4.W = x5.W) && true))))) then (
      some (.inr (.ext false))
    ) else (
      bnd1 (chk .i64 (x2 + 1)) fun (x6 : Int) =>
      some (.inl x6)
    )
  ) else (
    some (.inr (.nrm ()))
  )
noncomputable def slices_Equal_api_Rect_api_Rect (s11 : List GRect) (s21 : List GRect) : Option (Bool) :=
  if (!decide ((s11.length : Int) = (s21.length : Int))) then (
    some false
  ) else (
    ctl1 (iter (fun (a : Int) => slices_Equal_api_Rect_api_Rect_L1 s11 s21 a) 0) fun (u2 : Unit) =>
    some true
  )
noncomputable def grid_SameCell (a1 : GCell) (b1 : GCell) : Option (Bool) :=
  bnd1 (gd (((((decide (a1.Row = b1.Row)) && (decide (a1.Col = b1.Col))) && (decide (a1.Text = b1.Text))) && (decide (a1.Ref = b1.Ref))) == true) (attr_Same a1.Attrs b1.Attrs)) fun (r1 : Bool) =>
  some (((((decide (a1.Row = b1.Row)) && (decide (a1.Col = b1.Col))) && (decide (a1.Text = b1.Text))) && (decide (a1.Ref = b1.Ref))) && r1)
noncomputable def slices_EqualFunc_api_Cell_api_Cell_api_Cell_api_Cell__SameCell_L1 (s11 : List GCell) (s21 : List GCell) (x2 : Int) : Option (Int ⊕ (Ctl Unit Bool)) :=
  if (decide (x2 < (s11.length : Int))) then (
    bnd1 (idx s11 x2) fun (x4 : GCell) =>
    bnd1 (idx s21 x2) fun (x5 : GCell) =>
    bnd1 (grid_SameCell x4 x5) fun (r1 : Bool) =>
    if (!r1) then (
      some (.inr (.ext false))
    ) else (
      bnd1 (chk .i64 (x2 + 1)) fun (x6 : Int) =>
      some (.inl x6)
    )
  ) else (
    some (.inr (.nrm ()))
  )
noncomputable def slices_EqualFunc_api_Cell_api_Cell_api_Cell_api_Cell__SameCell (s11 : List GCell) (s21 : List GCell) : Option (Bool) :=
  if (!decide ((s11.length : Int) = (s21.length : Int))) then (
    some false
  ) else (
    ctl1 (iter (fun (a : Int) => slices_EqualFunc_api_Cell_api_Cell_api_Cell_api_Cell__SameCell_L1 s11 s21 a) 0) fun (u2 : Unit) =>
    some true
  )
noncomputable def grid_Same (a1 : GGrid) (b1 : GGrid) : Option (Bool) :=
  bnd1 (gd (((decide (a1.Rows = b1.Rows)) && (decide (a1.Cols = b1.Cols))) == true) (slices_Equal_api_Rect_api_Rect a1.Merges b1.Merges)) fun (r1 : Bool) =>
  bnd1 (gd ((((decide (a1.Rows = b1.Rows)) && (decide (a1.Cols = b1.Cols))) && r1) == true) (slices_EqualFunc_api_Cell_api_Cell_api_Cell_api_Cell__SameCell a1.Cells b1.Cells)) fun (r2 : Bool) =>
  some ((((decide (a1.Rows = b1.Rows)) && (decide (a1.Cols = b1.Cols))) && r1) && r2)
noncomputable def doc_Draws (kind1 : Int) : Option (Bool) :=
  some (((decide (kind1 = 8)) || (decide (kind1 = 9))) || (decide (kind1 = 10)))
noncomputable def grid_Text_L1 (s3 : List UInt8) : Option ((List UInt8) ⊕ (Ctl Unit Bool)) :=
  if (!decide (s3 = [])) then (
    bnd2 (unicode_utf8_DecodeRuneInString s3) fun (r1 : Int) (r2 : Int) =>
    bnd1 (gd ((((decide (r1 = 65533)) && (decide (r2 = 1))) || (decide (r1 = 10))) == false) (flow_Char (IntKind.i64.wrap r1))) fun (r3 : Bool) =>
    if ((((decide (r1 = 65533)) && (decide (r2 = 1))) || (decide (r1 = 10))) || (!r3)) then (
      some (.inr (.ext false))
    ) else (
      bnd1 (slc s3 r2 (s3.length : Int)) fun (s5 : List UInt8) =>
      some (.inl s5)
    )
  ) else (
    some (.inr (.nrm ()))
  )
noncomputable def grid_Text (s1 : List UInt8) : Option (Bool) :=
  ctl1 (iter (fun (a : (List UInt8)) => grid_Text_L1 a) s1) fun (u2 : Unit) =>
  some true
noncomputable def grid_empty (c1 : GCell) : Option (Bool) :=
  some (((decide (c1.Text = [])) && (decide (c1.Ref = 0))) && (decide ((c1.Attrs.length : Int) = 0)))
noncomputable def cmp_isNaN_int (x1 : Int) : Option (Bool) :=
  some (!decide (x1 = x1))
noncomputable def cmp_Compare_int (x1 : Int) (y1 : Int) : Option (Int) :=
  bnd1 (cmp_isNaN_int x1) fun (xNaN1 : Bool) =>
  bnd1 (cmp_isNaN_int y1) fun (yNaN1 : Bool) =>
  if xNaN1 then (
    if yNaN1 then (
      some 0
    ) else (
      some (-1)
    )
  ) else (
    if yNaN1 then (
      some 1
    ) else (
      if (decide (x1 < y1)) then (
        some (-1)
      ) else (
        if (decide (y1 < x1)) then (
          some 1
        ) else (
          some 0
        )
      )
    )
  )
noncomputable def cmp_Or_int_L1 (vals1 : List Int) (x2 : Int) : Option (Int ⊕ (Ctl Unit Int)) :=
  if (decide (x2 < (vals1.length : Int))) then (
    bnd1 (idx vals1 x2) fun (x4 : Int) =>
    if (!decide (x4 = 0)) then (
      some (.inr (.ext x4))
    ) else (
      bnd1 (chk .i64 (x2 + 1)) fun (x5 : Int) =>
      some (.inl x5)
    )
  ) else (
    some (.inr (.nrm ()))
  )
noncomputable def cmp_Or_int (vals1 : List Int) : Option (Int) :=
  ctl1 (iter (fun (a : Int) => cmp_Or_int_L1 vals1 a) 0) fun (u2 : Unit) =>
  some 0
noncomputable def grid_order (a1 : GCell) (b1 : GCell) : Option (Int) :=
  bnd1 (cmp_Compare_int a1.Row b1.Row) fun (r1 : Int) =>
  bnd1 (cmp_Compare_int a1.Col b1.Col) fun (r2 : Int) =>
  bnd1 (cmp_Or_int [r1, r2]) fun (r3 : Int) =>
  some r3
noncomputable def grid_cells_L1 (l1 : List GCell) (rows1 : Int) (cols1 : Int) (none1 : Bool) (x2 : Int) : Option (Int ⊕ (Ctl Unit Int)) :=
  if (decide (x2 < (l1.length : Int))) then (
    bnd1 (idx l1 x2) fun (x4 : GCell) =>
    if ((((decide (x4.Row < 0)) || (decide (rows1 ≤ x4.Row))) || (decide (x4.Col < 0))) || (decide (cols1 ≤ x4.Col))) then (
      some (.inr (.ext 2))
    ) else (
      if ((decide (x4.Ref < 0)) || (decide (1073741824 < x4.Ref))) then (
        some (.inr (.ext 2))
      ) else (
        bnd1 (grid_Text x4.Text) fun (r1 : Bool) =>
        if (!r1) then (
          some (.inr (.ext 23))
        ) else (
          bnd1 (attr_Check x4.Attrs) fun (e1 : Int) =>
          if (!decide (e1 = 0)) then (
            some (.inr (.ext e1))
          ) else (
            bnd1 (grid_empty x4) fun (r2 : Bool) =>
            if (r2 && (!none1)) then (
              some (.inr (.ext 4))
            ) else (
              bnd1 (gd ((decide (0 < x2)) == true) (chk .i64 (x2 - 1))) fun (x5 : Int) =>
              bnd1 (gd ((decide (0 < x2)) == true) (idx l1 x5)) fun (x6 : GCell) =>
              bnd1 (gd ((decide (0 < x2)) == true) (grid_order x6 x4)) fun (r3 : Int) =>
              if ((decide (0 < x2)) && (decide (0 ≤ r3))) then (
                some (.inr (.ext 5))
              ) else (
                bnd1 (chk .i64 (x2 + 1)) fun (x7 : Int) =>
                some (.inl x7)
              )
            )
          )
        )
      )
    )
  ) else (
    some (.inr (.nrm ()))
  )
noncomputable def grid_cells (l1 : List GCell) (rows1 : Int) (cols1 : Int) (none1 : Bool) : Option (Int) :=
  ctl1 (iter (fun (a : Int) => grid_cells_L1 l1 rows1 cols1 none1 a) 0) fun (u2 : Unit) =>
  some 0
noncomputable def grid_inside (r1 : GRect) (rows1 : Int) (cols1 : Int) : Option (Bool) :=
  bnd1 (gd (((((((decide (0 ≤ r1.Row)) && (decide (0 ≤ r1.Col))) && (decide (1 ≤ r1.H))) && (decide (1 ≤ r1.W))) && (decide (r1.Row < rows1))) && (decide (r1.Col < cols1))) == true) (chk .i64 (rows1 - r1.Row))) fun (x1 : Int) =>
  bnd1 (gd ((((((((decide (0 ≤ r1.Row)) && (decide (0 ≤ r1.Col))) && (decide (1 ≤ r1.H))) && (decide (1 ≤ r1.W))) && (decide (r1.Row < rows1))) && (decide (r1.Col < cols1))) && (decide (r1.H ≤ x1))) == true) (chk .i64 (cols1 - r1.Col))) fun (x2 : Int) =>
  some ((((((((decide (0 ≤ r1.Row)) && (decide (0 ≤ r1.Col))) && (decide (1 ≤ r1.H))) && (decide (1 ≤ r1.W))) && (decide (r1.Row < rows1))) && (decide (r1.Col < cols1))) && (decide (r1.H ≤ x1))) && (decide (r1.W ≤ x2)))
noncomputable def grid_before (a1 : GRect) (b1 : GRect) : Option (Bool) :=
  some ((decide (a1.Row < b1.Row)) || ((decide (a1.Row = b1.Row)) && (decide (a1.Col < b1.Col))))
noncomputable def grid_meets (a1 : GRect) (b1 : GRect) : Option (Bool) :=
  bnd1 (chk .i64 (b1.Row + b1.H)) fun (x1 : Int) =>
  bnd1 (gd ((decide (a1.Row < x1)) == true) (chk .i64 (a1.Row + a1.H))) fun (x2 : Int) =>
  bnd1 (gd (((decide (a1.Row < x1)) && (decide (b1.Row < x2))) == true) (chk .i64 (b1.Col + b1.W))) fun (x3 : Int) =>
  bnd1 (gd ((((decide (a1.Row < x1)) && (decide (b1.Row < x2))) && (decide (a1.Col < x3))) == true) (chk .i64 (a1.Col + a1.W))) fun (x4 : Int) =>
  some ((((decide (a1.Row < x1)) && (decide (b1.Row < x2))) && (decide (a1.Col < x3))) && (decide (b1.Col < x4)))
noncomputable def grid_Check_f1 (w1 : GRect) (q1 : GRect) : Option (Bool) :=
  bnd1 (grid_meets q1 w1) fun (r1 : Bool) =>
  some r1
noncomputable def slices_IndexFunc_api_Rect_api_Rect__Check_f1_L1 (w1 : GRect) (s1 : List GRect) (x2 : Int) : Option (Int ⊕ (Ctl Unit Int)) :=
  if (decide (x2 < (s1.length : Int))) then (
    bnd1 (idx s1 x2) fun (x4 : GRect) =>
    bnd1 (grid_Check_f1 w1 x4) fun (r1 : Bool) =>
    if r1 then (
      some (.inr (.ext x2))
    ) else (
      bnd1 (chk .i64 (x2 + 1)) fun (x5 : Int) =>
      some (.inl x5)
    )
  ) else (
    some (.inr (.nrm ()))
  )
noncomputable def slices_IndexFunc_api_Rect_api_Rect__Check_f1 (w1 : GRect) (s1 : List GRect) : Option (Int) :=
  ctl1 (iter (fun (a : Int) => slices_IndexFunc_api_Rect_api_Rect__Check_f1_L1 w1 s1 a) 0) fun (u2 : Unit) =>
  some (-1)
noncomputable def slices_ContainsFunc_api_Rect_api_Rect__Check_f1 (w1 : GRect) (s1 : List GRect) : Option (Bool) :=
  bnd1 (slices_IndexFunc_api_Rect_api_Rect__Check_f1 w1 s1) fun (r1 : Int) =>
  some (decide (0 ≤ r1))
noncomputable def grid_Check_L1 (g1 : GGrid) (x2 : Int) : Option (Int ⊕ (Ctl Unit Int)) :=
  if (decide (x2 < (g1.Merges.length : Int))) then (
    bnd1 (idx g1.Merges x2) fun (x4 : GRect) =>
    bnd1 (grid_inside x4 g1.Rows g1.Cols) fun (r1 : Bool) =>
    if (!r1) then (
      some (.inr (.ext 2))
    ) else (
      if ((decide (x4.H = 1)) && (decide (x4.W = 1))) then (
        some (.inr (.ext 4))
      ) else (
        bnd1 (gd ((decide (0 < x2)) == true) (chk .i64 (x2 - 1))) fun (x5 : Int) =>
        bnd1 (gd ((decide (0 < x2)) == true) (idx g1.Merges x5)) fun (x6 : GRect) =>
        bnd1 (gd ((decide (0 < x2)) == true) (grid_before x6 x4)) fun (r2 : Bool) =>
        if ((decide (0 < x2)) && (!r2)) then (
          some (.inr (.ext 5))
        ) else (
          bnd1 (slc g1.Merges 0 x2) fun (l1 : List GRect) =>
          bnd1 (slices_ContainsFunc_api_Rect_api_Rect__Check_f1 x4 l1) fun (r3 : Bool) =>
          if r3 then (
            some (.inr (.ext 21))
          ) else (
            bnd1 (chk .i64 (x2 + 1)) fun (x7 : Int) =>
            some (.inl x7)
          )
        )
      )
    )
  ) else (
    some (.inr (.nrm ()))
  )
noncomputable def grid_Check (g1 : GGrid) : Option (Int) :=
  if ((((decide (g1.Rows < 0)) || (decide (2147483647 < g1.Rows))) || (decide (g1.Cols < 0))) || (decide (2147483647 < g1.Cols))) then (
    some 2
  ) else (
    bnd1 (grid_cells g1.Cells g1.Rows g1.Cols false) fun (e1 : Int) =>
    if (!decide (e1 = 0)) then (
      some e1
    ) else (
      ctl1 (iter (fun (a : Int) => grid_Check_L1 g1 a) 0) fun (u2 : Unit) =>
      some 0
    )
  )
noncomputable def doc_CheckCells_L1 (kind1 : Int) (l1 : List GCell) (x2 : Int) : Option (Int ⊕ (Ctl Unit Int)) :=
  if (decide (x2 < (l1.length : Int))) then (
    bnd1 (idx l1 x2) fun (x4 : GCell) =>
    if (((decide (kind1 = 2)) && ((!decide (x4.Text = [])) || (decide (0 < (x4.Attrs.length : Int))))) || ((decide (kind1 = 6)) && (!decide (x4.Ref = 0)))) then (
      some (.inr (.ext 4))
    ) else (
      bnd1 (chk .i64 (x2 + 1)) fun (x5 : Int) =>
      some (.inl x5)
    )
  ) else (
    some (.inr (.nrm ()))
  )
noncomputable def doc_CheckCells (kind1 : Int) (l1 : List GCell) : Option (Int) :=
  ctl1 (iter (fun (a : Int) => doc_CheckCells_L1 kind1 l1 a) 0) fun (u2 : Unit) =>
  some 0
noncomputable def replica_Place_L1 (s1 : List UInt8) (x3 : Int) : Option (Int ⊕ (Ctl Unit Bool)) :=
  if (decide (x3 < (s1.length : Int))) then (
    bnd1 (idx s1 x3) fun (ch2 : UInt8) =>
    if ((decide ((ch2.toNat : Int) < 97)) || (decide (122 < (ch2.toNat : Int)))) then (
      some (.inr (.ext false))
    ) else (
      bnd1 (chk .i64 (x3 + 1)) fun (x5 : Int) =>
      some (.inl x5)
    )
  ) else (
    some (.inr (.nrm ()))
  )
noncomputable def replica_Place (s1 : List UInt8) : Option (Bool) :=
  bnd1 (gd (((decide (s1 = [])) || (decide (200 < (s1.length : Int)))) == false) (chk .i64 ((s1.length : Int) - 1))) fun (x1 : Int) =>
  bnd1 (gd (((decide (s1 = [])) || (decide (200 < (s1.length : Int)))) == false) (idx s1 x1)) fun (ch1 : UInt8) =>
  if (((decide (s1 = [])) || (decide (200 < (s1.length : Int)))) || (decide ((ch1.toNat : Int) = 97))) then (
    some false
  ) else (
    ctl1 (iter (fun (a : Int) => replica_Place_L1 s1 a) 0) fun (u2 : Unit) =>
    some true
  )
noncomputable def replica_op (o1 : GDrawOp) : Option (Int) :=
  if ((!decide (o1.Kind = 0)) && (!decide (o1.Kind = 1))) then (
    some 8
  ) else (
    if ((((((decide (o1.Clock < 1)) || (decide (1073741824 < o1.Clock))) || (decide (o1.Site < 0))) || (decide (1000 < o1.Site))) || (decide (o1.Item < 1))) || (decide (1073741824 < o1.Item))) then (
      some 2
    ) else (
      bnd1 (
        if ((decide (o1.Kind = 0)) && ((!decide (o1.Name = [])) || (!decide (o1.Value = [])))) then (
          some ((decide (o1.Kind = 0)) && ((!decide (o1.Name = [])) || (!decide (o1.Value = []))))
        ) else (
          some ((decide (o1.Kind = 1)) && ((!decide (o1.Parent = 0)) || (!decide (o1.Place = []))))
        )
      ) fun (x1 : Bool) =>
      if x1 then (
        some 4
      ) else (
        if ((decide (o1.Kind = 0)) && ((decide (o1.Parent < (-1))) || (decide (1073741824 < o1.Parent)))) then (
          some 2
        ) else (
          bnd1 (gd ((decide (o1.Kind = 0)) == true) (replica_Place o1.Place)) fun (r1 : Bool) =>
          bnd1 (
            if ((decide (o1.Kind = 0)) && (!r1)) then (
              some ((decide (o1.Kind = 0)) && (!r1))
            ) else (
              bnd1 (gd ((decide (o1.Kind = 1)) == true) (attr_Name o1.Name)) fun (r3 : Bool) =>
              some ((decide (o1.Kind = 1)) && (!r3))
            )
          ) fun (x2 : Bool) =>
          if x2 then (
            some 9
          ) else (
            bnd1 (gd (((decide (o1.Kind = 1)) && (!decide (o1.Value = []))) == true) (attr_Value o1.Value)) fun (r2 : Bool) =>
            if (((decide (o1.Kind = 1)) && (!decide (o1.Value = []))) && (!r2)) then (
              some 23
            ) else (
              some 0
            )
          )
        )
      )
    )
  )
noncomputable def replica_stamps (a1 : GDrawOp) (b1 : GDrawOp) : Option (Int) :=
  bnd1 (cmp_Compare_int a1.Clock b1.Clock) fun (r1 : Int) =>
  bnd1 (cmp_Compare_int a1.Site b1.Site) fun (r2 : Int) =>
  bnd1 (cmp_Or_int [r1, r2]) fun (r3 : Int) =>
  some r3
noncomputable def replica_Check_L1 (l1 : List GDrawOp) (x2 : Int) : Option (Int ⊕ (Ctl Unit Int)) :=
  if (decide (x2 < (l1.length : Int))) then (
    bnd1 (idx l1 x2) fun (x4 : GDrawOp) =>
    bnd1 (replica_op x4) fun (e1 : Int) =>
    if (!decide (e1 = 0)) then (
      some (.inr (.ext e1))
    ) else (
      bnd1 (gd ((decide (0 < x2)) == true) (chk .i64 (x2 - 1))) fun (x5 : Int) =>
      bnd1 (gd ((decide (0 < x2)) == true) (idx l1 x5)) fun (x6 : GDrawOp) =>
      bnd1 (gd ((decide (0 < x2)) == true) (replica_stamps x6 x4)) fun (r1 : Int) =>
      if ((decide (0 < x2)) && (decide (0 ≤ r1))) then (
        some (.inr (.ext 5))
      ) else (
        bnd1 (chk .i64 (x2 + 1)) fun (x7 : Int) =>
        some (.inl x7)
      )
    )
  ) else (
    some (.inr (.nrm ()))
  )
noncomputable def replica_Check (l1 : List GDrawOp) : Option (Int) :=
  ctl1 (iter (fun (a : Int) => replica_Check_L1 l1 a) 0) fun (u2 : Unit) =>
  some 0
noncomputable def doc_CheckNode (n1 : GNode) : Option (Int) :=
  if ((decide (n1.ID < 1)) || (decide (1073741824 < n1.ID))) then (
    some 2
  ) else (
    if (((decide (n1.Kind < 0)) || (decide (13 ≤ n1.Kind))) || (!((decide (n1.ID = 1)) == (decide (n1.Kind = 0))))) then (
      some 8
    ) else (
      bnd1 (attr_Check n1.Attrs) fun (e1 : Int) =>
      if (!decide (e1 = 0)) then (
        some e1
      ) else (
        bnd1 (doc_Texts n1.Kind) fun (r1 : Bool) =>
        bnd1 (gd (r1 == false) (doc_Lists n1.Kind)) fun (r2 : Bool) =>
        bnd1 (doc_Grids n1.Kind) fun (grids1 : Bool) =>
        bnd1 (
          if (((!(r1 || r2)) && (decide (0 < (n1.Flow.length : Int)))) == false) then (
            if ((!grids1) == true) then (
              bnd1 (grid_Same n1.Grid (GGrid.mk 0 0 [] [])) fun (r7 : Bool) =>
              bnd1 (gd ((((!(r1 || r2)) && (decide (0 < (n1.Flow.length : Int)))) || ((!grids1) && (!r7))) == false) (doc_Draws n1.Kind)) fun (r8 : Bool) =>
              some ((((!(r1 || r2)) && (decide (0 < (n1.Flow.length : Int)))) || ((!grids1) && (!r7))) || ((!r8) && (decide (0 < (n1.Draw.length : Int)))))
            ) else (
              bnd1 (gd ((((!(r1 || r2)) && (decide (0 < (n1.Flow.length : Int)))) || ((!grids1) && false)) == false) (doc_Draws n1.Kind)) fun (r9 : Bool) =>
              some ((((!(r1 || r2)) && (decide (0 < (n1.Flow.length : Int)))) || ((!grids1) && false)) || ((!r9) && (decide (0 < (n1.Draw.length : Int)))))
            )
          ) else (
            bnd1 (gd ((((!(r1 || r2)) && (decide (0 < (n1.Flow.length : Int)))) || false) == false) (doc_Draws n1.Kind)) fun (r10 : Bool) =>
            some ((((!(r1 || r2)) && (decide (0 < (n1.Flow.length : Int)))) || false) || ((!r10) && (decide (0 < (n1.Draw.length : Int)))))
          )
        ) fun (x1 : Bool) =>
        if x1 then (
          some 4
        ) else (
          if (r1 || r2) then (
            bnd1 (flow_Check n1.Flow r1) fun (r4 : Int) =>
            some r4
          ) else (
            if grids1 then (
              bnd1 (grid_Check n1.Grid) fun (e2 : Int) =>
              if (!decide (e2 = 0)) then (
                some e2
              ) else (
                bnd1 (doc_CheckCells n1.Kind n1.Grid.Cells) fun (r5 : Int) =>
                some r5
              )
            ) else (
              bnd1 (replica_Check n1.Draw) fun (r6 : Int) =>
              some r6
            )
          )
        )
      )
    )
  )
noncomputable def flow_Refs_o_L1 (f1 : List GElem) (x2 : Int) (out2 : List Int) : Option ((Int × (List Int)) ⊕ (List Int)) :=
  if (decide (x2 < (f1.length : Int))) then (
    bnd1 (
      bnd1 (idx f1 x2) fun (x5 : GElem) =>
      if (!decide (x5.Ref = 0)) then (
        bnd1 (app 8 out2 [x5.Ref]) fun (out6 : List Int) =>
        some out6
      ) else (
        some out2
      )
    ) fun (out5 : List Int) =>
    bnd1 (chk .i64 (x2 + 1)) fun (x4 : Int) =>
    some (.inl (x4, out5))
  ) else (
    some (.inr out2)
  )
noncomputable def flow_Refs_o (f1 : List GElem) : Option ((List Int)) :=
  bnd1 (iter (fun (a : Int × (List Int)) => flow_Refs_o_L1 f1 a.1 a.2) (0, [])) fun (out4 : List Int) =>
  some out4
noncomputable def doc_Refs_L1 (n1 : GNode) (x2 : Int) (out2 : List Int) : Option ((Int × (List Int)) ⊕ (List Int)) :=
  if (decide (x2 < (n1.Grid.Cells.length : Int))) then (
    bnd1 (
      bnd1 (idx n1.Grid.Cells x2) fun (x5 : GCell) =>
      if (!decide (x5.Ref = 0)) then (
        bnd1 (app 8 out2 [x5.Ref]) fun (out6 : List Int) =>
        some out6
      ) else (
        some out2
      )
    ) fun (out5 : List Int) =>
    bnd1 (chk .i64 (x2 + 1)) fun (x4 : Int) =>
    some (.inl (x4, out5))
  ) else (
    some (.inr out2)
  )
noncomputable def doc_Refs (n1 : GNode) : Option ((List Int)) :=
  bnd1 (flow_Refs_o n1.Flow) fun (w1 : List Int) =>
  bnd1 (iter (fun (a : Int × (List Int)) => doc_Refs_L1 n1 a.1 a.2) (0, w1)) fun (out4 : List Int) =>
  some out4
noncomputable def doc_find_f1 (n1 : GNode) (id1 : Int) : Option (Int) :=
  if (decide (n1.ID < id1)) then (
    some (-1)
  ) else (
    if (decide (id1 < n1.ID)) then (
      some 1
    ) else (
      some 0
    )
  )
noncomputable def slices_BinarySearchFunc_api_Node_api_Node_int__find_f1_L1 (x1 : List GNode) (target1 : Int) (i4 : Int) (j2 : Int) : Option ((Int × Int) ⊕ Int) :=
  if (decide (i4 < j2)) then (
    bnd1 (chk .i64 (i4 + j2)) fun (x3 : Int) =>
    bnd1 (idx x1 (IntKind.i64.wrap (shrC .u64 (IntKind.u64.wrap x3) 1))) fun (x4 : GNode) =>
    bnd1 (doc_find_f1 x4 target1) fun (r2 : Int) =>
    if (decide (r2 < 0)) then (
      bnd1 (chk .i64 ((IntKind.i64.wrap (shrC .u64 (IntKind.u64.wrap x3) 1)) + 1)) fun (i10 : Int) =>
      some (.inl (i10, j2))
    ) else (
      some (.inl (i4, (IntKind.i64.wrap (shrC .u64 (IntKind.u64.wrap x3) 1))))
    )
  ) else (
    some (.inr i4)
  )
noncomputable def slices_BinarySearchFunc_api_Node_api_Node_int__find_f1 (x1 : List GNode) (target1 : Int) : Option (Int × Bool) :=
  bnd1 (iter (fun (a : Int × Int) => slices_BinarySearchFunc_api_Node_api_Node_int__find_f1_L1 x1 target1 a.1 a.2) (0, (x1.length : Int))) fun (i8 : Int) =>
  bnd1 (gd ((decide (i8 < (x1.length : Int))) == true) (idx x1 i8)) fun (x2 : GNode) =>
  bnd1 (gd ((decide (i8 < (x1.length : Int))) == true) (doc_find_f1 x2 target1)) fun (r1 : Int) =>
  some (i8, ((decide (i8 < (x1.length : Int))) && (decide (r1 = 0))))
noncomputable def doc_find (d1 : GDoc) (id1 : Int) : Option (Int × Bool) :=
  bnd2 (slices_BinarySearchFunc_api_Node_api_Node_int__find_f1 d1.Nodes id1) fun (r1 : Int) (r2 : Bool) =>
  some (r1, r2)
noncomputable def slices_Index_int_int_L1 (s1 : List Int) (v1 : Int) (x2 : Int) : Option (Int ⊕ (Ctl Unit Int)) :=
  if (decide (x2 < (s1.length : Int))) then (
    bnd1 (idx s1 x2) fun (x4 : Int) =>
    if (decide (v1 = x4)) then (
      some (.inr (.ext x2))
    ) else (
      bnd1 (chk .i64 (x2 + 1)) fun (x5 : Int) =>
      some (.inl x5)
    )
  ) else (
    some (.inr (.nrm ()))
  )
noncomputable def slices_Index_int_int (s1 : List Int) (v1 : Int) : Option (Int) :=
  ctl1 (iter (fun (a : Int) => slices_Index_int_int_L1 s1 v1 a) 0) fun (u2 : Unit) =>
  some (-1)
noncomputable def slices_Contains_int_int (s1 : List Int) (v1 : Int) : Option (Bool) :=
  bnd1 (slices_Index_int_int s1 v1) fun (r1 : Int) =>
  some (decide (0 ≤ r1))
noncomputable def doc_Permitted (parent1 : Int) (kid1 : Int) : Option (Bool) :=
  bnd1 (
    if (decide (parent1 = 0)) then (
      some [1, 6, 7, 10, 11, 12]
    ) else (
      if (decide (parent1 = 1)) then (
        some [2, 4, 5, 10]
      ) else (
        if (decide (parent1 = 3)) then (
          some [4, 5, 10]
        ) else (
          bnd1 (
            if (decide (parent1 = 4)) then (
              some (decide (parent1 = 4))
            ) else (
              some (decide (parent1 = 12))
            )
          ) fun (x1 : Bool) =>
          if x1 then (
            some [5]
          ) else (
            if (decide (parent1 = 2)) then (
              some [3]
            ) else (
              if (decide (parent1 = 7)) then (
                some [8, 9]
              ) else (
                some []
              )
            )
          )
        )
      )
    )
  ) fun (l1 : List Int) =>
  bnd1 (slices_Contains_int_int l1 kid1) fun (r1 : Bool) =>
  some r1
noncomputable def doc_CheckRefs_L1 (d1 : GDoc) (kind1 : Int) (refs1 : List Int) (x2 : Int) : Option (Int ⊕ (Ctl Unit Int)) :=
  if (decide (x2 < (refs1.length : Int))) then (
    bnd1 (idx refs1 x2) fun (x4 : Int) =>
    bnd2 (doc_find d1 x4) fun (r1 : Int) (r2 : Bool) =>
    if (!r2) then (
      some (.inr (.ext 7))
    ) else (
      bnd1 (idx d1.Nodes r1) fun (x5 : GNode) =>
      bnd1 (doc_Permitted kind1 x5.Kind) fun (r3 : Bool) =>
      if (!r3) then (
        some (.inr (.ext 8))
      ) else (
        bnd1 (chk .i64 (x2 + 1)) fun (x6 : Int) =>
        some (.inl x6)
      )
    )
  ) else (
    some (.inr (.nrm ()))
  )
noncomputable def doc_CheckRefs (d1 : GDoc) (kind1 : Int) (refs1 : List Int) : Option (Int) :=
  ctl1 (iter (fun (a : Int) => doc_CheckRefs_L1 d1 kind1 refs1 a) 0) fun (u2 : Unit) =>
  some 0
noncomputable def doc_Check_L2 (d1 : GDoc) (x5 : Int) : Option (Int ⊕ (Ctl Unit Int)) :=
  if (decide (x5 < (d1.Nodes.length : Int))) then (
    bnd1 (idx d1.Nodes x5) fun (x7 : GNode) =>
    bnd1 (doc_Refs x7) fun (r1 : List Int) =>
    bnd1 (doc_CheckRefs d1 x7.Kind r1) fun (e1 : Int) =>
    if (!decide (e1 = 0)) then (
      some (.inr (.ext e1))
    ) else (
      bnd1 (chk .i64 (x5 + 1)) fun (x8 : Int) =>
      some (.inl x8)
    )
  ) else (
    some (.inr (.nrm ()))
  )
noncomputable def doc_Check_L1 (d1 : GDoc) (x2 : Int) : Option (Int ⊕ (Ctl Unit Int)) :=
  if (decide (x2 < (d1.Nodes.length : Int))) then (
    bnd1 (idx d1.Nodes x2) fun (x9 : GNode) =>
    bnd1 (doc_CheckNode x9) fun (e2 : Int) =>
    if (!decide (e2 = 0)) then (
      some (.inr (.ext e2))
    ) else (
      bnd1 (gd ((((decide (x2 = 0)) && (!decide (x9.ID = 1))) == false) && ((decide (0 < x2)) == true)) (chk .i64 (x2 - 1))) fun (x10 : Int) =>
      bnd1 (gd ((((decide (x2 = 0)) && (!decide (x9.ID = 1))) == false) && ((decide (0 < x2)) == true)) (idx d1.Nodes x10)) fun (x11 : GNode) =>
      if (((decide (x2 = 0)) && (!decide (x9.ID = 1))) || ((decide (0 < x2)) && (decide (x9.ID ≤ x11.ID)))) then (
        some (.inr (.ext 5))
      ) else (
        bnd1 (chk .i64 (x2 + 1)) fun (x12 : Int) =>
        some (.inl x12)
      )
    )
  ) else (
    some (.inr (.nrm ()))
  )
noncomputable def doc_Check (d1 : GDoc) : Option (Int) :=
  if (decide ((d1.Nodes.length : Int) = 0)) then (
    some 11
  ) else (
    ctl1 (iter (fun (a : Int) => doc_Check_L1 d1 a) 0) fun (u2 : Unit) =>
    ctl1 (iter (fun (a : Int) => doc_Check_L2 d1 a) 0) fun (u4 : Unit) =>
    some 0
  )
noncomputable def law_simple (f1 : List GElem) : Option (GDoc) :=
  some (GDoc.mk [(GNode.mk 1 0 [] [(GElem.mk 0 2 [])] (GGrid.mk 0 0 [] []) []), (GNode.mk 2 1 [] f1 (GGrid.mk 0 0 [] []) [])])
noncomputable def ref_SameCell (a1 : GCell) (b1 : GCell) : Option (Bool) :=
  bnd1 (gd (((((decide (a1.Row = b1.Row)) && (decide (a1.Col = b1.Col))) && (decide (a1.Text = b1.Text))) && (decide (a1.Ref = b1.Ref))) == true) (ref_SameAttrs a1.Attrs b1.Attrs)) fun (r1 : Bool) =>
  some (((((decide (a1.Row = b1.Row)) && (decide (a1.Col = b1.Col))) && (decide (a1.Text = b1.Text))) && (decide (a1.Ref = b1.Ref))) && r1)
noncomputable def ref_SameCells_L1 (a1 : List GCell) (b1 : List GCell) (x2 : Int) : Option (Int ⊕ (Ctl Unit Bool)) :=
  if (decide (x2 < (a1.length : Int))) then (
    bnd1 (idx a1 x2) fun (x4 : GCell) =>
    bnd1 (idx b1 x2) fun (x5 : GCell) =>
    bnd1 (ref_SameCell x4 x5) fun (r1 : Bool) =>
    if (!r1) then (
      some (.inr (.ext false))
    ) else (
      bnd1 (chk .i64 (x2 + 1)) fun (x6 : Int) =>
      some (.inl x6)
    )
  ) else (
    some (.inr (.nrm ()))
  )
noncomputable def ref_SameCells (a1 : List GCell) (b1 : List GCell) : Option (Bool) :=
  if (!decide ((a1.length : Int) = (b1.length : Int))) then (
    some false
  ) else (
    ctl1 (iter (fun (a : Int) => ref_SameCells_L1 a1 b1 a) 0) fun (u2 : Unit) =>
    some true
  )
noncomputable def ref_SameRects_L1 (a1 : List GRect) (b1 : List GRect) (x2 : Int) : Option (Int ⊕ (Ctl Unit Bool)) :=
  if (decide (x2 < (a1.length : Int))) then (
    bnd1 (idx a1 x2) fun (x4 : GRect) =>
    bnd1 (idx b1 x2) fun (x5 : GRect) =>
    if (!(decide (x4.Row = x5.Row) && (decide (x4.Col = x5.Col) && (decide (x4.H = x5.H) && (decide (x4.W = x5.W) && true))))) then (
      some (.inr (.ext false))
    ) else (
      bnd1 (chk .i64 (x2 + 1)) fun (x6 : Int) =>
      some (.inl x6)
    )
  ) else (
    some (.inr (.nrm ()))
  )
noncomputable def ref_SameRects (a1 : List GRect) (b1 : List GRect) : Option (Bool) :=
  if (!decide ((a1.length : Int) = (b1.length : Int))) then (
    some false
  ) else (
    ctl1 (iter (fun (a : Int) => ref_SameRects_L1 a1 b1 a) 0) fun (u2 : Unit) =>
    some true
  )
noncomputable def ref_SameGrid (a1 : GGrid) (b1 : GGrid) : Option (Bool) :=
  bnd1 (gd (((decide (a1.Rows = b1.Rows)) && (decide (a1.Cols = b1.Cols))) == true) (ref_SameCells a1.Cells b1.Cells)) fun (r1 : Bool) =>
  bnd1 (gd ((((decide (a1.Rows = b1.Rows)) && (decide (a1.Cols = b1.Cols))) && r1) == true) (ref_SameRects a1.Merges b1.Merges)) fun (r2 : Bool) =>
  some ((((decide (a1.Rows = b1.Rows)) && (decide (a1.Cols = b1.Cols))) && r1) && r2)
noncomputable def ref_SameOps_L1 (a1 : List GDrawOp) (b1 : List GDrawOp) (x2 : Int) : Option (Int ⊕ (Ctl Unit Bool)) :=
  if (decide (x2 < (a1.length : Int))) then (
    bnd1 (idx a1 x2) fun (x4 : GDrawOp) =>
    bnd1 (idx b1 x2) fun (x5 : GDrawOp) =>
    if (!(decide (x4.Clock = x5.Clock) && (decide (x4.Site = x5.Site) && (decide (x4.Kind = x5.Kind) && (decide (x4.Item = x5.Item) && (decide (x4.Parent = x5.Parent) && (decide (x4.Place = x5.Place) && (decide (x4.Name = x5.Name) && (decide (x4.Value = x5.Value) && true))))))))) then (
      some (.inr (.ext false))
    ) else (
      bnd1 (chk .i64 (x2 + 1)) fun (x6 : Int) =>
      some (.inl x6)
    )
  ) else (
    some (.inr (.nrm ()))
  )
noncomputable def ref_SameOps (a1 : List GDrawOp) (b1 : List GDrawOp) : Option (Bool) :=
  if (!decide ((a1.length : Int) = (b1.length : Int))) then (
    some false
  ) else (
    ctl1 (iter (fun (a : Int) => ref_SameOps_L1 a1 b1 a) 0) fun (u2 : Unit) =>
    some true
  )
noncomputable def ref_SameNode (a1 : GNode) (b1 : GNode) : Option (Bool) :=
  bnd1 (gd (((decide (a1.ID = b1.ID)) && (decide (a1.Kind = b1.Kind))) == true) (ref_SameAttrs a1.Attrs b1.Attrs)) fun (r1 : Bool) =>
  bnd1 (gd ((((decide (a1.ID = b1.ID)) && (decide (a1.Kind = b1.Kind))) && r1) == true) (ref_SameFlow a1.Flow b1.Flow)) fun (r2 : Bool) =>
  bnd1 (gd (((((decide (a1.ID = b1.ID)) && (decide (a1.Kind = b1.Kind))) && r1) && r2) == true) (ref_SameGrid a1.Grid b1.Grid)) fun (r3 : Bool) =>
  bnd1 (gd ((((((decide (a1.ID = b1.ID)) && (decide (a1.Kind = b1.Kind))) && r1) && r2) && r3) == true) (ref_SameOps a1.Draw b1.Draw)) fun (r4 : Bool) =>
  some ((((((decide (a1.ID = b1.ID)) && (decide (a1.Kind = b1.Kind))) && r1) && r2) && r3) && r4)
noncomputable def ref_SameDoc_L1 (a1 : GDoc) (b1 : GDoc) (x2 : Int) : Option (Int ⊕ (Ctl Unit Bool)) :=
  if (decide (x2 < (a1.Nodes.length : Int))) then (
    bnd1 (idx a1.Nodes x2) fun (x4 : GNode) =>
    bnd1 (idx b1.Nodes x2) fun (x5 : GNode) =>
    bnd1 (ref_SameNode x4 x5) fun (r1 : Bool) =>
    if (!r1) then (
      some (.inr (.ext false))
    ) else (
      bnd1 (chk .i64 (x2 + 1)) fun (x6 : Int) =>
      some (.inl x6)
    )
  ) else (
    some (.inr (.nrm ()))
  )
noncomputable def ref_SameDoc (a1 : GDoc) (b1 : GDoc) : Option (Bool) :=
  if (!decide ((a1.Nodes.length : Int) = (b1.Nodes.length : Int))) then (
    some false
  ) else (
    ctl1 (iter (fun (a : Int) => ref_SameDoc_L1 a1 b1 a) 0) fun (u2 : Unit) =>
    some true
  )
noncomputable def law_docs : Option (Bool) :=
  bnd1 (doc_First) fun (r1 : GDoc) =>
  bnd1 (doc_Check r1) fun (r2 : Int) =>
  bnd1 (
    if ((decide (r2 = 0)) == true) then (
      bnd1 (law_end) fun (r4 : GElem) =>
      bnd1 (law_simple [r4]) fun (r5 : GDoc) =>
      bnd1 (ref_SameDoc r1 r5) fun (r6 : Bool) =>
      some ((decide (r2 = 0)) && r6)
    ) else (
      some ((decide (r2 = 0)) && false)
    )
  ) fun (x1 : Bool) =>
  some x1
noncomputable def slices_Equal_api_DrawOp_api_DrawOp_L1 (s11 : List GDrawOp) (s21 : List GDrawOp) (x2 : Int) : Option (Int ⊕ (Ctl Unit Bool)) :=
  if (decide (x2 < (s11.length : Int))) then (
    bnd1 (idx s11 x2) fun (x4 : GDrawOp) =>
    bnd1 (idx s21 x2) fun (x5 : GDrawOp) =>
    if (!(decide (x4.Clock = x5.Clock) && (decide (x4.Site = x5.Site) && (decide (x4.Kind = x5.Kind) && (decide (x4.Item = x5.Item) && (decide (x4.Parent = x5.Parent) && (decide (x4.Place = x5.Place) && (decide (x4.Name = x5.Name) && (decide (x4.Value = x5.Value) && true))))))))) then (
      some (.inr (.ext false))
    ) else (
      bnd1 (chk .i64 (x2 + 1)) fun (x6 : Int) =>
      some (.inl x6)
    )
  ) else (
    some (.inr (.nrm ()))
  )
noncomputable def slices_Equal_api_DrawOp_api_DrawOp (s11 : List GDrawOp) (s21 : List GDrawOp) : Option (Bool) :=
  if (!decide ((s11.length : Int) = (s21.length : Int))) then (
    some false
  ) else (
    ctl1 (iter (fun (a : Int) => slices_Equal_api_DrawOp_api_DrawOp_L1 s11 s21 a) 0) fun (u2 : Unit) =>
    some true
  )
noncomputable def doc_SameNode (a1 : GNode) (b1 : GNode) : Option (Bool) :=
  bnd1 (gd (((decide (a1.ID = b1.ID)) && (decide (a1.Kind = b1.Kind))) == true) (attr_Same a1.Attrs b1.Attrs)) fun (r1 : Bool) =>
  bnd1 (gd ((((decide (a1.ID = b1.ID)) && (decide (a1.Kind = b1.Kind))) && r1) == true) (flow_Same a1.Flow b1.Flow)) fun (r2 : Bool) =>
  bnd1 (gd (((((decide (a1.ID = b1.ID)) && (decide (a1.Kind = b1.Kind))) && r1) && r2) == true) (grid_Same a1.Grid b1.Grid)) fun (r3 : Bool) =>
  bnd1 (gd ((((((decide (a1.ID = b1.ID)) && (decide (a1.Kind = b1.Kind))) && r1) && r2) && r3) == true) (slices_Equal_api_DrawOp_api_DrawOp a1.Draw b1.Draw)) fun (r4 : Bool) =>
  some ((((((decide (a1.ID = b1.ID)) && (decide (a1.Kind = b1.Kind))) && r1) && r2) && r3) && r4)
noncomputable def slices_EqualFunc_api_Node_api_Node_api_Node_api_Node__SameNode_L1 (s11 : List GNode) (s21 : List GNode) (x2 : Int) : Option (Int ⊕ (Ctl Unit Bool)) :=
  if (decide (x2 < (s11.length : Int))) then (
    bnd1 (idx s11 x2) fun (x4 : GNode) =>
    bnd1 (idx s21 x2) fun (x5 : GNode) =>
    bnd1 (doc_SameNode x4 x5) fun (r1 : Bool) =>
    if (!r1) then (
      some (.inr (.ext false))
    ) else (
      bnd1 (chk .i64 (x2 + 1)) fun (x6 : Int) =>
      some (.inl x6)
    )
  ) else (
    some (.inr (.nrm ()))
  )
noncomputable def slices_EqualFunc_api_Node_api_Node_api_Node_api_Node__SameNode (s11 : List GNode) (s21 : List GNode) : Option (Bool) :=
  if (!decide ((s11.length : Int) = (s21.length : Int))) then (
    some false
  ) else (
    ctl1 (iter (fun (a : Int) => slices_EqualFunc_api_Node_api_Node_api_Node_api_Node__SameNode_L1 s11 s21 a) 0) fun (u2 : Unit) =>
    some true
  )
noncomputable def doc_Same (a1 : GDoc) (b1 : GDoc) : Option (Bool) :=
  bnd1 (slices_EqualFunc_api_Node_api_Node_api_Node_api_Node__SameNode a1.Nodes b1.Nodes) fun (r1 : Bool) =>
  some r1
noncomputable def doc_CopyNode_L1 (l4 : List GCell) (x2 : Int) (g2 : GGrid) : Option ((Int × GGrid) ⊕ GGrid) :=
  if (decide (x2 < (l4.length : Int))) then (
    bnd1 (idx g2.Cells x2) fun (x4 : GCell) =>
    bnd1 (app 32 [] x4.Attrs) fun (l5 : List GAttr) =>
    bnd1 (chk .i64 (x2 + 1)) fun (x5 : Int) =>
    some (.inl (x5, (GGrid.mk g2.Rows g2.Cols (g2.Cells.set x2.toNat (GCell.mk x4.Row x4.Col x4.Text x4.Ref l5)) g2.Merges)))
  ) else (
    some (.inr g2)
  )
noncomputable def doc_CopyNode (n1 : GNode) : Option (GNode) :=
  bnd1 (app 32 [] n1.Attrs) fun (l1 : List GAttr) =>
  bnd1 (flow_Copy n1.Flow) fun (r1 : List GElem) =>
  bnd1 (app 88 [] n1.Draw) fun (l2 : List GDrawOp) =>
  bnd1 (app 32 [] n1.Grid.Merges) fun (l3 : List GRect) =>
  bnd1 (app 64 [] n1.Grid.Cells) fun (l4 : List GCell) =>
  bnd1 (iter (fun (a : Int × GGrid) => doc_CopyNode_L1 l4 a.1 a.2) (0, (GGrid.mk n1.Grid.Rows n1.Grid.Cols l4 l3))) fun (g4 : GGrid) =>
  some (GNode.mk n1.ID n1.Kind l1 r1 g4 l2)
noncomputable def doc_Node_L1 (d1 : GDoc) (id1 : Int) (x2 : Int) : Option (Int ⊕ (Ctl Unit (GNode × Bool))) :=
  if (decide (x2 < (d1.Nodes.length : Int))) then (
    bnd1 (idx d1.Nodes x2) fun (x4 : GNode) =>
    if (decide (x4.ID = id1)) then (
      bnd1 (doc_CopyNode x4) fun (r1 : GNode) =>
      some (.inr (.ext (r1, true)))
    ) else (
      bnd1 (chk .i64 (x2 + 1)) fun (x5 : Int) =>
      some (.inl x5)
    )
  ) else (
    some (.inr (.nrm ()))
  )
noncomputable def doc_Node (d1 : GDoc) (id1 : Int) : Option (GNode × Bool) :=
  ctl1 (iter (fun (a : Int) => doc_Node_L1 d1 id1 a) 0) fun (u2 : Unit) =>
  some ((GNode.mk 0 0 [] [] (GGrid.mk 0 0 [] []) []), false)
noncomputable def ref_Find_L1 (d1 : GDoc) (id1 : Int) (x2 : Int) : Option (Int ⊕ (Ctl Unit Int)) :=
  if (decide (x2 < (d1.Nodes.length : Int))) then (
    bnd1 (idx d1.Nodes x2) fun (x4 : GNode) =>
    if (decide (x4.ID = id1)) then (
      some (.inr (.ext x2))
    ) else (
      bnd1 (chk .i64 (x2 + 1)) fun (x5 : Int) =>
      some (.inl x5)
    )
  ) else (
    some (.inr (.nrm ()))
  )
noncomputable def ref_Find (d1 : GDoc) (id1 : Int) : Option (Int) :=
  ctl1 (iter (fun (a : Int) => ref_Find_L1 d1 id1 a) 0) fun (u2 : Unit) =>
  some (-1)
noncomputable def doc_Site (id1 : Int) : Option (Int) :=
  some (shrC .i64 id1 16)
noncomputable def law_DocNodeMatches (d1 : GDoc) (other1 : GDoc) (id1 : Int) : Option (Bool) :=
  bnd1 (law_docs) fun (r1 : Bool) =>
  bnd1 (gd ((!r1) == false) (doc_Same d1 other1)) fun (r2 : Bool) =>
  bnd1 (gd ((!r1) == false) (ref_SameDoc d1 other1)) fun (r3 : Bool) =>
  if ((!r1) || (!(r2 == r3))) then (
    some false
  ) else (
    bnd2 (doc_Node d1 id1) fun (r4 : GNode) (r5 : Bool) =>
    bnd1 (ref_Find d1 id1) fun (i1 : Int) =>
    ctl1 (
      if (decide (i1 < 0)) then (
        bnd1 (
          if (r5 == false) then (
            bnd1 (ref_SameNode r4 (GNode.mk 0 0 [] [] (GGrid.mk 0 0 [] []) [])) fun (r7 : Bool) =>
            some (r5 || (!r7))
          ) else (
            some (r5 || false)
          )
        ) fun (x2 : Bool) =>
        if x2 then (
          some (.ext false)
        ) else (
          some (.nrm ())
        )
      ) else (
        bnd1 (gd ((!r5) == false) (idx d1.Nodes i1)) fun (x3 : GNode) =>
        bnd1 (gd ((!r5) == false) (ref_SameNode r4 x3)) fun (r8 : Bool) =>
        if ((!r5) || (!r8)) then (
          some (.ext false)
        ) else (
          some (.nrm ())
        )
      )
    ) fun (u1 : Unit) =>
    bnd1 (gd ((decide (id1 < 0)) == false) (doc_Site id1)) fun (r6 : Int) =>
    bnd1 (gd ((decide (id1 < 0)) == false) (quoM .i64 id1 65536)) fun (x1 : Int) =>
    some ((decide (id1 < 0)) || (decide (r6 = x1)))
  )
end Go.Proofs.YtfkolgjapajekaaDoor.Al

