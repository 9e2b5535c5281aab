/- Models, as printed. -/
import Derived.Test.YtdeglnbioiicaaaAl2
namespace Go.Proofs.Ytdeglnbioiicaaa.Al
structure GAxisStep where
  Kind : Int
  N : Int
deriving DecidableEq
instance : Inhabited GAxisStep := ⟨⟨0, 0⟩⟩
@[reducible] def GAxisStep.row (x : GAxisStep) : List RV := [.int .i64 x.Kind, .int .i64 x.N]
structure Axis_Reader where
  steps : List GAxisStep
  used : Int
deriving DecidableEq
instance : Inhabited Axis_Reader := ⟨⟨[], 0⟩⟩
@[reducible] def Axis_Reader.row (x : Axis_Reader) : List RV := [.sl (x.steps.map GAxisStep.row), .int .i64 x.used]
structure Axis_Writer where
  out : List GAxisStep
  add : Int
  cut : Int
deriving DecidableEq
instance : Inhabited Axis_Writer := ⟨⟨[], 0, 0⟩⟩
@[reducible] def Axis_Writer.row (x : Axis_Writer) : List RV := [.sl (x.out.map GAxisStep.row), .int .i64 x.add, .int .i64 x.cut]
structure GAttr where
  Name : List UInt8
  Value : List UInt8
deriving DecidableEq
instance : Inhabited GAttr := ⟨⟨[], []⟩⟩
@[reducible] def GAttr.row (x : GAttr) : List RV := [.str x.Name, .str x.Value]
structure GElem where
  Char : Int
  Ref : Int
  Attrs : List GAttr
deriving DecidableEq
instance : Inhabited GElem := ⟨⟨0, 0, []⟩⟩
@[reducible] def GElem.row (x : GElem) : List RV := [.int .i64 x.Char, .int .i64 x.Ref, .sl (x.Attrs.map GAttr.row)]
structure GCell where
  Row : Int
  Col : Int
  Text : List UInt8
  Ref : Int
  Attrs : List GAttr
deriving DecidableEq
instance : Inhabited GCell := ⟨⟨0, 0, [], 0, []⟩⟩
@[reducible] def GCell.row (x : GCell) : List RV := [.int .i64 x.Row, .int .i64 x.Col, .str x.Text, .int .i64 x.Ref, .sl (x.Attrs.map GAttr.row)]
structure GRect where
  Row : Int
  Col : Int
  H : Int
  W : Int
deriving DecidableEq
instance : Inhabited GRect := ⟨⟨0, 0, 0, 0⟩⟩
@[reducible] def GRect.row (x : GRect) : List RV := [.int .i64 x.Row, .int .i64 x.Col, .int .i64 x.H, .int .i64 x.W]
structure GGrid where
  Rows : Int
  Cols : Int
  Cells : List GCell
  Merges : List GRect
deriving DecidableEq
instance : Inhabited GGrid := ⟨⟨0, 0, [], []⟩⟩
@[reducible] def GGrid.row (x : GGrid) : List RV := [.int .i64 x.Rows, .int .i64 x.Cols, .sl (x.Cells.map GCell.row), .sl (x.Merges.map GRect.row)]
structure GDrawOp where
  Clock : Int
  Site : Int
  Kind : Int
  Item : Int
  Parent : Int
  Place : List UInt8
  Name : List UInt8
  Value : List UInt8
deriving DecidableEq
instance : Inhabited GDrawOp := ⟨⟨0, 0, 0, 0, 0, [], [], []⟩⟩
@[reducible] def GDrawOp.row (x : GDrawOp) : List RV := [.int .i64 x.Clock, .int .i64 x.Site, .int .i64 x.Kind, .int .i64 x.Item, .int .i64 x.Parent, .str x.Place, .str x.Name, .str x.Value]
structure GNode where
  ID : Int
  Kind : Int
  Attrs : List GAttr
  Flow : List GElem
  Grid : GGrid
  Draw : List GDrawOp
deriving DecidableEq
instance : Inhabited GNode := ⟨⟨0, 0, [], [], (GGrid.mk 0 0 [] []), []⟩⟩
@[reducible] def GNode.row (x : GNode) : List RV := [.int .i64 x.ID, .int .i64 x.Kind, .sl (x.Attrs.map GAttr.row), .sl (x.Flow.map GElem.row), .int .i64 x.Grid.Rows, .int .i64 x.Grid.Cols, .sl (x.Grid.Cells.map GCell.row), .sl (x.Grid.Merges.map GRect.row), .sl (x.Draw.map GDrawOp.row)]
structure GStep where
  Kind : Int
  N : Int
  Attrs : List GAttr
  Elems : List GElem
deriving DecidableEq
instance : Inhabited GStep := ⟨⟨0, 0, [], []⟩⟩
@[reducible] def GStep.row (x : GStep) : List RV := [.int .i64 x.Kind, .int .i64 x.N, .sl (x.Attrs.map GAttr.row), .sl (x.Elems.map GElem.row)]
structure GGridEdit where
  Rows : List GAxisStep
  Cols : List GAxisStep
  Cells : List GCell
  Split : List GRect
  Merge : List GRect
deriving DecidableEq
instance : Inhabited GGridEdit := ⟨⟨[], [], [], [], []⟩⟩
@[reducible] def GGridEdit.row (x : GGridEdit) : List RV := [.sl (x.Rows.map GAxisStep.row), .sl (x.Cols.map GAxisStep.row), .sl (x.Cells.map GCell.row), .sl (x.Split.map GRect.row), .sl (x.Merge.map GRect.row)]
structure GOp where
  Kind : Int
  Node : Int
  New : GNode
  Attrs : List GAttr
  Steps : List GStep
  Grid : GGridEdit
  Draw : List GDrawOp
deriving DecidableEq
instance : Inhabited GOp := ⟨⟨0, 0, (GNode.mk 0 0 [] [] (GGrid.mk 0 0 [] []) []), [], [], (GGridEdit.mk [] [] [] [] []), []⟩⟩
@[reducible] def GOp.row (x : GOp) : List RV := [.int .i64 x.Kind, .int .i64 x.Node, .int .i64 x.New.ID, .int .i64 x.New.Kind, .sl (x.New.Attrs.map GAttr.row), .sl (x.New.Flow.map GElem.row), .int .i64 x.New.Grid.Rows, .int .i64 x.New.Grid.Cols, .sl (x.New.Grid.Cells.map GCell.row), .sl (x.New.Grid.Merges.map GRect.row), .sl (x.New.Draw.map GDrawOp.row), .sl (x.Attrs.map GAttr.row), .sl (x.Steps.map GStep.row), .sl (x.Grid.Rows.map GAxisStep.row), .sl (x.Grid.Cols.map GAxisStep.row), .sl (x.Grid.Cells.map GCell.row), .sl (x.Grid.Split.map GRect.row), .sl (x.Grid.Merge.map GRect.row), .sl (x.Draw.map GDrawOp.row)]
structure GEntry where
  Site : Int
  Number : Int
  Change : List GOp
  Undoes : Int
  Refused : Int
deriving DecidableEq
instance : Inhabited GEntry := ⟨⟨0, 0, [], 0, 0⟩⟩
@[reducible] def GEntry.row (x : GEntry) : List RV := [.int .i64 x.Site, .int .i64 x.Number, .sl (x.Change.map GOp.row), .int .i64 x.Undoes, .int .i64 x.Refused]
structure GSpan where
  From : Int
  To : Int
deriving DecidableEq
instance : Inhabited GSpan := ⟨⟨0, 0⟩⟩
@[reducible] def GSpan.row (x : GSpan) : List RV := [.int .i64 x.From, .int .i64 x.To]
noncomputable def ref_In (x1 : Int) (low1 : Int) (high1 : Int) : Option (Bool) :=
  some ((decide (low1 ≤ x1)) && (decide (x1 ≤ high1)))
noncomputable def span_Check_L1 (l1 : List GSpan) (x2 : Int) : Option (Int ⊕ (Ctl Unit Int)) :=
  if (decide (x2 < (l1.length : Int))) then (
    bnd1 (idx l1 x2) fun (x4 : GSpan) =>
    if (((decide (x4.From < 0)) || (decide (x4.To ≤ x4.From))) || (decide (2147483647 < x4.To))) then (
      some (.inr (.ext 2))
    ) else (
      bnd1 (gd ((decide (0 < x2)) == true) (chk .i64 (x2 - 1))) fun (x5 : Int) =>
      bnd1 (gd ((decide (0 < x2)) == true) (idx l1 x5)) fun (x6 : GSpan) =>
      if ((decide (0 < x2)) && (decide (x4.From ≤ x6.To))) then (
        some (.inr (.ext 5))
      ) else (
        bnd1 (chk .i64 (x2 + 1)) fun (x7 : Int) =>
        some (.inl x7)
      )
    )
  ) else (
    some (.inr (.nrm ()))
  )
noncomputable def span_Check (l1 : List GSpan) : Option (Int) :=
  ctl1 (iter (fun (a : Int) => span_Check_L1 l1 a) 0) fun (u2 : Unit) =>
  some 0
noncomputable def span_end (l1 : List GSpan) (k1 : Int) : Option (Int) :=
  bnd1 (remM k1 2) fun (x1 : Int) =>
  if (decide (x1 = 0)) then (
    bnd1 (quoM .i64 k1 2) fun (x2 : Int) =>
    bnd1 (idx l1 x2) fun (x3 : GSpan) =>
    some x3.From
  ) else (
    bnd1 (quoM .i64 k1 2) fun (x4 : Int) =>
    bnd1 (idx l1 x4) fun (x5 : GSpan) =>
    some x5.To
  )
noncomputable def span_Union_f1 (a1 : Bool) (b1 : Bool) : Option (Bool) :=
  some (a1 || b1)
noncomputable def axis_Check_L1 (a1 : List GAxisStep) (before2 : Int) (after2 : Int) (x2 : Int) : Option ((Int × Int × Int) ⊕ (Ctl (Int × Int) Int)) :=
  if (decide (x2 < (a1.length : Int))) then (
    ctl2 (
      bnd1 (idx a1 x2) fun (x5 : GAxisStep) =>
      if ((decide (x5.Kind < 0)) || (decide (2 < x5.Kind))) then (
        some (.ext (.inr (.ext 8)))
      ) else (
        if ((decide (x5.N < 1)) || (decide (2147483647 < x5.N))) then (
          some (.ext (.inr (.ext 2)))
        ) else (
          bnd1 (gd ((decide (0 < x2)) == true) (chk .i64 (x2 - 1))) fun (x6 : Int) =>
          bnd1 (gd ((decide (0 < x2)) == true) (idx a1 x6)) fun (x7 : GAxisStep) =>
          if ((decide (0 < x2)) && ((decide (x7.Kind = x5.Kind)) || ((decide (x7.Kind = 2)) && (decide (x5.Kind = 1))))) then (
            some (.ext (.inr (.ext 5)))
          ) else (
            bnd1 (
              if (!decide (x5.Kind = 1)) then (
                bnd1 (chk .i64 (before2 + x5.N)) fun (x9 : Int) =>
                some (min x9 2147483648)
              ) else (
                some before2
              )
            ) fun (before6 : Int) =>
            if (!decide (x5.Kind = 2)) then (
              bnd1 (chk .i64 (after2 + x5.N)) fun (x8 : Int) =>
              some (.nrm (before6, (min x8 2147483648)))
            ) else (
              some (.nrm (before6, after2))
            )
          )
        )
      )
    ) fun (before5 : Int) (after5 : Int) =>
    bnd1 (chk .i64 (x2 + 1)) fun (x4 : Int) =>
    some (.inl (before5, after5, x4))
  ) else (
    some (.inr (.nrm (before2, after2)))
  )
noncomputable def axis_Check (a1 : List GAxisStep) : Option (Int) :=
  ctl2 (iter (fun (a : Int × Int × Int) => axis_Check_L1 a1 a.1 a.2.1 a.2.2) (0, 0, 0)) fun (before4 : Int) (after4 : Int) =>
  if ((decide (2147483647 < before4)) || (decide (2147483647 < after4))) then (
    some 3
  ) else (
    some 0
  )
noncomputable def axis_lengths_L1 (a1 : List GAxisStep) (before2 : Int) (after2 : Int) (x2 : Int) : Option ((Int × Int × Int) ⊕ (Int × Int)) :=
  if (decide (x2 < (a1.length : Int))) then (
    bnd2 (
      bnd1 (idx a1 x2) fun (x5 : GAxisStep) =>
      bnd1 (
        if (!decide (x5.Kind = 1)) then (
          bnd1 (chk .i64 (before2 + x5.N)) fun (before7 : Int) =>
          some before7
        ) else (
          some before2
        )
      ) fun (before6 : Int) =>
      if (!decide (x5.Kind = 2)) then (
        bnd1 (chk .i64 (after2 + x5.N)) fun (after6 : Int) =>
        some (before6, after6)
      ) else (
        some (before6, after2)
      )
    ) fun (before5 : Int) (after5 : Int) =>
    bnd1 (chk .i64 (x2 + 1)) fun (x4 : Int) =>
    some (.inl (before5, after5, x4))
  ) else (
    some (.inr (before2, after2))
  )
noncomputable def axis_lengths (a1 : List GAxisStep) : Option (Int × Int) :=
  bnd2 (iter (fun (a : Int × Int × Int) => axis_lengths_L1 a1 a.1 a.2.1 a.2.2) (0, 0, 0)) fun (before4 : Int) (after4 : Int) =>
  some (before4, after4)
noncomputable def ref_Units_L2 (x4 : GAxisStep) (x6 : Int) (out6 : List Int) : Option ((Int × (List Int)) ⊕ (List Int)) :=
  if (decide (x6 < x4.N)) then (
    bnd1 (app 8 out6 [x4.Kind]) fun (out9 : List Int) =>
    bnd1 (chk .i64 (x6 + 1)) fun (x9 : Int) =>
    some (.inl (x9, out9))
  ) else (
    some (.inr out6)
  )
noncomputable def ref_Units_L1 (a1 : List GAxisStep) (x2 : Int) (out2 : List Int) : Option ((Int × (List Int)) ⊕ (List Int)) :=
  if (decide (x2 < (a1.length : Int))) then (
    bnd1 (idx a1 x2) fun (x4 : GAxisStep) =>
    bnd1 (iter (fun (a : Int × (List Int)) => ref_Units_L2 x4 a.1 a.2) (0, out2)) fun (out8 : List Int) =>
    bnd1 (chk .i64 (x2 + 1)) fun (x8 : Int) =>
    some (.inl (x8, out8))
  ) else (
    some (.inr out2)
  )
noncomputable def ref_Units (a1 : List GAxisStep) : Option ((List Int)) :=
  bnd1 (iter (fun (a : Int × (List Int)) => ref_Units_L1 a1 a.1 a.2) (0, [])) fun (out4 : List Int) =>
  some out4
noncomputable def ref_Olds_L1 (units1 : List Int) (old2 : Int) (x2 : Int) (rows2 : List Int) (ahead2 : List Int) : Option ((Int × Int × (List Int) × (List Int)) ⊕ ((List Int) × (List Int))) :=
  if (decide (x2 < (units1.length : Int))) then (
    bnd3 (
      bnd1 (idx units1 x2) fun (x5 : Int) =>
      if (decide (x5 = 0)) then (
        bnd1 (app 8 rows2 [old2]) fun (rows6 : List Int) =>
        bnd1 (app 8 ahead2 [old2]) fun (ahead6 : List Int) =>
        bnd1 (chk .i64 (old2 + 1)) fun (old5 : Int) =>
        some (old5, rows6, ahead6)
      ) else (
        if (decide (x5 = 1)) then (
          bnd1 (app 8 rows2 [(-1)]) fun (rows7 : List Int) =>
          bnd1 (app 8 ahead2 [old2]) fun (ahead7 : List Int) =>
          some (old2, rows7, ahead7)
        ) else (
          bnd1 (chk .i64 (old2 + 1)) fun (old6 : Int) =>
          some (old6, rows2, ahead2)
        )
      )
    ) fun (old4 : Int) (rows5 : List Int) (ahead5 : List Int) =>
    bnd1 (chk .i64 (x2 + 1)) fun (x4 : Int) =>
    some (.inl (old4, x4, rows5, ahead5))
  ) else (
    some (.inr (rows2, ahead2))
  )
noncomputable def ref_Olds (units1 : List Int) : Option ((List Int) × (List Int)) :=
  bnd2 (iter (fun (a : Int × Int × (List Int) × (List Int)) => ref_Olds_L1 units1 a.1 a.2.1 a.2.2.1 a.2.2.2) (0, 0, [], [])) fun (rows4 : List Int) (ahead4 : List Int) =>
  some (rows4, ahead4)
noncomputable def ref_Where_L1 (row1 : Int) (r1 : List Int) (x2 : Int) : Option (Int ⊕ (Ctl Unit Int)) :=
  if (decide (x2 < (r1.length : Int))) then (
    bnd1 (idx r1 x2) fun (x4 : Int) =>
    if (decide (x4 = row1)) then (
      some (.inr (.ext x2))
    ) else (
      bnd1 (chk .i64 (x2 + 1)) fun (x5 : Int) =>
      some (.inl x5)
    )
  ) else (
    some (.inr (.nrm ()))
  )
noncomputable def ref_Where (units1 : List Int) (row1 : Int) : Option (Int) :=
  bnd2 (ref_Olds units1) fun (r1 : List Int) (r2 : List Int) =>
  ctl1 (iter (fun (a : Int) => ref_Where_L1 row1 r1 a) 0) fun (u2 : Unit) =>
  some (-1)
noncomputable def attr_Name_L1 (s1 : List UInt8) (x2 : Int) : Option (Int ⊕ (Ctl Unit Bool)) :=
  if (decide (x2 < (s1.length : Int))) then (
    bnd1 (idx s1 x2) fun (c1 : UInt8) =>
    if (((((decide ((c1.toNat : Int) < 97)) || (decide (122 < (c1.toNat : Int)))) && ((decide ((c1.toNat : Int) < 48)) || (decide (57 < (c1.toNat : Int))))) && (!decide ((c1.toNat : Int) = 46))) && (!decide ((c1.toNat : Int) = 45))) then (
      some (.inr (.ext false))
    ) else (
      bnd1 (chk .i64 (x2 + 1)) fun (x4 : Int) =>
      some (.inl x4)
    )
  ) else (
    some (.inr (.nrm ()))
  )
noncomputable def attr_Name (s1 : List UInt8) : Option (Bool) :=
  bnd1 (gd (((decide (s1 = [])) || (decide (24 < (s1.length : Int)))) == false) (idx s1 0)) fun (ch1 : UInt8) =>
  bnd1 (gd ((((decide (s1 = [])) || (decide (24 < (s1.length : Int)))) || (decide ((ch1.toNat : Int) < 97))) == false) (idx s1 0)) fun (ch2 : UInt8) =>
  if ((((decide (s1 = [])) || (decide (24 < (s1.length : Int)))) || (decide ((ch1.toNat : Int) < 97))) || (decide (122 < (ch2.toNat : Int)))) then (
    some false
  ) else (
    ctl1 (iter (fun (a : Int) => attr_Name_L1 s1 a) 0) fun (u2 : Unit) =>
    some true
  )
noncomputable def attr_Value_L1 (s1 : List UInt8) (x2 : Int) : Option (Int ⊕ (Ctl Unit Bool)) :=
  if (decide (x2 < (s1.length : Int))) then (
    bnd1 (idx s1 x2) fun (ch1 : UInt8) =>
    if ((decide ((ch1.toNat : Int) < 32)) || (decide (126 < (ch1.toNat : Int)))) then (
      some (.inr (.ext false))
    ) else (
      bnd1 (chk .i64 (x2 + 1)) fun (x4 : Int) =>
      some (.inl x4)
    )
  ) else (
    some (.inr (.nrm ()))
  )
noncomputable def attr_Value (s1 : List UInt8) : Option (Bool) :=
  if ((decide (s1 = [])) || (decide (200 < (s1.length : Int)))) then (
    some false
  ) else (
    ctl1 (iter (fun (a : Int) => attr_Value_L1 s1 a) 0) fun (u2 : Unit) =>
    some true
  )
noncomputable def attr_check_L1 (l1 : List GAttr) (empty1 : Bool) (x2 : Int) : Option (Int ⊕ (Ctl Unit Int)) :=
  if (decide (x2 < (l1.length : Int))) then (
    bnd1 (idx l1 x2) fun (x4 : GAttr) =>
    bnd1 (attr_Name x4.Name) fun (r1 : Bool) =>
    if (!r1) then (
      some (.inr (.ext 9))
    ) else (
      bnd1 (attr_Value x4.Value) fun (r2 : Bool) =>
      if ((!r2) && (!(empty1 && (decide (x4.Value = []))))) then (
        some (.inr (.ext 23))
      ) else (
        bnd1 (gd ((decide (0 < x2)) == true) (chk .i64 (x2 - 1))) fun (x5 : Int) =>
        bnd1 (gd ((decide (0 < x2)) == true) (idx l1 x5)) fun (x6 : GAttr) =>
        if ((decide (0 < x2)) && (sLt x4.Name x6.Name || decide (x4.Name = x6.Name))) then (
          some (.inr (.ext 5))
        ) else (
          bnd1 (chk .i64 (x2 + 1)) fun (x7 : Int) =>
          some (.inl x7)
        )
      )
    )
  ) else (
    some (.inr (.nrm ()))
  )
noncomputable def attr_check (l1 : List GAttr) (empty1 : Bool) : Option (Int) :=
  ctl1 (iter (fun (a : Int) => attr_check_L1 l1 empty1 a) 0) fun (u2 : Unit) =>
  some 0
noncomputable def attr_Check (l1 : List GAttr) : Option (Int) :=
  bnd1 (attr_check l1 false) fun (r1 : Int) =>
  some r1
noncomputable def attr_CheckChange (l1 : List GAttr) : Option (Int) :=
  bnd1 (attr_check l1 true) fun (r1 : Int) =>
  some r1
noncomputable def attr_Raw_f1 (c1 : List GAttr) (x1 : GAttr) (y1 : GAttr) : Option ((List GAttr)) :=
  if (decide (y1.Name = [])) then (
    bnd1 (app 32 c1 [x1]) fun (l1 : List GAttr) =>
    some l1
  ) else (
    if (!decide (y1.Value = [])) then (
      bnd1 (app 32 c1 [y1]) fun (l2 : List GAttr) =>
      some l2
    ) else (
      some c1
    )
  )
noncomputable def attr_both__Raw_f1_L1 (a1 : List GAttr) (b1 : List GAttr) (i4 : Int) (j2 : Int) (o2 : List GAttr) : Option ((Int × Int × (List GAttr)) ⊕ (Ctl Unit (List GAttr))) :=
  if ((decide (i4 < (a1.length : Int))) || (decide (j2 < (b1.length : Int)))) then (
    bnd1 (gd (((decide (j2 = (b1.length : Int))) == false) && ((decide (i4 < (a1.length : Int))) == true)) (idx a1 i4)) fun (x1 : GAttr) =>
    bnd1 (gd (((decide (j2 = (b1.length : Int))) == false) && ((decide (i4 < (a1.length : Int))) == true)) (idx b1 j2)) fun (x2 : GAttr) =>
    if ((decide (j2 = (b1.length : Int))) || ((decide (i4 < (a1.length : Int))) && (sLt x1.Name x2.Name))) then (
      bnd1 (idx a1 i4) fun (x3 : GAttr) =>
      bnd1 (attr_Raw_f1 o2 x3 (GAttr.mk [] [])) fun (w1 : List GAttr) =>
      bnd1 (chk .i64 (i4 + 1)) fun (i9 : Int) =>
      some (.inl (i9, j2, w1))
    ) else (
      bnd1 (gd ((decide (i4 = (a1.length : Int))) == false) (idx b1 j2)) fun (x4 : GAttr) =>
      bnd1 (gd ((decide (i4 = (a1.length : Int))) == false) (idx a1 i4)) fun (x5 : GAttr) =>
      if ((decide (i4 = (a1.length : Int))) || (sLt x4.Name x5.Name)) then (
        bnd1 (idx b1 j2) fun (x6 : GAttr) =>
        bnd1 (attr_Raw_f1 o2 (GAttr.mk [] []) x6) fun (w2 : List GAttr) =>
        bnd1 (chk .i64 (j2 + 1)) fun (j4 : Int) =>
        some (.inl (i4, j4, w2))
      ) else (
        bnd1 (idx a1 i4) fun (x7 : GAttr) =>
        bnd1 (idx b1 j2) fun (x8 : GAttr) =>
        bnd1 (attr_Raw_f1 o2 x7 x8) fun (w3 : List GAttr) =>
        bnd1 (chk .i64 (i4 + 1)) fun (i12 : Int) =>
        bnd1 (chk .i64 (j2 + 1)) fun (j5 : Int) =>
        some (.inl (i12, j5, w3))
      )
    )
  ) else (
    some (.inr (.ext o2))
  )
noncomputable def attr_both__Raw_f1 (c1 : List GAttr) (a1 : List GAttr) (b1 : List GAttr) : Option ((List GAttr)) :=
  ctl1 (iter (fun (a : Int × Int × (List GAttr)) => attr_both__Raw_f1_L1 a1 b1 a.1 a.2.1 a.2.2) (0, 0, c1)) fun (u2 : Unit) =>
  none
noncomputable def attr_Raw (l1 : List GAttr) (change1 : List GAttr) : Option ((List GAttr)) :=
  bnd1 (attr_both__Raw_f1 [] l1 change1) fun (w1 : List GAttr) =>
  some w1
noncomputable def ref_SameAttrs_L1 (a1 : List GAttr) (b1 : List GAttr) (x2 : Int) : Option (Int ⊕ (Ctl Unit Bool)) :=
  if (decide (x2 < (a1.length : Int))) then (
    bnd1 (idx a1 x2) fun (x4 : GAttr) =>
    bnd1 (idx b1 x2) fun (x5 : GAttr) =>
    if (!(decide (x4.Name = x5.Name) && (decide (x4.Value = x5.Value) && true))) then (
      some (.inr (.ext false))
    ) else (
      bnd1 (chk .i64 (x2 + 1)) fun (x6 : Int) =>
      some (.inl x6)
    )
  ) else (
    some (.inr (.nrm ()))
  )
noncomputable def ref_SameAttrs (a1 : List GAttr) (b1 : List GAttr) : Option (Bool) :=
  if (!decide ((a1.length : Int) = (b1.length : Int))) then (
    some false
  ) else (
    ctl1 (iter (fun (a : Int) => ref_SameAttrs_L1 a1 b1 a) 0) fun (u2 : Unit) =>
    some true
  )
noncomputable def ref_Name_L1 (s1 : List UInt8) (x2 : Int) : Option (Int ⊕ (Ctl Unit Bool)) :=
  if (decide (x2 < (s1.length : Int))) then (
    bnd1 (idx s1 x2) fun (ch1 : UInt8) =>
    if ((!((decide (97 ≤ (ch1.toNat : Int))) && (decide ((ch1.toNat : Int) ≤ 122)))) && ((decide (x2 = 0)) || (((!decide ((ch1.toNat : Int) = 46)) && (!decide ((ch1.toNat : Int) = 45))) && ((decide ((ch1.toNat : Int) < 48)) || (decide (57 < (ch1.toNat : Int))))))) then (
      some (.inr (.ext false))
    ) else (
      bnd1 (chk .i64 (x2 + 1)) fun (x4 : Int) =>
      some (.inl x4)
    )
  ) else (
    some (.inr (.nrm ()))
  )
noncomputable def ref_Name (s1 : List UInt8) : Option (Bool) :=
  ctl1 (iter (fun (a : Int) => ref_Name_L1 s1 a) 0) fun (u2 : Unit) =>
  some ((decide (1 ≤ (s1.length : Int))) && (decide ((s1.length : Int) ≤ 24)))
noncomputable def ref_Value_L1 (s1 : List UInt8) (x2 : Int) : Option (Int ⊕ (Ctl Unit Bool)) :=
  if (decide (x2 < (s1.length : Int))) then (
    bnd1 (idx s1 x2) fun (ch1 : UInt8) =>
    if ((decide ((ch1.toNat : Int) < 32)) || (decide (126 < (ch1.toNat : Int)))) then (
      some (.inr (.ext false))
    ) else (
      bnd1 (chk .i64 (x2 + 1)) fun (x4 : Int) =>
      some (.inl x4)
    )
  ) else (
    some (.inr (.nrm ()))
  )
noncomputable def ref_Value (s1 : List UInt8) : Option (Bool) :=
  ctl1 (iter (fun (a : Int) => ref_Value_L1 s1 a) 0) fun (u2 : Unit) =>
  some ((decide (1 ≤ (s1.length : Int))) && (decide ((s1.length : Int) ≤ 200)))
noncomputable def ref_AttrsError_L1 (l1 : List GAttr) (change1 : Bool) (x2 : Int) : Option (Int ⊕ (Ctl Unit Int)) :=
  if (decide (x2 < (l1.length : Int))) then (
    bnd1 (idx l1 x2) fun (x4 : GAttr) =>
    bnd1 (ref_Name x4.Name) fun (r1 : Bool) =>
    if (!r1) then (
      some (.inr (.ext 9))
    ) else (
      bnd1 (ref_Value x4.Value) fun (r2 : Bool) =>
      if ((!r2) && ((!decide (x4.Value = [])) || (!change1))) then (
        some (.inr (.ext 23))
      ) else (
        bnd1 (gd ((decide (0 < x2)) == true) (chk .i64 (x2 - 1))) fun (x5 : Int) =>
        bnd1 (gd ((decide (0 < x2)) == true) (idx l1 x5)) fun (x6 : GAttr) =>
        if ((decide (0 < x2)) && (!sLt x6.Name x4.Name)) then (
          some (.inr (.ext 5))
        ) else (
          bnd1 (chk .i64 (x2 + 1)) fun (x7 : Int) =>
          some (.inl x7)
        )
      )
    )
  ) else (
    some (.inr (.nrm ()))
  )
noncomputable def ref_AttrsError (l1 : List GAttr) (change1 : Bool) : Option (Int) :=
  ctl1 (iter (fun (a : Int) => ref_AttrsError_L1 l1 change1 a) 0) fun (u2 : Unit) =>
  some 0
noncomputable def flow_Char (c1 : Int) : Option (Bool) :=
  some (((((decide (c1 = 9)) || (decide (c1 = 10))) || ((decide (32 ≤ c1)) && (decide (c1 < 127)))) || ((decide (160 ≤ c1)) && (decide (c1 < 55296)))) || ((decide (57343 < c1)) && (decide (c1 ≤ 1114111))))
noncomputable def flow_elem (x1 : GElem) : Option (Int) :=
  if ((!decide (x1.Char = 0)) == (!decide (x1.Ref = 0))) then (
    some 4
  ) else (
    bnd1 (gd ((decide (x1.Ref = 0)) == true) (flow_Char x1.Char)) fun (r1 : Bool) =>
    bnd1 (
      if ((decide (x1.Ref = 0)) && (!r1)) then (
        some ((decide (x1.Ref = 0)) && (!r1))
      ) else (
        some ((!decide (x1.Ref = 0)) && ((decide (x1.Ref < 1)) || (decide (1073741824 < x1.Ref))))
      )
    ) fun (x2 : Bool) =>
    if x2 then (
      some 2
    ) else (
      bnd1 (attr_Check x1.Attrs) fun (r2 : Int) =>
      some r2
    )
  )
noncomputable def flow_CheckPart_L1 (f1 : List GElem) (x2 : Int) : Option (Int ⊕ (Ctl Unit Int)) :=
  if (decide (x2 < (f1.length : Int))) then (
    bnd1 (idx f1 x2) fun (x4 : GElem) =>
    bnd1 (flow_elem x4) fun (e1 : Int) =>
    if (!decide (e1 = 0)) then (
      some (.inr (.ext e1))
    ) else (
      bnd1 (chk .i64 (x2 + 1)) fun (x5 : Int) =>
      some (.inl x5)
    )
  ) else (
    some (.inr (.nrm ()))
  )
noncomputable def flow_CheckPart (f1 : List GElem) : Option (Int) :=
  ctl1 (iter (fun (a : Int) => flow_CheckPart_L1 f1 a) 0) fun (u2 : Unit) =>
  some 0
noncomputable def ref_Char (c1 : Int) : Option (Bool) :=
  bnd1 (gd (((decide (c1 = 9)) || (decide (c1 = 10))) == false) (ref_In c1 32 126)) fun (r1 : Bool) =>
  bnd1 (gd ((((decide (c1 = 9)) || (decide (c1 = 10))) || r1) == false) (ref_In c1 160 55295)) fun (r2 : Bool) =>
  bnd1 (gd (((((decide (c1 = 9)) || (decide (c1 = 10))) || r1) || r2) == false) (ref_In c1 57344 1114111)) fun (r3 : Bool) =>
  some (((((decide (c1 = 9)) || (decide (c1 = 10))) || r1) || r2) || r3)
noncomputable def ref_ElemError (x1 : GElem) : Option (Int) :=
  if (((decide (x1.Char = 0)) && (decide (x1.Ref = 0))) || ((!decide (x1.Char = 0)) && (!decide (x1.Ref = 0)))) then (
    some 4
  ) else (
    bnd1 (gd ((!decide (x1.Char = 0)) == true) (ref_Char x1.Char)) fun (r1 : Bool) =>
    bnd1 (gd ((((!decide (x1.Char = 0)) && (!r1)) == false) && ((!decide (x1.Ref = 0)) == true)) (ref_In x1.Ref 1 1073741824)) fun (r2 : Bool) =>
    if (((!decide (x1.Char = 0)) && (!r1)) || ((!decide (x1.Ref = 0)) && (!r2))) then (
      some 2
    ) else (
      bnd1 (ref_AttrsError x1.Attrs false) fun (r3 : Int) =>
      some r3
    )
  )
noncomputable def ref_PartError_L1 (f1 : List GElem) (x2 : Int) : Option (Int ⊕ (Ctl Unit Int)) :=
  if (decide (x2 < (f1.length : Int))) then (
    bnd1 (idx f1 x2) fun (x4 : GElem) =>
    bnd1 (ref_ElemError x4) fun (e1 : Int) =>
    if (!decide (e1 = 0)) then (
      some (.inr (.ext e1))
    ) else (
      bnd1 (chk .i64 (x2 + 1)) fun (x5 : Int) =>
      some (.inl x5)
    )
  ) else (
    some (.inr (.nrm ()))
  )
noncomputable def ref_PartError (f1 : List GElem) : Option (Int) :=
  ctl1 (iter (fun (a : Int) => ref_PartError_L1 f1 a) 0) fun (u2 : Unit) =>
  some 0
noncomputable def attr_Same_L1 (a1 : List GAttr) (b1 : List GAttr) (x2 : Int) : Option (Int ⊕ (Ctl Unit Bool)) :=
  if (decide (x2 < (a1.length : Int))) then (
    bnd1 (idx a1 x2) fun (x4 : GAttr) =>
    bnd1 (idx b1 x2) fun (x5 : GAttr) =>
    if (!(decide (x4.Name = x5.Name) && (decide (x4.Value = x5.Value) && true))) then (
      some (.inr (.ext false))
    ) else (
      bnd1 (chk .i64 (x2 + 1)) fun (x6 : Int) =>
      some (.inl x6)
    )
  ) else (
    some (.inr (.nrm ()))
  )
noncomputable def attr_Same (a1 : List GAttr) (b1 : List GAttr) : Option (Bool) :=
  if (!decide ((a1.length : Int) = (b1.length : Int))) then (
    some false
  ) else (
    ctl1 (iter (fun (a : Int) => attr_Same_L1 a1 b1 a) 0) fun (u2 : Unit) =>
    some true
  )
noncomputable def axis_Lengths (a1 : List GAxisStep) : Option (Int × Int × Int) :=
  bnd1 (axis_Check a1) fun (e1 : Int) =>
  if (!decide (e1 = 0)) then (
    some (0, 0, e1)
  ) else (
    bnd2 (axis_lengths a1) fun (r1 : Int) (r2 : Int) =>
    some (r1, r2, 0)
  )
noncomputable def axis_Gap_L1 (a1 : List GAxisStep) (at1 : Int) (right1 : Bool) (from2 : Int) (to2 : Int) (x2 : Int) : Option ((Int × Int × Int) ⊕ Int) :=
  if (decide (x2 < (a1.length : Int))) then (
    bnd2 (
      bnd1 (idx a1 x2) fun (x5 : GAxisStep) =>
      bnd1 (
        bnd1 (
          if ((decide (x5.Kind = 1)) && (decide (from2 < at1))) then (
            some ((decide (x5.Kind = 1)) && (decide (from2 < at1)))
          ) else (
            some (((decide (x5.Kind = 1)) && (decide (from2 = at1))) && right1)
          )
        ) fun (x6 : Bool) =>
        if x6 then (
          bnd1 (chk .i64 (to2 + x5.N)) fun (to7 : Int) =>
          some to7
        ) else (
          if (decide (x5.Kind = 0)) then (
            bnd1 (chk .i64 (at1 - from2)) fun (x7 : Int) =>
            bnd1 (chk .i64 (to2 + (min x5.N (max 0 x7)))) fun (to8 : Int) =>
            some to8
          ) else (
            some to2
          )
        )
      ) fun (to6 : Int) =>
      if (!decide (x5.Kind = 1)) then (
        bnd1 (chk .i64 (from2 + x5.N)) fun (from5 : Int) =>
        some (from5, to6)
      ) else (
        some (from2, to6)
      )
    ) fun (from4 : Int) (to5 : Int) =>
    bnd1 (chk .i64 (x2 + 1)) fun (x4 : Int) =>
    some (.inl (from4, to5, x4))
  ) else (
    some (.inr to2)
  )
noncomputable def axis_Gap (a1 : List GAxisStep) (at1 : Int) (right1 : Bool) : Option (Int × Int) :=
  bnd1 (axis_Check a1) fun (e1 : Int) =>
  if (!decide (e1 = 0)) then (
    some (0, e1)
  ) else (
    bnd2 (axis_lengths a1) fun (r1 : Int) (r2 : Int) =>
    if ((decide (at1 < 0)) || (decide (r1 < at1))) then (
      some (0, 2)
    ) else (
      bnd1 (iter (fun (a : Int × Int × Int) => axis_Gap_L1 a1 at1 right1 a.1 a.2.1 a.2.2) (0, 0, 0)) fun (to4 : Int) =>
      some (to4, 0)
    )
  )
noncomputable def axis_Hull_L1 (a1 : List GAxisStep) (from1 : Int) (to1 : Int) (first2 : Int) (last2 : Int) (old2 : Int) (now2 : Int) (x2 : Int) : Option ((Int × Int × Int × Int × Int) ⊕ (Int × Int)) :=
  if (decide (x2 < (a1.length : Int))) then (
    bnd4 (
      bnd1 (idx a1 x2) fun (x5 : GAxisStep) =>
      bnd1 (chk .i64 (old2 + x5.N)) fun (x6 : Int) =>
      bnd2 (
        if ((decide (x5.Kind = 0)) && (decide ((max from1 old2) < (min to1 x6)))) then (
          bnd1 (
            if (decide (last2 = 0)) then (
              bnd1 (chk .i64 (now2 + (max from1 old2))) fun (x8 : Int) =>
              bnd1 (chk .i64 (x8 - old2)) fun (first8 : Int) =>
              some first8
            ) else (
              some first2
            )
          ) fun (first7 : Int) =>
          bnd1 (chk .i64 (now2 + (min to1 x6))) fun (x7 : Int) =>
          bnd1 (chk .i64 (x7 - old2)) fun (last7 : Int) =>
          some (first7, last7)
        ) else (
          some (first2, last2)
        )
      ) fun (first6 : Int) (last6 : Int) =>
      bnd1 (
        if (!decide (x5.Kind = 2)) then (
          bnd1 (chk .i64 (now2 + x5.N)) fun (now6 : Int) =>
          some now6
        ) else (
          some now2
        )
      ) fun (now5 : Int) =>
      if (!decide (x5.Kind = 1)) then (
        some (first6, last6, x6, now5)
      ) else (
        some (first6, last6, old2, now5)
      )
    ) fun (first5 : Int) (last5 : Int) (old4 : Int) (now4 : Int) =>
    bnd1 (chk .i64 (x2 + 1)) fun (x4 : Int) =>
    some (.inl (first5, last5, old4, now4, x4))
  ) else (
    some (.inr (first2, last2))
  )
noncomputable def axis_Hull (a1 : List GAxisStep) (from1 : Int) (to1 : Int) : Option (Int × Int) :=
  bnd2 (iter (fun (a : Int × Int × Int × Int × Int) => axis_Hull_L1 a1 from1 to1 a.1 a.2.1 a.2.2.1 a.2.2.2.1 a.2.2.2.2) (0, 0, 0, 0, 0)) fun (first4 : Int) (last4 : Int) =>
  some (first4, last4)
noncomputable def axis_Rest (a1 : List GAxisStep) (from1 : Int) (to1 : Int) : Option (Int × Int × Int) :=
  bnd1 (axis_Check a1) fun (e1 : Int) =>
  if (!decide (e1 = 0)) then (
    some (0, 0, e1)
  ) else (
    bnd2 (axis_lengths a1) fun (r1 : Int) (r2 : Int) =>
    if (((decide (from1 < 0)) || (decide (to1 < from1))) || (decide (r1 < to1))) then (
      some (0, 0, 2)
    ) else (
      bnd2 (axis_Hull a1 from1 to1) fun (r3 : Int) (r4 : Int) =>
      some (r3, r4, 0)
    )
  )
noncomputable def ref_GapAt_L1 (at1 : Int) (right1 : Bool) (r1 : List Int) (r2 : List Int) (n2 : Int) (x2 : Int) : Option ((Int × Int) ⊕ Int) :=
  if (decide (x2 < (r1.length : Int))) then (
    bnd1 (
      bnd1 (idx r1 x2) fun (x5 : Int) =>
      bnd1 (gd ((((decide (0 ≤ x5)) && (decide (x5 < at1))) == false) && ((decide (x5 < 0)) == true)) (idx r2 x2)) fun (x6 : Int) =>
      if (((decide (0 ≤ x5)) && (decide (x5 < at1))) || ((decide (x5 < 0)) && ((decide (x6 < at1)) || ((decide (x6 = at1)) && right1)))) then (
        bnd1 (chk .i64 (n2 + 1)) fun (n6 : Int) =>
        some n6
      ) else (
        some n2
      )
    ) fun (n5 : Int) =>
    bnd1 (chk .i64 (x2 + 1)) fun (x4 : Int) =>
    some (.inl (n5, x4))
  ) else (
    some (.inr n2)
  )
noncomputable def ref_GapAt (units1 : List Int) (at1 : Int) (right1 : Bool) : Option (Int) :=
  bnd2 (ref_Olds units1) fun (r1 : List Int) (r2 : List Int) =>
  bnd1 (iter (fun (a : Int × Int) => ref_GapAt_L1 at1 right1 r1 r2 a.1 a.2) (0, 0)) fun (n4 : Int) =>
  some n4
noncomputable def ref_RestOf_L1 (units1 : List Int) (from1 : Int) (low2 : Int) (high2 : Int) (row3 : Int) : Option ((Int × Int × Int) ⊕ (Int × Int)) :=
  if (decide (from1 ≤ row3)) then (
    bnd2 (
      bnd1 (ref_Where units1 row3) fun (k1 : Int) =>
      if (decide (0 ≤ k1)) then (
        if (decide (high2 = 0)) then (
          bnd1 (chk .i64 (k1 + 1)) fun (high6 : Int) =>
          some (k1, high6)
        ) else (
          some (k1, high2)
        )
      ) else (
        some (low2, high2)
      )
    ) fun (low5 : Int) (high5 : Int) =>
    bnd1 (chk .i64 (row3 - 1)) fun (row5 : Int) =>
    some (.inl (low5, high5, row5))
  ) else (
    some (.inr (low2, high2))
  )
noncomputable def ref_RestOf (units1 : List Int) (from1 : Int) (to1 : Int) : Option (Int × Int) :=
  bnd1 (chk .i64 (to1 - 1)) fun (row1 : Int) =>
  bnd2 (iter (fun (a : Int × Int × Int) => ref_RestOf_L1 units1 from1 a.1 a.2.1 a.2.2) (0, 0, row1)) fun (low4 : Int) (high4 : Int) =>
  some (low4, high4)
end Go.Proofs.Ytdeglnbioiicaaa.Al


namespace Go.Proofs.Ytdeglnbioiicaaa.Al
structure Ref_Act where
  Adds : List (List GElem)
  Cuts : List Bool
  Attrs : List (List GAttr)
deriving DecidableEq
instance : Inhabited Ref_Act := ⟨⟨[], [], []⟩⟩
@[reducible] def Ref_Act.row (x : Ref_Act) : List RV := [.sl (x.Adds.map (rSl GElem.row)), .sl (x.Cuts.map rBool), .sl (x.Attrs.map (rSl GAttr.row))]
noncomputable def ref_ActOf_L2 (x5 : GStep) (x8 : Int) (a7 : Ref_Act) : Option ((Int × Ref_Act) ⊕ (Ctl Unit Ref_Act)) :=
  if (decide (x8 < x5.N)) then (
    bnd1 (app 24 a7.Adds [[]]) fun (l3 : List (List GElem)) =>
    bnd1 (app 1 a7.Cuts [(decide (x5.Kind = 2))]) fun (l4 : List Bool) =>
    bnd1 (app 24 a7.Attrs [x5.Attrs]) fun (l5 : List (List GAttr)) =>
    bnd1 (chk .i64 (x8 + 1)) fun (x10 : Int) =>
    some (.inl (x10, (Ref_Act.mk l3 l4 l5)))
  ) else (
    some (.inr (.ext a7))
  )
noncomputable def ref_ActOf_L1 (d1 : List GStep) (x2 : Int) (a2 : Ref_Act) : Option ((Int × Ref_Act) ⊕ Ref_Act) :=
  if (decide (x2 < (d1.length : Int))) then (
    bnd1 (
      bnd1 (idx d1 x2) fun (x5 : GStep) =>
      if (decide (x5.Kind = 1)) then (
        bnd1 (chk .i64 ((a2.Adds.length : Int) - 1)) fun (k1 : Int) =>
        bnd1 (idx a2.Adds k1) fun (x6 : List GElem) =>
        bnd1 (app 40 [] x6) fun (l1 : List GElem) =>
        bnd1 (app 40 l1 x5.Elems) fun (l2 : List GElem) =>
        some (Ref_Act.mk (a2.Adds.set k1.toNat l2) a2.Cuts a2.Attrs)
      ) else (
        ctl1 (iter (fun (a : Int × Ref_Act) => ref_ActOf_L2 x5 a.1 a.2) (0, a2)) fun (u3 : Unit) =>
        none
      )
    ) fun (a5 : Ref_Act) =>
    bnd1 (chk .i64 (x2 + 1)) fun (x4 : Int) =>
    some (.inl (x4, a5))
  ) else (
    some (.inr a2)
  )
noncomputable def ref_ActOf (d1 : List GStep) : Option (Ref_Act) :=
  bnd1 (iter (fun (a : Int × Ref_Act) => ref_ActOf_L1 d1 a.1 a.2) (0, (Ref_Act.mk [[]] [] []))) fun (a4 : Ref_Act) =>
  some a4
noncomputable def ref_DeltaOf_L1 (a1 : Ref_Act) (cuts2 : Int) (i4 : Int) (out2 : List GStep) (adds2 : List GElem) : Option ((Int × Int × (List GStep) × (List GElem)) ⊕ (List GStep)) :=
  if (decide (i4 ≤ (a1.Cuts.length : Int))) then (
    ctl3 (
      bnd1 (idx a1.Adds i4) fun (x1 : List GElem) =>
      bnd1 (app 40 adds2 x1) fun (adds5 : List GElem) =>
      bnd1 (gd ((decide (i4 < (a1.Cuts.length : Int))) == true) (idx a1.Cuts i4)) fun (x2 : Bool) =>
      if ((decide (i4 < (a1.Cuts.length : Int))) && x2) then (
        bnd1 (chk .i64 (cuts2 + 1)) fun (cuts5 : Int) =>
        some (.nrm (cuts5, out2, adds5))
      ) else (
        bnd1 (
          if (decide (0 < (adds5.length : Int))) then (
            bnd1 (app 64 out2 [(GStep.mk 1 0 [] adds5)]) fun (out10 : List GStep) =>
            some out10
          ) else (
            some out2
          )
        ) fun (out6 : List GStep) =>
        bnd1 (
          if (decide (0 < cuts2)) then (
            bnd1 (app 64 out6 [(GStep.mk 2 cuts2 [] [])]) fun (out9 : List GStep) =>
            some out9
          ) else (
            some out6
          )
        ) fun (out7 : List GStep) =>
        if (decide (i4 = (a1.Cuts.length : Int))) then (
          some (.ext (.inr out7))
        ) else (
          bnd1 (chk .i64 ((out7.length : Int) - 1)) fun (k1 : Int) =>
          bnd1 (gd ((decide (0 ≤ k1)) == true) (idx out7 k1)) fun (x3 : GStep) =>
          bnd1 (gd (((decide (0 ≤ k1)) && (decide (x3.Kind = 0))) == true) (idx out7 k1)) fun (x4 : GStep) =>
          bnd1 (gd (((decide (0 ≤ k1)) && (decide (x3.Kind = 0))) == true) (idx a1.Attrs i4)) fun (x5 : List GAttr) =>
          bnd1 (gd (((decide (0 ≤ k1)) && (decide (x3.Kind = 0))) == true) (ref_SameAttrs x4.Attrs x5)) fun (r1 : Bool) =>
          if (((decide (0 ≤ k1)) && (decide (x3.Kind = 0))) && r1) then (
            bnd1 (idx out7 k1) fun (x6 : GStep) =>
            bnd1 (chk .i64 (x6.N + 1)) fun (x7 : Int) =>
            some (.nrm (0, (out7.set k1.toNat (GStep.mk x6.Kind x7 x6.Attrs x6.Elems)), []))
          ) else (
            bnd1 (idx a1.Attrs i4) fun (x8 : List GAttr) =>
            bnd1 (app 64 out7 [(GStep.mk 0 1 x8 [])]) fun (out8 : List GStep) =>
            some (.nrm (0, out8, []))
          )
        )
      )
    ) fun (cuts4 : Int) (out5 : List GStep) (adds4 : List GElem) =>
    bnd1 (chk .i64 (i4 + 1)) fun (i10 : Int) =>
    some (.inl (cuts4, i10, out5, adds4))
  ) else (
    some (.inr out2)
  )
noncomputable def ref_DeltaOf (a1 : Ref_Act) : Option ((List GStep)) :=
  bnd1 (iter (fun (a : Int × Int × (List GStep) × (List GElem)) => ref_DeltaOf_L1 a1 a.1 a.2.1 a.2.2.1 a.2.2.2) (0, 0, [], [])) fun (out4 : List GStep) =>
  some out4
noncomputable def law_steps_L1 (d1 : List GStep) (x2 : Int) (out2 : List GAxisStep) : Option ((Int × (List GAxisStep)) ⊕ (List GAxisStep)) :=
  if (decide (x2 < (d1.length : Int))) then (
    bnd1 (idx d1 x2) fun (x4 : GStep) =>
    bnd1 (chk .i64 (x4.N + (x4.Elems.length : Int))) fun (x5 : Int) =>
    bnd1 (app 16 out2 [(GAxisStep.mk x4.Kind x5)]) fun (out5 : List GAxisStep) =>
    bnd1 (chk .i64 (x2 + 1)) fun (x6 : Int) =>
    some (.inl (x6, out5))
  ) else (
    some (.inr out2)
  )
noncomputable def law_steps (a1 : Ref_Act) : Option ((List GAxisStep)) :=
  bnd1 (ref_DeltaOf a1) fun (d1 : List GStep) =>
  bnd1 (iter (fun (a : Int × (List GAxisStep)) => law_steps_L1 d1 a.1 a.2) (0, [])) fun (out4 : List GAxisStep) =>
  some out4
end Go.Proofs.Ytdeglnbioiicaaa.Al


namespace Go.Proofs.Ytdeglnbioiicaaa.Al
noncomputable def span_add (l1 : List GSpan) (s1 : GSpan) : Option ((List GSpan)) :=
  bnd1 (chk .i64 ((l1.length : Int) - 1)) fun (k1 : Int) =>
  bnd1 (gd ((decide (0 ≤ k1)) == true) (idx l1 k1)) fun (x1 : GSpan) =>
  if ((decide (0 ≤ k1)) && (decide (s1.From ≤ x1.To))) then (
    bnd1 (idx l1 k1) fun (x2 : GSpan) =>
    some (l1.set k1.toNat (GSpan.mk x2.From (max x2.To s1.To)))
  ) else (
    bnd1 (app 16 l1 [s1]) fun (l2 : List GSpan) =>
    some l2
  )
noncomputable def span_merged__Union_f1_L3 (b1 : List GSpan) (x3 : Int) (next2 : Int) (out5 : List GSpan) (i19 : Int) (j5 : Int) : Option (Int ⊕ (Ctl Unit ((Int × Int × Int × (List GSpan)) ⊕ (List GSpan)))) :=
  bnd1 (gd ((decide (j5 < x3)) == true) (span_end b1 j5)) fun (r2 : Int) =>
  if ((decide (j5 < x3)) && (decide (r2 = next2))) then (
    bnd1 (chk .i64 (j5 + 1)) fun (j7 : Int) =>
    some (.inl j7)
  ) else (
    some (.inr (.ext (.inl (next2, i19, j5, out5))))
  )
noncomputable def span_merged__Union_f1_L2 (a1 : List GSpan) (x1 : Int) (next2 : Int) (i15 : Int) : Option (Int ⊕ Int) :=
  bnd1 (gd ((decide (i15 < x1)) == true) (span_end a1 i15)) fun (r3 : Int) =>
  if ((decide (i15 < x1)) && (decide (r3 = next2))) then (
    bnd1 (chk .i64 (i15 + 1)) fun (i25 : Int) =>
    some (.inl i25)
  ) else (
    some (.inr i15)
  )
noncomputable def span_merged__Union_f1_L1 (a1 : List GSpan) (b1 : List GSpan) (at2 : Int) (i4 : Int) (j2 : Int) (out2 : List GSpan) : Option ((Int × Int × Int × (List GSpan)) ⊕ (List GSpan)) :=
  bnd1 (chk .i64 (2 * (a1.length : Int))) fun (x1 : Int) =>
  bnd1 (gd ((decide (i4 < x1)) == false) (chk .i64 (2 * (b1.length : Int)))) fun (x2 : Int) =>
  if ((decide (i4 < x1)) || (decide (j2 < x2))) then (
    bnd1 (
      if (decide (i4 < x1)) then (
        bnd1 (span_end a1 i4) fun (next3 : Int) =>
        some next3
      ) else (
        some 2147483648
      )
    ) fun (next1 : Int) =>
    bnd1 (chk .i64 (2 * (b1.length : Int))) fun (x3 : Int) =>
    bnd1 (
      if (decide (j2 < x3)) then (
        bnd1 (span_end b1 j2) fun (r4 : Int) =>
        some (min next1 r4)
      ) else (
        some next1
      )
    ) fun (next2 : Int) =>
    bnd1 (gd ((decide (at2 < next2)) == true) (remM i4 2)) fun (x4 : Int) =>
    bnd1 (gd ((decide (at2 < next2)) == true) (remM j2 2)) fun (x5 : Int) =>
    bnd1 (gd ((decide (at2 < next2)) == true) (span_Union_f1 (decide (x4 = 1)) (decide (x5 = 1)))) fun (r1 : Bool) =>
    bnd1 (
      if ((decide (at2 < next2)) && r1) then (
        bnd1 (span_add out2 (GSpan.mk at2 next2)) fun (w1 : List GSpan) =>
        some w1
      ) else (
        some out2
      )
    ) fun (out5 : List GSpan) =>
    bnd1 (iter (fun (a : Int) => span_merged__Union_f1_L2 a1 x1 next2 a) i4) fun (i19 : Int) =>
    ctl1 (iter (fun (a : Int) => span_merged__Union_f1_L3 b1 x3 next2 out5 i19 a) j2) fun (u4 : Unit) =>
    none
  ) else (
    some (.inr out2)
  )
noncomputable def span_merged__Union_f1 (a1 : List GSpan) (b1 : List GSpan) : Option ((List GSpan)) :=
  bnd1 (iter (fun (a : Int × Int × Int × (List GSpan)) => span_merged__Union_f1_L1 a1 b1 a.1 a.2.1 a.2.2.1 a.2.2.2) (0, 0, 0, [])) fun (out4 : List GSpan) =>
  some out4
noncomputable def span_two__Union_f1 (a1 : List GSpan) (b1 : List GSpan) : Option ((List GSpan) × Int) :=
  bnd1 (span_Check a1) fun (e1 : Int) =>
  if (!decide (e1 = 0)) then (
    some ([], e1)
  ) else (
    bnd1 (span_Check b1) fun (e2 : Int) =>
    if (!decide (e2 = 0)) then (
      some ([], e2)
    ) else (
      bnd1 (span_merged__Union_f1 a1 b1) fun (r1 : List GSpan) =>
      some (r1, 0)
    )
  )
noncomputable def span_Union (a1 : List GSpan) (b1 : List GSpan) : Option ((List GSpan) × Int) :=
  bnd2 (span_two__Union_f1 a1 b1) fun (r1 : List GSpan) (r2 : Int) =>
  some (r1, r2)
noncomputable def law_spans : Option (Bool) :=
  bnd2 (span_Union [(GSpan.mk 0 2)] [(GSpan.mk 2 3)]) fun (r1 : List GSpan) (r2 : Int) =>
  bnd1 (gd (((decide (r2 = 0)) && (decide ((r1.length : Int) = 1))) == true) (idx r1 0)) fun (x1 : GSpan) =>
  some (((decide (r2 = 0)) && (decide ((r1.length : Int) = 1))) && (decide (x1.From = 0) && (decide (x1.To = 3) && true)))
noncomputable def law_setError_L1 (l1 : List GSpan) (x2 : Int) : Option (Int ⊕ (Ctl Unit Int)) :=
  if (decide (x2 < (l1.length : Int))) then (
    bnd1 (idx l1 x2) fun (x4 : GSpan) =>
    if (((decide (x4.From < 0)) || (decide (x4.To ≤ x4.From))) || (decide (2147483647 < x4.To))) then (
      some (.inr (.ext 2))
    ) else (
      bnd1 (gd ((decide (0 < x2)) == true) (chk .i64 (x2 - 1))) fun (x5 : Int) =>
      bnd1 (gd ((decide (0 < x2)) == true) (idx l1 x5)) fun (x6 : GSpan) =>
      if ((decide (0 < x2)) && (decide (x4.From ≤ x6.To))) then (
        some (.inr (.ext 5))
      ) else (
        bnd1 (chk .i64 (x2 + 1)) fun (x7 : Int) =>
        some (.inl x7)
      )
    )
  ) else (
    some (.inr (.nrm ()))
  )
noncomputable def law_setError (l1 : List GSpan) : Option (Int) :=
  ctl1 (iter (fun (a : Int) => law_setError_L1 l1 a) 0) fun (u2 : Unit) =>
  some 0
end Go.Proofs.Ytdeglnbioiicaaa.Al


namespace Go.Proofs.Ytdeglnbioiicaaa.Al
structure Delta_Reader where
  steps : List GStep
  used : Int
deriving DecidableEq
instance : Inhabited Delta_Reader := ⟨⟨[], 0⟩⟩
@[reducible] def Delta_Reader.row (x : Delta_Reader) : List RV := [.sl (x.steps.map GStep.row), .int .i64 x.used]
structure Delta_Writer where
  out : List GStep
  add : List GElem
  cut : Int
deriving DecidableEq
instance : Inhabited Delta_Writer := ⟨⟨[], [], 0⟩⟩
@[reducible] def Delta_Writer.row (x : Delta_Writer) : List RV := [.sl (x.out.map GStep.row), .sl (x.add.map GElem.row), .int .i64 x.cut]
noncomputable def law_letters_L1 (s1 : List UInt8) (x2 : Int) (out2 : List GElem) : Option ((Int × (List GElem)) ⊕ (List GElem)) :=
  if (decide (x2 < (s1.length : Int))) then (
    bnd1 (idx s1 x2) fun (ch1 : UInt8) =>
    bnd1 (app 40 out2 [(GElem.mk (IntKind.i64.wrap (ch1.toNat : Int)) 0 [])]) fun (out5 : List GElem) =>
    bnd1 (chk .i64 (x2 + 1)) fun (x4 : Int) =>
    some (.inl (x4, out5))
  ) else (
    some (.inr out2)
  )
noncomputable def law_letters (s1 : List UInt8) : Option ((List GElem)) :=
  bnd1 (iter (fun (a : Int × (List GElem)) => law_letters_L1 s1 a.1 a.2) (0, [])) fun (out4 : List GElem) =>
  some out4
noncomputable def law_on (name1 : List UInt8) : Option ((List GAttr)) :=
  some [(GAttr.mk name1 [111, 110])]
noncomputable def delta_step (s1 : GStep) : Option (Int) :=
  bnd1 (
    if (decide (s1.Kind = 0)) then (
      some (decide (s1.Kind = 0))
    ) else (
      some (decide (s1.Kind = 2))
    )
  ) fun (x1 : Bool) =>
  if x1 then (
    if ((decide (0 < (s1.Elems.length : Int))) || ((decide (s1.Kind = 2)) && (decide (0 < (s1.Attrs.length : Int))))) then (
      some 4
    ) else (
      if ((decide (s1.N < 1)) || (decide (2147483647 < s1.N))) then (
        some 2
      ) else (
        bnd1 (attr_CheckChange s1.Attrs) fun (r1 : Int) =>
        some r1
      )
    )
  ) else (
    if (decide (s1.Kind = 1)) then (
      if ((!decide (s1.N = 0)) || (decide (0 < (s1.Attrs.length : Int)))) then (
        some 4
      ) else (
        if (decide ((s1.Elems.length : Int) = 0)) then (
          some 11
        ) else (
          bnd1 (flow_CheckPart s1.Elems) fun (r2 : Int) =>
          some r2
        )
      )
    ) else (
      some 8
    )
  )
noncomputable def delta_size (s1 : GStep) : Option (Int) :=
  if (decide (s1.Kind = 1)) then (
    some (s1.Elems.length : Int)
  ) else (
    some s1.N
  )
noncomputable def delta_Check_L1 (d1 : List GStep) (before2 : Int) (after2 : Int) (x2 : Int) : Option ((Int × Int × Int) ⊕ (Ctl (Int × Int) Int)) :=
  if (decide (x2 < (d1.length : Int))) then (
    ctl2 (
      bnd1 (idx d1 x2) fun (x5 : GStep) =>
      bnd1 (delta_step x5) fun (e1 : Int) =>
      if (!decide (e1 = 0)) then (
        some (.ext (.inr (.ext e1)))
      ) else (
        ctl1 (
          if (decide (0 < x2)) then (
            bnd1 (chk .i64 (x2 - 1)) fun (x8 : Int) =>
            bnd1 (idx d1 x8) fun (x9 : GStep) =>
            bnd1 (gd (((decide (x9.Kind = x5.Kind)) == true) && ((!decide (x5.Kind = 0)) == false)) (attr_Same x9.Attrs x5.Attrs)) fun (r2 : Bool) =>
            if (((decide (x9.Kind = x5.Kind)) && ((!decide (x5.Kind = 0)) || r2)) || ((decide (x9.Kind = 2)) && (decide (x5.Kind = 1)))) then (
              some (.ext (.ext (.inr (.ext 5))))
            ) else (
              some (.nrm ())
            )
          ) else (
            some (.nrm ())
          )
        ) fun (u2 : Unit) =>
        bnd1 (
          if (!decide (x5.Kind = 1)) then (
            bnd1 (chk .i64 (before2 + x5.N)) fun (x7 : Int) =>
            some (min x7 2147483648)
          ) else (
            some before2
          )
        ) fun (before6 : Int) =>
        if (!decide (x5.Kind = 2)) then (
          bnd1 (delta_size x5) fun (r1 : Int) =>
          bnd1 (chk .i64 (after2 + r1)) fun (x6 : Int) =>
          some (.nrm (before6, (min x6 2147483648)))
        ) else (
          some (.nrm (before6, after2))
        )
      )
    ) fun (before5 : Int) (after5 : Int) =>
    bnd1 (chk .i64 (x2 + 1)) fun (x4 : Int) =>
    some (.inl (before5, after5, x4))
  ) else (
    some (.inr (.nrm (before2, after2)))
  )
noncomputable def delta_Check (d1 : List GStep) : Option (Int) :=
  ctl2 (iter (fun (a : Int × Int × Int) => delta_Check_L1 d1 a.1 a.2.1 a.2.2) (0, 0, 0)) fun (before4 : Int) (after4 : Int) =>
  if ((decide (2147483647 < before4)) || (decide (2147483647 < after4))) then (
    some 3
  ) else (
    some 0
  )
noncomputable def delta_lengths_L1 (d1 : List GStep) (before2 : Int) (after2 : Int) (x2 : Int) : Option ((Int × Int × Int) ⊕ (Int × Int)) :=
  if (decide (x2 < (d1.length : Int))) then (
    bnd2 (
      bnd1 (idx d1 x2) fun (x5 : GStep) =>
      bnd1 (
        if (!decide (x5.Kind = 1)) then (
          bnd1 (chk .i64 (before2 + x5.N)) fun (before7 : Int) =>
          some before7
        ) else (
          some before2
        )
      ) fun (before6 : Int) =>
      if (!decide (x5.Kind = 2)) then (
        bnd1 (delta_size x5) fun (r1 : Int) =>
        bnd1 (chk .i64 (after2 + r1)) fun (after6 : Int) =>
        some (before6, after6)
      ) else (
        some (before6, after2)
      )
    ) fun (before5 : Int) (after5 : Int) =>
    bnd1 (chk .i64 (x2 + 1)) fun (x4 : Int) =>
    some (.inl (before5, after5, x4))
  ) else (
    some (.inr (before2, after2))
  )
noncomputable def delta_lengths (d1 : List GStep) : Option (Int × Int) :=
  bnd2 (iter (fun (a : Int × Int × Int) => delta_lengths_L1 d1 a.1 a.2.1 a.2.2) (0, 0, 0)) fun (before4 : Int) (after4 : Int) =>
  some (before4, after4)
noncomputable def delta_fits (f1 : List GElem) (d1 : List GStep) : Option (Int) :=
  bnd1 (flow_CheckPart f1) fun (e1 : Int) =>
  if (!decide (e1 = 0)) then (
    some e1
  ) else (
    bnd1 (delta_Check d1) fun (e2 : Int) =>
    if (!decide (e2 = 0)) then (
      some e2
    ) else (
      bnd2 (delta_lengths d1) fun (r1 : Int) (r2 : Int) =>
      if (!decide (r1 = (f1.length : Int))) then (
        some 14
      ) else (
        some 0
      )
    )
  )
noncomputable def delta_changed_L1 (l1 : List GElem) (change1 : List GAttr) (x2 : Int) (out3 : List GElem) : Option ((Int × (List GElem)) ⊕ (List GElem)) :=
  if (decide (x2 < (l1.length : Int))) then (
    bnd1 (idx l1 x2) fun (x4 : GElem) =>
    bnd1 (attr_Raw x4.Attrs change1) fun (r1 : List GAttr) =>
    bnd1 (idx out3 x2) fun (x5 : GElem) =>
    bnd1 (chk .i64 (x2 + 1)) fun (x6 : Int) =>
    some (.inl (x6, (out3.set x2.toNat (GElem.mk x4.Char x4.Ref r1))))
  ) else (
    some (.inr out3)
  )
noncomputable def delta_changed (l1 : List GElem) (change1 : List GAttr) : Option ((List GElem)) :=
  bnd1 (mk 40 (l1.length : Int) (GElem.mk 0 0 [])) fun (out1 : List GElem) =>
  bnd1 (iter (fun (a : Int × (List GElem)) => delta_changed_L1 l1 change1 a.1 a.2) (0, out1)) fun (out5 : List GElem) =>
  some out5
noncomputable def flow_Copy_L1 (f1 : List GElem) (x2 : Int) (out3 : List GElem) : Option ((Int × (List GElem)) ⊕ (List GElem)) :=
  if (decide (x2 < (f1.length : Int))) then (
    bnd1 (idx f1 x2) fun (x4 : GElem) =>
    bnd1 (app 32 [] x4.Attrs) fun (l1 : List GAttr) =>
    bnd1 (idx out3 x2) fun (x5 : GElem) =>
    bnd1 (chk .i64 (x2 + 1)) fun (x6 : Int) =>
    some (.inl (x6, (out3.set x2.toNat (GElem.mk x4.Char x4.Ref l1))))
  ) else (
    some (.inr out3)
  )
noncomputable def flow_Copy (f1 : List GElem) : Option ((List GElem)) :=
  bnd1 (mk 40 (f1.length : Int) (GElem.mk 0 0 [])) fun (out1 : List GElem) =>
  bnd1 (iter (fun (a : Int × (List GElem)) => flow_Copy_L1 f1 a.1 a.2) (0, out1)) fun (out5 : List GElem) =>
  some out5
noncomputable def delta_Raw_L1 (d1 : List GStep) (f3 : List GElem) (x2 : Int) (out2 : List GElem) : Option (((List GElem) × Int × (List GElem)) ⊕ (List GElem)) :=
  if (decide (x2 < (d1.length : Int))) then (
    bnd2 (
      bnd1 (idx d1 x2) fun (x5 : GStep) =>
      if (decide (x5.Kind = 0)) then (
        bnd1 (slc f3 0 x5.N) fun (l1 : List GElem) =>
        bnd1 (delta_changed l1 x5.Attrs) fun (r1 : List GElem) =>
        bnd1 (app 40 out2 r1) fun (out6 : List GElem) =>
        bnd1 (slc f3 x5.N (f3.length : Int)) fun (f6 : List GElem) =>
        some (f6, out6)
      ) else (
        if (decide (x5.Kind = 1)) then (
          bnd1 (flow_Copy x5.Elems) fun (r2 : List GElem) =>
          bnd1 (app 40 out2 r2) fun (out7 : List GElem) =>
          some (f3, out7)
        ) else (
          bnd1 (slc f3 x5.N (f3.length : Int)) fun (f7 : List GElem) =>
          some (f7, out2)
        )
      )
    ) fun (f5 : List GElem) (out5 : List GElem) =>
    bnd1 (chk .i64 (x2 + 1)) fun (x4 : Int) =>
    some (.inl (f5, x4, out5))
  ) else (
    some (.inr out2)
  )
noncomputable def delta_Raw (f1 : List GElem) (d1 : List GStep) : Option ((List GElem)) :=
  bnd1 (iter (fun (a : (List GElem) × Int × (List GElem)) => delta_Raw_L1 d1 a.1 a.2.1 a.2.2) (f1, 0, [])) fun (out4 : List GElem) =>
  some out4
noncomputable def delta_Apply (f1 : List GElem) (d1 : List GStep) : Option ((List GElem) × Int) :=
  bnd1 (delta_fits f1 d1) fun (e1 : Int) =>
  if (!decide (e1 = 0)) then (
    some ([], e1)
  ) else (
    bnd1 (delta_Raw f1 d1) fun (r1 : List GElem) =>
    some (r1, 0)
  )
noncomputable def law_deltas : Option (Bool) :=
  bnd1 (law_letters [97, 98]) fun (r1 : List GElem) =>
  bnd1 (law_letters [120]) fun (r2 : List GElem) =>
  bnd1 (law_on [98, 111, 108, 100]) fun (r3 : List GAttr) =>
  bnd2 (delta_Apply r1 [(GStep.mk 1 0 [] r2), (GStep.mk 2 1 [] []), (GStep.mk 0 1 r3 [])]) fun (r4 : List GElem) (r5 : Int) =>
  bnd1 (gd (((decide (r5 = 0)) && (decide ((r4.length : Int) = 2))) == true) (idx r4 0)) fun (x1 : GElem) =>
  bnd1 (gd ((((decide (r5 = 0)) && (decide ((r4.length : Int) = 2))) && (decide (x1.Char = 120))) == true) (idx r4 1)) fun (x2 : GElem) =>
  bnd1 (gd ((((decide (r5 = 0)) && (decide ((r4.length : Int) = 2))) && (decide (x1.Char = 120))) == true) (ref_SameAttrs x2.Attrs r3)) fun (r7 : Bool) =>
  some ((((decide (r5 = 0)) && (decide ((r4.length : Int) = 2))) && (decide (x1.Char = 120))) && r7)
noncomputable def ref_StepError (s1 : GStep) : Option (Int) :=
  bnd1 (ref_In s1.Kind 0 2) fun (r1 : Bool) =>
  if (!r1) then (
    some 8
  ) else (
    if (decide (s1.Kind = 1)) then (
      if ((!decide (s1.N = 0)) || (decide (0 < (s1.Attrs.length : Int)))) then (
        some 4
      ) else (
        if (decide ((s1.Elems.length : Int) = 0)) then (
          some 11
        ) else (
          bnd1 (ref_PartError s1.Elems) fun (r2 : Int) =>
          some r2
        )
      )
    ) else (
      if ((decide (0 < (s1.Elems.length : Int))) || ((decide (s1.Kind = 2)) && (decide (0 < (s1.Attrs.length : Int))))) then (
        some 4
      ) else (
        bnd1 (ref_In s1.N 1 2147483647) fun (r3 : Bool) =>
        if (!r3) then (
          some 2
        ) else (
          bnd1 (ref_AttrsError s1.Attrs true) fun (r4 : Int) =>
          some r4
        )
      )
    )
  )
noncomputable def ref_DeltaError_L1 (d1 : List GStep) (old2 : Int) (now2 : Int) (x2 : Int) : Option ((Int × Int × Int) ⊕ (Ctl (Int × Int) Int)) :=
  if (decide (x2 < (d1.length : Int))) then (
    ctl2 (
      bnd1 (idx d1 x2) fun (x5 : GStep) =>
      bnd1 (ref_StepError x5) fun (e1 : Int) =>
      if (!decide (e1 = 0)) then (
        some (.ext (.inr (.ext e1)))
      ) else (
        ctl1 (
          if (decide (0 < x2)) then (
            bnd1 (chk .i64 (x2 - 1)) fun (x7 : Int) =>
            bnd1 (idx d1 x7) fun (x8 : GStep) =>
            if (decide (x5.Kind = 1)) then (
              if (!decide (x8.Kind = 0)) then (
                some (.ext (.ext (.inr (.ext 5))))
              ) else (
                some (.nrm ())
              )
            ) else (
              if (decide (x5.Kind = 2)) then (
                if (decide (x8.Kind = 2)) then (
                  some (.ext (.ext (.inr (.ext 5))))
                ) else (
                  some (.nrm ())
                )
              ) else (
                bnd1 (gd ((decide (x8.Kind = 0)) == true) (ref_SameAttrs x8.Attrs x5.Attrs)) fun (r1 : Bool) =>
                if ((decide (x8.Kind = 0)) && r1) then (
                  some (.ext (.ext (.inr (.ext 5))))
                ) else (
                  some (.nrm ())
                )
              )
            )
          ) else (
            some (.nrm ())
          )
        ) fun (u2 : Unit) =>
        bnd1 (
          if ((!decide (x5.Kind = 1)) && (decide (old2 < 2147483648))) then (
            bnd1 (chk .i64 (old2 + x5.N)) fun (old7 : Int) =>
            some old7
          ) else (
            some old2
          )
        ) fun (old6 : Int) =>
        if ((!decide (x5.Kind = 2)) && (decide (now2 < 2147483648))) then (
          bnd1 (chk .i64 (x5.N + (x5.Elems.length : Int))) fun (x6 : Int) =>
          bnd1 (chk .i64 (now2 + x6)) fun (now6 : Int) =>
          some (.nrm (old6, now6))
        ) else (
          some (.nrm (old6, now2))
        )
      )
    ) fun (old5 : Int) (now5 : Int) =>
    bnd1 (chk .i64 (x2 + 1)) fun (x4 : Int) =>
    some (.inl (old5, now5, x4))
  ) else (
    some (.inr (.nrm (old2, now2)))
  )
noncomputable def ref_DeltaError (d1 : List GStep) : Option (Int) :=
  ctl2 (iter (fun (a : Int × Int × Int) => ref_DeltaError_L1 d1 a.1 a.2.1 a.2.2) (0, 0, 0)) fun (old4 : Int) (now4 : Int) =>
  if ((decide (2147483647 < old4)) || (decide (2147483647 < now4))) then (
    some 3
  ) else (
    some 0
  )
noncomputable def ref_DeltaSize_L1 (d1 : List GStep) (n2 : Int) (x2 : Int) : Option ((Int × Int) ⊕ Int) :=
  if (decide (x2 < (d1.length : Int))) then (
    bnd1 (idx d1 x2) fun (x4 : GStep) =>
    bnd1 (chk .i64 (n2 + x4.N)) fun (n5 : Int) =>
    bnd1 (chk .i64 (x2 + 1)) fun (x5 : Int) =>
    some (.inl (n5, x5))
  ) else (
    some (.inr n2)
  )
noncomputable def ref_DeltaSize (d1 : List GStep) : Option (Int) :=
  bnd1 (iter (fun (a : Int × Int) => ref_DeltaSize_L1 d1 a.1 a.2) (0, 0)) fun (n4 : Int) =>
  some n4
noncomputable def law_short (d1 : List GStep) : Option (Bool) :=
  bnd1 (ref_DeltaSize d1) fun (r1 : Int) =>
  some (decide (r1 ≤ 300))
noncomputable def delta_Axis_L1 (d1 : List GStep) (x2 : Int) (out2 : List GAxisStep) : Option ((Int × (List GAxisStep)) ⊕ (List GAxisStep)) :=
  if (decide (x2 < (d1.length : Int))) then (
    bnd1 (
      bnd1 (idx d1 x2) fun (x5 : GStep) =>
      bnd1 (chk .i64 ((out2.length : Int) - 1)) fun (k1 : Int) =>
      bnd1 (gd (((decide (x5.Kind = 0)) && (decide (0 ≤ k1))) == true) (idx out2 k1)) fun (x6 : GAxisStep) =>
      if (((decide (x5.Kind = 0)) && (decide (0 ≤ k1))) && (decide (x6.Kind = 0))) then (
        bnd1 (idx out2 k1) fun (x7 : GAxisStep) =>
        bnd1 (chk .i64 (x7.N + x5.N)) fun (x8 : Int) =>
        some (out2.set k1.toNat (GAxisStep.mk x7.Kind x8))
      ) else (
        bnd1 (delta_size x5) fun (r1 : Int) =>
        bnd1 (app 16 out2 [(GAxisStep.mk x5.Kind r1)]) fun (out6 : List GAxisStep) =>
        some out6
      )
    ) fun (out5 : List GAxisStep) =>
    bnd1 (chk .i64 (x2 + 1)) fun (x4 : Int) =>
    some (.inl (x4, out5))
  ) else (
    some (.inr out2)
  )
noncomputable def delta_Axis (d1 : List GStep) : Option ((List GAxisStep) × Int) :=
  bnd1 (delta_Check d1) fun (e1 : Int) =>
  if (!decide (e1 = 0)) then (
    some ([], e1)
  ) else (
    bnd1 (iter (fun (a : Int × (List GAxisStep)) => delta_Axis_L1 d1 a.1 a.2) (0, [])) fun (out4 : List GAxisStep) =>
    some (out4, 0)
  )
noncomputable def span_Move (d1 : List GStep) (at1 : Int) (right1 : Bool) : Option (Int × Int) :=
  bnd2 (delta_Axis d1) fun (r1 : List GAxisStep) (r2 : Int) =>
  if (!decide (r2 = 0)) then (
    some (0, r2)
  ) else (
    bnd2 (axis_Gap r1 at1 right1) fun (r3 : Int) (r4 : Int) =>
    some (r3, r4)
  )
noncomputable def span_Through_L1 (l1 : List GSpan) (r1 : List GAxisStep) (x4 : Int) (out2 : List GSpan) : Option ((Int × (List GSpan)) ⊕ (List GSpan)) :=
  if (decide (x4 < (l1.length : Int))) then (
    bnd1 (
      bnd1 (idx l1 x4) fun (x7 : GSpan) =>
      bnd2 (axis_Hull r1 x7.From x7.To) fun (r6 : Int) (r7 : Int) =>
      if (decide (r6 < r7)) then (
        bnd1 (span_add out2 (GSpan.mk r6 r7)) fun (w1 : List GSpan) =>
        some w1
      ) else (
        some out2
      )
    ) fun (out5 : List GSpan) =>
    bnd1 (chk .i64 (x4 + 1)) fun (x6 : Int) =>
    some (.inl (x6, out5))
  ) else (
    some (.inr out2)
  )
noncomputable def span_Through (d1 : List GStep) (l1 : List GSpan) : Option ((List GSpan) × Int) :=
  bnd2 (delta_Axis d1) fun (r1 : List GAxisStep) (r2 : Int) =>
  if (!decide (r2 = 0)) then (
    some ([], r2)
  ) else (
    bnd1 (span_Check l1) fun (e1 : Int) =>
    if (!decide (e1 = 0)) then (
      some ([], e1)
    ) else (
      bnd3 (axis_Lengths r1) fun (r3 : Int) (r4 : Int) (r5 : Int) =>
      bnd1 (gd ((decide (0 < (l1.length : Int))) == true) (chk .i64 ((l1.length : Int) - 1))) fun (x1 : Int) =>
      bnd1 (gd ((decide (0 < (l1.length : Int))) == true) (idx l1 x1)) fun (x2 : GSpan) =>
      if ((decide (0 < (l1.length : Int))) && (decide (r3 < x2.To))) then (
        some ([], 2)
      ) else (
        bnd1 (iter (fun (a : Int × (List GSpan)) => span_Through_L1 l1 r1 a.1 a.2) (0, [])) fun (out4 : List GSpan) =>
        some (out4, 0)
      )
    )
  )
noncomputable def law_plain (a1 : Ref_Act) : Option (Ref_Act) :=
  bnd1 (mk 24 (a1.Cuts.length : Int) []) fun (l1 : List (List GAttr)) =>
  some (Ref_Act.mk a1.Adds a1.Cuts l1)
noncomputable def span_Range (d1 : List GStep) (s1 : GSpan) : Option (GSpan × Int) :=
  bnd2 (delta_Axis d1) fun (r1 : List GAxisStep) (r2 : Int) =>
  if (!decide (r2 = 0)) then (
    some ((GSpan.mk 0 0), r2)
  ) else (
    bnd3 (axis_Rest r1 s1.From s1.To) fun (r3 : Int) (r4 : Int) (r5 : Int) =>
    some ((GSpan.mk r3 r4), r5)
  )
noncomputable def law_SpanThroughMatches_L2 (r5 : List GSpan) (want4 : List GSpan) (x7 : Int) : Option (Int ⊕ (Ctl Unit Bool)) :=
  if (decide (x7 < (r5.length : Int))) then (
    bnd1 (idx r5 x7) fun (x9 : GSpan) =>
    bnd1 (idx want4 x7) fun (x10 : GSpan) =>
    if (!(decide (x9.From = x10.From) && (decide (x9.To = x10.To) && true))) then (
      some (.inr (.ext false))
    ) else (
      bnd1 (chk .i64 (x7 + 1)) fun (x11 : Int) =>
      some (.inl x11)
    )
  ) else (
    some (.inr (.nrm ()))
  )
noncomputable def law_SpanThroughMatches_L1 (d1 : List GStep) (l1 : List GSpan) (units1 : List Int) (x4 : Int) (want2 : List GSpan) : Option ((Int × (List GSpan)) ⊕ (Ctl (List GSpan) Bool)) :=
  if (decide (x4 < (l1.length : Int))) then (
    ctl1 (
      bnd1 (idx l1 x4) fun (x13 : GSpan) =>
      bnd2 (ref_RestOf units1 x13.From x13.To) fun (r12 : Int) (r13 : Int) =>
      bnd2 (span_Range d1 x13) fun (r14 : GSpan) (r15 : Int) =>
      if ((!decide (r15 = 0)) || (!(decide (r14.From = r12) && (decide (r14.To = r13) && true)))) then (
        some (.ext (.inr (.ext false)))
      ) else (
        if (decide (r12 = r13)) then (
          some (.nrm want2)
        ) else (
          bnd1 (chk .i64 ((want2.length : Int) - 1)) fun (c1 : Int) =>
          bnd1 (gd ((decide (0 ≤ c1)) == true) (idx want2 c1)) fun (x14 : GSpan) =>
          if ((decide (0 ≤ c1)) && (decide (x14.To = r12))) then (
            bnd1 (idx want2 c1) fun (x15 : GSpan) =>
            some (.nrm (want2.set c1.toNat (GSpan.mk x15.From r13)))
          ) else (
            bnd1 (app 16 want2 [(GSpan.mk r12 r13)]) fun (want6 : List GSpan) =>
            some (.nrm want6)
          )
        )
      )
    ) fun (want5 : List GSpan) =>
    bnd1 (chk .i64 (x4 + 1)) fun (x12 : Int) =>
    some (.inl (x12, want5))
  ) else (
    some (.inr (.nrm want2))
  )
noncomputable def law_SpanThroughMatches (d1 : List GStep) (l1 : List GSpan) (at1 : Int) (right1 : Bool) : Option (Bool) :=
  bnd1 (law_spans) fun (r1 : Bool) =>
  bnd1 (gd ((!r1) == false) (law_deltas)) fun (r2 : Bool) =>
  if ((!r1) || (!r2)) then (
    some false
  ) else (
    bnd2 (span_Move d1 at1 right1) fun (r3 : Int) (r4 : Int) =>
    bnd2 (span_Through d1 l1) fun (r5 : List GSpan) (r6 : Int) =>
    bnd1 (ref_DeltaError d1) fun (f1 : Int) =>
    if (!decide (f1 = 0)) then (
      some ((((decide (r4 = f1)) && (decide (r6 = f1))) && (decide (r3 = 0))) && (decide ((r5.length : Int) = 0)))
    ) else (
      bnd1 (law_short d1) fun (r7 : Bool) =>
      if (!r7) then (
        some true
      ) else (
        bnd1 (ref_ActOf d1) fun (r8 : Ref_Act) =>
        bnd1 (law_plain r8) fun (r9 : Ref_Act) =>
        bnd1 (law_steps r9) fun (r10 : List GAxisStep) =>
        bnd1 (ref_Units r10) fun (units1 : List Int) =>
        bnd1 (ref_DeltaSize d1) fun (n1 : Int) =>
        bnd1 (ref_In at1 0 n1) fun (r11 : Bool) =>
        ctl1 (
          if (!r11) then (
            if ((!decide (r4 = 2)) || (!decide (r3 = 0))) then (
              some (.ext false)
            ) else (
              some (.nrm ())
            )
          ) else (
            bnd1 (gd ((!decide (r4 = 0)) == false) (ref_GapAt units1 at1 right1)) fun (r16 : Int) =>
            if ((!decide (r4 = 0)) || (!decide (r3 = r16))) then (
              some (.ext false)
            ) else (
              some (.nrm ())
            )
          )
        ) fun (u1 : Unit) =>
        bnd1 (law_setError l1) fun (f2 : Int) =>
        bnd1 (gd (((decide (f2 = 0)) && (decide (0 < (l1.length : Int)))) == true) (chk .i64 ((l1.length : Int) - 1))) fun (x1 : Int) =>
        bnd1 (gd (((decide (f2 = 0)) && (decide (0 < (l1.length : Int)))) == true) (idx l1 x1)) fun (x2 : GSpan) =>
        bnd1 (
          if (((decide (f2 = 0)) && (decide (0 < (l1.length : Int)))) && (decide (n1 < x2.To))) then (
            some 2
          ) else (
            some f2
          )
        ) fun (f3 : Int) =>
        if (!decide (f3 = 0)) then (
          some ((decide (r6 = f3)) && (decide ((r5.length : Int) = 0)))
        ) else (
          ctl1 (iter (fun (a : Int × (List GSpan)) => law_SpanThroughMatches_L1 d1 l1 units1 a.1 a.2) (0, [])) fun (want4 : List GSpan) =>
          if ((!decide (r6 = 0)) || (!decide ((r5.length : Int) = (want4.length : Int)))) then (
            some false
          ) else (
            ctl1 (iter (fun (a : Int) => law_SpanThroughMatches_L2 r5 want4 a) 0) fun (u4 : Unit) =>
            some true
          )
        )
      )
    )
  )
end Go.Proofs.Ytdeglnbioiicaaa.Al

