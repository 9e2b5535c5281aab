/- Models, as printed. -/
import Derived.Test.YtdeglnbioiicaaaAl2
namespace Go.Proofs.Ytdeglnbioiicaaa.Al
structure GAxisStep where
  Kind : Int
  N : Int
deriving DecidableEq
instance : Inhabited GAxisStep := ⟨⟨0, 0⟩⟩
@[reducible] def GAxisStep.row (x : GAxisStep) : List RV := [.int .i64 x.Kind, .int .i64 x.N]
structure Axis_Reader where
  steps : List GAxisStep
  used : Int
deriving DecidableEq
instance : Inhabited Axis_Reader := ⟨⟨[], 0⟩⟩
@[reducible] def Axis_Reader.row (x : Axis_Reader) : List RV := [.sl (x.steps.map GAxisStep.row), .int .i64 x.used]
structure Axis_Writer where
  out : List GAxisStep
  add : Int
  cut : Int
deriving DecidableEq
instance : Inhabited Axis_Writer := ⟨⟨[], 0, 0⟩⟩
@[reducible] def Axis_Writer.row (x : Axis_Writer) : List RV := [.sl (x.out.map GAxisStep.row), .int .i64 x.add, .int .i64 x.cut]
structure GAttr where
  Name : List UInt8
  Value : List UInt8
deriving DecidableEq
instance : Inhabited GAttr := ⟨⟨[], []⟩⟩
@[reducible] def GAttr.row (x : GAttr) : List RV := [.str x.Name, .str x.Value]
structure GElem where
  Char : Int
  Ref : Int
  Attrs : List GAttr
deriving DecidableEq
instance : Inhabited GElem := ⟨⟨0, 0, []⟩⟩
@[reducible] def GElem.row (x : GElem) : List RV := [.int .i64 x.Char, .int .i64 x.Ref, .sl (x.Attrs.map GAttr.row)]
structure GCell where
  Row : Int
  Col : Int
  Text : List UInt8
  Ref : Int
  Attrs : List GAttr
deriving DecidableEq
instance : Inhabited GCell := ⟨⟨0, 0, [], 0, []⟩⟩
@[reducible] def GCell.row (x : GCell) : List RV := [.int .i64 x.Row, .int .i64 x.Col, .str x.Text, .int .i64 x.Ref, .sl (x.Attrs.map GAttr.row)]
structure GRect where
  Row : Int
  Col : Int
  H : Int
  W : Int
deriving DecidableEq
instance : Inhabited GRect := ⟨⟨0, 0, 0, 0⟩⟩
@[reducible] def GRect.row (x : GRect) : List RV := [.int .i64 x.Row, .int .i64 x.Col, .int .i64 x.H, .int .i64 x.W]
structure GGrid where
  Rows : Int
  Cols : Int
  Cells : List GCell
  Merges : List GRect
deriving DecidableEq
instance : Inhabited GGrid := ⟨⟨0, 0, [], []⟩⟩
@[reducible] def GGrid.row (x : GGrid) : List RV := [.int .i64 x.Rows, .int .i64 x.Cols, .sl (x.Cells.map GCell.row), .sl (x.Merges.map GRect.row)]
structure GDrawOp where
  Clock : Int
  Site : Int
  Kind : Int
  Item : Int
  Parent : Int
  Place : List UInt8
  Name : List UInt8
  Value : List UInt8
deriving DecidableEq
instance : Inhabited GDrawOp := ⟨⟨0, 0, 0, 0, 0, [], [], []⟩⟩
@[reducible] def GDrawOp.row (x : GDrawOp) : List RV := [.int .i64 x.Clock, .int .i64 x.Site, .int .i64 x.Kind, .int .i64 x.Item, .int .i64 x.Parent, .str x.Place, .str x.Name, .str x.Value]
structure GNode where
  ID : Int
  Kind : Int
  Attrs : List GAttr
  Flow : List GElem
  Grid : GGrid
  Draw : List GDrawOp
deriving DecidableEq
instance : Inhabited GNode := ⟨⟨0, 0, [], [], (GGrid.mk 0 0 [] []), []⟩⟩
@[reducible] def GNode.row (x : GNode) : List RV := [.int .i64 x.ID, .int .i64 x.Kind, .sl (x.Attrs.map GAttr.row), .sl (x.Flow.map GElem.row), .int .i64 x.Grid.Rows, .int .i64 x.Grid.Cols, .sl (x.Grid.Cells.map GCell.row), .sl (x.Grid.Merges.map GRect.row), .sl (x.Draw.map GDrawOp.row)]
structure GStep where
  Kind : Int
  N : Int
  Attrs : List GAttr
  Elems : List GElem
deriving DecidableEq
instance : Inhabited GStep := ⟨⟨0, 0, [], []⟩⟩
@[reducible] def GStep.row (x : GStep) : List RV := [.int .i64 x.Kind, .int .i64 x.N, .sl (x.Attrs.map GAttr.row), .sl (x.Elems.map GElem.row)]
structure GGridEdit where
  Rows : List GAxisStep
  Cols : List GAxisStep
  Cells : List GCell
  Split : List GRect
  Merge : List GRect
deriving DecidableEq
instance : Inhabited GGridEdit := ⟨⟨[], [], [], [], []⟩⟩
@[reducible] def GGridEdit.row (x : GGridEdit) : List RV := [.sl (x.Rows.map GAxisStep.row), .sl (x.Cols.map GAxisStep.row), .sl (x.Cells.map GCell.row), .sl (x.Split.map GRect.row), .sl (x.Merge.map GRect.row)]
structure GOp where
  Kind : Int
  Node : Int
  New : GNode
  Attrs : List GAttr
  Steps : List GStep
  Grid : GGridEdit
  Draw : List GDrawOp
deriving DecidableEq
instance : Inhabited GOp := ⟨⟨0, 0, (GNode.mk 0 0 [] [] (GGrid.mk 0 0 [] []) []), [], [], (GGridEdit.mk [] [] [] [] []), []⟩⟩
@[reducible] def GOp.row (x : GOp) : List RV := [.int .i64 x.Kind, .int .i64 x.Node, .int .i64 x.New.ID, .int .i64 x.New.Kind, .sl (x.New.Attrs.map GAttr.row), .sl (x.New.Flow.map GElem.row), .int .i64 x.New.Grid.Rows, .int .i64 x.New.Grid.Cols, .sl (x.New.Grid.Cells.map GCell.row), .sl (x.New.Grid.Merges.map GRect.row), .sl (x.New.Draw.map GDrawOp.row), .sl (x.Attrs.map GAttr.row), .sl (x.Steps.map GStep.row), .sl (x.Grid.Rows.map GAxisStep.row), .sl (x.Grid.Cols.map GAxisStep.row), .sl (x.Grid.Cells.map GCell.row), .sl (x.Grid.Split.map GRect.row), .sl (x.Grid.Merge.map GRect.row), .sl (x.Draw.map GDrawOp.row)]
structure GEntry where
  Site : Int
  Number : Int
  Change : List GOp
  Undoes : Int
  Refused : Int
deriving DecidableEq
instance : Inhabited GEntry := ⟨⟨0, 0, [], 0, 0⟩⟩
@[reducible] def GEntry.row (x : GEntry) : List RV := [.int .i64 x.Site, .int .i64 x.Number, .sl (x.Change.map GOp.row), .int .i64 x.Undoes, .int .i64 x.Refused]
structure GSpan where
  From : Int
  To : Int
deriving DecidableEq
instance : Inhabited GSpan := ⟨⟨0, 0⟩⟩
@[reducible] def GSpan.row (x : GSpan) : List RV := [.int .i64 x.From, .int .i64 x.To]
noncomputable def ref_In (x1 : Int) (low1 : Int) (high1 : Int) : Option (Bool) :=
  some ((decide (low1 ≤ x1)) && (decide (x1 ≤ high1)))
noncomputable def axis_Check_L1 (a1 : List GAxisStep) (before2 : Int) (after2 : Int) (x2 : Int) : Option ((Int × Int × Int) ⊕ (Ctl (Int × Int) Int)) :=
  if (decide (x2 < (a1.length : Int))) then (
    ctl2 (
      bnd1 (idx a1 x2) fun (x5 : GAxisStep) =>
      if ((decide (x5.Kind < 0)) || (decide (2 < x5.Kind))) then (
        some (.ext (.inr (.ext 8)))
      ) else (
        if ((decide (x5.N < 1)) || (decide (2147483647 < x5.N))) then (
          some (.ext (.inr (.ext 2)))
        ) else (
          bnd1 (gd ((decide (0 < x2)) == true) (chk .i64 (x2 - 1))) fun (x6 : Int) =>
          bnd1 (gd ((decide (0 < x2)) == true) (idx a1 x6)) fun (x7 : GAxisStep) =>
          if ((decide (0 < x2)) && ((decide (x7.Kind = x5.Kind)) || ((decide (x7.Kind = 2)) && (decide (x5.Kind = 1))))) then (
            some (.ext (.inr (.ext 5)))
          ) else (
            bnd1 (
              if (!decide (x5.Kind = 1)) then (
                bnd1 (chk .i64 (before2 + x5.N)) fun (x9 : Int) =>
                some (min x9 2147483648)
              ) else (
                some before2
              )
            ) fun (before6 : Int) =>
            if (!decide (x5.Kind = 2)) then (
              bnd1 (chk .i64 (after2 + x5.N)) fun (x8 : Int) =>
              some (.nrm (before6, (min x8 2147483648)))
            ) else (
              some (.nrm (before6, after2))
            )
          )
        )
      )
    ) fun (before5 : Int) (after5 : Int) =>
    bnd1 (chk .i64 (x2 + 1)) fun (x4 : Int) =>
    some (.inl (before5, after5, x4))
  ) else (
    some (.inr (.nrm (before2, after2)))
  )
noncomputable def axis_Check (a1 : List GAxisStep) : Option (Int) :=
  ctl2 (iter (fun (a : Int × Int × Int) => axis_Check_L1 a1 a.1 a.2.1 a.2.2) (0, 0, 0)) fun (before4 : Int) (after4 : Int) =>
  if ((decide (2147483647 < before4)) || (decide (2147483647 < after4))) then (
    some 3
  ) else (
    some 0
  )
noncomputable def axis_lengths_L1 (a1 : List GAxisStep) (before2 : Int) (after2 : Int) (x2 : Int) : Option ((Int × Int × Int) ⊕ (Int × Int)) :=
  if (decide (x2 < (a1.length : Int))) then (
    bnd2 (
      bnd1 (idx a1 x2) fun (x5 : GAxisStep) =>
      bnd1 (
        if (!decide (x5.Kind = 1)) then (
          bnd1 (chk .i64 (before2 + x5.N)) fun (before7 : Int) =>
          some before7
        ) else (
          some before2
        )
      ) fun (before6 : Int) =>
      if (!decide (x5.Kind = 2)) then (
        bnd1 (chk .i64 (after2 + x5.N)) fun (after6 : Int) =>
        some (before6, after6)
      ) else (
        some (before6, after2)
      )
    ) fun (before5 : Int) (after5 : Int) =>
    bnd1 (chk .i64 (x2 + 1)) fun (x4 : Int) =>
    some (.inl (before5, after5, x4))
  ) else (
    some (.inr (before2, after2))
  )
noncomputable def axis_lengths (a1 : List GAxisStep) : Option (Int × Int) :=
  bnd2 (iter (fun (a : Int × Int × Int) => axis_lengths_L1 a1 a.1 a.2.1 a.2.2) (0, 0, 0)) fun (before4 : Int) (after4 : Int) =>
  some (before4, after4)
noncomputable def axis_place_L1 (a1 : List GAxisStep) (p1 : Int) (from2 : Int) (to2 : Int) (x2 : Int) : Option ((Int × Int × Int) ⊕ (Ctl Unit Int)) :=
  if (decide (x2 < (a1.length : Int))) then (
    ctl2 (
      bnd1 (idx a1 x2) fun (x5 : GAxisStep) =>
      ctl1 (
        if (decide (x5.Kind = 1)) then (
          bnd1 (chk .i64 (to2 + x5.N)) fun (to6 : Int) =>
          some (.ext (.nrm (from2, to6)))
        ) else (
          if (decide (x5.Kind = 0)) then (
            bnd1 (chk .i64 (from2 + x5.N)) fun (x6 : Int) =>
            if (decide (p1 < x6)) then (
              bnd1 (chk .i64 (to2 + p1)) fun (x7 : Int) =>
              bnd1 (chk .i64 (x7 - from2)) fun (x8 : Int) =>
              some (.ext (.ext (.inr (.ext x8))))
            ) else (
              bnd1 (chk .i64 (to2 + x5.N)) fun (to7 : Int) =>
              some (.nrm to7)
            )
          ) else (
            bnd1 (chk .i64 (from2 + x5.N)) fun (x9 : Int) =>
            if (decide (p1 < x9)) then (
              some (.ext (.ext (.inr (.ext (-1)))))
            ) else (
              some (.nrm to2)
            )
          )
        )
      ) fun (to5 : Int) =>
      bnd1 (chk .i64 (from2 + x5.N)) fun (from5 : Int) =>
      some (.nrm (from5, to5))
    ) fun (from4 : Int) (to4 : Int) =>
    bnd1 (chk .i64 (x2 + 1)) fun (x4 : Int) =>
    some (.inl (from4, to4, x4))
  ) else (
    some (.inr (.nrm ()))
  )
noncomputable def axis_place (a1 : List GAxisStep) (p1 : Int) : Option (Int) :=
  ctl1 (iter (fun (a : Int × Int × Int) => axis_place_L1 a1 p1 a.1 a.2.1 a.2.2) (0, 0, 0)) fun (u2 : Unit) =>
  some (-1)
noncomputable def axis_Apply_L1 (a1 : List GAxisStep) (places1 : List Int) (r1 : Int) (x2 : Int) (out2 : List Int) : Option ((Int × (List Int)) ⊕ (Ctl (List Int) ((List Int) × Int))) :=
  if (decide (x2 < (places1.length : Int))) then (
    bnd1 (idx places1 x2) fun (x4 : Int) =>
    if ((decide (x4 < 0)) || (decide (r1 ≤ x4))) then (
      some (.inr (.ext ([], 2)))
    ) else (
      bnd1 (axis_place a1 x4) fun (r3 : Int) =>
      bnd1 (app 8 out2 [r3]) fun (out5 : List Int) =>
      bnd1 (chk .i64 (x2 + 1)) fun (x5 : Int) =>
      some (.inl (x5, out5))
    )
  ) else (
    some (.inr (.nrm out2))
  )
noncomputable def axis_Apply (a1 : List GAxisStep) (places1 : List Int) : Option ((List Int) × Int) :=
  bnd1 (axis_Check a1) fun (e1 : Int) =>
  if (!decide (e1 = 0)) then (
    some ([], e1)
  ) else (
    bnd2 (axis_lengths a1) fun (r1 : Int) (r2 : Int) =>
    ctl1 (iter (fun (a : Int × (List Int)) => axis_Apply_L1 a1 places1 r1 a.1 a.2) (0, [])) fun (out4 : List Int) =>
    some (out4, 0)
  )
noncomputable def ref_SameInts_L1 (a1 : List Int) (b1 : List Int) (x2 : Int) : Option (Int ⊕ (Ctl Unit Bool)) :=
  if (decide (x2 < (a1.length : Int))) then (
    bnd1 (idx a1 x2) fun (x4 : Int) =>
    bnd1 (idx b1 x2) fun (x5 : Int) =>
    if (!decide (x4 = x5)) then (
      some (.inr (.ext false))
    ) else (
      bnd1 (chk .i64 (x2 + 1)) fun (x6 : Int) =>
      some (.inl x6)
    )
  ) else (
    some (.inr (.nrm ()))
  )
noncomputable def ref_SameInts (a1 : List Int) (b1 : List Int) : Option (Bool) :=
  if (!decide ((a1.length : Int) = (b1.length : Int))) then (
    some false
  ) else (
    ctl1 (iter (fun (a : Int) => ref_SameInts_L1 a1 b1 a) 0) fun (u2 : Unit) =>
    some true
  )
noncomputable def law_axes : Option (Bool) :=
  bnd2 (axis_Apply [(GAxisStep.mk 0 2), (GAxisStep.mk 1 3), (GAxisStep.mk 0 1)] [1, 2]) fun (r1 : List Int) (r2 : Int) =>
  bnd1 (
    if ((decide (r2 = 0)) == true) then (
      bnd1 (ref_SameInts r1 [1, 5]) fun (r3 : Bool) =>
      some ((decide (r2 = 0)) && r3)
    ) else (
      some ((decide (r2 = 0)) && false)
    )
  ) fun (x1 : Bool) =>
  some x1
noncomputable def ref_AxisError_L1 (a1 : List GAxisStep) (old2 : Int) (now2 : Int) (x2 : Int) : Option ((Int × Int × Int) ⊕ (Ctl (Int × Int) Int)) :=
  if (decide (x2 < (a1.length : Int))) then (
    ctl2 (
      bnd1 (idx a1 x2) fun (x5 : GAxisStep) =>
      bnd1 (ref_In x5.Kind 0 2) fun (r1 : Bool) =>
      if (!r1) then (
        some (.ext (.inr (.ext 8)))
      ) else (
        bnd1 (ref_In x5.N 1 2147483647) fun (r2 : Bool) =>
        if (!r2) then (
          some (.ext (.inr (.ext 2)))
        ) else (
          bnd1 (gd ((decide (0 < x2)) == true) (chk .i64 (x2 - 1))) fun (x6 : Int) =>
          bnd1 (gd ((decide (0 < x2)) == true) (idx a1 x6)) fun (x7 : GAxisStep) =>
          bnd1 (gd ((((decide (0 < x2)) == true) && ((decide (x5.Kind = x7.Kind)) == false)) && ((decide (x5.Kind = 1)) == true)) (chk .i64 (x2 - 1))) fun (x8 : Int) =>
          bnd1 (gd ((((decide (0 < x2)) == true) && ((decide (x5.Kind = x7.Kind)) == false)) && ((decide (x5.Kind = 1)) == true)) (idx a1 x8)) fun (x9 : GAxisStep) =>
          if ((decide (0 < x2)) && ((decide (x5.Kind = x7.Kind)) || ((decide (x5.Kind = 1)) && (decide (x9.Kind = 2))))) then (
            some (.ext (.inr (.ext 5)))
          ) else (
            bnd1 (
              if ((!decide (x5.Kind = 1)) && (decide (old2 < 2147483648))) then (
                bnd1 (chk .i64 (old2 + x5.N)) fun (old7 : Int) =>
                some old7
              ) else (
                some old2
              )
            ) fun (old6 : Int) =>
            if ((!decide (x5.Kind = 2)) && (decide (now2 < 2147483648))) then (
              bnd1 (chk .i64 (now2 + x5.N)) fun (now6 : Int) =>
              some (.nrm (old6, now6))
            ) else (
              some (.nrm (old6, now2))
            )
          )
        )
      )
    ) fun (old5 : Int) (now5 : Int) =>
    bnd1 (chk .i64 (x2 + 1)) fun (x4 : Int) =>
    some (.inl (old5, now5, x4))
  ) else (
    some (.inr (.nrm (old2, now2)))
  )
noncomputable def ref_AxisError (a1 : List GAxisStep) : Option (Int) :=
  ctl2 (iter (fun (a : Int × Int × Int) => ref_AxisError_L1 a1 a.1 a.2.1 a.2.2) (0, 0, 0)) fun (old4 : Int) (now4 : Int) =>
  if ((decide (2147483647 < old4)) || (decide (2147483647 < now4))) then (
    some 3
  ) else (
    some 0
  )
noncomputable def ref_AxisSize_L1 (a1 : List GAxisStep) (n2 : Int) (x2 : Int) : Option ((Int × Int) ⊕ Int) :=
  if (decide (x2 < (a1.length : Int))) then (
    bnd1 (idx a1 x2) fun (x4 : GAxisStep) =>
    bnd1 (chk .i64 (n2 + x4.N)) fun (n5 : Int) =>
    bnd1 (chk .i64 (x2 + 1)) fun (x5 : Int) =>
    some (.inl (n5, x5))
  ) else (
    some (.inr n2)
  )
noncomputable def ref_AxisSize (a1 : List GAxisStep) : Option (Int) :=
  bnd1 (iter (fun (a : Int × Int) => ref_AxisSize_L1 a1 a.1 a.2) (0, 0)) fun (n4 : Int) =>
  some n4
noncomputable def law_few (a1 : List GAxisStep) : Option (Bool) :=
  bnd1 (ref_AxisSize a1) fun (r1 : Int) =>
  some (decide (r1 ≤ 300))
noncomputable def ref_SameAttrs_L1 (a1 : List GAttr) (b1 : List GAttr) (x2 : Int) : Option (Int ⊕ (Ctl Unit Bool)) :=
  if (decide (x2 < (a1.length : Int))) then (
    bnd1 (idx a1 x2) fun (x4 : GAttr) =>
    bnd1 (idx b1 x2) fun (x5 : GAttr) =>
    if (!(decide (x4.Name = x5.Name) && (decide (x4.Value = x5.Value) && true))) then (
      some (.inr (.ext false))
    ) else (
      bnd1 (chk .i64 (x2 + 1)) fun (x6 : Int) =>
      some (.inl x6)
    )
  ) else (
    some (.inr (.nrm ()))
  )
noncomputable def ref_SameAttrs (a1 : List GAttr) (b1 : List GAttr) : Option (Bool) :=
  if (!decide ((a1.length : Int) = (b1.length : Int))) then (
    some false
  ) else (
    ctl1 (iter (fun (a : Int) => ref_SameAttrs_L1 a1 b1 a) 0) fun (u2 : Unit) =>
    some true
  )
noncomputable def ref_Get_L1 (l1 : List GAttr) (name1 : List UInt8) (x2 : Int) : Option (Int ⊕ (Ctl Unit (List UInt8))) :=
  if (decide (x2 < (l1.length : Int))) then (
    bnd1 (idx l1 x2) fun (x4 : GAttr) =>
    if (decide (x4.Name = name1)) then (
      some (.inr (.ext x4.Value))
    ) else (
      bnd1 (chk .i64 (x2 + 1)) fun (x5 : Int) =>
      some (.inl x5)
    )
  ) else (
    some (.inr (.nrm ()))
  )
noncomputable def ref_Get (l1 : List GAttr) (name1 : List UInt8) : Option ((List UInt8)) :=
  ctl1 (iter (fun (a : Int) => ref_Get_L1 l1 name1 a) 0) fun (u2 : Unit) =>
  some []
noncomputable def ref_put_L1 (l1 : List GAttr) (a1 : GAttr) (done2 : Bool) (x2 : Int) (out2 : List GAttr) : Option ((Bool × Int × (List GAttr)) ⊕ (Bool × (List GAttr))) :=
  if (decide (x2 < (l1.length : Int))) then (
    bnd2 (
      bnd1 (gd ((!done2) == true) (idx l1 x2)) fun (x5 : GAttr) =>
      bnd2 (
        if ((!done2) && (!sLt x5.Name a1.Name)) then (
          bnd1 (app 32 out2 [a1]) fun (out10 : List GAttr) =>
          some (true, out10)
        ) else (
          some (done2, out2)
        )
      ) fun (done6 : Bool) (out8 : List GAttr) =>
      bnd1 (idx l1 x2) fun (x6 : GAttr) =>
      if (!decide (x6.Name = a1.Name)) then (
        bnd1 (app 32 out8 [x6]) fun (out9 : List GAttr) =>
        some (done6, out9)
      ) else (
        some (done6, out8)
      )
    ) fun (done5 : Bool) (out7 : List GAttr) =>
    bnd1 (chk .i64 (x2 + 1)) fun (x4 : Int) =>
    some (.inl (done5, x4, out7))
  ) else (
    some (.inr (done2, out2))
  )
noncomputable def ref_put (l1 : List GAttr) (a1 : GAttr) : Option ((List GAttr)) :=
  bnd2 (iter (fun (a : Bool × Int × (List GAttr)) => ref_put_L1 l1 a1 a.1 a.2.1 a.2.2) (false, 0, [])) fun (done4 : Bool) (out4 : List GAttr) =>
  bnd1 (
    if (!done4) then (
      bnd1 (app 32 out4 [a1]) fun (out6 : List GAttr) =>
      some out6
    ) else (
      some out4
    )
  ) fun (out5 : List GAttr) =>
  some out5
noncomputable def ref_Changed_L3 (out8 : List GAttr) (x8 : Int) (rest2 : List GAttr) : Option ((Int × (List GAttr)) ⊕ (List GAttr)) :=
  if (decide (x8 < (out8.length : Int))) then (
    bnd1 (
      bnd1 (idx out8 x8) fun (x11 : GAttr) =>
      if (!decide (x11.Value = [])) then (
        bnd1 (app 32 rest2 [x11]) fun (rest6 : List GAttr) =>
        some rest6
      ) else (
        some rest2
      )
    ) fun (rest5 : List GAttr) =>
    bnd1 (chk .i64 (x8 + 1)) fun (x10 : Int) =>
    some (.inl (x10, rest5))
  ) else (
    some (.inr rest2)
  )
noncomputable def ref_Changed_L2 (change1 : List GAttr) (out6 : List GAttr) (x5 : Int) : Option (((List GAttr) × Int) ⊕ (List GAttr)) :=
  if (decide (x5 < (change1.length : Int))) then (
    bnd1 (idx change1 x5) fun (x12 : GAttr) =>
    bnd1 (ref_put out6 x12) fun (out9 : List GAttr) =>
    bnd1 (chk .i64 (x5 + 1)) fun (x13 : Int) =>
    some (.inl (out9, x13))
  ) else (
    some (.inr out6)
  )
noncomputable def ref_Changed_L1 (l1 : List GAttr) (out2 : List GAttr) (x2 : Int) : Option (((List GAttr) × Int) ⊕ (List GAttr)) :=
  if (decide (x2 < (l1.length : Int))) then (
    bnd1 (idx l1 x2) fun (x14 : GAttr) =>
    bnd1 (ref_put out2 x14) fun (out10 : List GAttr) =>
    bnd1 (chk .i64 (x2 + 1)) fun (x15 : Int) =>
    some (.inl (out10, x15))
  ) else (
    some (.inr out2)
  )
noncomputable def ref_Changed (l1 : List GAttr) (change1 : List GAttr) : Option ((List GAttr)) :=
  bnd1 (iter (fun (a : (List GAttr) × Int) => ref_Changed_L1 l1 a.1 a.2) ([], 0)) fun (out4 : List GAttr) =>
  bnd1 (iter (fun (a : (List GAttr) × Int) => ref_Changed_L2 change1 a.1 a.2) (out4, 0)) fun (out8 : List GAttr) =>
  bnd1 (iter (fun (a : Int × (List GAttr)) => ref_Changed_L3 out8 a.1 a.2) (0, [])) fun (rest4 : List GAttr) =>
  some rest4
noncomputable def ref_Between_L2 (a1 : List GAttr) (b1 : List GAttr) (out6 : List GAttr) (x5 : Int) : Option (((List GAttr) × Int) ⊕ (List GAttr)) :=
  if (decide (x5 < (a1.length : Int))) then (
    bnd1 (
      bnd1 (idx a1 x5) fun (x8 : GAttr) =>
      bnd1 (ref_Get b1 x8.Name) fun (r1 : List UInt8) =>
      if (decide (r1 = [])) then (
        bnd1 (ref_put out6 (GAttr.mk x8.Name [])) fun (out10 : List GAttr) =>
        some out10
      ) else (
        some out6
      )
    ) fun (out9 : List GAttr) =>
    bnd1 (chk .i64 (x5 + 1)) fun (x7 : Int) =>
    some (.inl (out9, x7))
  ) else (
    some (.inr out6)
  )
noncomputable def ref_Between_L1 (a1 : List GAttr) (b1 : List GAttr) (out2 : List GAttr) (x2 : Int) : Option (((List GAttr) × Int) ⊕ (List GAttr)) :=
  if (decide (x2 < (b1.length : Int))) then (
    bnd1 (
      bnd1 (idx b1 x2) fun (x10 : GAttr) =>
      bnd1 (ref_Get a1 x10.Name) fun (r2 : List UInt8) =>
      if (!decide (r2 = x10.Value)) then (
        bnd1 (ref_put out2 x10) fun (out12 : List GAttr) =>
        some out12
      ) else (
        some out2
      )
    ) fun (out11 : List GAttr) =>
    bnd1 (chk .i64 (x2 + 1)) fun (x9 : Int) =>
    some (.inl (out11, x9))
  ) else (
    some (.inr out2)
  )
noncomputable def ref_Between (a1 : List GAttr) (b1 : List GAttr) : Option ((List GAttr)) :=
  bnd1 (iter (fun (a : (List GAttr) × Int) => ref_Between_L1 a1 b1 a.1 a.2) ([], 0)) fun (out4 : List GAttr) =>
  bnd1 (iter (fun (a : (List GAttr) × Int) => ref_Between_L2 a1 b1 a.1 a.2) (out4, 0)) fun (out8 : List GAttr) =>
  some out8
noncomputable def ref_Joined_L2 (b1 : List GAttr) (out6 : List GAttr) (x5 : Int) : Option (((List GAttr) × Int) ⊕ (List GAttr)) :=
  if (decide (x5 < (b1.length : Int))) then (
    bnd1 (idx b1 x5) fun (x7 : GAttr) =>
    bnd1 (ref_put out6 x7) fun (out9 : List GAttr) =>
    bnd1 (chk .i64 (x5 + 1)) fun (x8 : Int) =>
    some (.inl (out9, x8))
  ) else (
    some (.inr out6)
  )
noncomputable def ref_Joined_L1 (a1 : List GAttr) (out2 : List GAttr) (x2 : Int) : Option (((List GAttr) × Int) ⊕ (List GAttr)) :=
  if (decide (x2 < (a1.length : Int))) then (
    bnd1 (idx a1 x2) fun (x9 : GAttr) =>
    bnd1 (ref_put out2 x9) fun (out10 : List GAttr) =>
    bnd1 (chk .i64 (x2 + 1)) fun (x10 : Int) =>
    some (.inl (out10, x10))
  ) else (
    some (.inr out2)
  )
noncomputable def ref_Joined (a1 : List GAttr) (b1 : List GAttr) : Option ((List GAttr)) :=
  bnd1 (iter (fun (a : (List GAttr) × Int) => ref_Joined_L1 a1 a.1 a.2) ([], 0)) fun (out4 : List GAttr) =>
  bnd1 (iter (fun (a : (List GAttr) × Int) => ref_Joined_L2 b1 a.1 a.2) (out4, 0)) fun (out8 : List GAttr) =>
  some out8
noncomputable def axis_writer_flush (w1 : Axis_Writer) : Option (Axis_Writer) :=
  bnd1 (
    if (decide (0 < w1.add)) then (
      bnd1 (app 16 w1.out [(GAxisStep.mk 1 w1.add)]) fun (l2 : List GAxisStep) =>
      some (Axis_Writer.mk l2 w1.add w1.cut)
    ) else (
      some w1
    )
  ) fun (w2 : Axis_Writer) =>
  bnd1 (
    if (decide (0 < w2.cut)) then (
      bnd1 (app 16 w2.out [(GAxisStep.mk 2 w2.cut)]) fun (l1 : List GAxisStep) =>
      some (Axis_Writer.mk l1 w2.add w2.cut)
    ) else (
      some w2
    )
  ) fun (w3 : Axis_Writer) =>
  some (Axis_Writer.mk w3.out 0 0)
noncomputable def axis_writer_put (w1 : Axis_Writer) (kind1 : Int) (n1 : Int) : Option (Axis_Writer) :=
  if (decide (n1 = 0)) then (
    some w1
  ) else (
    if (decide (kind1 = 1)) then (
      bnd1 (chk .i64 (w1.add + n1)) fun (x1 : Int) =>
      some (Axis_Writer.mk w1.out x1 w1.cut)
    ) else (
      if (decide (kind1 = 2)) then (
        bnd1 (chk .i64 (w1.cut + n1)) fun (x2 : Int) =>
        some (Axis_Writer.mk w1.out w1.add x2)
      ) else (
        bnd1 (axis_writer_flush w1) fun (w2 : Axis_Writer) =>
        bnd1 (chk .i64 ((w2.out.length : Int) - 1)) fun (k1 : Int) =>
        bnd1 (gd ((decide (0 ≤ k1)) == true) (idx w2.out k1)) fun (x3 : GAxisStep) =>
        if ((decide (0 ≤ k1)) && (decide (x3.Kind = 0))) then (
          bnd1 (idx w2.out k1) fun (x4 : GAxisStep) =>
          bnd1 (chk .i64 (x4.N + n1)) fun (x5 : Int) =>
          some (Axis_Writer.mk (w2.out.set k1.toNat (GAxisStep.mk x4.Kind x5)) w2.add w2.cut)
        ) else (
          bnd1 (app 16 w2.out [(GAxisStep.mk 0 n1)]) fun (l1 : List GAxisStep) =>
          some (Axis_Writer.mk l1 w2.add w2.cut)
        )
      )
    )
  )
noncomputable def axis_writer_done (w1 : Axis_Writer) : Option ((List GAxisStep) × Int × Axis_Writer) :=
  bnd1 (axis_writer_flush w1) fun (w2 : Axis_Writer) =>
  bnd1 (axis_Check w2.out) fun (r1 : Int) =>
  if (!decide (r1 = 0)) then (
    some ([], 3, w2)
  ) else (
    some (w2.out, 0, w2)
  )
noncomputable def axis_reader_kind (w1 : Axis_Reader) : Option (Int) :=
  if (decide ((w1.steps.length : Int) = 0)) then (
    some (-1)
  ) else (
    bnd1 (idx w1.steps 0) fun (x1 : GAxisStep) =>
    some x1.Kind
  )
end Go.Proofs.Ytdeglnbioiicaaa.Al


namespace Go.Proofs.Ytdeglnbioiicaaa.Al
structure Ref_Act where
  Adds : List (List GElem)
  Cuts : List Bool
  Attrs : List (List GAttr)
deriving DecidableEq
instance : Inhabited Ref_Act := ⟨⟨[], [], []⟩⟩
@[reducible] def Ref_Act.row (x : Ref_Act) : List RV := [.sl (x.Adds.map (rSl GElem.row)), .sl (x.Cuts.map rBool), .sl (x.Attrs.map (rSl GAttr.row))]
noncomputable def axis_reader_left (w1 : Axis_Reader) : Option (Int) :=
  bnd1 (idx w1.steps 0) fun (x1 : GAxisStep) =>
  bnd1 (chk .i64 (x1.N - w1.used)) fun (x2 : Int) =>
  some x2
noncomputable def axis_reader_take (w1 : Axis_Reader) (n1 : Int) : Option (Axis_Reader) :=
  bnd1 (chk .i64 (w1.used + n1)) fun (x1 : Int) =>
  bnd1 (idx w1.steps 0) fun (x2 : GAxisStep) =>
  if (decide (x1 = x2.N)) then (
    bnd1 (slc w1.steps 1 (w1.steps.length : Int)) fun (l1 : List GAxisStep) =>
    some (Axis_Reader.mk l1 0)
  ) else (
    some (Axis_Reader.mk w1.steps x1)
  )
noncomputable def ref_ActOf_L2 (x5 : GStep) (x8 : Int) (a7 : Ref_Act) : Option ((Int × Ref_Act) ⊕ (Ctl Unit Ref_Act)) :=
  if (decide (x8 < x5.N)) then (
    bnd1 (app 24 a7.Adds [[]]) fun (l3 : List (List GElem)) =>
    bnd1 (app 1 a7.Cuts [(decide (x5.Kind = 2))]) fun (l4 : List Bool) =>
    bnd1 (app 24 a7.Attrs [x5.Attrs]) fun (l5 : List (List GAttr)) =>
    bnd1 (chk .i64 (x8 + 1)) fun (x10 : Int) =>
    some (.inl (x10, (Ref_Act.mk l3 l4 l5)))
  ) else (
    some (.inr (.ext a7))
  )
noncomputable def ref_ActOf_L1 (d1 : List GStep) (x2 : Int) (a2 : Ref_Act) : Option ((Int × Ref_Act) ⊕ Ref_Act) :=
  if (decide (x2 < (d1.length : Int))) then (
    bnd1 (
      bnd1 (idx d1 x2) fun (x5 : GStep) =>
      if (decide (x5.Kind = 1)) then (
        bnd1 (chk .i64 ((a2.Adds.length : Int) - 1)) fun (k1 : Int) =>
        bnd1 (idx a2.Adds k1) fun (x6 : List GElem) =>
        bnd1 (app 40 [] x6) fun (l1 : List GElem) =>
        bnd1 (app 40 l1 x5.Elems) fun (l2 : List GElem) =>
        some (Ref_Act.mk (a2.Adds.set k1.toNat l2) a2.Cuts a2.Attrs)
      ) else (
        ctl1 (iter (fun (a : Int × Ref_Act) => ref_ActOf_L2 x5 a.1 a.2) (0, a2)) fun (u3 : Unit) =>
        none
      )
    ) fun (a5 : Ref_Act) =>
    bnd1 (chk .i64 (x2 + 1)) fun (x4 : Int) =>
    some (.inl (x4, a5))
  ) else (
    some (.inr a2)
  )
noncomputable def ref_ActOf (d1 : List GStep) : Option (Ref_Act) :=
  bnd1 (iter (fun (a : Int × Ref_Act) => ref_ActOf_L1 d1 a.1 a.2) (0, (Ref_Act.mk [[]] [] []))) fun (a4 : Ref_Act) =>
  some a4
noncomputable def law_act_L2 (x4 : GAxisStep) (x7 : Int) (s3 : GStep) : Option ((Int × GStep) ⊕ (Ctl Unit GStep)) :=
  if (decide (x7 < x4.N)) then (
    bnd1 (app 40 s3.Elems [(GElem.mk 120 0 [])]) fun (l1 : List GElem) =>
    bnd1 (chk .i64 (x7 + 1)) fun (x9 : Int) =>
    some (.inl (x9, (GStep.mk s3.Kind s3.N [] l1)))
  ) else (
    some (.inr (.ext (GStep.mk s3.Kind s3.N [] s3.Elems)))
  )
noncomputable def law_act_L1 (a1 : List GAxisStep) (x2 : Int) (d2 : List GStep) : Option ((Int × (List GStep)) ⊕ (List GStep)) :=
  if (decide (x2 < (a1.length : Int))) then (
    bnd1 (idx a1 x2) fun (x4 : GAxisStep) =>
    bnd1 (
      if (decide (x4.Kind = 1)) then (
        ctl1 (iter (fun (a : Int × GStep) => law_act_L2 x4 a.1 a.2) (0, (GStep.mk x4.Kind 0 [] []))) fun (u3 : Unit) =>
        none
      ) else (
        some (GStep.mk x4.Kind x4.N [] [])
      )
    ) fun (s1 : GStep) =>
    bnd1 (app 64 d2 [(GStep.mk s1.Kind s1.N [] s1.Elems)]) fun (d5 : List GStep) =>
    bnd1 (chk .i64 (x2 + 1)) fun (x5 : Int) =>
    some (.inl (x5, d5))
  ) else (
    some (.inr d2)
  )
noncomputable def law_act (a1 : List GAxisStep) : Option (Ref_Act) :=
  bnd1 (iter (fun (a : Int × (List GStep)) => law_act_L1 a1 a.1 a.2) (0, [])) fun (d4 : List GStep) =>
  bnd1 (ref_ActOf d4) fun (r1 : Ref_Act) =>
  some r1
noncomputable def ref_DeltaOf_L1 (a1 : Ref_Act) (cuts2 : Int) (i4 : Int) (out2 : List GStep) (adds2 : List GElem) : Option ((Int × Int × (List GStep) × (List GElem)) ⊕ (List GStep)) :=
  if (decide (i4 ≤ (a1.Cuts.length : Int))) then (
    ctl3 (
      bnd1 (idx a1.Adds i4) fun (x1 : List GElem) =>
      bnd1 (app 40 adds2 x1) fun (adds5 : List GElem) =>
      bnd1 (gd ((decide (i4 < (a1.Cuts.length : Int))) == true) (idx a1.Cuts i4)) fun (x2 : Bool) =>
      if ((decide (i4 < (a1.Cuts.length : Int))) && x2) then (
        bnd1 (chk .i64 (cuts2 + 1)) fun (cuts5 : Int) =>
        some (.nrm (cuts5, out2, adds5))
      ) else (
        bnd1 (
          if (decide (0 < (adds5.length : Int))) then (
            bnd1 (app 64 out2 [(GStep.mk 1 0 [] adds5)]) fun (out10 : List GStep) =>
            some out10
          ) else (
            some out2
          )
        ) fun (out6 : List GStep) =>
        bnd1 (
          if (decide (0 < cuts2)) then (
            bnd1 (app 64 out6 [(GStep.mk 2 cuts2 [] [])]) fun (out9 : List GStep) =>
            some out9
          ) else (
            some out6
          )
        ) fun (out7 : List GStep) =>
        if (decide (i4 = (a1.Cuts.length : Int))) then (
          some (.ext (.inr out7))
        ) else (
          bnd1 (chk .i64 ((out7.length : Int) - 1)) fun (k1 : Int) =>
          bnd1 (gd ((decide (0 ≤ k1)) == true) (idx out7 k1)) fun (x3 : GStep) =>
          bnd1 (gd (((decide (0 ≤ k1)) && (decide (x3.Kind = 0))) == true) (idx out7 k1)) fun (x4 : GStep) =>
          bnd1 (gd (((decide (0 ≤ k1)) && (decide (x3.Kind = 0))) == true) (idx a1.Attrs i4)) fun (x5 : List GAttr) =>
          bnd1 (gd (((decide (0 ≤ k1)) && (decide (x3.Kind = 0))) == true) (ref_SameAttrs x4.Attrs x5)) fun (r1 : Bool) =>
          if (((decide (0 ≤ k1)) && (decide (x3.Kind = 0))) && r1) then (
            bnd1 (idx out7 k1) fun (x6 : GStep) =>
            bnd1 (chk .i64 (x6.N + 1)) fun (x7 : Int) =>
            some (.nrm (0, (out7.set k1.toNat (GStep.mk x6.Kind x7 x6.Attrs x6.Elems)), []))
          ) else (
            bnd1 (idx a1.Attrs i4) fun (x8 : List GAttr) =>
            bnd1 (app 64 out7 [(GStep.mk 0 1 x8 [])]) fun (out8 : List GStep) =>
            some (.nrm (0, out8, []))
          )
        )
      )
    ) fun (cuts4 : Int) (out5 : List GStep) (adds4 : List GElem) =>
    bnd1 (chk .i64 (i4 + 1)) fun (i10 : Int) =>
    some (.inl (cuts4, i10, out5, adds4))
  ) else (
    some (.inr out2)
  )
noncomputable def ref_DeltaOf (a1 : Ref_Act) : Option ((List GStep)) :=
  bnd1 (iter (fun (a : Int × Int × (List GStep) × (List GElem)) => ref_DeltaOf_L1 a1 a.1 a.2.1 a.2.2.1 a.2.2.2) (0, 0, [], [])) fun (out4 : List GStep) =>
  some out4
noncomputable def law_steps_L1 (d1 : List GStep) (x2 : Int) (out2 : List GAxisStep) : Option ((Int × (List GAxisStep)) ⊕ (List GAxisStep)) :=
  if (decide (x2 < (d1.length : Int))) then (
    bnd1 (idx d1 x2) fun (x4 : GStep) =>
    bnd1 (chk .i64 (x4.N + (x4.Elems.length : Int))) fun (x5 : Int) =>
    bnd1 (app 16 out2 [(GAxisStep.mk x4.Kind x5)]) fun (out5 : List GAxisStep) =>
    bnd1 (chk .i64 (x2 + 1)) fun (x6 : Int) =>
    some (.inl (x6, out5))
  ) else (
    some (.inr out2)
  )
noncomputable def law_steps (a1 : Ref_Act) : Option ((List GAxisStep)) :=
  bnd1 (ref_DeltaOf a1) fun (d1 : List GStep) =>
  bnd1 (iter (fun (a : Int × (List GAxisStep)) => law_steps_L1 d1 a.1 a.2) (0, [])) fun (out4 : List GAxisStep) =>
  some out4
noncomputable def ref_SameSteps_L1 (a1 : List GAxisStep) (b1 : List GAxisStep) (x2 : Int) : Option (Int ⊕ (Ctl Unit Bool)) :=
  if (decide (x2 < (a1.length : Int))) then (
    bnd1 (idx a1 x2) fun (x4 : GAxisStep) =>
    bnd1 (idx b1 x2) fun (x5 : GAxisStep) =>
    if (!(decide (x4.Kind = x5.Kind) && (decide (x4.N = x5.N) && true))) then (
      some (.inr (.ext false))
    ) else (
      bnd1 (chk .i64 (x2 + 1)) fun (x6 : Int) =>
      some (.inl x6)
    )
  ) else (
    some (.inr (.nrm ()))
  )
noncomputable def ref_SameSteps (a1 : List GAxisStep) (b1 : List GAxisStep) : Option (Bool) :=
  if (!decide ((a1.length : Int) = (b1.length : Int))) then (
    some false
  ) else (
    ctl1 (iter (fun (a : Int) => ref_SameSteps_L1 a1 b1 a) 0) fun (u2 : Unit) =>
    some true
  )
end Go.Proofs.Ytdeglnbioiicaaa.Al


namespace Go.Proofs.Ytdeglnbioiicaaa.Al
end Go.Proofs.Ytdeglnbioiicaaa.Al


namespace Go.Proofs.Ytdeglnbioiicaaa.Al
structure Delta_Reader where
  steps : List GStep
  used : Int
deriving DecidableEq
instance : Inhabited Delta_Reader := ⟨⟨[], 0⟩⟩
@[reducible] def Delta_Reader.row (x : Delta_Reader) : List RV := [.sl (x.steps.map GStep.row), .int .i64 x.used]
structure Delta_Writer where
  out : List GStep
  add : List GElem
  cut : Int
deriving DecidableEq
instance : Inhabited Delta_Writer := ⟨⟨[], [], 0⟩⟩
@[reducible] def Delta_Writer.row (x : Delta_Writer) : List RV := [.sl (x.out.map GStep.row), .sl (x.add.map GElem.row), .int .i64 x.cut]
noncomputable def ref_Done_L1 (f1 : List GElem) (a1 : Ref_Act) (x2 : Int) (out2 : List GElem) : Option ((Int × (List GElem)) ⊕ (List GElem)) :=
  if (decide (x2 < (f1.length : Int))) then (
    bnd1 (
      bnd1 (idx a1.Adds x2) fun (x6 : List GElem) =>
      bnd1 (app 40 out2 x6) fun (out6 : List GElem) =>
      bnd1 (idx a1.Cuts x2) fun (x7 : Bool) =>
      if (!x7) then (
        bnd1 (idx f1 x2) fun (x8 : GElem) =>
        bnd1 (idx a1.Attrs x2) fun (x9 : List GAttr) =>
        bnd1 (ref_Changed x8.Attrs x9) fun (r1 : List GAttr) =>
        bnd1 (app 40 out6 [(GElem.mk x8.Char x8.Ref r1)]) fun (out7 : List GElem) =>
        some out7
      ) else (
        some out6
      )
    ) fun (out5 : List GElem) =>
    bnd1 (chk .i64 (x2 + 1)) fun (x5 : Int) =>
    some (.inl (x5, out5))
  ) else (
    some (.inr out2)
  )
noncomputable def ref_Done (f1 : List GElem) (a1 : Ref_Act) : Option ((List GElem)) :=
  bnd1 (iter (fun (a : Int × (List GElem)) => ref_Done_L1 f1 a1 a.1 a.2) (0, [])) fun (out4 : List GElem) =>
  bnd1 (idx a1.Adds (f1.length : Int)) fun (x4 : List GElem) =>
  bnd1 (app 40 out4 x4) fun (l1 : List GElem) =>
  some l1
noncomputable def ref_Back_L2 (x1 : List GElem) (x3 : Int) (out7 : Ref_Act) : Option ((Int × Ref_Act) ⊕ Ref_Act) :=
  if (decide (x3 < (x1.length : Int))) then (
    bnd1 (app 24 out7.Adds [[]]) fun (l6 : List (List GElem)) =>
    bnd1 (app 1 out7.Cuts [true]) fun (l7 : List Bool) =>
    bnd1 (app 24 out7.Attrs [[]]) fun (l8 : List (List GAttr)) =>
    bnd1 (chk .i64 (x3 + 1)) fun (x10 : Int) =>
    some (.inl (x10, (Ref_Act.mk l6 l7 l8)))
  ) else (
    some (.inr out7)
  )
noncomputable def ref_Back_L1 (f1 : List GElem) (a1 : Ref_Act) (i4 : Int) (out2 : Ref_Act) : Option ((Int × Ref_Act) ⊕ Ref_Act) :=
  if (decide (i4 ≤ (f1.length : Int))) then (
    ctl1 (
      bnd1 (idx a1.Adds i4) fun (x1 : List GElem) =>
      bnd1 (iter (fun (a : Int × Ref_Act) => ref_Back_L2 x1 a.1 a.2) (0, out2)) fun (out9 : Ref_Act) =>
      if (decide (i4 = (f1.length : Int))) then (
        some (.ext (.inr out9))
      ) else (
        bnd1 (chk .i64 ((out9.Adds.length : Int) - 1)) fun (k1 : Int) =>
        bnd1 (idx a1.Cuts i4) fun (x5 : Bool) =>
        if x5 then (
          bnd1 (idx out9.Adds k1) fun (x6 : List GElem) =>
          bnd1 (app 40 [] x6) fun (l1 : List GElem) =>
          bnd1 (idx f1 i4) fun (x7 : GElem) =>
          bnd1 (app 40 l1 [x7]) fun (l2 : List GElem) =>
          some (.nrm (Ref_Act.mk (out9.Adds.set k1.toNat l2) out9.Cuts out9.Attrs))
        ) else (
          bnd1 (idx f1 i4) fun (x8 : GElem) =>
          bnd1 (idx a1.Attrs i4) fun (x9 : List GAttr) =>
          bnd1 (ref_Changed x8.Attrs x9) fun (r1 : List GAttr) =>
          bnd1 (ref_Between r1 x8.Attrs) fun (change1 : List GAttr) =>
          bnd1 (app 24 out9.Adds [[]]) fun (l3 : List (List GElem)) =>
          bnd1 (app 1 out9.Cuts [false]) fun (l4 : List Bool) =>
          bnd1 (app 24 out9.Attrs [change1]) fun (l5 : List (List GAttr)) =>
          some (.nrm (Ref_Act.mk l3 l4 l5))
        )
      )
    ) fun (out5 : Ref_Act) =>
    bnd1 (chk .i64 (i4 + 1)) fun (i10 : Int) =>
    some (.inl (i10, out5))
  ) else (
    some (.inr out2)
  )
noncomputable def ref_Back (f1 : List GElem) (a1 : Ref_Act) : Option (Ref_Act) :=
  bnd1 (iter (fun (a : Int × Ref_Act) => ref_Back_L1 f1 a1 a.1 a.2) (0, (Ref_Act.mk [[]] [] []))) fun (out4 : Ref_Act) =>
  some out4
end Go.Proofs.Ytdeglnbioiicaaa.Al


namespace Go.Proofs.Ytdeglnbioiicaaa.Al
end Go.Proofs.Ytdeglnbioiicaaa.Al


namespace Go.Proofs.Ytdeglnbioiicaaa.Al
noncomputable def axis_Join_L1 (w2 : Axis_Writer) (p2 : Axis_Reader) (q2 : Axis_Reader) : Option ((Axis_Writer × Axis_Reader × Axis_Reader) ⊕ Axis_Writer) :=
  bnd1 (axis_reader_kind p2) fun (r7 : Int) =>
  bnd1 (
    if ((decide (0 ≤ r7)) == false) then (
      bnd1 (axis_reader_kind q2) fun (r19 : Int) =>
      some ((decide (0 ≤ r7)) || (decide (0 ≤ r19)))
    ) else (
      some ((decide (0 ≤ r7)) || false)
    )
  ) fun (x1 : Bool) =>
  if x1 then (
    if (decide (r7 = 2)) then (
      bnd1 (axis_reader_left p2) fun (r9 : Int) =>
      bnd1 (axis_writer_put w2 2 r9) fun (w6 : Axis_Writer) =>
      bnd1 (axis_reader_take p2 r9) fun (w7 : Axis_Reader) =>
      some (.inl (w6, w7, q2))
    ) else (
      bnd1 (axis_reader_kind q2) fun (r11 : Int) =>
      if (decide (r11 = 1)) then (
        bnd1 (axis_reader_left q2) fun (r12 : Int) =>
        bnd1 (axis_writer_put w2 1 r12) fun (w8 : Axis_Writer) =>
        bnd1 (axis_reader_take q2 r12) fun (w9 : Axis_Reader) =>
        some (.inl (w8, p2, w9))
      ) else (
        bnd1 (axis_reader_left p2) fun (r14 : Int) =>
        bnd1 (axis_reader_left q2) fun (r15 : Int) =>
        bnd1 (
          if (decide (r7 = 0)) then (
            bnd1 (axis_writer_put w2 r11 (min r14 r15)) fun (w13 : Axis_Writer) =>
            some w13
          ) else (
            if (decide (r11 = 0)) then (
              bnd1 (axis_writer_put w2 1 (min r14 r15)) fun (w14 : Axis_Writer) =>
              some w14
            ) else (
              some w2
            )
          )
        ) fun (w10 : Axis_Writer) =>
        bnd1 (axis_reader_take p2 (min r14 r15)) fun (w11 : Axis_Reader) =>
        bnd1 (axis_reader_take q2 (min r14 r15)) fun (w12 : Axis_Reader) =>
        some (.inl (w10, w11, w12))
      )
    )
  ) else (
    some (.inr w2)
  )
noncomputable def axis_Join (a1 : List GAxisStep) (b1 : List GAxisStep) : Option ((List GAxisStep) × Int) :=
  bnd1 (axis_Check a1) fun (e1 : Int) =>
  if (!decide (e1 = 0)) then (
    some ([], e1)
  ) else (
    bnd1 (axis_Check b1) fun (e2 : Int) =>
    if (!decide (e2 = 0)) then (
      some ([], e2)
    ) else (
      bnd2 (axis_lengths a1) fun (r1 : Int) (r2 : Int) =>
      bnd2 (axis_lengths b1) fun (r3 : Int) (r4 : Int) =>
      if (!decide (r3 = r2)) then (
        some ([], 14)
      ) else (
        bnd1 (iter (fun (a : Axis_Writer × Axis_Reader × Axis_Reader) => axis_Join_L1 a.1 a.2.1 a.2.2) ((Axis_Writer.mk [] 0 0), (Axis_Reader.mk a1 0), (Axis_Reader.mk b1 0))) fun (w4 : Axis_Writer) =>
        bnd3 (axis_writer_done w4) fun (r5 : List GAxisStep) (r6 : Int) (w5 : Axis_Writer) =>
        some (r5, r6)
      )
    )
  )
noncomputable def axis_Undo_L1 (a1 : List GAxisStep) (x2 : Int) (w2 : Axis_Writer) : Option ((Int × Axis_Writer) ⊕ Axis_Writer) :=
  if (decide (x2 < (a1.length : Int))) then (
    bnd1 (idx a1 x2) fun (x4 : GAxisStep) =>
    bnd1 (idx [0, 2, 1] x4.Kind) fun (x5 : Int) =>
    bnd1 (axis_writer_put w2 x5 x4.N) fun (w6 : Axis_Writer) =>
    bnd1 (chk .i64 (x2 + 1)) fun (x6 : Int) =>
    some (.inl (x6, w6))
  ) else (
    some (.inr w2)
  )
noncomputable def axis_Undo (a1 : List GAxisStep) : Option ((List GAxisStep) × Int) :=
  bnd1 (axis_Check a1) fun (e1 : Int) =>
  if (!decide (e1 = 0)) then (
    some ([], e1)
  ) else (
    bnd1 (iter (fun (a : Int × Axis_Writer) => axis_Undo_L1 a1 a.1 a.2) (0, (Axis_Writer.mk [] 0 0))) fun (w4 : Axis_Writer) =>
    bnd3 (axis_writer_done w4) fun (r1 : List GAxisStep) (r2 : Int) (w5 : Axis_Writer) =>
    some (r1, r2)
  )
noncomputable def ref_Both_L2 (b1 : Ref_Act) (x1 : List GElem) (at6 : Int) (x3 : Int) (out7 : Ref_Act) : Option ((Int × Int × Ref_Act) ⊕ (Int × Ref_Act)) :=
  if (decide (x3 < (x1.length : Int))) then (
    bnd1 (chk .i64 ((out7.Adds.length : Int) - 1)) fun (last2 : Int) =>
    bnd1 (idx out7.Adds last2) fun (x13 : List GElem) =>
    bnd1 (app 40 [] x13) fun (l11 : List GElem) =>
    bnd1 (idx b1.Adds at6) fun (x14 : List GElem) =>
    bnd1 (app 40 l11 x14) fun (l12 : List GElem) =>
    bnd1 (idx b1.Cuts at6) fun (x15 : Bool) =>
    bnd1 (
      if (!x15) then (
        bnd1 (idx x1 x3) fun (x17 : GElem) =>
        bnd1 (idx b1.Attrs at6) fun (x18 : List GAttr) =>
        bnd1 (ref_Changed x17.Attrs x18) fun (r2 : List GAttr) =>
        bnd1 (app 40 l12 [(GElem.mk x17.Char x17.Ref r2)]) fun (l13 : List GElem) =>
        some (Ref_Act.mk (out7.Adds.set last2.toNat l13) out7.Cuts out7.Attrs)
      ) else (
        some (Ref_Act.mk (out7.Adds.set last2.toNat l12) out7.Cuts out7.Attrs)
      )
    ) fun (out10 : Ref_Act) =>
    bnd1 (chk .i64 (at6 + 1)) fun (at10 : Int) =>
    bnd1 (chk .i64 (x3 + 1)) fun (x16 : Int) =>
    some (.inl (at10, x16, out10))
  ) else (
    some (.inr (at6, out7))
  )
noncomputable def ref_Both_L1 (a1 : Ref_Act) (b1 : Ref_Act) (at2 : Int) (i4 : Int) (out2 : Ref_Act) : Option ((Int × Int × Ref_Act) ⊕ Ref_Act) :=
  if (decide (i4 ≤ (a1.Cuts.length : Int))) then (
    ctl2 (
      bnd1 (idx a1.Adds i4) fun (x1 : List GElem) =>
      bnd2 (iter (fun (a : Int × Int × Ref_Act) => ref_Both_L2 b1 x1 a.1 a.2.1 a.2.2) (at2, 0, out2)) fun (at8 : Int) (out9 : Ref_Act) =>
      bnd1 (chk .i64 ((out9.Adds.length : Int) - 1)) fun (last1 : Int) =>
      if (decide (i4 = (a1.Cuts.length : Int))) then (
        bnd1 (idx out9.Adds last1) fun (x5 : List GElem) =>
        bnd1 (app 40 [] x5) fun (l1 : List GElem) =>
        bnd1 (idx b1.Adds at8) fun (x6 : List GElem) =>
        bnd1 (app 40 l1 x6) fun (l2 : List GElem) =>
        some (.ext (.inr (Ref_Act.mk (out9.Adds.set last1.toNat l2) out9.Cuts out9.Attrs)))
      ) else (
        bnd1 (idx a1.Cuts i4) fun (x7 : Bool) =>
        if x7 then (
          bnd1 (app 24 out9.Adds [[]]) fun (l3 : List (List GElem)) =>
          bnd1 (app 1 out9.Cuts [true]) fun (l4 : List Bool) =>
          bnd1 (app 24 out9.Attrs [[]]) fun (l5 : List (List GAttr)) =>
          some (.nrm (at8, (Ref_Act.mk l3 l4 l5)))
        ) else (
          bnd1 (idx out9.Adds last1) fun (x8 : List GElem) =>
          bnd1 (app 40 [] x8) fun (l6 : List GElem) =>
          bnd1 (idx b1.Adds at8) fun (x9 : List GElem) =>
          bnd1 (app 40 l6 x9) fun (l7 : List GElem) =>
          bnd1 (app 24 (out9.Adds.set last1.toNat l7) [[]]) fun (l8 : List (List GElem)) =>
          bnd1 (idx b1.Cuts at8) fun (x10 : Bool) =>
          bnd1 (app 1 out9.Cuts [x10]) fun (l9 : List Bool) =>
          bnd1 (idx a1.Attrs i4) fun (x11 : List GAttr) =>
          bnd1 (idx b1.Attrs at8) fun (x12 : List GAttr) =>
          bnd1 (ref_Joined x11 x12) fun (r1 : List GAttr) =>
          bnd1 (app 24 out9.Attrs [r1]) fun (l10 : List (List GAttr)) =>
          bnd1 (chk .i64 (at8 + 1)) fun (at9 : Int) =>
          some (.nrm (at9, (Ref_Act.mk l8 l9 l10)))
        )
      )
    ) fun (at4 : Int) (out5 : Ref_Act) =>
    bnd1 (chk .i64 (i4 + 1)) fun (i10 : Int) =>
    some (.inl (at4, i10, out5))
  ) else (
    some (.inr out2)
  )
noncomputable def ref_Both (a1 : Ref_Act) (b1 : Ref_Act) : Option (Ref_Act) :=
  bnd1 (iter (fun (a : Int × Int × Ref_Act) => ref_Both_L1 a1 b1 a.1 a.2.1 a.2.2) (0, 0, (Ref_Act.mk [[]] [] []))) fun (out4 : Ref_Act) =>
  some out4
noncomputable def law_AxisJoinMatches (a1 : List GAxisStep) (b1 : List GAxisStep) : Option (Bool) :=
  bnd1 (law_axes) fun (r1 : Bool) =>
  if (!r1) then (
    some false
  ) else (
    bnd2 (axis_Join a1 b1) fun (r2 : List GAxisStep) (r3 : Int) =>
    bnd2 (axis_Undo a1) fun (r4 : List GAxisStep) (r5 : Int) =>
    bnd1 (ref_AxisError a1) fun (f1 : Int) =>
    if (!decide (r5 = f1)) then (
      some false
    ) else (
      bnd1 (
        if (decide (f1 = 0)) then (
          bnd1 (ref_AxisError b1) fun (f3 : Int) =>
          some f3
        ) else (
          some f1
        )
      ) fun (f2 : Int) =>
      if (!decide (f2 = 0)) then (
        some ((decide (r3 = f2)) && (decide ((r2.length : Int) = 0)))
      ) else (
        bnd1 (law_few a1) fun (r6 : Bool) =>
        bnd1 (gd ((!r6) == false) (law_few b1)) fun (r7 : Bool) =>
        if ((!r6) || (!r7)) then (
          some ((decide (r3 = 0)) || (decide ((r2.length : Int) = 0)))
        ) else (
          bnd1 (law_act a1) fun (r8 : Ref_Act) =>
          bnd1 (law_act b1) fun (r9 : Ref_Act) =>
          bnd1 (mk 40 (r8.Cuts.length : Int) (GElem.mk 0 0 [])) fun (l1 : List GElem) =>
          bnd1 (ref_Back l1 r8) fun (r10 : Ref_Act) =>
          bnd1 (law_steps r10) fun (r11 : List GAxisStep) =>
          bnd1 (ref_SameSteps r4 r11) fun (r12 : Bool) =>
          if (!r12) then (
            some false
          ) else (
            bnd1 (ref_Done l1 r8) fun (r13 : List GElem) =>
            if (!decide ((r13.length : Int) = (r9.Cuts.length : Int))) then (
              some ((decide (r3 = 14)) && (decide ((r2.length : Int) = 0)))
            ) else (
              bnd1 (
                if ((decide (r3 = 0)) == true) then (
                  bnd1 (ref_Both r8 r9) fun (r14 : Ref_Act) =>
                  bnd1 (law_steps r14) fun (r15 : List GAxisStep) =>
                  bnd1 (ref_SameSteps r2 r15) fun (r16 : Bool) =>
                  some ((decide (r3 = 0)) && r16)
                ) else (
                  some ((decide (r3 = 0)) && false)
                )
              ) fun (x1 : Bool) =>
              some x1
            )
          )
        )
      )
    )
  )
end Go.Proofs.Ytdeglnbioiicaaa.Al

