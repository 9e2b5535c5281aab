/- Models, as printed. -/
import Derived.Test.YtdeglnbioiicaaaAl2
namespace Go.Proofs.Ytdeglnbioiicaaa.Al
structure GAxisStep where
  Kind : Int
  N : Int
deriving DecidableEq
instance : Inhabited GAxisStep := ⟨⟨0, 0⟩⟩
@[reducible] def GAxisStep.row (x : GAxisStep) : List RV := [.int .i64 x.Kind, .int .i64 x.N]

structure Axis_Reader where
  steps : List GAxisStep
  used : Int
deriving DecidableEq
instance : Inhabited Axis_Reader := ⟨⟨[], 0⟩⟩
@[reducible] def Axis_Reader.row (x : Axis_Reader) : List RV := [.sl (x.steps.map GAxisStep.row), .int .i64 x.used]

structure Axis_Writer where
  out : List GAxisStep
  add : Int
  cut : Int
deriving DecidableEq
instance : Inhabited Axis_Writer := ⟨⟨[], 0, 0⟩⟩
@[reducible] def Axis_Writer.row (x : Axis_Writer) : List RV := [.sl (x.out.map GAxisStep.row), .int .i64 x.add, .int .i64 x.cut]

structure GAttr where
  Name : List UInt8
  Value : List UInt8
deriving DecidableEq
instance : Inhabited GAttr := ⟨⟨[], []⟩⟩
@[reducible] def GAttr.row (x : GAttr) : List RV := [.str x.Name, .str x.Value]

structure GElem where
  Char : Int
  Ref : Int
  Attrs : List GAttr
deriving DecidableEq
instance : Inhabited GElem := ⟨⟨0, 0, []⟩⟩
@[reducible] def GElem.row (x : GElem) : List RV := [.int .i64 x.Char, .int .i64 x.Ref, .sl (x.Attrs.map GAttr.row)]

structure GCell where
  Row : Int
  Col : Int
  Text : List UInt8
  Ref : Int
  Attrs : List GAttr
deriving DecidableEq
instance : Inhabited GCell := ⟨⟨0, 0, [], 0, []⟩⟩
@[reducible] def GCell.row (x : GCell) : List RV := [.int .i64 x.Row, .int .i64 x.Col, .str x.Text, .int .i64 x.Ref, .sl (x.Attrs.map GAttr.row)]

structure GRect where
  Row : Int
  Col : Int
  H : Int
  W : Int
deriving DecidableEq
instance : Inhabited GRect := ⟨⟨0, 0, 0, 0⟩⟩
@[reducible] def GRect.row (x : GRect) : List RV := [.int .i64 x.Row, .int .i64 x.Col, .int .i64 x.H, .int .i64 x.W]

structure GGrid where
  Rows : Int
  Cols : Int
  Cells : List GCell
  Merges : List GRect
deriving DecidableEq
instance : Inhabited GGrid := ⟨⟨0, 0, [], []⟩⟩
@[reducible] def GGrid.row (x : GGrid) : List RV := [.int .i64 x.Rows, .int .i64 x.Cols, .sl (x.Cells.map GCell.row), .sl (x.Merges.map GRect.row)]

structure GDrawOp where
  Clock : Int
  Site : Int
  Kind : Int
  Item : Int
  Parent : Int
  Place : List UInt8
  Name : List UInt8
  Value : List UInt8
deriving DecidableEq
instance : Inhabited GDrawOp := ⟨⟨0, 0, 0, 0, 0, [], [], []⟩⟩
@[reducible] def GDrawOp.row (x : GDrawOp) : List RV := [.int .i64 x.Clock, .int .i64 x.Site, .int .i64 x.Kind, .int .i64 x.Item, .int .i64 x.Parent, .str x.Place, .str x.Name, .str x.Value]

structure GNode where
  ID : Int
  Kind : Int
  Attrs : List GAttr
  Flow : List GElem
  Grid : GGrid
  Draw : List GDrawOp
deriving DecidableEq
instance : Inhabited GNode := ⟨⟨0, 0, [], [], (GGrid.mk 0 0 [] []), []⟩⟩
@[reducible] def GNode.row (x : GNode) : List RV := [.int .i64 x.ID, .int .i64 x.Kind, .sl (x.Attrs.map GAttr.row), .sl (x.Flow.map GElem.row), .int .i64 x.Grid.Rows, .int .i64 x.Grid.Cols, .sl (x.Grid.Cells.map GCell.row), .sl (x.Grid.Merges.map GRect.row), .sl (x.Draw.map GDrawOp.row)]

structure GStep where
  Kind : Int
  N : Int
  Attrs : List GAttr
  Elems : List GElem
deriving DecidableEq
instance : Inhabited GStep := ⟨⟨0, 0, [], []⟩⟩
@[reducible] def GStep.row (x : GStep) : List RV := [.int .i64 x.Kind, .int .i64 x.N, .sl (x.Attrs.map GAttr.row), .sl (x.Elems.map GElem.row)]

structure GGridEdit where
  Rows : List GAxisStep
  Cols : List GAxisStep
  Cells : List GCell
  Split : List GRect
  Merge : List GRect
deriving DecidableEq
instance : Inhabited GGridEdit := ⟨⟨[], [], [], [], []⟩⟩
@[reducible] def GGridEdit.row (x : GGridEdit) : List RV := [.sl (x.Rows.map GAxisStep.row), .sl (x.Cols.map GAxisStep.row), .sl (x.Cells.map GCell.row), .sl (x.Split.map GRect.row), .sl (x.Merge.map GRect.row)]

structure GOp where
  Kind : Int
  Node : Int
  New : GNode
  Attrs : List GAttr
  Steps : List GStep
  Grid : GGridEdit
  Draw : List GDrawOp
deriving DecidableEq
instance : Inhabited GOp := ⟨⟨0, 0, (GNode.mk 0 0 [] [] (GGrid.mk 0 0 [] []) []), [], [], (GGridEdit.mk [] [] [] [] []), []⟩⟩
@[reducible] def GOp.row (x : GOp) : List RV := [.int .i64 x.Kind, .int .i64 x.Node, .int .i64 x.New.ID, .int .i64 x.New.Kind, .sl (x.New.Attrs.map GAttr.row), .sl (x.New.Flow.map GElem.row), .int .i64 x.New.Grid.Rows, .int .i64 x.New.Grid.Cols, .sl (x.New.Grid.Cells.map GCell.row), .sl (x.New.Grid.Merges.map GRect.row), .sl (x.New.Draw.map GDrawOp.row), .sl (x.Attrs.map GAttr.row), .sl (x.Steps.map GStep.row), .sl (x.Grid.Rows.map GAxisStep.row), .sl (x.Grid.Cols.map GAxisStep.row), .sl (x.Grid.Cells.map GCell.row), .sl (x.Grid.Split.map GRect.row), .sl (x.Grid.Merge.map GRect.row), .sl (x.Draw.map GDrawOp.row)]

structure GEntry where
  Site : Int
  Number : Int
  Change : List GOp
  Undoes : Int
  Refused : Int
deriving DecidableEq
instance : Inhabited GEntry := ⟨⟨0, 0, [], 0, 0⟩⟩
@[reducible] def GEntry.row (x : GEntry) : List RV := [.int .i64 x.Site, .int .i64 x.Number, .sl (x.Change.map GOp.row), .int .i64 x.Undoes, .int .i64 x.Refused]

structure GSpan where
  From : Int
  To : Int
deriving DecidableEq
instance : Inhabited GSpan := ⟨⟨0, 0⟩⟩
@[reducible] def GSpan.row (x : GSpan) : List RV := [.int .i64 x.From, .int .i64 x.To]

noncomputable def undo_Counts_L1 (log1 : List GEntry) (i5 : Int) (out3 : List Bool) (undone2 : List Bool) : Option ((Int × (List Bool) × (List Bool)) ⊕ (List Bool)) :=
  if (decide (0 ≤ i5)) then (
    bnd2 (
      bnd1 (idx undone2 i5) fun (x1 : Bool) =>
      bnd1 (gd ((!x1) == true) (idx log1 i5)) fun (x2 : GEntry) =>
      bnd1 (idx out3 i5) fun (x3 : Bool) =>
      bnd1 (idx log1 i5) fun (x4 : GEntry) =>
      bnd1 (idx (out3.set i5.toNat ((!x1) && (decide (x2.Refused = 0)))) i5) fun (x5 : Bool) =>
      if ((x5 && (decide (1 ≤ x4.Undoes))) && (decide (x4.Undoes ≤ i5))) then (
        bnd1 (chk .i64 (x4.Undoes - 1)) fun (x6 : Int) =>
        bnd1 (idx undone2 x6) fun (x7 : Bool) =>
        some ((out3.set i5.toNat ((!x1) && (decide (x2.Refused = 0)))), (undone2.set x6.toNat true))
      ) else (
        some ((out3.set i5.toNat ((!x1) && (decide (x2.Refused = 0)))), undone2)
      )
    ) fun (out6 : List Bool) (undone4 : List Bool) =>
    bnd1 (chk .i64 (i5 - 1)) fun (i11 : Int) =>
    some (.inl (i11, out6, undone4))
  ) else (
    some (.inr out3)
  )
noncomputable def undo_Counts (log1 : List GEntry) : Option ((List Bool)) :=
  bnd1 (mk 1 (log1.length : Int) false) fun (out1 : List Bool) =>
  bnd1 (chk .i64 ((log1.length : Int) - 1)) fun (i1 : Int) =>
  bnd1 (iter (fun (a : Int × (List Bool) × (List Bool)) => undo_Counts_L1 log1 a.1 a.2.1 a.2.2) (i1, out1, out1)) fun (out5 : List Bool) =>
  some out5
noncomputable def undo_undoes (log1 : List GEntry) (i1 : Int) : Option (Bool) :=
  bnd1 (idx log1 i1) fun (x1 : GEntry) =>
  some ((decide (1 ≤ x1.Undoes)) && (decide (x1.Undoes ≤ i1)))
noncomputable def undo_depth_L1 (log1 : List GEntry) (i5 : Int) (n2 : Int) : Option ((Int × Int) ⊕ Int) :=
  bnd1 (undo_undoes log1 i5) fun (r1 : Bool) =>
  if r1 then (
    bnd1 (idx log1 i5) fun (x1 : GEntry) =>
    bnd1 (chk .i64 (x1.Undoes - 1)) fun (i10 : Int) =>
    bnd1 (chk .i64 (n2 + 1)) fun (n5 : Int) =>
    some (.inl (i10, n5))
  ) else (
    some (.inr n2)
  )
noncomputable def undo_depth (log1 : List GEntry) (i1 : Int) : Option (Int) :=
  bnd1 (iter (fun (a : Int × Int) => undo_depth_L1 log1 a.1 a.2) (i1, 0)) fun (n4 : Int) =>
  some n4
noncomputable def undo_Last_L1 (log1 : List GEntry) (site1 : Int) (counts1 : List Bool) (i5 : Int) : Option (Int ⊕ (Ctl Unit Int)) :=
  if (decide (0 ≤ i5)) then (
    bnd1 (idx log1 i5) fun (x1 : GEntry) =>
    bnd1 (gd ((decide (x1.Site = site1)) == true) (idx counts1 i5)) fun (x2 : Bool) =>
    bnd1 (gd (((decide (x1.Site = site1)) && x2) == true) (undo_depth log1 i5)) fun (r1 : Int) =>
    if (((decide (x1.Site = site1)) && x2) && (decide (r1 = 0))) then (
      bnd1 (chk .i64 (i5 + 1)) fun (x3 : Int) =>
      some (.inr (.ext x3))
    ) else (
      bnd1 (chk .i64 (i5 - 1)) fun (i10 : Int) =>
      some (.inl i10)
    )
  ) else (
    some (.inr (.nrm ()))
  )
noncomputable def undo_Last (log1 : List GEntry) (site1 : Int) : Option (Int) :=
  bnd1 (undo_Counts log1) fun (counts1 : List Bool) =>
  bnd1 (chk .i64 ((log1.length : Int) - 1)) fun (i1 : Int) =>
  ctl1 (iter (fun (a : Int) => undo_Last_L1 log1 site1 counts1 a) i1) fun (u2 : Unit) =>
  some 0
noncomputable def ref_Counting_L2 (log1 : List GEntry) (i5 : Int) (k1 : Int) (k3 : Int) (out7 : List Bool) : Option ((Int × (List Bool)) ⊕ (List Bool)) :=
  if (decide (k3 < (log1.length : Int))) then (
    bnd1 (
      bnd1 (idx log1 k3) fun (x3 : GEntry) =>
      bnd1 (gd ((decide (x3.Undoes = k1)) == true) (idx out7 k3)) fun (x4 : Bool) =>
      if ((decide (x3.Undoes = k1)) && x4) then (
        bnd1 (idx out7 i5) fun (x5 : Bool) =>
        some (out7.set i5.toNat false)
      ) else (
        some out7
      )
    ) fun (out10 : List Bool) =>
    bnd1 (chk .i64 (k3 + 1)) fun (k5 : Int) =>
    some (.inl (k5, out10))
  ) else (
    some (.inr out7)
  )
noncomputable def ref_Counting_L1 (log1 : List GEntry) (i5 : Int) (out3 : List Bool) : Option ((Int × (List Bool)) ⊕ (List Bool)) :=
  if (decide (0 ≤ i5)) then (
    bnd1 (idx log1 i5) fun (x1 : GEntry) =>
    bnd1 (idx out3 i5) fun (x2 : Bool) =>
    bnd1 (chk .i64 (i5 + 1)) fun (k1 : Int) =>
    bnd1 (iter (fun (a : Int × (List Bool)) => ref_Counting_L2 log1 i5 k1 a.1 a.2) (k1, (out3.set i5.toNat (decide (x1.Refused = 0))))) fun (out9 : List Bool) =>
    bnd1 (chk .i64 (i5 - 1)) fun (i15 : Int) =>
    some (.inl (i15, out9))
  ) else (
    some (.inr out3)
  )
noncomputable def ref_Counting (log1 : List GEntry) : Option ((List Bool)) :=
  bnd1 (mk 1 (log1.length : Int) false) fun (out1 : List Bool) =>
  bnd1 (chk .i64 ((log1.length : Int) - 1)) fun (i1 : Int) =>
  bnd1 (iter (fun (a : Int × (List Bool)) => ref_Counting_L1 log1 a.1 a.2) (i1, out1)) fun (out5 : List Bool) =>
  some out5
noncomputable def ref_In (x1 : Int) (low1 : Int) (high1 : Int) : Option (Bool) :=
  some ((decide (low1 ≤ x1)) && (decide (x1 ≤ high1)))
noncomputable def ref_Undoing (log1 : List GEntry) (i1 : Int) : Option (Bool) :=
  bnd1 (idx log1 i1) fun (x1 : GEntry) =>
  bnd1 (ref_In x1.Undoes 1 i1) fun (r1 : Bool) =>
  some r1
noncomputable def span_Check_L1 (l1 : List GSpan) (x2 : Int) : Option (Int ⊕ (Ctl Unit Int)) :=
  if (decide (x2 < (l1.length : Int))) then (
    bnd1 (idx l1 x2) fun (x4 : GSpan) =>
    if (((decide (x4.From < 0)) || (decide (x4.To ≤ x4.From))) || (decide (2147483647 < x4.To))) then (
      some (.inr (.ext 2))
    ) else (
      bnd1 (gd ((decide (0 < x2)) == true) (chk .i64 (x2 - 1))) fun (x5 : Int) =>
      bnd1 (gd ((decide (0 < x2)) == true) (idx l1 x5)) fun (x6 : GSpan) =>
      if ((decide (0 < x2)) && (decide (x4.From ≤ x6.To))) then (
        some (.inr (.ext 5))
      ) else (
        bnd1 (chk .i64 (x2 + 1)) fun (x7 : Int) =>
        some (.inl x7)
      )
    )
  ) else (
    some (.inr (.nrm ()))
  )
noncomputable def span_Check (l1 : List GSpan) : Option (Int) :=
  ctl1 (iter (fun (a : Int) => span_Check_L1 l1 a) 0) fun (u2 : Unit) =>
  some 0
noncomputable def span_end (l1 : List GSpan) (k1 : Int) : Option (Int) :=
  bnd1 (remM k1 2) fun (x1 : Int) =>
  if (decide (x1 = 0)) then (
    bnd1 (quoM .i64 k1 2) fun (x2 : Int) =>
    bnd1 (idx l1 x2) fun (x3 : GSpan) =>
    some x3.From
  ) else (
    bnd1 (quoM .i64 k1 2) fun (x4 : Int) =>
    bnd1 (idx l1 x4) fun (x5 : GSpan) =>
    some x5.To
  )
noncomputable def span_Union_f1 (a1 : Bool) (b1 : Bool) : Option (Bool) :=
  some (a1 || b1)
noncomputable def axis_Check_L1 (a1 : List GAxisStep) (before2 : Int) (after2 : Int) (x2 : Int) : Option ((Int × Int × Int) ⊕ (Ctl (Int × Int) Int)) :=
  if (decide (x2 < (a1.length : Int))) then (
    ctl2 (
      bnd1 (idx a1 x2) fun (x5 : GAxisStep) =>
      if ((decide (x5.Kind < 0)) || (decide (2 < x5.Kind))) then (
        some (.ext (.inr (.ext 8)))
      ) else (
        if ((decide (x5.N < 1)) || (decide (2147483647 < x5.N))) then (
          some (.ext (.inr (.ext 2)))
        ) else (
          bnd1 (gd ((decide (0 < x2)) == true) (chk .i64 (x2 - 1))) fun (x6 : Int) =>
          bnd1 (gd ((decide (0 < x2)) == true) (idx a1 x6)) fun (x7 : GAxisStep) =>
          if ((decide (0 < x2)) && ((decide (x7.Kind = x5.Kind)) || ((decide (x7.Kind = 2)) && (decide (x5.Kind = 1))))) then (
            some (.ext (.inr (.ext 5)))
          ) else (
            bnd1 (
              if (!decide (x5.Kind = 1)) then (
                bnd1 (chk .i64 (before2 + x5.N)) fun (x9 : Int) =>
                some (min x9 2147483648)
              ) else (
                some before2
              )
            ) fun (before6 : Int) =>
            if (!decide (x5.Kind = 2)) then (
              bnd1 (chk .i64 (after2 + x5.N)) fun (x8 : Int) =>
              some (.nrm (before6, (min x8 2147483648)))
            ) else (
              some (.nrm (before6, after2))
            )
          )
        )
      )
    ) fun (before5 : Int) (after5 : Int) =>
    bnd1 (chk .i64 (x2 + 1)) fun (x4 : Int) =>
    some (.inl (before5, after5, x4))
  ) else (
    some (.inr (.nrm (before2, after2)))
  )
noncomputable def axis_Check (a1 : List GAxisStep) : Option (Int) :=
  ctl2 (iter (fun (a : Int × Int × Int) => axis_Check_L1 a1 a.1 a.2.1 a.2.2) (0, 0, 0)) fun (before4 : Int) (after4 : Int) =>
  if ((decide (2147483647 < before4)) || (decide (2147483647 < after4))) then (
    some 3
  ) else (
    some 0
  )
noncomputable def axis_lengths_L1 (a1 : List GAxisStep) (before2 : Int) (after2 : Int) (x2 : Int) : Option ((Int × Int × Int) ⊕ (Int × Int)) :=
  if (decide (x2 < (a1.length : Int))) then (
    bnd2 (
      bnd1 (idx a1 x2) fun (x5 : GAxisStep) =>
      bnd1 (
        if (!decide (x5.Kind = 1)) then (
          bnd1 (chk .i64 (before2 + x5.N)) fun (before7 : Int) =>
          some before7
        ) else (
          some before2
        )
      ) fun (before6 : Int) =>
      if (!decide (x5.Kind = 2)) then (
        bnd1 (chk .i64 (after2 + x5.N)) fun (after6 : Int) =>
        some (before6, after6)
      ) else (
        some (before6, after2)
      )
    ) fun (before5 : Int) (after5 : Int) =>
    bnd1 (chk .i64 (x2 + 1)) fun (x4 : Int) =>
    some (.inl (before5, after5, x4))
  ) else (
    some (.inr (before2, after2))
  )
noncomputable def axis_lengths (a1 : List GAxisStep) : Option (Int × Int) :=
  bnd2 (iter (fun (a : Int × Int × Int) => axis_lengths_L1 a1 a.1 a.2.1 a.2.2) (0, 0, 0)) fun (before4 : Int) (after4 : Int) =>
  some (before4, after4)
noncomputable def axis_place_L1 (a1 : List GAxisStep) (p1 : Int) (from2 : Int) (to2 : Int) (x2 : Int) : Option ((Int × Int × Int) ⊕ (Ctl Unit Int)) :=
  if (decide (x2 < (a1.length : Int))) then (
    ctl2 (
      bnd1 (idx a1 x2) fun (x5 : GAxisStep) =>
      ctl1 (
        if (decide (x5.Kind = 1)) then (
          bnd1 (chk .i64 (to2 + x5.N)) fun (to6 : Int) =>
          some (.ext (.nrm (from2, to6)))
        ) else (
          if (decide (x5.Kind = 0)) then (
            bnd1 (chk .i64 (from2 + x5.N)) fun (x6 : Int) =>
            if (decide (p1 < x6)) then (
              bnd1 (chk .i64 (to2 + p1)) fun (x7 : Int) =>
              bnd1 (chk .i64 (x7 - from2)) fun (x8 : Int) =>
              some (.ext (.ext (.inr (.ext x8))))
            ) else (
              bnd1 (chk .i64 (to2 + x5.N)) fun (to7 : Int) =>
              some (.nrm to7)
            )
          ) else (
            bnd1 (chk .i64 (from2 + x5.N)) fun (x9 : Int) =>
            if (decide (p1 < x9)) then (
              some (.ext (.ext (.inr (.ext (-1)))))
            ) else (
              some (.nrm to2)
            )
          )
        )
      ) fun (to5 : Int) =>
      bnd1 (chk .i64 (from2 + x5.N)) fun (from5 : Int) =>
      some (.nrm (from5, to5))
    ) fun (from4 : Int) (to4 : Int) =>
    bnd1 (chk .i64 (x2 + 1)) fun (x4 : Int) =>
    some (.inl (from4, to4, x4))
  ) else (
    some (.inr (.nrm ()))
  )
noncomputable def axis_place (a1 : List GAxisStep) (p1 : Int) : Option (Int) :=
  ctl1 (iter (fun (a : Int × Int × Int) => axis_place_L1 a1 p1 a.1 a.2.1 a.2.2) (0, 0, 0)) fun (u2 : Unit) =>
  some (-1)
noncomputable def axis_Apply_L1 (a1 : List GAxisStep) (places1 : List Int) (r1 : Int) (x2 : Int) (out2 : List Int) : Option ((Int × (List Int)) ⊕ (Ctl (List Int) ((List Int) × Int))) :=
  if (decide (x2 < (places1.length : Int))) then (
    bnd1 (idx places1 x2) fun (x4 : Int) =>
    if ((decide (x4 < 0)) || (decide (r1 ≤ x4))) then (
      some (.inr (.ext ([], 2)))
    ) else (
      bnd1 (axis_place a1 x4) fun (r3 : Int) =>
      bnd1 (app 8 out2 [r3]) fun (out5 : List Int) =>
      bnd1 (chk .i64 (x2 + 1)) fun (x5 : Int) =>
      some (.inl (x5, out5))
    )
  ) else (
    some (.inr (.nrm out2))
  )
noncomputable def axis_Apply (a1 : List GAxisStep) (places1 : List Int) : Option ((List Int) × Int) :=
  bnd1 (axis_Check a1) fun (e1 : Int) =>
  if (!decide (e1 = 0)) then (
    some ([], e1)
  ) else (
    bnd2 (axis_lengths a1) fun (r1 : Int) (r2 : Int) =>
    ctl1 (iter (fun (a : Int × (List Int)) => axis_Apply_L1 a1 places1 r1 a.1 a.2) (0, [])) fun (out4 : List Int) =>
    some (out4, 0)
  )
noncomputable def ref_SameInts_L1 (a1 : List Int) (b1 : List Int) (x2 : Int) : Option (Int ⊕ (Ctl Unit Bool)) :=
  if (decide (x2 < (a1.length : Int))) then (
    bnd1 (idx a1 x2) fun (x4 : Int) =>
    bnd1 (idx b1 x2) fun (x5 : Int) =>
    if (!decide (x4 = x5)) then (
      some (.inr (.ext false))
    ) else (
      bnd1 (chk .i64 (x2 + 1)) fun (x6 : Int) =>
      some (.inl x6)
    )
  ) else (
    some (.inr (.nrm ()))
  )
noncomputable def ref_SameInts (a1 : List Int) (b1 : List Int) : Option (Bool) :=
  if (!decide ((a1.length : Int) = (b1.length : Int))) then (
    some false
  ) else (
    ctl1 (iter (fun (a : Int) => ref_SameInts_L1 a1 b1 a) 0) fun (u2 : Unit) =>
    some true
  )
noncomputable def law_axes : Option (Bool) :=
  bnd2 (axis_Apply [(GAxisStep.mk 0 2), (GAxisStep.mk 1 3), (GAxisStep.mk 0 1)] [1, 2]) fun (r1 : List Int) (r2 : Int) =>
  bnd1 (
    if ((decide (r2 = 0)) == true) then (
      bnd1 (ref_SameInts r1 [1, 5]) fun (r3 : Bool) =>
      some ((decide (r2 = 0)) && r3)
    ) else (
      some ((decide (r2 = 0)) && false)
    )
  ) fun (x1 : Bool) =>
  some x1
noncomputable def ref_AxisError_L1 (a1 : List GAxisStep) (old2 : Int) (now2 : Int) (x2 : Int) : Option ((Int × Int × Int) ⊕ (Ctl (Int × Int) Int)) :=
  if (decide (x2 < (a1.length : Int))) then (
    ctl2 (
      bnd1 (idx a1 x2) fun (x5 : GAxisStep) =>
      bnd1 (ref_In x5.Kind 0 2) fun (r1 : Bool) =>
      if (!r1) then (
        some (.ext (.inr (.ext 8)))
      ) else (
        bnd1 (ref_In x5.N 1 2147483647) fun (r2 : Bool) =>
        if (!r2) then (
          some (.ext (.inr (.ext 2)))
        ) else (
          bnd1 (gd ((decide (0 < x2)) == true) (chk .i64 (x2 - 1))) fun (x6 : Int) =>
          bnd1 (gd ((decide (0 < x2)) == true) (idx a1 x6)) fun (x7 : GAxisStep) =>
          bnd1 (gd ((((decide (0 < x2)) == true) && ((decide (x5.Kind = x7.Kind)) == false)) && ((decide (x5.Kind = 1)) == true)) (chk .i64 (x2 - 1))) fun (x8 : Int) =>
          bnd1 (gd ((((decide (0 < x2)) == true) && ((decide (x5.Kind = x7.Kind)) == false)) && ((decide (x5.Kind = 1)) == true)) (idx a1 x8)) fun (x9 : GAxisStep) =>
          if ((decide (0 < x2)) && ((decide (x5.Kind = x7.Kind)) || ((decide (x5.Kind = 1)) && (decide (x9.Kind = 2))))) then (
            some (.ext (.inr (.ext 5)))
          ) else (
            bnd1 (
              if ((!decide (x5.Kind = 1)) && (decide (old2 < 2147483648))) then (
                bnd1 (chk .i64 (old2 + x5.N)) fun (old7 : Int) =>
                some old7
              ) else (
                some old2
              )
            ) fun (old6 : Int) =>
            if ((!decide (x5.Kind = 2)) && (decide (now2 < 2147483648))) then (
              bnd1 (chk .i64 (now2 + x5.N)) fun (now6 : Int) =>
              some (.nrm (old6, now6))
            ) else (
              some (.nrm (old6, now2))
            )
          )
        )
      )
    ) fun (old5 : Int) (now5 : Int) =>
    bnd1 (chk .i64 (x2 + 1)) fun (x4 : Int) =>
    some (.inl (old5, now5, x4))
  ) else (
    some (.inr (.nrm (old2, now2)))
  )
noncomputable def ref_AxisError (a1 : List GAxisStep) : Option (Int) :=
  ctl2 (iter (fun (a : Int × Int × Int) => ref_AxisError_L1 a1 a.1 a.2.1 a.2.2) (0, 0, 0)) fun (old4 : Int) (now4 : Int) =>
  if ((decide (2147483647 < old4)) || (decide (2147483647 < now4))) then (
    some 3
  ) else (
    some 0
  )
noncomputable def ref_AxisSize_L1 (a1 : List GAxisStep) (n2 : Int) (x2 : Int) : Option ((Int × Int) ⊕ Int) :=
  if (decide (x2 < (a1.length : Int))) then (
    bnd1 (idx a1 x2) fun (x4 : GAxisStep) =>
    bnd1 (chk .i64 (n2 + x4.N)) fun (n5 : Int) =>
    bnd1 (chk .i64 (x2 + 1)) fun (x5 : Int) =>
    some (.inl (n5, x5))
  ) else (
    some (.inr n2)
  )
noncomputable def ref_AxisSize (a1 : List GAxisStep) : Option (Int) :=
  bnd1 (iter (fun (a : Int × Int) => ref_AxisSize_L1 a1 a.1 a.2) (0, 0)) fun (n4 : Int) =>
  some n4
noncomputable def law_few (a1 : List GAxisStep) : Option (Bool) :=
  bnd1 (ref_AxisSize a1) fun (r1 : Int) =>
  some (decide (r1 ≤ 300))
noncomputable def ref_Units_L2 (x4 : GAxisStep) (x6 : Int) (out6 : List Int) : Option ((Int × (List Int)) ⊕ (List Int)) :=
  if (decide (x6 < x4.N)) then (
    bnd1 (app 8 out6 [x4.Kind]) fun (out9 : List Int) =>
    bnd1 (chk .i64 (x6 + 1)) fun (x9 : Int) =>
    some (.inl (x9, out9))
  ) else (
    some (.inr out6)
  )
noncomputable def ref_Units_L1 (a1 : List GAxisStep) (x2 : Int) (out2 : List Int) : Option ((Int × (List Int)) ⊕ (List Int)) :=
  if (decide (x2 < (a1.length : Int))) then (
    bnd1 (idx a1 x2) fun (x4 : GAxisStep) =>
    bnd1 (iter (fun (a : Int × (List Int)) => ref_Units_L2 x4 a.1 a.2) (0, out2)) fun (out8 : List Int) =>
    bnd1 (chk .i64 (x2 + 1)) fun (x8 : Int) =>
    some (.inl (x8, out8))
  ) else (
    some (.inr out2)
  )
noncomputable def ref_Units (a1 : List GAxisStep) : Option ((List Int)) :=
  bnd1 (iter (fun (a : Int × (List Int)) => ref_Units_L1 a1 a.1 a.2) (0, [])) fun (out4 : List Int) =>
  some out4
noncomputable def ref_Olds_L1 (units1 : List Int) (old2 : Int) (x2 : Int) (rows2 : List Int) (ahead2 : List Int) : Option ((Int × Int × (List Int) × (List Int)) ⊕ ((List Int) × (List Int))) :=
  if (decide (x2 < (units1.length : Int))) then (
    bnd3 (
      bnd1 (idx units1 x2) fun (x5 : Int) =>
      if (decide (x5 = 0)) then (
        bnd1 (app 8 rows2 [old2]) fun (rows6 : List Int) =>
        bnd1 (app 8 ahead2 [old2]) fun (ahead6 : List Int) =>
        bnd1 (chk .i64 (old2 + 1)) fun (old5 : Int) =>
        some (old5, rows6, ahead6)
      ) else (
        if (decide (x5 = 1)) then (
          bnd1 (app 8 rows2 [(-1)]) fun (rows7 : List Int) =>
          bnd1 (app 8 ahead2 [old2]) fun (ahead7 : List Int) =>
          some (old2, rows7, ahead7)
        ) else (
          bnd1 (chk .i64 (old2 + 1)) fun (old6 : Int) =>
          some (old6, rows2, ahead2)
        )
      )
    ) fun (old4 : Int) (rows5 : List Int) (ahead5 : List Int) =>
    bnd1 (chk .i64 (x2 + 1)) fun (x4 : Int) =>
    some (.inl (old4, x4, rows5, ahead5))
  ) else (
    some (.inr (rows2, ahead2))
  )
noncomputable def ref_Olds (units1 : List Int) : Option ((List Int) × (List Int)) :=
  bnd2 (iter (fun (a : Int × Int × (List Int) × (List Int)) => ref_Olds_L1 units1 a.1 a.2.1 a.2.2.1 a.2.2.2) (0, 0, [], [])) fun (rows4 : List Int) (ahead4 : List Int) =>
  some (rows4, ahead4)
noncomputable def ref_Where_L1 (row1 : Int) (r1 : List Int) (x2 : Int) : Option (Int ⊕ (Ctl Unit Int)) :=
  if (decide (x2 < (r1.length : Int))) then (
    bnd1 (idx r1 x2) fun (x4 : Int) =>
    if (decide (x4 = row1)) then (
      some (.inr (.ext x2))
    ) else (
      bnd1 (chk .i64 (x2 + 1)) fun (x5 : Int) =>
      some (.inl x5)
    )
  ) else (
    some (.inr (.nrm ()))
  )
noncomputable def ref_Where (units1 : List Int) (row1 : Int) : Option (Int) :=
  bnd2 (ref_Olds units1) fun (r1 : List Int) (r2 : List Int) =>
  ctl1 (iter (fun (a : Int) => ref_Where_L1 row1 r1 a) 0) fun (u2 : Unit) =>
  some (-1)
noncomputable def law_AxisApplyMatches_L2 (places1 : List Int) (r2 : List Int) (r3 : Int) (units1 : List Int) (old4 : Int) (x5 : Int) (want2 : List Int) : Option ((Int × (List Int)) ⊕ (Ctl (List Int) Bool)) :=
  if (decide (x5 < (places1.length : Int))) then (
    bnd1 (idx places1 x5) fun (x7 : Int) =>
    bnd1 (chk .i64 (old4 - 1)) fun (x8 : Int) =>
    bnd1 (ref_In x7 0 x8) fun (r6 : Bool) =>
    if (!r6) then (
      some (.inr (.ext ((decide (r3 = 2)) && (decide ((r2.length : Int) = 0)))))
    ) else (
      bnd1 (ref_Where units1 x7) fun (r7 : Int) =>
      bnd1 (app 8 want2 [r7]) fun (want5 : List Int) =>
      bnd1 (chk .i64 (x5 + 1)) fun (x9 : Int) =>
      some (.inl (x9, want5))
    )
  ) else (
    some (.inr (.nrm want2))
  )
noncomputable def law_AxisApplyMatches_L1 (units1 : List Int) (old2 : Int) (x2 : Int) : Option ((Int × Int) ⊕ Int) :=
  if (decide (x2 < (units1.length : Int))) then (
    bnd1 (
      bnd1 (idx units1 x2) fun (x11 : Int) =>
      if (!decide (x11 = 1)) then (
        bnd1 (chk .i64 (old2 + 1)) fun (old6 : Int) =>
        some old6
      ) else (
        some old2
      )
    ) fun (old5 : Int) =>
    bnd1 (chk .i64 (x2 + 1)) fun (x10 : Int) =>
    some (.inl (old5, x10))
  ) else (
    some (.inr old2)
  )
noncomputable def law_AxisApplyMatches (a1 : List GAxisStep) (places1 : List Int) : Option (Bool) :=
  bnd1 (law_axes) fun (r1 : Bool) =>
  if (!r1) then (
    some false
  ) else (
    bnd2 (axis_Apply a1 places1) fun (r2 : List Int) (r3 : Int) =>
    bnd1 (ref_AxisError a1) fun (f1 : Int) =>
    if (!decide (f1 = 0)) then (
      some ((decide (r3 = f1)) && (decide ((r2.length : Int) = 0)))
    ) else (
      bnd1 (law_few a1) fun (r4 : Bool) =>
      if (!r4) then (
        some ((decide (r3 = 0)) || ((decide (r3 = 2)) && (decide ((r2.length : Int) = 0))))
      ) else (
        bnd1 (ref_Units a1) fun (units1 : List Int) =>
        bnd1 (iter (fun (a : Int × Int) => law_AxisApplyMatches_L1 units1 a.1 a.2) (0, 0)) fun (old4 : Int) =>
        ctl1 (iter (fun (a : Int × (List Int)) => law_AxisApplyMatches_L2 places1 r2 r3 units1 old4 a.1 a.2) (0, [])) fun (want4 : List Int) =>
        bnd1 (gd ((decide (r3 = 0)) == true) (ref_SameInts r2 want4)) fun (r5 : Bool) =>
        some ((decide (r3 = 0)) && r5)
      )
    )
  )
noncomputable def attr_Name_L1 (s1 : List UInt8) (x2 : Int) : Option (Int ⊕ (Ctl Unit Bool)) :=
  if (decide (x2 < (s1.length : Int))) then (
    bnd1 (idx s1 x2) fun (c1 : UInt8) =>
    if (((((decide ((c1.toNat : Int) < 97)) || (decide (122 < (c1.toNat : Int)))) && ((decide ((c1.toNat : Int) < 48)) || (decide (57 < (c1.toNat : Int))))) && (!decide ((c1.toNat : Int) = 46))) && (!decide ((c1.toNat : Int) = 45))) then (
      some (.inr (.ext false))
    ) else (
      bnd1 (chk .i64 (x2 + 1)) fun (x4 : Int) =>
      some (.inl x4)
    )
  ) else (
    some (.inr (.nrm ()))
  )
noncomputable def attr_Name (s1 : List UInt8) : Option (Bool) :=
  bnd1 (gd (((decide (s1 = [])) || (decide (24 < (s1.length : Int)))) == false) (idx s1 0)) fun (ch1 : UInt8) =>
  bnd1 (gd ((((decide (s1 = [])) || (decide (24 < (s1.length : Int)))) || (decide ((ch1.toNat : Int) < 97))) == false) (idx s1 0)) fun (ch2 : UInt8) =>
  if ((((decide (s1 = [])) || (decide (24 < (s1.length : Int)))) || (decide ((ch1.toNat : Int) < 97))) || (decide (122 < (ch2.toNat : Int)))) then (
    some false
  ) else (
    ctl1 (iter (fun (a : Int) => attr_Name_L1 s1 a) 0) fun (u2 : Unit) =>
    some true
  )
noncomputable def attr_Value_L1 (s1 : List UInt8) (x2 : Int) : Option (Int ⊕ (Ctl Unit Bool)) :=
  if (decide (x2 < (s1.length : Int))) then (
    bnd1 (idx s1 x2) fun (ch1 : UInt8) =>
    if ((decide ((ch1.toNat : Int) < 32)) || (decide (126 < (ch1.toNat : Int)))) then (
      some (.inr (.ext false))
    ) else (
      bnd1 (chk .i64 (x2 + 1)) fun (x4 : Int) =>
      some (.inl x4)
    )
  ) else (
    some (.inr (.nrm ()))
  )
noncomputable def attr_Value (s1 : List UInt8) : Option (Bool) :=
  if ((decide (s1 = [])) || (decide (200 < (s1.length : Int)))) then (
    some false
  ) else (
    ctl1 (iter (fun (a : Int) => attr_Value_L1 s1 a) 0) fun (u2 : Unit) =>
    some true
  )
noncomputable def attr_check_L1 (l1 : List GAttr) (empty1 : Bool) (x2 : Int) : Option (Int ⊕ (Ctl Unit Int)) :=
  if (decide (x2 < (l1.length : Int))) then (
    bnd1 (idx l1 x2) fun (x4 : GAttr) =>
    bnd1 (attr_Name x4.Name) fun (r1 : Bool) =>
    if (!r1) then (
      some (.inr (.ext 9))
    ) else (
      bnd1 (attr_Value x4.Value) fun (r2 : Bool) =>
      if ((!r2) && (!(empty1 && (decide (x4.Value = []))))) then (
        some (.inr (.ext 23))
      ) else (
        bnd1 (gd ((decide (0 < x2)) == true) (chk .i64 (x2 - 1))) fun (x5 : Int) =>
        bnd1 (gd ((decide (0 < x2)) == true) (idx l1 x5)) fun (x6 : GAttr) =>
        if ((decide (0 < x2)) && (sLt x4.Name x6.Name || decide (x4.Name = x6.Name))) then (
          some (.inr (.ext 5))
        ) else (
          bnd1 (chk .i64 (x2 + 1)) fun (x7 : Int) =>
          some (.inl x7)
        )
      )
    )
  ) else (
    some (.inr (.nrm ()))
  )
noncomputable def attr_check (l1 : List GAttr) (empty1 : Bool) : Option (Int) :=
  ctl1 (iter (fun (a : Int) => attr_check_L1 l1 empty1 a) 0) fun (u2 : Unit) =>
  some 0
noncomputable def attr_Check (l1 : List GAttr) : Option (Int) :=
  bnd1 (attr_check l1 false) fun (r1 : Int) =>
  some r1
noncomputable def attr_CheckChange (l1 : List GAttr) : Option (Int) :=
  bnd1 (attr_check l1 true) fun (r1 : Int) =>
  some r1
noncomputable def attr_Raw_f1 (c1 : List GAttr) (x1 : GAttr) (y1 : GAttr) : Option ((List GAttr)) :=
  if (decide (y1.Name = [])) then (
    bnd1 (app 32 c1 [x1]) fun (l1 : List GAttr) =>
    some l1
  ) else (
    if (!decide (y1.Value = [])) then (
      bnd1 (app 32 c1 [y1]) fun (l2 : List GAttr) =>
      some l2
    ) else (
      some c1
    )
  )
noncomputable def attr_both__Raw_f1_L1 (a1 : List GAttr) (b1 : List GAttr) (i4 : Int) (j2 : Int) (o2 : List GAttr) : Option ((Int × Int × (List GAttr)) ⊕ (Ctl Unit (List GAttr))) :=
  if ((decide (i4 < (a1.length : Int))) || (decide (j2 < (b1.length : Int)))) then (
    bnd1 (gd (((decide (j2 = (b1.length : Int))) == false) && ((decide (i4 < (a1.length : Int))) == true)) (idx a1 i4)) fun (x1 : GAttr) =>
    bnd1 (gd (((decide (j2 = (b1.length : Int))) == false) && ((decide (i4 < (a1.length : Int))) == true)) (idx b1 j2)) fun (x2 : GAttr) =>
    if ((decide (j2 = (b1.length : Int))) || ((decide (i4 < (a1.length : Int))) && (sLt x1.Name x2.Name))) then (
      bnd1 (idx a1 i4) fun (x3 : GAttr) =>
      bnd1 (attr_Raw_f1 o2 x3 (GAttr.mk [] [])) fun (w1 : List GAttr) =>
      bnd1 (chk .i64 (i4 + 1)) fun (i9 : Int) =>
      some (.inl (i9, j2, w1))
    ) else (
      bnd1 (gd ((decide (i4 = (a1.length : Int))) == false) (idx b1 j2)) fun (x4 : GAttr) =>
      bnd1 (gd ((decide (i4 = (a1.length : Int))) == false) (idx a1 i4)) fun (x5 : GAttr) =>
      if ((decide (i4 = (a1.length : Int))) || (sLt x4.Name x5.Name)) then (
        bnd1 (idx b1 j2) fun (x6 : GAttr) =>
        bnd1 (attr_Raw_f1 o2 (GAttr.mk [] []) x6) fun (w2 : List GAttr) =>
        bnd1 (chk .i64 (j2 + 1)) fun (j4 : Int) =>
        some (.inl (i4, j4, w2))
      ) else (
        bnd1 (idx a1 i4) fun (x7 : GAttr) =>
        bnd1 (idx b1 j2) fun (x8 : GAttr) =>
        bnd1 (attr_Raw_f1 o2 x7 x8) fun (w3 : List GAttr) =>
        bnd1 (chk .i64 (i4 + 1)) fun (i12 : Int) =>
        bnd1 (chk .i64 (j2 + 1)) fun (j5 : Int) =>
        some (.inl (i12, j5, w3))
      )
    )
  ) else (
    some (.inr (.ext o2))
  )
noncomputable def attr_both__Raw_f1 (c1 : List GAttr) (a1 : List GAttr) (b1 : List GAttr) : Option ((List GAttr)) :=
  ctl1 (iter (fun (a : Int × Int × (List GAttr)) => attr_both__Raw_f1_L1 a1 b1 a.1 a.2.1 a.2.2) (0, 0, c1)) fun (u2 : Unit) =>
  none
noncomputable def attr_Raw (l1 : List GAttr) (change1 : List GAttr) : Option ((List GAttr)) :=
  bnd1 (attr_both__Raw_f1 [] l1 change1) fun (w1 : List GAttr) =>
  some w1
noncomputable def attr_Apply (l1 : List GAttr) (change1 : List GAttr) : Option ((List GAttr) × Int) :=
  bnd1 (attr_Check l1) fun (e1 : Int) =>
  if (!decide (e1 = 0)) then (
    some ([], e1)
  ) else (
    bnd1 (attr_CheckChange change1) fun (e2 : Int) =>
    if (!decide (e2 = 0)) then (
      some ([], e2)
    ) else (
      bnd1 (attr_Raw l1 change1) fun (r1 : List GAttr) =>
      some (r1, 0)
    )
  )
noncomputable def ref_SameAttrs_L1 (a1 : List GAttr) (b1 : List GAttr) (x2 : Int) : Option (Int ⊕ (Ctl Unit Bool)) :=
  if (decide (x2 < (a1.length : Int))) then (
    bnd1 (idx a1 x2) fun (x4 : GAttr) =>
    bnd1 (idx b1 x2) fun (x5 : GAttr) =>
    if (!(decide (x4.Name = x5.Name) && (decide (x4.Value = x5.Value) && true))) then (
      some (.inr (.ext false))
    ) else (
      bnd1 (chk .i64 (x2 + 1)) fun (x6 : Int) =>
      some (.inl x6)
    )
  ) else (
    some (.inr (.nrm ()))
  )
noncomputable def ref_SameAttrs (a1 : List GAttr) (b1 : List GAttr) : Option (Bool) :=
  if (!decide ((a1.length : Int) = (b1.length : Int))) then (
    some false
  ) else (
    ctl1 (iter (fun (a : Int) => ref_SameAttrs_L1 a1 b1 a) 0) fun (u2 : Unit) =>
    some true
  )
noncomputable def law_attrs : Option (Bool) :=
  bnd2 (attr_Apply [(GAttr.mk [97] [49]), (GAttr.mk [98] [50])] [(GAttr.mk [97] []), (GAttr.mk [99] [51])]) fun (r1 : List GAttr) (r2 : Int) =>
  bnd1 (
    if ((decide (r2 = 0)) == true) then (
      bnd1 (ref_SameAttrs r1 [(GAttr.mk [98] [50]), (GAttr.mk [99] [51])]) fun (r3 : Bool) =>
      bnd1 (gd (((decide (r2 = 0)) && r3) == true) (attr_Name [109, 97, 114, 107, 46, 120, 49])) fun (r4 : Bool) =>
      some (((decide (r2 = 0)) && r3) && r4)
    ) else (
      bnd1 (gd (((decide (r2 = 0)) && false) == true) (attr_Name [109, 97, 114, 107, 46, 120, 49])) fun (r5 : Bool) =>
      some (((decide (r2 = 0)) && false) && r5)
    )
  ) fun (x1 : Bool) =>
  some x1
noncomputable def ref_Name_L1 (s1 : List UInt8) (x2 : Int) : Option (Int ⊕ (Ctl Unit Bool)) :=
  if (decide (x2 < (s1.length : Int))) then (
    bnd1 (idx s1 x2) fun (ch1 : UInt8) =>
    if ((!((decide (97 ≤ (ch1.toNat : Int))) && (decide ((ch1.toNat : Int) ≤ 122)))) && ((decide (x2 = 0)) || (((!decide ((ch1.toNat : Int) = 46)) && (!decide ((ch1.toNat : Int) = 45))) && ((decide ((ch1.toNat : Int) < 48)) || (decide (57 < (ch1.toNat : Int))))))) then (
      some (.inr (.ext false))
    ) else (
      bnd1 (chk .i64 (x2 + 1)) fun (x4 : Int) =>
      some (.inl x4)
    )
  ) else (
    some (.inr (.nrm ()))
  )
noncomputable def ref_Name (s1 : List UInt8) : Option (Bool) :=
  ctl1 (iter (fun (a : Int) => ref_Name_L1 s1 a) 0) fun (u2 : Unit) =>
  some ((decide (1 ≤ (s1.length : Int))) && (decide ((s1.length : Int) ≤ 24)))
noncomputable def ref_Value_L1 (s1 : List UInt8) (x2 : Int) : Option (Int ⊕ (Ctl Unit Bool)) :=
  if (decide (x2 < (s1.length : Int))) then (
    bnd1 (idx s1 x2) fun (ch1 : UInt8) =>
    if ((decide ((ch1.toNat : Int) < 32)) || (decide (126 < (ch1.toNat : Int)))) then (
      some (.inr (.ext false))
    ) else (
      bnd1 (chk .i64 (x2 + 1)) fun (x4 : Int) =>
      some (.inl x4)
    )
  ) else (
    some (.inr (.nrm ()))
  )
noncomputable def ref_Value (s1 : List UInt8) : Option (Bool) :=
  ctl1 (iter (fun (a : Int) => ref_Value_L1 s1 a) 0) fun (u2 : Unit) =>
  some ((decide (1 ≤ (s1.length : Int))) && (decide ((s1.length : Int) ≤ 200)))
noncomputable def ref_AttrsError_L1 (l1 : List GAttr) (change1 : Bool) (x2 : Int) : Option (Int ⊕ (Ctl Unit Int)) :=
  if (decide (x2 < (l1.length : Int))) then (
    bnd1 (idx l1 x2) fun (x4 : GAttr) =>
    bnd1 (ref_Name x4.Name) fun (r1 : Bool) =>
    if (!r1) then (
      some (.inr (.ext 9))
    ) else (
      bnd1 (ref_Value x4.Value) fun (r2 : Bool) =>
      if ((!r2) && ((!decide (x4.Value = [])) || (!change1))) then (
        some (.inr (.ext 23))
      ) else (
        bnd1 (gd ((decide (0 < x2)) == true) (chk .i64 (x2 - 1))) fun (x5 : Int) =>
        bnd1 (gd ((decide (0 < x2)) == true) (idx l1 x5)) fun (x6 : GAttr) =>
        if ((decide (0 < x2)) && (!sLt x6.Name x4.Name)) then (
          some (.inr (.ext 5))
        ) else (
          bnd1 (chk .i64 (x2 + 1)) fun (x7 : Int) =>
          some (.inl x7)
        )
      )
    )
  ) else (
    some (.inr (.nrm ()))
  )
noncomputable def ref_AttrsError (l1 : List GAttr) (change1 : Bool) : Option (Int) :=
  ctl1 (iter (fun (a : Int) => ref_AttrsError_L1 l1 change1 a) 0) fun (u2 : Unit) =>
  some 0
noncomputable def attr_Get_L1 (l1 : List GAttr) (name1 : List UInt8) (x2 : Int) : Option (Int ⊕ (Ctl Unit (List UInt8))) :=
  if (decide (x2 < (l1.length : Int))) then (
    bnd1 (idx l1 x2) fun (x4 : GAttr) =>
    if (decide (x4.Name = name1)) then (
      some (.inr (.ext x4.Value))
    ) else (
      bnd1 (chk .i64 (x2 + 1)) fun (x5 : Int) =>
      some (.inl x5)
    )
  ) else (
    some (.inr (.nrm ()))
  )
noncomputable def attr_Get (l1 : List GAttr) (name1 : List UInt8) : Option ((List UInt8)) :=
  ctl1 (iter (fun (a : Int) => attr_Get_L1 l1 name1 a) 0) fun (u2 : Unit) =>
  some []
noncomputable def ref_Get_L1 (l1 : List GAttr) (name1 : List UInt8) (x2 : Int) : Option (Int ⊕ (Ctl Unit (List UInt8))) :=
  if (decide (x2 < (l1.length : Int))) then (
    bnd1 (idx l1 x2) fun (x4 : GAttr) =>
    if (decide (x4.Name = name1)) then (
      some (.inr (.ext x4.Value))
    ) else (
      bnd1 (chk .i64 (x2 + 1)) fun (x5 : Int) =>
      some (.inl x5)
    )
  ) else (
    some (.inr (.nrm ()))
  )
noncomputable def ref_Get (l1 : List GAttr) (name1 : List UInt8) : Option ((List UInt8)) :=
  ctl1 (iter (fun (a : Int) => ref_Get_L1 l1 name1 a) 0) fun (u2 : Unit) =>
  some []
noncomputable def law_AttrCheckSays (s1 : List UInt8) (l1 : List GAttr) : Option (Bool) :=
  bnd1 (law_attrs) fun (r1 : Bool) =>
  bnd1 (gd (r1 == true) (attr_Name s1)) fun (r2 : Bool) =>
  bnd1 (gd (r1 == true) (ref_Name s1)) fun (r3 : Bool) =>
  bnd1 (gd ((r1 && (r2 == r3)) == true) (attr_Check l1)) fun (r4 : Int) =>
  bnd1 (gd ((r1 && (r2 == r3)) == true) (ref_AttrsError l1 false)) fun (r5 : Int) =>
  bnd1 (gd (((r1 && (r2 == r3)) && (decide (r4 = r5))) == true) (attr_CheckChange l1)) fun (r6 : Int) =>
  bnd1 (gd (((r1 && (r2 == r3)) && (decide (r4 = r5))) == true) (ref_AttrsError l1 true)) fun (r7 : Int) =>
  bnd1 (gd ((((r1 && (r2 == r3)) && (decide (r4 = r5))) && (decide (r6 = r7))) == true) (attr_Get l1 s1)) fun (r8 : List UInt8) =>
  bnd1 (gd ((((r1 && (r2 == r3)) && (decide (r4 = r5))) && (decide (r6 = r7))) == true) (ref_Get l1 s1)) fun (r9 : List UInt8) =>
  some ((((r1 && (r2 == r3)) && (decide (r4 = r5))) && (decide (r6 = r7))) && (decide (r8 = r9)))
noncomputable def attr_Change_f1 (c1 : List GAttr) (x1 : GAttr) (y1 : GAttr) : Option ((List GAttr)) :=
  if (decide (y1.Name = [])) then (
    bnd1 (app 32 c1 [(GAttr.mk x1.Name [])]) fun (l1 : List GAttr) =>
    some l1
  ) else (
    if (!(decide (x1.Name = y1.Name) && (decide (x1.Value = y1.Value) && true))) then (
      bnd1 (app 32 c1 [y1]) fun (l2 : List GAttr) =>
      some l2
    ) else (
      some c1
    )
  )
noncomputable def attr_both__Change_f1_L1 (a1 : List GAttr) (b1 : List GAttr) (i4 : Int) (j2 : Int) (o2 : List GAttr) : Option ((Int × Int × (List GAttr)) ⊕ (Ctl Unit (List GAttr))) :=
  if ((decide (i4 < (a1.length : Int))) || (decide (j2 < (b1.length : Int)))) then (
    bnd1 (gd (((decide (j2 = (b1.length : Int))) == false) && ((decide (i4 < (a1.length : Int))) == true)) (idx a1 i4)) fun (x1 : GAttr) =>
    bnd1 (gd (((decide (j2 = (b1.length : Int))) == false) && ((decide (i4 < (a1.length : Int))) == true)) (idx b1 j2)) fun (x2 : GAttr) =>
    if ((decide (j2 = (b1.length : Int))) || ((decide (i4 < (a1.length : Int))) && (sLt x1.Name x2.Name))) then (
      bnd1 (idx a1 i4) fun (x3 : GAttr) =>
      bnd1 (attr_Change_f1 o2 x3 (GAttr.mk [] [])) fun (w1 : List GAttr) =>
      bnd1 (chk .i64 (i4 + 1)) fun (i9 : Int) =>
      some (.inl (i9, j2, w1))
    ) else (
      bnd1 (gd ((decide (i4 = (a1.length : Int))) == false) (idx b1 j2)) fun (x4 : GAttr) =>
      bnd1 (gd ((decide (i4 = (a1.length : Int))) == false) (idx a1 i4)) fun (x5 : GAttr) =>
      if ((decide (i4 = (a1.length : Int))) || (sLt x4.Name x5.Name)) then (
        bnd1 (idx b1 j2) fun (x6 : GAttr) =>
        bnd1 (attr_Change_f1 o2 (GAttr.mk [] []) x6) fun (w2 : List GAttr) =>
        bnd1 (chk .i64 (j2 + 1)) fun (j4 : Int) =>
        some (.inl (i4, j4, w2))
      ) else (
        bnd1 (idx a1 i4) fun (x7 : GAttr) =>
        bnd1 (idx b1 j2) fun (x8 : GAttr) =>
        bnd1 (attr_Change_f1 o2 x7 x8) fun (w3 : List GAttr) =>
        bnd1 (chk .i64 (i4 + 1)) fun (i12 : Int) =>
        bnd1 (chk .i64 (j2 + 1)) fun (j5 : Int) =>
        some (.inl (i12, j5, w3))
      )
    )
  ) else (
    some (.inr (.ext o2))
  )
noncomputable def attr_both__Change_f1 (c1 : List GAttr) (a1 : List GAttr) (b1 : List GAttr) : Option ((List GAttr)) :=
  ctl1 (iter (fun (a : Int × Int × (List GAttr)) => attr_both__Change_f1_L1 a1 b1 a.1 a.2.1 a.2.2) (0, 0, c1)) fun (u2 : Unit) =>
  none
noncomputable def attr_Change (a1 : List GAttr) (b1 : List GAttr) : Option ((List GAttr)) :=
  bnd1 (attr_both__Change_f1 [] a1 b1) fun (w1 : List GAttr) =>
  some w1
noncomputable def attr_Undo (l1 : List GAttr) (change1 : List GAttr) : Option ((List GAttr) × Int) :=
  bnd2 (attr_Apply l1 change1) fun (r1 : List GAttr) (r2 : Int) =>
  if (!decide (r2 = 0)) then (
    some ([], r2)
  ) else (
    bnd1 (attr_Change r1 l1) fun (r3 : List GAttr) =>
    some (r3, 0)
  )
noncomputable def ref_put_L1 (l1 : List GAttr) (a1 : GAttr) (done2 : Bool) (x2 : Int) (out2 : List GAttr) : Option ((Bool × Int × (List GAttr)) ⊕ (Bool × (List GAttr))) :=
  if (decide (x2 < (l1.length : Int))) then (
    bnd2 (
      bnd1 (gd ((!done2) == true) (idx l1 x2)) fun (x5 : GAttr) =>
      bnd2 (
        if ((!done2) && (!sLt x5.Name a1.Name)) then (
          bnd1 (app 32 out2 [a1]) fun (out10 : List GAttr) =>
          some (true, out10)
        ) else (
          some (done2, out2)
        )
      ) fun (done6 : Bool) (out8 : List GAttr) =>
      bnd1 (idx l1 x2) fun (x6 : GAttr) =>
      if (!decide (x6.Name = a1.Name)) then (
        bnd1 (app 32 out8 [x6]) fun (out9 : List GAttr) =>
        some (done6, out9)
      ) else (
        some (done6, out8)
      )
    ) fun (done5 : Bool) (out7 : List GAttr) =>
    bnd1 (chk .i64 (x2 + 1)) fun (x4 : Int) =>
    some (.inl (done5, x4, out7))
  ) else (
    some (.inr (done2, out2))
  )
noncomputable def ref_put (l1 : List GAttr) (a1 : GAttr) : Option ((List GAttr)) :=
  bnd2 (iter (fun (a : Bool × Int × (List GAttr)) => ref_put_L1 l1 a1 a.1 a.2.1 a.2.2) (false, 0, [])) fun (done4 : Bool) (out4 : List GAttr) =>
  bnd1 (
    if (!done4) then (
      bnd1 (app 32 out4 [a1]) fun (out6 : List GAttr) =>
      some out6
    ) else (
      some out4
    )
  ) fun (out5 : List GAttr) =>
  some out5
noncomputable def ref_Changed_L3 (out8 : List GAttr) (x8 : Int) (rest2 : List GAttr) : Option ((Int × (List GAttr)) ⊕ (List GAttr)) :=
  if (decide (x8 < (out8.length : Int))) then (
    bnd1 (
      bnd1 (idx out8 x8) fun (x11 : GAttr) =>
      if (!decide (x11.Value = [])) then (
        bnd1 (app 32 rest2 [x11]) fun (rest6 : List GAttr) =>
        some rest6
      ) else (
        some rest2
      )
    ) fun (rest5 : List GAttr) =>
    bnd1 (chk .i64 (x8 + 1)) fun (x10 : Int) =>
    some (.inl (x10, rest5))
  ) else (
    some (.inr rest2)
  )
noncomputable def ref_Changed_L2 (change1 : List GAttr) (out6 : List GAttr) (x5 : Int) : Option (((List GAttr) × Int) ⊕ (List GAttr)) :=
  if (decide (x5 < (change1.length : Int))) then (
    bnd1 (idx change1 x5) fun (x12 : GAttr) =>
    bnd1 (ref_put out6 x12) fun (out9 : List GAttr) =>
    bnd1 (chk .i64 (x5 + 1)) fun (x13 : Int) =>
    some (.inl (out9, x13))
  ) else (
    some (.inr out6)
  )
noncomputable def ref_Changed_L1 (l1 : List GAttr) (out2 : List GAttr) (x2 : Int) : Option (((List GAttr) × Int) ⊕ (List GAttr)) :=
  if (decide (x2 < (l1.length : Int))) then (
    bnd1 (idx l1 x2) fun (x14 : GAttr) =>
    bnd1 (ref_put out2 x14) fun (out10 : List GAttr) =>
    bnd1 (chk .i64 (x2 + 1)) fun (x15 : Int) =>
    some (.inl (out10, x15))
  ) else (
    some (.inr out2)
  )
noncomputable def ref_Changed (l1 : List GAttr) (change1 : List GAttr) : Option ((List GAttr)) :=
  bnd1 (iter (fun (a : (List GAttr) × Int) => ref_Changed_L1 l1 a.1 a.2) ([], 0)) fun (out4 : List GAttr) =>
  bnd1 (iter (fun (a : (List GAttr) × Int) => ref_Changed_L2 change1 a.1 a.2) (out4, 0)) fun (out8 : List GAttr) =>
  bnd1 (iter (fun (a : Int × (List GAttr)) => ref_Changed_L3 out8 a.1 a.2) (0, [])) fun (rest4 : List GAttr) =>
  some rest4
noncomputable def ref_Between_L2 (a1 : List GAttr) (b1 : List GAttr) (out6 : List GAttr) (x5 : Int) : Option (((List GAttr) × Int) ⊕ (List GAttr)) :=
  if (decide (x5 < (a1.length : Int))) then (
    bnd1 (
      bnd1 (idx a1 x5) fun (x8 : GAttr) =>
      bnd1 (ref_Get b1 x8.Name) fun (r1 : List UInt8) =>
      if (decide (r1 = [])) then (
        bnd1 (ref_put out6 (GAttr.mk x8.Name [])) fun (out10 : List GAttr) =>
        some out10
      ) else (
        some out6
      )
    ) fun (out9 : List GAttr) =>
    bnd1 (chk .i64 (x5 + 1)) fun (x7 : Int) =>
    some (.inl (out9, x7))
  ) else (
    some (.inr out6)
  )
noncomputable def ref_Between_L1 (a1 : List GAttr) (b1 : List GAttr) (out2 : List GAttr) (x2 : Int) : Option (((List GAttr) × Int) ⊕ (List GAttr)) :=
  if (decide (x2 < (b1.length : Int))) then (
    bnd1 (
      bnd1 (idx b1 x2) fun (x10 : GAttr) =>
      bnd1 (ref_Get a1 x10.Name) fun (r2 : List UInt8) =>
      if (!decide (r2 = x10.Value)) then (
        bnd1 (ref_put out2 x10) fun (out12 : List GAttr) =>
        some out12
      ) else (
        some out2
      )
    ) fun (out11 : List GAttr) =>
    bnd1 (chk .i64 (x2 + 1)) fun (x9 : Int) =>
    some (.inl (out11, x9))
  ) else (
    some (.inr out2)
  )
noncomputable def ref_Between (a1 : List GAttr) (b1 : List GAttr) : Option ((List GAttr)) :=
  bnd1 (iter (fun (a : (List GAttr) × Int) => ref_Between_L1 a1 b1 a.1 a.2) ([], 0)) fun (out4 : List GAttr) =>
  bnd1 (iter (fun (a : (List GAttr) × Int) => ref_Between_L2 a1 b1 a.1 a.2) (out4, 0)) fun (out8 : List GAttr) =>
  some out8
noncomputable def law_AttrApplyMatches (l1 : List GAttr) (change1 : List GAttr) : Option (Bool) :=
  bnd1 (law_attrs) fun (r1 : Bool) =>
  if (!r1) then (
    some false
  ) else (
    bnd2 (attr_Apply l1 change1) fun (r2 : List GAttr) (r3 : Int) =>
    bnd2 (attr_Undo l1 change1) fun (r4 : List GAttr) (r5 : Int) =>
    bnd1 (ref_AttrsError l1 false) fun (f1 : Int) =>
    bnd1 (
      if (decide (f1 = 0)) then (
        bnd1 (ref_AttrsError change1 true) fun (f3 : Int) =>
        some f3
      ) else (
        some f1
      )
    ) fun (f2 : Int) =>
    if (!decide (f2 = 0)) then (
      bnd1 (gd (((decide (r3 = f2)) && (decide (r5 = f2))) == true) (chk .i64 ((r2.length : Int) + (r4.length : Int)))) fun (x1 : Int) =>
      some (((decide (r3 = f2)) && (decide (r5 = f2))) && (decide (x1 = 0)))
    ) else (
      bnd1 (ref_Changed l1 change1) fun (want1 : List GAttr) =>
      bnd1 (gd (((decide (r3 = 0)) && (decide (r5 = 0))) == true) (ref_SameAttrs r2 want1)) fun (r6 : Bool) =>
      bnd1 (
        if ((((decide (r3 = 0)) && (decide (r5 = 0))) && r6) == true) then (
          bnd1 (ref_Between want1 l1) fun (r7 : List GAttr) =>
          bnd1 (ref_SameAttrs r4 r7) fun (r8 : Bool) =>
          some ((((decide (r3 = 0)) && (decide (r5 = 0))) && r6) && r8)
        ) else (
          some ((((decide (r3 = 0)) && (decide (r5 = 0))) && r6) && false)
        )
      ) fun (x2 : Bool) =>
      some x2
    )
  )
noncomputable def law_end : Option (GElem) :=
  some (GElem.mk 10 0 [])
noncomputable def flow_Char (c1 : Int) : Option (Bool) :=
  some (((((decide (c1 = 9)) || (decide (c1 = 10))) || ((decide (32 ≤ c1)) && (decide (c1 < 127)))) || ((decide (160 ≤ c1)) && (decide (c1 < 55296)))) || ((decide (57343 < c1)) && (decide (c1 ≤ 1114111))))
noncomputable def flow_elem (x1 : GElem) : Option (Int) :=
  if ((!decide (x1.Char = 0)) == (!decide (x1.Ref = 0))) then (
    some 4
  ) else (
    bnd1 (gd ((decide (x1.Ref = 0)) == true) (flow_Char x1.Char)) fun (r1 : Bool) =>
    bnd1 (
      if ((decide (x1.Ref = 0)) && (!r1)) then (
        some ((decide (x1.Ref = 0)) && (!r1))
      ) else (
        some ((!decide (x1.Ref = 0)) && ((decide (x1.Ref < 1)) || (decide (1073741824 < x1.Ref))))
      )
    ) fun (x2 : Bool) =>
    if x2 then (
      some 2
    ) else (
      bnd1 (attr_Check x1.Attrs) fun (r2 : Int) =>
      some r2
    )
  )
noncomputable def flow_CheckPart_L1 (f1 : List GElem) (x2 : Int) : Option (Int ⊕ (Ctl Unit Int)) :=
  if (decide (x2 < (f1.length : Int))) then (
    bnd1 (idx f1 x2) fun (x4 : GElem) =>
    bnd1 (flow_elem x4) fun (e1 : Int) =>
    if (!decide (e1 = 0)) then (
      some (.inr (.ext e1))
    ) else (
      bnd1 (chk .i64 (x2 + 1)) fun (x5 : Int) =>
      some (.inl x5)
    )
  ) else (
    some (.inr (.nrm ()))
  )
noncomputable def flow_CheckPart (f1 : List GElem) : Option (Int) :=
  ctl1 (iter (fun (a : Int) => flow_CheckPart_L1 f1 a) 0) fun (u2 : Unit) =>
  some 0
noncomputable def track_Hidden (x1 : GElem) (mode1 : Int) : Option (Bool) :=
  bnd1 (attr_Get x1.Attrs [104, 105, 100, 100, 101, 110]) fun (r1 : List UInt8) =>
  bnd1 (gd (((decide (r1 = [111, 110])) == false) && ((decide (mode1 = 0)) == true)) (attr_Get x1.Attrs [99, 117, 116])) fun (r2 : List UInt8) =>
  bnd1 (gd ((((decide (r1 = [111, 110])) || ((decide (mode1 = 0)) && (!decide (r2 = [])))) == false) && ((decide (mode1 = 1)) == true)) (attr_Get x1.Attrs [97, 100, 100])) fun (r3 : List UInt8) =>
  some (((decide (r1 = [111, 110])) || ((decide (mode1 = 0)) && (!decide (r2 = [])))) || ((decide (mode1 = 1)) && (!decide (r3 = []))))
noncomputable def track_Places_L1 (f1 : List GElem) (mode1 : Int) (x2 : Int) (out2 : List Int) : Option ((Int × (List Int)) ⊕ (List Int)) :=
  if (decide (x2 < (f1.length : Int))) then (
    bnd1 (
      bnd1 (idx f1 x2) fun (x5 : GElem) =>
      bnd1 (track_Hidden x5 mode1) fun (r1 : Bool) =>
      bnd1 (gd ((!r1) == false) (chk .i64 ((f1.length : Int) - 1))) fun (x6 : Int) =>
      if ((!r1) || ((decide (x2 = x6)) && (decide (x5.Char = 10)))) then (
        bnd1 (app 8 out2 [x2]) fun (out6 : List Int) =>
        some out6
      ) else (
        some out2
      )
    ) fun (out5 : List Int) =>
    bnd1 (chk .i64 (x2 + 1)) fun (x4 : Int) =>
    some (.inl (x4, out5))
  ) else (
    some (.inr out2)
  )
noncomputable def track_Places (f1 : List GElem) (mode1 : Int) : Option ((List Int)) :=
  bnd1 (iter (fun (a : Int × (List Int)) => track_Places_L1 f1 mode1 a.1 a.2) (0, [])) fun (out4 : List Int) =>
  some out4
noncomputable def track_Shown (f1 : List GElem) (mode1 : Int) : Option ((List Int) × Int) :=
  bnd1 (flow_CheckPart f1) fun (e1 : Int) =>
  if (!decide (e1 = 0)) then (
    some ([], e1)
  ) else (
    if ((decide (mode1 < 0)) || (decide (2 < mode1))) then (
      some ([], 1)
    ) else (
      bnd1 (track_Places f1 mode1) fun (r1 : List Int) =>
      some (r1, 0)
    )
  )
noncomputable def law_tracks : Option (Bool) :=
  bnd1 (law_end) fun (r1 : GElem) =>
  bnd2 (track_Shown [(GElem.mk 97 0 []), (GElem.mk 98 0 [(GAttr.mk [99, 117, 116] [120])]), r1] 0) fun (r2 : List Int) (r3 : Int) =>
  bnd1 (
    if ((decide (r3 = 0)) == true) then (
      bnd1 (ref_SameInts r2 [0, 2]) fun (r4 : Bool) =>
      some ((decide (r3 = 0)) && r4)
    ) else (
      some ((decide (r3 = 0)) && false)
    )
  ) fun (x1 : Bool) =>
  some x1
noncomputable def track_Changes_L1 (f1 : List GElem) (x2 : Int) (out2 : List GSpan) : Option ((Int × (List GSpan)) ⊕ (List GSpan)) :=
  if (decide (x2 < (f1.length : Int))) then (
    bnd1 (
      bnd1 (idx f1 x2) fun (x5 : GElem) =>
      bnd1 (attr_Get x5.Attrs [97, 100, 100]) fun (add1 : List UInt8) =>
      bnd1 (attr_Get x5.Attrs [99, 117, 116]) fun (cut1 : List UInt8) =>
      if ((decide (add1 = [])) && (decide (cut1 = []))) then (
        some out2
      ) else (
        bnd1 (chk .i64 ((out2.length : Int) - 1)) fun (k1 : Int) =>
        bnd1 (gd ((decide (0 ≤ k1)) == true) (idx out2 k1)) fun (x6 : GSpan) =>
        bnd1 (gd (((decide (0 ≤ k1)) && (decide (x6.To = x2))) == true) (chk .i64 (x2 - 1))) fun (x7 : Int) =>
        bnd1 (gd (((decide (0 ≤ k1)) && (decide (x6.To = x2))) == true) (idx f1 x7)) fun (x8 : GElem) =>
        bnd1 (gd (((decide (0 ≤ k1)) && (decide (x6.To = x2))) == true) (attr_Get x8.Attrs [97, 100, 100])) fun (r1 : List UInt8) =>
        bnd1 (gd ((((decide (0 ≤ k1)) && (decide (x6.To = x2))) && (decide (r1 = add1))) == true) (chk .i64 (x2 - 1))) fun (x9 : Int) =>
        bnd1 (gd ((((decide (0 ≤ k1)) && (decide (x6.To = x2))) && (decide (r1 = add1))) == true) (idx f1 x9)) fun (x10 : GElem) =>
        bnd1 (gd ((((decide (0 ≤ k1)) && (decide (x6.To = x2))) && (decide (r1 = add1))) == true) (attr_Get x10.Attrs [99, 117, 116])) fun (r2 : List UInt8) =>
        if ((((decide (0 ≤ k1)) && (decide (x6.To = x2))) && (decide (r1 = add1))) && (decide (r2 = cut1))) then (
          bnd1 (idx out2 k1) fun (x11 : GSpan) =>
          bnd1 (chk .i64 (x11.To + 1)) fun (x12 : Int) =>
          some (out2.set k1.toNat (GSpan.mk x11.From x12))
        ) else (
          bnd1 (chk .i64 (x2 + 1)) fun (x13 : Int) =>
          bnd1 (app 16 out2 [(GSpan.mk x2 x13)]) fun (out6 : List GSpan) =>
          some out6
        )
      )
    ) fun (out5 : List GSpan) =>
    bnd1 (chk .i64 (x2 + 1)) fun (x4 : Int) =>
    some (.inl (x4, out5))
  ) else (
    some (.inr out2)
  )
noncomputable def track_Changes (f1 : List GElem) : Option ((List GSpan) × Int) :=
  bnd1 (flow_CheckPart f1) fun (e1 : Int) =>
  if (!decide (e1 = 0)) then (
    some ([], e1)
  ) else (
    bnd1 (iter (fun (a : Int × (List GSpan)) => track_Changes_L1 f1 a.1 a.2) (0, [])) fun (out4 : List GSpan) =>
    some (out4, 0)
  )
noncomputable def ref_Char (c1 : Int) : Option (Bool) :=
  bnd1 (gd (((decide (c1 = 9)) || (decide (c1 = 10))) == false) (ref_In c1 32 126)) fun (r1 : Bool) =>
  bnd1 (gd ((((decide (c1 = 9)) || (decide (c1 = 10))) || r1) == false) (ref_In c1 160 55295)) fun (r2 : Bool) =>
  bnd1 (gd (((((decide (c1 = 9)) || (decide (c1 = 10))) || r1) || r2) == false) (ref_In c1 57344 1114111)) fun (r3 : Bool) =>
  some (((((decide (c1 = 9)) || (decide (c1 = 10))) || r1) || r2) || r3)
noncomputable def ref_ElemError (x1 : GElem) : Option (Int) :=
  if (((decide (x1.Char = 0)) && (decide (x1.Ref = 0))) || ((!decide (x1.Char = 0)) && (!decide (x1.Ref = 0)))) then (
    some 4
  ) else (
    bnd1 (gd ((!decide (x1.Char = 0)) == true) (ref_Char x1.Char)) fun (r1 : Bool) =>
    bnd1 (gd ((((!decide (x1.Char = 0)) && (!r1)) == false) && ((!decide (x1.Ref = 0)) == true)) (ref_In x1.Ref 1 1073741824)) fun (r2 : Bool) =>
    if (((!decide (x1.Char = 0)) && (!r1)) || ((!decide (x1.Ref = 0)) && (!r2))) then (
      some 2
    ) else (
      bnd1 (ref_AttrsError x1.Attrs false) fun (r3 : Int) =>
      some r3
    )
  )
noncomputable def ref_PartError_L1 (f1 : List GElem) (x2 : Int) : Option (Int ⊕ (Ctl Unit Int)) :=
  if (decide (x2 < (f1.length : Int))) then (
    bnd1 (idx f1 x2) fun (x4 : GElem) =>
    bnd1 (ref_ElemError x4) fun (e1 : Int) =>
    if (!decide (e1 = 0)) then (
      some (.inr (.ext e1))
    ) else (
      bnd1 (chk .i64 (x2 + 1)) fun (x5 : Int) =>
      some (.inl x5)
    )
  ) else (
    some (.inr (.nrm ()))
  )
noncomputable def ref_PartError (f1 : List GElem) : Option (Int) :=
  ctl1 (iter (fun (a : Int) => ref_PartError_L1 f1 a) 0) fun (u2 : Unit) =>
  some 0
noncomputable def ref_Has_L1 (l1 : List GAttr) (name1 : List UInt8) (x2 : Int) : Option (Int ⊕ (Ctl Unit Bool)) :=
  if (decide (x2 < (l1.length : Int))) then (
    bnd1 (idx l1 x2) fun (x4 : GAttr) =>
    if (decide (x4.Name = name1)) then (
      some (.inr (.ext true))
    ) else (
      bnd1 (chk .i64 (x2 + 1)) fun (x5 : Int) =>
      some (.inl x5)
    )
  ) else (
    some (.inr (.nrm ()))
  )
noncomputable def ref_Has (l1 : List GAttr) (name1 : List UInt8) : Option (Bool) :=
  ctl1 (iter (fun (a : Int) => ref_Has_L1 l1 name1 a) 0) fun (u2 : Unit) =>
  some false
noncomputable def ref_Shown_L1 (f1 : List GElem) (mode1 : Int) (x2 : Int) (out2 : List Int) : Option ((Int × (List Int)) ⊕ (List Int)) :=
  if (decide (x2 < (f1.length : Int))) then (
    bnd1 (
      bnd1 (idx f1 x2) fun (x5 : GElem) =>
      bnd1 (ref_Get x5.Attrs [104, 105, 100, 100, 101, 110]) fun (r1 : List UInt8) =>
      bnd1 (gd ((decide (mode1 = 0)) == true) (ref_Has x5.Attrs [99, 117, 116])) fun (r2 : Bool) =>
      bnd1 (gd ((((decide (mode1 = 0)) && r2) == false) && ((decide (mode1 = 1)) == true)) (ref_Has x5.Attrs [97, 100, 100])) fun (r3 : Bool) =>
      bnd1 (
        if (((decide (mode1 = 0)) && r2) || ((decide (mode1 = 1)) && r3)) then (
          some false
        ) else (
          some (!decide (r1 = [111, 110]))
        )
      ) fun (show1 : Bool) =>
      bnd1 (gd (show1 == false) (chk .i64 ((f1.length : Int) - 1))) fun (x6 : Int) =>
      if (show1 || ((decide (x2 = x6)) && (decide (x5.Char = 10)))) then (
        bnd1 (app 8 out2 [x2]) fun (out6 : List Int) =>
        some out6
      ) else (
        some out2
      )
    ) fun (out5 : List Int) =>
    bnd1 (chk .i64 (x2 + 1)) fun (x4 : Int) =>
    some (.inl (x4, out5))
  ) else (
    some (.inr out2)
  )
noncomputable def ref_Shown (f1 : List GElem) (mode1 : Int) : Option ((List Int)) :=
  bnd1 (iter (fun (a : Int × (List Int)) => ref_Shown_L1 f1 mode1 a.1 a.2) (0, [])) fun (out4 : List Int) =>
  some out4
noncomputable def law_TrackShownMatches_L2 (f1 : List GElem) (add1 : List UInt8) (cut1 : List UInt8) (k2 : Int) : Option (Int ⊕ Int) :=
  bnd1 (gd ((decide (k2 < (f1.length : Int))) == true) (idx f1 k2)) fun (x5 : GElem) =>
  bnd1 (gd ((decide (k2 < (f1.length : Int))) == true) (ref_Get x5.Attrs [97, 100, 100])) fun (r9 : List UInt8) =>
  bnd1 (gd (((decide (k2 < (f1.length : Int))) && (decide (r9 = add1))) == true) (idx f1 k2)) fun (x6 : GElem) =>
  bnd1 (gd (((decide (k2 < (f1.length : Int))) && (decide (r9 = add1))) == true) (ref_Get x6.Attrs [99, 117, 116])) fun (r10 : List UInt8) =>
  if (((decide (k2 < (f1.length : Int))) && (decide (r9 = add1))) && (decide (r10 = cut1))) then (
    bnd1 (chk .i64 (k2 + 1)) fun (k5 : Int) =>
    some (.inl k5)
  ) else (
    some (.inr k2)
  )
noncomputable def law_TrackShownMatches_L1 (f1 : List GElem) (r4 : List GSpan) (at2 : Int) (i4 : Int) : Option ((Int × Int) ⊕ (Ctl Int Bool)) :=
  if (decide (i4 < (f1.length : Int))) then (
    bnd1 (idx f1 i4) fun (x3 : GElem) =>
    bnd1 (ref_Get x3.Attrs [97, 100, 100]) fun (add1 : List UInt8) =>
    bnd1 (ref_Get x3.Attrs [99, 117, 116]) fun (cut1 : List UInt8) =>
    bnd1 (iter (fun (a : Int) => law_TrackShownMatches_L2 f1 add1 cut1 a) i4) fun (k4 : Int) =>
    ctl1 (
      if ((!decide (add1 = [])) || (!decide (cut1 = []))) then (
        bnd1 (gd ((decide ((r4.length : Int) ≤ at2)) == false) (idx r4 at2)) fun (x4 : GSpan) =>
        if ((decide ((r4.length : Int) ≤ at2)) || (!(decide (x4.From = i4) && (decide (x4.To = k4) && true)))) then (
          some (.ext (.inr (.ext false)))
        ) else (
          bnd1 (chk .i64 (at2 + 1)) fun (at6 : Int) =>
          some (.nrm at6)
        )
      ) else (
        some (.nrm at2)
      )
    ) fun (at5 : Int) =>
    some (.inl (at5, k4))
  ) else (
    some (.inr (.nrm at2))
  )
noncomputable def law_TrackShownMatches (f1 : List GElem) (mode1 : Int) : Option (Bool) :=
  bnd1 (law_tracks) fun (r1 : Bool) =>
  if (!r1) then (
    some false
  ) else (
    bnd2 (track_Shown f1 mode1) fun (r2 : List Int) (r3 : Int) =>
    bnd2 (track_Changes f1) fun (r4 : List GSpan) (r5 : Int) =>
    bnd1 (ref_PartError f1) fun (p1 : Int) =>
    if (!decide (p1 = 0)) then (
      bnd1 (gd (((decide (r3 = p1)) && (decide (r5 = p1))) == true) (chk .i64 ((r2.length : Int) + (r4.length : Int)))) fun (x1 : Int) =>
      some (((decide (r3 = p1)) && (decide (r5 = p1))) && (decide (x1 = 0)))
    ) else (
      if (!decide (r5 = 0)) then (
        some false
      ) else (
        ctl1 (iter (fun (a : Int × Int) => law_TrackShownMatches_L1 f1 r4 a.1 a.2) (0, 0)) fun (at4 : Int) =>
        if (!decide (at4 = (r4.length : Int))) then (
          some false
        ) else (
          bnd1 (ref_In mode1 0 2) fun (r6 : Bool) =>
          if (!r6) then (
            some ((decide (r3 = 1)) && (decide ((r2.length : Int) = 0)))
          ) else (
            bnd1 (
              if ((decide (r3 = 0)) == true) then (
                bnd1 (ref_Shown f1 mode1) fun (r7 : List Int) =>
                bnd1 (ref_SameInts r2 r7) fun (r8 : Bool) =>
                some ((decide (r3 = 0)) && r8)
              ) else (
                some ((decide (r3 = 0)) && false)
              )
            ) fun (x2 : Bool) =>
            some x2
          )
        )
      )
    )
  )
noncomputable def attr_Same_L1 (a1 : List GAttr) (b1 : List GAttr) (x2 : Int) : Option (Int ⊕ (Ctl Unit Bool)) :=
  if (decide (x2 < (a1.length : Int))) then (
    bnd1 (idx a1 x2) fun (x4 : GAttr) =>
    bnd1 (idx b1 x2) fun (x5 : GAttr) =>
    if (!(decide (x4.Name = x5.Name) && (decide (x4.Value = x5.Value) && true))) then (
      some (.inr (.ext false))
    ) else (
      bnd1 (chk .i64 (x2 + 1)) fun (x6 : Int) =>
      some (.inl x6)
    )
  ) else (
    some (.inr (.nrm ()))
  )
noncomputable def attr_Same (a1 : List GAttr) (b1 : List GAttr) : Option (Bool) :=
  if (!decide ((a1.length : Int) = (b1.length : Int))) then (
    some false
  ) else (
    ctl1 (iter (fun (a : Int) => attr_Same_L1 a1 b1 a) 0) fun (u2 : Unit) =>
    some true
  )
noncomputable def attr_Between (a1 : List GAttr) (b1 : List GAttr) : Option ((List GAttr) × Int) :=
  bnd1 (attr_Check a1) fun (e1 : Int) =>
  if (!decide (e1 = 0)) then (
    some ([], e1)
  ) else (
    bnd1 (attr_Check b1) fun (e2 : Int) =>
    if (!decide (e2 = 0)) then (
      some ([], e2)
    ) else (
      bnd1 (attr_Change a1 b1) fun (r1 : List GAttr) =>
      some (r1, 0)
    )
  )
noncomputable def law_AttrBetweenMatches (a1 : List GAttr) (b1 : List GAttr) : Option (Bool) :=
  bnd1 (law_attrs) fun (r1 : Bool) =>
  bnd1 (gd ((!r1) == false) (attr_Same a1 b1)) fun (r2 : Bool) =>
  bnd1 (gd ((!r1) == false) (ref_SameAttrs a1 b1)) fun (r3 : Bool) =>
  if ((!r1) || (!(r2 == r3))) then (
    some false
  ) else (
    bnd2 (attr_Between a1 b1) fun (r4 : List GAttr) (r5 : Int) =>
    bnd1 (ref_AttrsError a1 false) fun (f1 : Int) =>
    bnd1 (
      if (decide (f1 = 0)) then (
        bnd1 (ref_AttrsError b1 false) fun (f3 : Int) =>
        some f3
      ) else (
        some f1
      )
    ) fun (f2 : Int) =>
    if (!decide (f2 = 0)) then (
      some ((decide (r5 = f2)) && (decide ((r4.length : Int) = 0)))
    ) else (
      bnd1 (
        if ((decide (r5 = 0)) == true) then (
          bnd1 (ref_Between a1 b1) fun (r6 : List GAttr) =>
          bnd1 (ref_SameAttrs r4 r6) fun (r7 : Bool) =>
          some ((decide (r5 = 0)) && r7)
        ) else (
          some ((decide (r5 = 0)) && false)
        )
      ) fun (x1 : Bool) =>
      some x1
    )
  )
noncomputable def attr_Both_f1 (c1 : List GAttr) (x1 : GAttr) (y1 : GAttr) : Option ((List GAttr)) :=
  bnd1 (
    if (decide (y1.Name = [])) then (
      some x1
    ) else (
      some y1
    )
  ) fun (y2 : GAttr) =>
  bnd1 (app 32 c1 [y2]) fun (l1 : List GAttr) =>
  some l1
noncomputable def attr_both__Both_f1_L1 (a1 : List GAttr) (b1 : List GAttr) (i4 : Int) (j2 : Int) (o2 : List GAttr) : Option ((Int × Int × (List GAttr)) ⊕ (Ctl Unit (List GAttr))) :=
  if ((decide (i4 < (a1.length : Int))) || (decide (j2 < (b1.length : Int)))) then (
    bnd1 (gd (((decide (j2 = (b1.length : Int))) == false) && ((decide (i4 < (a1.length : Int))) == true)) (idx a1 i4)) fun (x1 : GAttr) =>
    bnd1 (gd (((decide (j2 = (b1.length : Int))) == false) && ((decide (i4 < (a1.length : Int))) == true)) (idx b1 j2)) fun (x2 : GAttr) =>
    if ((decide (j2 = (b1.length : Int))) || ((decide (i4 < (a1.length : Int))) && (sLt x1.Name x2.Name))) then (
      bnd1 (idx a1 i4) fun (x3 : GAttr) =>
      bnd1 (attr_Both_f1 o2 x3 (GAttr.mk [] [])) fun (w1 : List GAttr) =>
      bnd1 (chk .i64 (i4 + 1)) fun (i9 : Int) =>
      some (.inl (i9, j2, w1))
    ) else (
      bnd1 (gd ((decide (i4 = (a1.length : Int))) == false) (idx b1 j2)) fun (x4 : GAttr) =>
      bnd1 (gd ((decide (i4 = (a1.length : Int))) == false) (idx a1 i4)) fun (x5 : GAttr) =>
      if ((decide (i4 = (a1.length : Int))) || (sLt x4.Name x5.Name)) then (
        bnd1 (idx b1 j2) fun (x6 : GAttr) =>
        bnd1 (attr_Both_f1 o2 (GAttr.mk [] []) x6) fun (w2 : List GAttr) =>
        bnd1 (chk .i64 (j2 + 1)) fun (j4 : Int) =>
        some (.inl (i4, j4, w2))
      ) else (
        bnd1 (idx a1 i4) fun (x7 : GAttr) =>
        bnd1 (idx b1 j2) fun (x8 : GAttr) =>
        bnd1 (attr_Both_f1 o2 x7 x8) fun (w3 : List GAttr) =>
        bnd1 (chk .i64 (i4 + 1)) fun (i12 : Int) =>
        bnd1 (chk .i64 (j2 + 1)) fun (j5 : Int) =>
        some (.inl (i12, j5, w3))
      )
    )
  ) else (
    some (.inr (.ext o2))
  )
noncomputable def attr_both__Both_f1 (c1 : List GAttr) (a1 : List GAttr) (b1 : List GAttr) : Option ((List GAttr)) :=
  ctl1 (iter (fun (a : Int × Int × (List GAttr)) => attr_both__Both_f1_L1 a1 b1 a.1 a.2.1 a.2.2) (0, 0, c1)) fun (u2 : Unit) =>
  none
noncomputable def attr_Both (a1 : List GAttr) (b1 : List GAttr) : Option ((List GAttr)) :=
  bnd1 (attr_both__Both_f1 [] a1 b1) fun (w1 : List GAttr) =>
  some w1
noncomputable def attr_Join (a1 : List GAttr) (b1 : List GAttr) : Option ((List GAttr) × Int) :=
  bnd1 (attr_CheckChange a1) fun (e1 : Int) =>
  if (!decide (e1 = 0)) then (
    some ([], e1)
  ) else (
    bnd1 (attr_CheckChange b1) fun (e2 : Int) =>
    if (!decide (e2 = 0)) then (
      some ([], e2)
    ) else (
      bnd1 (attr_Both a1 b1) fun (r1 : List GAttr) =>
      some (r1, 0)
    )
  )
noncomputable def attr_Without_f1 (c1 : List GAttr) (x1 : GAttr) (y1 : GAttr) : Option ((List GAttr)) :=
  if (decide (y1.Name = [])) then (
    bnd1 (app 32 c1 [x1]) fun (l1 : List GAttr) =>
    some l1
  ) else (
    some c1
  )
noncomputable def attr_both__Without_f1_L1 (a1 : List GAttr) (b1 : List GAttr) (i4 : Int) (j2 : Int) (o2 : List GAttr) : Option ((Int × Int × (List GAttr)) ⊕ (Ctl Unit (List GAttr))) :=
  if ((decide (i4 < (a1.length : Int))) || (decide (j2 < (b1.length : Int)))) then (
    bnd1 (gd (((decide (j2 = (b1.length : Int))) == false) && ((decide (i4 < (a1.length : Int))) == true)) (idx a1 i4)) fun (x1 : GAttr) =>
    bnd1 (gd (((decide (j2 = (b1.length : Int))) == false) && ((decide (i4 < (a1.length : Int))) == true)) (idx b1 j2)) fun (x2 : GAttr) =>
    if ((decide (j2 = (b1.length : Int))) || ((decide (i4 < (a1.length : Int))) && (sLt x1.Name x2.Name))) then (
      bnd1 (idx a1 i4) fun (x3 : GAttr) =>
      bnd1 (attr_Without_f1 o2 x3 (GAttr.mk [] [])) fun (w1 : List GAttr) =>
      bnd1 (chk .i64 (i4 + 1)) fun (i9 : Int) =>
      some (.inl (i9, j2, w1))
    ) else (
      bnd1 (gd ((decide (i4 = (a1.length : Int))) == false) (idx b1 j2)) fun (x4 : GAttr) =>
      bnd1 (gd ((decide (i4 = (a1.length : Int))) == false) (idx a1 i4)) fun (x5 : GAttr) =>
      if ((decide (i4 = (a1.length : Int))) || (sLt x4.Name x5.Name)) then (
        bnd1 (idx b1 j2) fun (x6 : GAttr) =>
        bnd1 (attr_Without_f1 o2 (GAttr.mk [] []) x6) fun (w2 : List GAttr) =>
        bnd1 (chk .i64 (j2 + 1)) fun (j4 : Int) =>
        some (.inl (i4, j4, w2))
      ) else (
        bnd1 (idx a1 i4) fun (x7 : GAttr) =>
        bnd1 (idx b1 j2) fun (x8 : GAttr) =>
        bnd1 (attr_Without_f1 o2 x7 x8) fun (w3 : List GAttr) =>
        bnd1 (chk .i64 (i4 + 1)) fun (i12 : Int) =>
        bnd1 (chk .i64 (j2 + 1)) fun (j5 : Int) =>
        some (.inl (i12, j5, w3))
      )
    )
  ) else (
    some (.inr (.ext o2))
  )
noncomputable def attr_both__Without_f1 (c1 : List GAttr) (a1 : List GAttr) (b1 : List GAttr) : Option ((List GAttr)) :=
  ctl1 (iter (fun (a : Int × Int × (List GAttr)) => attr_both__Without_f1_L1 a1 b1 a.1 a.2.1 a.2.2) (0, 0, c1)) fun (u2 : Unit) =>
  none
noncomputable def attr_Without (a1 : List GAttr) (b1 : List GAttr) : Option ((List GAttr)) :=
  bnd1 (attr_both__Without_f1 [] a1 b1) fun (w1 : List GAttr) =>
  some w1
noncomputable def attr_Pair (a1 : List GAttr) (b1 : List GAttr) : Option ((List GAttr) × (List GAttr) × Int) :=
  bnd1 (attr_CheckChange a1) fun (e1 : Int) =>
  if (!decide (e1 = 0)) then (
    some ([], [], e1)
  ) else (
    bnd1 (attr_CheckChange b1) fun (e2 : Int) =>
    if (!decide (e2 = 0)) then (
      some ([], [], e2)
    ) else (
      bnd1 (attr_Without a1 b1) fun (r1 : List GAttr) =>
      bnd1 (app 32 [] b1) fun (l1 : List GAttr) =>
      some (r1, l1, 0)
    )
  )
noncomputable def ref_Joined_L2 (b1 : List GAttr) (out6 : List GAttr) (x5 : Int) : Option (((List GAttr) × Int) ⊕ (List GAttr)) :=
  if (decide (x5 < (b1.length : Int))) then (
    bnd1 (idx b1 x5) fun (x7 : GAttr) =>
    bnd1 (ref_put out6 x7) fun (out9 : List GAttr) =>
    bnd1 (chk .i64 (x5 + 1)) fun (x8 : Int) =>
    some (.inl (out9, x8))
  ) else (
    some (.inr out6)
  )
noncomputable def ref_Joined_L1 (a1 : List GAttr) (out2 : List GAttr) (x2 : Int) : Option (((List GAttr) × Int) ⊕ (List GAttr)) :=
  if (decide (x2 < (a1.length : Int))) then (
    bnd1 (idx a1 x2) fun (x9 : GAttr) =>
    bnd1 (ref_put out2 x9) fun (out10 : List GAttr) =>
    bnd1 (chk .i64 (x2 + 1)) fun (x10 : Int) =>
    some (.inl (out10, x10))
  ) else (
    some (.inr out2)
  )
noncomputable def ref_Joined (a1 : List GAttr) (b1 : List GAttr) : Option ((List GAttr)) :=
  bnd1 (iter (fun (a : (List GAttr) × Int) => ref_Joined_L1 a1 a.1 a.2) ([], 0)) fun (out4 : List GAttr) =>
  bnd1 (iter (fun (a : (List GAttr) × Int) => ref_Joined_L2 b1 a.1 a.2) (out4, 0)) fun (out8 : List GAttr) =>
  some out8
noncomputable def ref_Lacking_L1 (a1 : List GAttr) (b1 : List GAttr) (x2 : Int) (out2 : List GAttr) : Option ((Int × (List GAttr)) ⊕ (List GAttr)) :=
  if (decide (x2 < (a1.length : Int))) then (
    bnd1 (
      bnd1 (idx a1 x2) fun (x5 : GAttr) =>
      bnd1 (ref_Has b1 x5.Name) fun (r1 : Bool) =>
      if (!r1) then (
        bnd1 (app 32 out2 [x5]) fun (out6 : List GAttr) =>
        some out6
      ) else (
        some out2
      )
    ) fun (out5 : List GAttr) =>
    bnd1 (chk .i64 (x2 + 1)) fun (x4 : Int) =>
    some (.inl (x4, out5))
  ) else (
    some (.inr out2)
  )
noncomputable def ref_Lacking (a1 : List GAttr) (b1 : List GAttr) : Option ((List GAttr)) :=
  bnd1 (iter (fun (a : Int × (List GAttr)) => ref_Lacking_L1 a1 b1 a.1 a.2) (0, [])) fun (out4 : List GAttr) =>
  some out4
noncomputable def law_AttrPairMatches (a1 : List GAttr) (b1 : List GAttr) : Option (Bool) :=
  bnd1 (law_attrs) fun (r1 : Bool) =>
  if (!r1) then (
    some false
  ) else (
    bnd2 (attr_Join a1 b1) fun (r2 : List GAttr) (r3 : Int) =>
    bnd3 (attr_Pair a1 b1) fun (r4 : List GAttr) (r5 : List GAttr) (r6 : Int) =>
    bnd1 (ref_AttrsError a1 true) fun (f1 : Int) =>
    bnd1 (
      if (decide (f1 = 0)) then (
        bnd1 (ref_AttrsError b1 true) fun (f3 : Int) =>
        some f3
      ) else (
        some f1
      )
    ) fun (f2 : Int) =>
    if (!decide (f2 = 0)) then (
      bnd1 (gd (((decide (r3 = f2)) && (decide (r6 = f2))) == true) (chk .i64 ((r2.length : Int) + (r4.length : Int)))) fun (x1 : Int) =>
      bnd1 (gd (((decide (r3 = f2)) && (decide (r6 = f2))) == true) (chk .i64 (x1 + (r5.length : Int)))) fun (x2 : Int) =>
      some (((decide (r3 = f2)) && (decide (r6 = f2))) && (decide (x2 = 0)))
    ) else (
      bnd1 (
        if (((decide (r3 = 0)) && (decide (r6 = 0))) == true) then (
          bnd1 (ref_Joined a1 b1) fun (r7 : List GAttr) =>
          bnd1 (ref_SameAttrs r2 r7) fun (r8 : Bool) =>
          if ((((decide (r3 = 0)) && (decide (r6 = 0))) && r8) == true) then (
            bnd1 (ref_Lacking a1 b1) fun (r9 : List GAttr) =>
            bnd1 (ref_SameAttrs r4 r9) fun (r10 : Bool) =>
            bnd1 (gd (((((decide (r3 = 0)) && (decide (r6 = 0))) && r8) && r10) == true) (ref_SameAttrs r5 b1)) fun (r11 : Bool) =>
            some (((((decide (r3 = 0)) && (decide (r6 = 0))) && r8) && r10) && r11)
          ) else (
            bnd1 (gd (((((decide (r3 = 0)) && (decide (r6 = 0))) && r8) && false) == true) (ref_SameAttrs r5 b1)) fun (r12 : Bool) =>
            some (((((decide (r3 = 0)) && (decide (r6 = 0))) && r8) && false) && r12)
          )
        ) else (
          if ((((decide (r3 = 0)) && (decide (r6 = 0))) && false) == true) then (
            bnd1 (ref_Lacking a1 b1) fun (r13 : List GAttr) =>
            bnd1 (ref_SameAttrs r4 r13) fun (r14 : Bool) =>
            bnd1 (gd (((((decide (r3 = 0)) && (decide (r6 = 0))) && false) && r14) == true) (ref_SameAttrs r5 b1)) fun (r15 : Bool) =>
            some (((((decide (r3 = 0)) && (decide (r6 = 0))) && false) && r14) && r15)
          ) else (
            bnd1 (gd (((((decide (r3 = 0)) && (decide (r6 = 0))) && false) && false) == true) (ref_SameAttrs r5 b1)) fun (r16 : Bool) =>
            some (((((decide (r3 = 0)) && (decide (r6 = 0))) && false) && false) && r16)
          )
        )
      ) fun (x3 : Bool) =>
      some x3
    )
  )
noncomputable def axis_Lengths (a1 : List GAxisStep) : Option (Int × Int × Int) :=
  bnd1 (axis_Check a1) fun (e1 : Int) =>
  if (!decide (e1 = 0)) then (
    some (0, 0, e1)
  ) else (
    bnd2 (axis_lengths a1) fun (r1 : Int) (r2 : Int) =>
    some (r1, r2, 0)
  )
noncomputable def axis_writer_flush (w1 : Axis_Writer) : Option (Axis_Writer) :=
  bnd1 (
    if (decide (0 < w1.add)) then (
      bnd1 (app 16 w1.out [(GAxisStep.mk 1 w1.add)]) fun (l2 : List GAxisStep) =>
      some (Axis_Writer.mk l2 w1.add w1.cut)
    ) else (
      some w1
    )
  ) fun (w2 : Axis_Writer) =>
  bnd1 (
    if (decide (0 < w2.cut)) then (
      bnd1 (app 16 w2.out [(GAxisStep.mk 2 w2.cut)]) fun (l1 : List GAxisStep) =>
      some (Axis_Writer.mk l1 w2.add w2.cut)
    ) else (
      some w2
    )
  ) fun (w3 : Axis_Writer) =>
  some (Axis_Writer.mk w3.out 0 0)
noncomputable def axis_writer_put (w1 : Axis_Writer) (kind1 : Int) (n1 : Int) : Option (Axis_Writer) :=
  if (decide (n1 = 0)) then (
    some w1
  ) else (
    if (decide (kind1 = 1)) then (
      bnd1 (chk .i64 (w1.add + n1)) fun (x1 : Int) =>
      some (Axis_Writer.mk w1.out x1 w1.cut)
    ) else (
      if (decide (kind1 = 2)) then (
        bnd1 (chk .i64 (w1.cut + n1)) fun (x2 : Int) =>
        some (Axis_Writer.mk w1.out w1.add x2)
      ) else (
        bnd1 (axis_writer_flush w1) fun (w2 : Axis_Writer) =>
        bnd1 (chk .i64 ((w2.out.length : Int) - 1)) fun (k1 : Int) =>
        bnd1 (gd ((decide (0 ≤ k1)) == true) (idx w2.out k1)) fun (x3 : GAxisStep) =>
        if ((decide (0 ≤ k1)) && (decide (x3.Kind = 0))) then (
          bnd1 (idx w2.out k1) fun (x4 : GAxisStep) =>
          bnd1 (chk .i64 (x4.N + n1)) fun (x5 : Int) =>
          some (Axis_Writer.mk (w2.out.set k1.toNat (GAxisStep.mk x4.Kind x5)) w2.add w2.cut)
        ) else (
          bnd1 (app 16 w2.out [(GAxisStep.mk 0 n1)]) fun (l1 : List GAxisStep) =>
          some (Axis_Writer.mk l1 w2.add w2.cut)
        )
      )
    )
  )
noncomputable def axis_writer_done (w1 : Axis_Writer) : Option ((List GAxisStep) × Int × Axis_Writer) :=
  bnd1 (axis_writer_flush w1) fun (w2 : Axis_Writer) =>
  bnd1 (axis_Check w2.out) fun (r1 : Int) =>
  if (!decide (r1 = 0)) then (
    some ([], 3, w2)
  ) else (
    some (w2.out, 0, w2)
  )
noncomputable def axis_Keep (n1 : Int) : Option ((List GAxisStep) × Int) :=
  if ((decide (n1 < 0)) || (decide (2147483647 < n1))) then (
    some ([], 2)
  ) else (
    bnd1 (axis_writer_put (Axis_Writer.mk [] 0 0) 0 n1) fun (w1 : Axis_Writer) =>
    bnd3 (axis_writer_done w1) fun (r1 : List GAxisStep) (r2 : Int) (w2 : Axis_Writer) =>
    some (r1, r2)
  )
noncomputable def law_AxisCheckSays_L1 (a1 : List GAxisStep) (old2 : Int) (now2 : Int) (x2 : Int) : Option ((Int × Int × Int) ⊕ (Int × Int)) :=
  if (decide (x2 < (a1.length : Int))) then (
    bnd2 (
      bnd1 (idx a1 x2) fun (x5 : GAxisStep) =>
      bnd1 (
        if (!decide (x5.Kind = 1)) then (
          bnd1 (chk .i64 (old2 - x5.N)) fun (old7 : Int) =>
          some old7
        ) else (
          some old2
        )
      ) fun (old6 : Int) =>
      if (!decide (x5.Kind = 2)) then (
        bnd1 (chk .i64 (now2 - x5.N)) fun (now6 : Int) =>
        some (old6, now6)
      ) else (
        some (old6, now2)
      )
    ) fun (old5 : Int) (now5 : Int) =>
    bnd1 (chk .i64 (x2 + 1)) fun (x4 : Int) =>
    some (.inl (old5, now5, x4))
  ) else (
    some (.inr (old2, now2))
  )
noncomputable def law_AxisCheckSays (a1 : List GAxisStep) (n1 : Int) : Option (Bool) :=
  bnd1 (law_axes) fun (r1 : Bool) =>
  if (!r1) then (
    some false
  ) else (
    bnd3 (axis_Lengths a1) fun (r2 : Int) (r3 : Int) (r4 : Int) =>
    bnd1 (ref_AxisError a1) fun (f1 : Int) =>
    bnd2 (axis_Keep n1) fun (r5 : List GAxisStep) (r6 : Int) =>
    bnd1 (axis_Check a1) fun (r7 : Int) =>
    if ((!decide (r7 = f1)) || (!decide (r4 = f1))) then (
      some false
    ) else (
      ctl1 (
        if ((decide (n1 < 0)) || (decide (2147483647 < n1))) then (
          if ((!decide (r6 = 2)) || (!decide ((r5.length : Int) = 0))) then (
            some (.ext false)
          ) else (
            some (.nrm ())
          )
        ) else (
          bnd3 (axis_Lengths r5) fun (r8 : Int) (r9 : Int) (r10 : Int) =>
          if ((((!decide (r6 = 0)) || (!decide (r10 = 0))) || (!decide (r8 = n1))) || (!decide (r9 = n1))) then (
            some (.ext false)
          ) else (
            some (.nrm ())
          )
        )
      ) fun (u1 : Unit) =>
      if (!decide (f1 = 0)) then (
        some ((decide (r2 = 0)) && (decide (r3 = 0)))
      ) else (
        bnd2 (iter (fun (a : Int × Int × Int) => law_AxisCheckSays_L1 a1 a.1 a.2.1 a.2.2) (r2, r3, 0)) fun (old4 : Int) (now4 : Int) =>
        some ((decide (old4 = 0)) && (decide (now4 = 0)))
      )
    )
  )
noncomputable def axis_Gap_L1 (a1 : List GAxisStep) (at1 : Int) (right1 : Bool) (from2 : Int) (to2 : Int) (x2 : Int) : Option ((Int × Int × Int) ⊕ Int) :=
  if (decide (x2 < (a1.length : Int))) then (
    bnd2 (
      bnd1 (idx a1 x2) fun (x5 : GAxisStep) =>
      bnd1 (
        bnd1 (
          if ((decide (x5.Kind = 1)) && (decide (from2 < at1))) then (
            some ((decide (x5.Kind = 1)) && (decide (from2 < at1)))
          ) else (
            some (((decide (x5.Kind = 1)) && (decide (from2 = at1))) && right1)
          )
        ) fun (x6 : Bool) =>
        if x6 then (
          bnd1 (chk .i64 (to2 + x5.N)) fun (to7 : Int) =>
          some to7
        ) else (
          if (decide (x5.Kind = 0)) then (
            bnd1 (chk .i64 (at1 - from2)) fun (x7 : Int) =>
            bnd1 (chk .i64 (to2 + (min x5.N (max 0 x7)))) fun (to8 : Int) =>
            some to8
          ) else (
            some to2
          )
        )
      ) fun (to6 : Int) =>
      if (!decide (x5.Kind = 1)) then (
        bnd1 (chk .i64 (from2 + x5.N)) fun (from5 : Int) =>
        some (from5, to6)
      ) else (
        some (from2, to6)
      )
    ) fun (from4 : Int) (to5 : Int) =>
    bnd1 (chk .i64 (x2 + 1)) fun (x4 : Int) =>
    some (.inl (from4, to5, x4))
  ) else (
    some (.inr to2)
  )
noncomputable def axis_Gap (a1 : List GAxisStep) (at1 : Int) (right1 : Bool) : Option (Int × Int) :=
  bnd1 (axis_Check a1) fun (e1 : Int) =>
  if (!decide (e1 = 0)) then (
    some (0, e1)
  ) else (
    bnd2 (axis_lengths a1) fun (r1 : Int) (r2 : Int) =>
    if ((decide (at1 < 0)) || (decide (r1 < at1))) then (
      some (0, 2)
    ) else (
      bnd1 (iter (fun (a : Int × Int × Int) => axis_Gap_L1 a1 at1 right1 a.1 a.2.1 a.2.2) (0, 0, 0)) fun (to4 : Int) =>
      some (to4, 0)
    )
  )
noncomputable def axis_Hull_L1 (a1 : List GAxisStep) (from1 : Int) (to1 : Int) (first2 : Int) (last2 : Int) (old2 : Int) (now2 : Int) (x2 : Int) : Option ((Int × Int × Int × Int × Int) ⊕ (Int × Int)) :=
  if (decide (x2 < (a1.length : Int))) then (
    bnd4 (
      bnd1 (idx a1 x2) fun (x5 : GAxisStep) =>
      bnd1 (chk .i64 (old2 + x5.N)) fun (x6 : Int) =>
      bnd2 (
        if ((decide (x5.Kind = 0)) && (decide ((max from1 old2) < (min to1 x6)))) then (
          bnd1 (
            if (decide (last2 = 0)) then (
              bnd1 (chk .i64 (now2 + (max from1 old2))) fun (x8 : Int) =>
              bnd1 (chk .i64 (x8 - old2)) fun (first8 : Int) =>
              some first8
            ) else (
              some first2
            )
          ) fun (first7 : Int) =>
          bnd1 (chk .i64 (now2 + (min to1 x6))) fun (x7 : Int) =>
          bnd1 (chk .i64 (x7 - old2)) fun (last7 : Int) =>
          some (first7, last7)
        ) else (
          some (first2, last2)
        )
      ) fun (first6 : Int) (last6 : Int) =>
      bnd1 (
        if (!decide (x5.Kind = 2)) then (
          bnd1 (chk .i64 (now2 + x5.N)) fun (now6 : Int) =>
          some now6
        ) else (
          some now2
        )
      ) fun (now5 : Int) =>
      if (!decide (x5.Kind = 1)) then (
        some (first6, last6, x6, now5)
      ) else (
        some (first6, last6, old2, now5)
      )
    ) fun (first5 : Int) (last5 : Int) (old4 : Int) (now4 : Int) =>
    bnd1 (chk .i64 (x2 + 1)) fun (x4 : Int) =>
    some (.inl (first5, last5, old4, now4, x4))
  ) else (
    some (.inr (first2, last2))
  )
noncomputable def axis_Hull (a1 : List GAxisStep) (from1 : Int) (to1 : Int) : Option (Int × Int) :=
  bnd2 (iter (fun (a : Int × Int × Int × Int × Int) => axis_Hull_L1 a1 from1 to1 a.1 a.2.1 a.2.2.1 a.2.2.2.1 a.2.2.2.2) (0, 0, 0, 0, 0)) fun (first4 : Int) (last4 : Int) =>
  some (first4, last4)
noncomputable def axis_Rest (a1 : List GAxisStep) (from1 : Int) (to1 : Int) : Option (Int × Int × Int) :=
  bnd1 (axis_Check a1) fun (e1 : Int) =>
  if (!decide (e1 = 0)) then (
    some (0, 0, e1)
  ) else (
    bnd2 (axis_lengths a1) fun (r1 : Int) (r2 : Int) =>
    if (((decide (from1 < 0)) || (decide (to1 < from1))) || (decide (r1 < to1))) then (
      some (0, 0, 2)
    ) else (
      bnd2 (axis_Hull a1 from1 to1) fun (r3 : Int) (r4 : Int) =>
      some (r3, r4, 0)
    )
  )
noncomputable def ref_GapAt_L1 (at1 : Int) (right1 : Bool) (r1 : List Int) (r2 : List Int) (n2 : Int) (x2 : Int) : Option ((Int × Int) ⊕ Int) :=
  if (decide (x2 < (r1.length : Int))) then (
    bnd1 (
      bnd1 (idx r1 x2) fun (x5 : Int) =>
      bnd1 (gd ((((decide (0 ≤ x5)) && (decide (x5 < at1))) == false) && ((decide (x5 < 0)) == true)) (idx r2 x2)) fun (x6 : Int) =>
      if (((decide (0 ≤ x5)) && (decide (x5 < at1))) || ((decide (x5 < 0)) && ((decide (x6 < at1)) || ((decide (x6 = at1)) && right1)))) then (
        bnd1 (chk .i64 (n2 + 1)) fun (n6 : Int) =>
        some n6
      ) else (
        some n2
      )
    ) fun (n5 : Int) =>
    bnd1 (chk .i64 (x2 + 1)) fun (x4 : Int) =>
    some (.inl (n5, x4))
  ) else (
    some (.inr n2)
  )
noncomputable def ref_GapAt (units1 : List Int) (at1 : Int) (right1 : Bool) : Option (Int) :=
  bnd2 (ref_Olds units1) fun (r1 : List Int) (r2 : List Int) =>
  bnd1 (iter (fun (a : Int × Int) => ref_GapAt_L1 at1 right1 r1 r2 a.1 a.2) (0, 0)) fun (n4 : Int) =>
  some n4
noncomputable def ref_RestOf_L1 (units1 : List Int) (from1 : Int) (low2 : Int) (high2 : Int) (row3 : Int) : Option ((Int × Int × Int) ⊕ (Int × Int)) :=
  if (decide (from1 ≤ row3)) then (
    bnd2 (
      bnd1 (ref_Where units1 row3) fun (k1 : Int) =>
      if (decide (0 ≤ k1)) then (
        if (decide (high2 = 0)) then (
          bnd1 (chk .i64 (k1 + 1)) fun (high6 : Int) =>
          some (k1, high6)
        ) else (
          some (k1, high2)
        )
      ) else (
        some (low2, high2)
      )
    ) fun (low5 : Int) (high5 : Int) =>
    bnd1 (chk .i64 (row3 - 1)) fun (row5 : Int) =>
    some (.inl (low5, high5, row5))
  ) else (
    some (.inr (low2, high2))
  )
noncomputable def ref_RestOf (units1 : List Int) (from1 : Int) (to1 : Int) : Option (Int × Int) :=
  bnd1 (chk .i64 (to1 - 1)) fun (row1 : Int) =>
  bnd2 (iter (fun (a : Int × Int × Int) => ref_RestOf_L1 units1 from1 a.1 a.2.1 a.2.2) (0, 0, row1)) fun (low4 : Int) (high4 : Int) =>
  some (low4, high4)
noncomputable def law_AxisGapMatches_L1 (units1 : List Int) (old2 : Int) (x2 : Int) : Option ((Int × Int) ⊕ Int) :=
  if (decide (x2 < (units1.length : Int))) then (
    bnd1 (
      bnd1 (idx units1 x2) fun (x5 : Int) =>
      if (!decide (x5 = 1)) then (
        bnd1 (chk .i64 (old2 + 1)) fun (old6 : Int) =>
        some old6
      ) else (
        some old2
      )
    ) fun (old5 : Int) =>
    bnd1 (chk .i64 (x2 + 1)) fun (x4 : Int) =>
    some (.inl (old5, x4))
  ) else (
    some (.inr old2)
  )
noncomputable def law_AxisGapMatches (a1 : List GAxisStep) (from1 : Int) (to1 : Int) (right1 : Bool) : Option (Bool) :=
  bnd1 (law_axes) fun (r1 : Bool) =>
  if (!r1) then (
    some false
  ) else (
    bnd2 (axis_Gap a1 from1 right1) fun (r2 : Int) (r3 : Int) =>
    bnd3 (axis_Rest a1 from1 to1) fun (r4 : Int) (r5 : Int) (r6 : Int) =>
    bnd1 (ref_AxisError a1) fun (f1 : Int) =>
    if (!decide (f1 = 0)) then (
      some (((((decide (r3 = f1)) && (decide (r6 = f1))) && (decide (r2 = 0))) && (decide (r4 = 0))) && (decide (r5 = 0)))
    ) else (
      bnd1 (law_few a1) fun (r7 : Bool) =>
      if (!r7) then (
        some (((decide (r3 = 0)) || (decide (r3 = 2))) && ((decide (r6 = 0)) || (decide (r6 = 2))))
      ) else (
        bnd1 (ref_Units a1) fun (units1 : List Int) =>
        bnd1 (iter (fun (a : Int × Int) => law_AxisGapMatches_L1 units1 a.1 a.2) (0, 0)) fun (old4 : Int) =>
        bnd1 (ref_In from1 0 old4) fun (r8 : Bool) =>
        if (!r8) then (
          some (((decide (r3 = 2)) && (decide (r6 = 2))) && (decide (r2 = 0)))
        ) else (
          bnd1 (gd ((!decide (r3 = 0)) == false) (ref_GapAt units1 from1 right1)) fun (r9 : Int) =>
          if ((!decide (r3 = 0)) || (!decide (r2 = r9))) then (
            some false
          ) else (
            bnd1 (ref_In to1 from1 old4) fun (r10 : Bool) =>
            if (!r10) then (
              some (((decide (r6 = 2)) && (decide (r4 = 0))) && (decide (r5 = 0)))
            ) else (
              bnd2 (ref_RestOf units1 from1 to1) fun (r11 : Int) (r12 : Int) =>
              some (((decide (r6 = 0)) && (decide (r4 = r11))) && (decide (r5 = r12)))
            )
          )
        )
      )
    )
  )
noncomputable def axis_reader_kind (w1 : Axis_Reader) : Option (Int) :=
  if (decide ((w1.steps.length : Int) = 0)) then (
    some (-1)
  ) else (
    bnd1 (idx w1.steps 0) fun (x1 : GAxisStep) =>
    some x1.Kind
  )
end Go.Proofs.Ytdeglnbioiicaaa.Al

namespace Go.Proofs.Ytdeglnbioiicaaa.Al
structure Ref_Act where
  Adds : List (List GElem)
  Cuts : List Bool
  Attrs : List (List GAttr)
deriving DecidableEq
instance : Inhabited Ref_Act := ⟨⟨[], [], []⟩⟩
@[reducible] def Ref_Act.row (x : Ref_Act) : List RV := [.sl (x.Adds.map (rSl GElem.row)), .sl (x.Cuts.map rBool), .sl (x.Attrs.map (rSl GAttr.row))]

noncomputable def axis_reader_left (w1 : Axis_Reader) : Option (Int) :=
  bnd1 (idx w1.steps 0) fun (x1 : GAxisStep) =>
  bnd1 (chk .i64 (x1.N - w1.used)) fun (x2 : Int) =>
  some x2
noncomputable def axis_reader_take (w1 : Axis_Reader) (n1 : Int) : Option (Axis_Reader) :=
  bnd1 (chk .i64 (w1.used + n1)) fun (x1 : Int) =>
  bnd1 (idx w1.steps 0) fun (x2 : GAxisStep) =>
  if (decide (x1 = x2.N)) then (
    bnd1 (slc w1.steps 1 (w1.steps.length : Int)) fun (l1 : List GAxisStep) =>
    some (Axis_Reader.mk l1 0)
  ) else (
    some (Axis_Reader.mk w1.steps x1)
  )
noncomputable def axis_Pair_L1 (x2 : Axis_Writer) (y2 : Axis_Writer) (p2 : Axis_Reader) (q2 : Axis_Reader) : Option ((Axis_Writer × Axis_Writer × Axis_Reader × Axis_Reader) ⊕ (Axis_Writer × Axis_Writer)) :=
  bnd1 (axis_reader_kind p2) fun (r9 : Int) =>
  bnd1 (
    if ((decide (0 ≤ r9)) == false) then (
      bnd1 (axis_reader_kind q2) fun (r24 : Int) =>
      some ((decide (0 ≤ r9)) || (decide (0 ≤ r24)))
    ) else (
      some ((decide (0 ≤ r9)) || false)
    )
  ) fun (x5 : Bool) =>
  if x5 then (
    if (decide (r9 = 1)) then (
      bnd1 (axis_reader_left p2) fun (r11 : Int) =>
      bnd1 (axis_writer_put x2 1 r11) fun (w3 : Axis_Writer) =>
      bnd1 (axis_writer_put y2 0 r11) fun (w4 : Axis_Writer) =>
      bnd1 (axis_reader_take p2 r11) fun (w5 : Axis_Reader) =>
      some (.inl (w3, w4, w5, q2))
    ) else (
      bnd1 (axis_reader_kind q2) fun (r14 : Int) =>
      if (decide (r14 = 1)) then (
        bnd1 (axis_reader_left q2) fun (r15 : Int) =>
        bnd1 (axis_writer_put x2 0 r15) fun (w6 : Axis_Writer) =>
        bnd1 (axis_writer_put y2 1 r15) fun (w7 : Axis_Writer) =>
        bnd1 (axis_reader_take q2 r15) fun (w8 : Axis_Reader) =>
        some (.inl (w6, w7, p2, w8))
      ) else (
        bnd1 (axis_reader_left p2) fun (r18 : Int) =>
        bnd1 (axis_reader_left q2) fun (r19 : Int) =>
        bnd1 (
          if (decide (r14 = 0)) then (
            bnd1 (axis_writer_put x2 r9 (min r18 r19)) fun (w12 : Axis_Writer) =>
            some w12
          ) else (
            some x2
          )
        ) fun (x6 : Axis_Writer) =>
        bnd1 (
          if (decide (r9 = 0)) then (
            bnd1 (axis_writer_put y2 r14 (min r18 r19)) fun (w11 : Axis_Writer) =>
            some w11
          ) else (
            some y2
          )
        ) fun (y5 : Axis_Writer) =>
        bnd1 (axis_reader_take p2 (min r18 r19)) fun (w9 : Axis_Reader) =>
        bnd1 (axis_reader_take q2 (min r18 r19)) fun (w10 : Axis_Reader) =>
        some (.inl (x6, y5, w9, w10))
      )
    )
  ) else (
    some (.inr (x2, y2))
  )
noncomputable def axis_Pair (a1 : List GAxisStep) (b1 : List GAxisStep) : Option ((List GAxisStep) × (List GAxisStep) × Int) :=
  bnd1 (axis_Check a1) fun (e1 : Int) =>
  if (!decide (e1 = 0)) then (
    some ([], [], e1)
  ) else (
    bnd1 (axis_Check b1) fun (e2 : Int) =>
    if (!decide (e2 = 0)) then (
      some ([], [], e2)
    ) else (
      bnd2 (axis_lengths a1) fun (r1 : Int) (r2 : Int) =>
      bnd2 (axis_lengths b1) fun (r3 : Int) (r4 : Int) =>
      if (!decide (r1 = r3)) then (
        some ([], [], 14)
      ) else (
        bnd2 (iter (fun (a : Axis_Writer × Axis_Writer × Axis_Reader × Axis_Reader) => axis_Pair_L1 a.1 a.2.1 a.2.2.1 a.2.2.2) ((Axis_Writer.mk [] 0 0), (Axis_Writer.mk [] 0 0), (Axis_Reader.mk a1 0), (Axis_Reader.mk b1 0))) fun (x4 : Axis_Writer) (y4 : Axis_Writer) =>
        bnd3 (axis_writer_done x4) fun (r5 : List GAxisStep) (r6 : Int) (w1 : Axis_Writer) =>
        bnd3 (axis_writer_done y4) fun (r7 : List GAxisStep) (r8 : Int) (w2 : Axis_Writer) =>
        if ((!decide (r6 = 0)) || (!decide (r8 = 0))) then (
          some ([], [], 3)
        ) else (
          some (r5, r7, 0)
        )
      )
    )
  )
noncomputable def ref_ActOf_L2 (x5 : GStep) (x8 : Int) (a7 : Ref_Act) : Option ((Int × Ref_Act) ⊕ (Ctl Unit Ref_Act)) :=
  if (decide (x8 < x5.N)) then (
    bnd1 (app 24 a7.Adds [[]]) fun (l3 : List (List GElem)) =>
    bnd1 (app 1 a7.Cuts [(decide (x5.Kind = 2))]) fun (l4 : List Bool) =>
    bnd1 (app 24 a7.Attrs [x5.Attrs]) fun (l5 : List (List GAttr)) =>
    bnd1 (chk .i64 (x8 + 1)) fun (x10 : Int) =>
    some (.inl (x10, (Ref_Act.mk l3 l4 l5)))
  ) else (
    some (.inr (.ext a7))
  )
noncomputable def ref_ActOf_L1 (d1 : List GStep) (x2 : Int) (a2 : Ref_Act) : Option ((Int × Ref_Act) ⊕ Ref_Act) :=
  if (decide (x2 < (d1.length : Int))) then (
    bnd1 (
      bnd1 (idx d1 x2) fun (x5 : GStep) =>
      if (decide (x5.Kind = 1)) then (
        bnd1 (chk .i64 ((a2.Adds.length : Int) - 1)) fun (k1 : Int) =>
        bnd1 (idx a2.Adds k1) fun (x6 : List GElem) =>
        bnd1 (app 40 [] x6) fun (l1 : List GElem) =>
        bnd1 (app 40 l1 x5.Elems) fun (l2 : List GElem) =>
        some (Ref_Act.mk (a2.Adds.set k1.toNat l2) a2.Cuts a2.Attrs)
      ) else (
        ctl1 (iter (fun (a : Int × Ref_Act) => ref_ActOf_L2 x5 a.1 a.2) (0, a2)) fun (u3 : Unit) =>
        none
      )
    ) fun (a5 : Ref_Act) =>
    bnd1 (chk .i64 (x2 + 1)) fun (x4 : Int) =>
    some (.inl (x4, a5))
  ) else (
    some (.inr a2)
  )
noncomputable def ref_ActOf (d1 : List GStep) : Option (Ref_Act) :=
  bnd1 (iter (fun (a : Int × Ref_Act) => ref_ActOf_L1 d1 a.1 a.2) (0, (Ref_Act.mk [[]] [] []))) fun (a4 : Ref_Act) =>
  some a4
noncomputable def law_act_L2 (x4 : GAxisStep) (x7 : Int) (s3 : GStep) : Option ((Int × GStep) ⊕ (Ctl Unit GStep)) :=
  if (decide (x7 < x4.N)) then (
    bnd1 (app 40 s3.Elems [(GElem.mk 120 0 [])]) fun (l1 : List GElem) =>
    bnd1 (chk .i64 (x7 + 1)) fun (x9 : Int) =>
    some (.inl (x9, (GStep.mk s3.Kind s3.N [] l1)))
  ) else (
    some (.inr (.ext (GStep.mk s3.Kind s3.N [] s3.Elems)))
  )
noncomputable def law_act_L1 (a1 : List GAxisStep) (x2 : Int) (d2 : List GStep) : Option ((Int × (List GStep)) ⊕ (List GStep)) :=
  if (decide (x2 < (a1.length : Int))) then (
    bnd1 (idx a1 x2) fun (x4 : GAxisStep) =>
    bnd1 (
      if (decide (x4.Kind = 1)) then (
        ctl1 (iter (fun (a : Int × GStep) => law_act_L2 x4 a.1 a.2) (0, (GStep.mk x4.Kind 0 [] []))) fun (u3 : Unit) =>
        none
      ) else (
        some (GStep.mk x4.Kind x4.N [] [])
      )
    ) fun (s1 : GStep) =>
    bnd1 (app 64 d2 [(GStep.mk s1.Kind s1.N [] s1.Elems)]) fun (d5 : List GStep) =>
    bnd1 (chk .i64 (x2 + 1)) fun (x5 : Int) =>
    some (.inl (x5, d5))
  ) else (
    some (.inr d2)
  )
noncomputable def law_act (a1 : List GAxisStep) : Option (Ref_Act) :=
  bnd1 (iter (fun (a : Int × (List GStep)) => law_act_L1 a1 a.1 a.2) (0, [])) fun (d4 : List GStep) =>
  bnd1 (ref_ActOf d4) fun (r1 : Ref_Act) =>
  some r1
noncomputable def ref_Behind_L2 (x1 : List GElem) (x3 : Int) (out8 : Ref_Act) : Option ((Int × Ref_Act) ⊕ Ref_Act) :=
  if (decide (x3 < (x1.length : Int))) then (
    bnd1 (app 24 out8.Adds [[]]) fun (l6 : List (List GElem)) =>
    bnd1 (app 1 out8.Cuts [false]) fun (l7 : List Bool) =>
    bnd1 (app 24 out8.Attrs [[]]) fun (l8 : List (List GAttr)) =>
    bnd1 (chk .i64 (x3 + 1)) fun (x11 : Int) =>
    some (.inl (x11, (Ref_Act.mk l6 l7 l8)))
  ) else (
    some (.inr out8)
  )
noncomputable def ref_Behind_L1 (a1 : Ref_Act) (b1 : Ref_Act) (first1 : Bool) (i4 : Int) (out2 : Ref_Act) : Option ((Int × Ref_Act) ⊕ Ref_Act) :=
  if (decide (i4 ≤ (a1.Cuts.length : Int))) then (
    bnd1 (
      bnd1 (chk .i64 ((out2.Adds.length : Int) - 1)) fun (k1 : Int) =>
      bnd1 (
        if first1 then (
          bnd1 (idx out2.Adds k1) fun (x12 : List GElem) =>
          bnd1 (app 40 [] x12) fun (l9 : List GElem) =>
          bnd1 (idx a1.Adds i4) fun (x13 : List GElem) =>
          bnd1 (app 40 l9 x13) fun (l10 : List GElem) =>
          some (Ref_Act.mk (out2.Adds.set k1.toNat l10) out2.Cuts out2.Attrs)
        ) else (
          some out2
        )
      ) fun (out6 : Ref_Act) =>
      bnd1 (idx b1.Adds i4) fun (x1 : List GElem) =>
      bnd1 (iter (fun (a : Int × Ref_Act) => ref_Behind_L2 x1 a.1 a.2) (0, out6)) fun (out10 : Ref_Act) =>
      bnd1 (chk .i64 ((out10.Adds.length : Int) - 1)) fun (k2 : Int) =>
      bnd1 (
        if (!first1) then (
          bnd1 (idx out10.Adds k2) fun (x9 : List GElem) =>
          bnd1 (app 40 [] x9) fun (l4 : List GElem) =>
          bnd1 (idx a1.Adds i4) fun (x10 : List GElem) =>
          bnd1 (app 40 l4 x10) fun (l5 : List GElem) =>
          some (Ref_Act.mk (out10.Adds.set k2.toNat l5) out10.Cuts out10.Attrs)
        ) else (
          some out10
        )
      ) fun (out11 : Ref_Act) =>
      bnd1 (gd ((decide (i4 = (a1.Cuts.length : Int))) == false) (idx b1.Cuts i4)) fun (x5 : Bool) =>
      if ((decide (i4 = (a1.Cuts.length : Int))) || x5) then (
        some out11
      ) else (
        bnd1 (idx a1.Attrs i4) fun (x6 : List GAttr) =>
        bnd1 (
          if first1 then (
            bnd1 (idx b1.Attrs i4) fun (x8 : List GAttr) =>
            bnd1 (ref_Lacking x6 x8) fun (attrs2 : List GAttr) =>
            some attrs2
          ) else (
            some x6
          )
        ) fun (attrs1 : List GAttr) =>
        bnd1 (app 24 out11.Adds [[]]) fun (l1 : List (List GElem)) =>
        bnd1 (idx a1.Cuts i4) fun (x7 : Bool) =>
        bnd1 (app 1 out11.Cuts [x7]) fun (l2 : List Bool) =>
        bnd1 (app 24 out11.Attrs [attrs1]) fun (l3 : List (List GAttr)) =>
        some (Ref_Act.mk l1 l2 l3)
      )
    ) fun (out5 : Ref_Act) =>
    bnd1 (chk .i64 (i4 + 1)) fun (i10 : Int) =>
    some (.inl (i10, out5))
  ) else (
    some (.inr out2)
  )
noncomputable def ref_Behind (a1 : Ref_Act) (b1 : Ref_Act) (first1 : Bool) : Option (Ref_Act) :=
  bnd1 (iter (fun (a : Int × Ref_Act) => ref_Behind_L1 a1 b1 first1 a.1 a.2) (0, (Ref_Act.mk [[]] [] []))) fun (out4 : Ref_Act) =>
  some out4
noncomputable def ref_DeltaOf_L1 (a1 : Ref_Act) (cuts2 : Int) (i4 : Int) (out2 : List GStep) (adds2 : List GElem) : Option ((Int × Int × (List GStep) × (List GElem)) ⊕ (List GStep)) :=
  if (decide (i4 ≤ (a1.Cuts.length : Int))) then (
    ctl3 (
      bnd1 (idx a1.Adds i4) fun (x1 : List GElem) =>
      bnd1 (app 40 adds2 x1) fun (adds5 : List GElem) =>
      bnd1 (gd ((decide (i4 < (a1.Cuts.length : Int))) == true) (idx a1.Cuts i4)) fun (x2 : Bool) =>
      if ((decide (i4 < (a1.Cuts.length : Int))) && x2) then (
        bnd1 (chk .i64 (cuts2 + 1)) fun (cuts5 : Int) =>
        some (.nrm (cuts5, out2, adds5))
      ) else (
        bnd1 (
          if (decide (0 < (adds5.length : Int))) then (
            bnd1 (app 64 out2 [(GStep.mk 1 0 [] adds5)]) fun (out10 : List GStep) =>
            some out10
          ) else (
            some out2
          )
        ) fun (out6 : List GStep) =>
        bnd1 (
          if (decide (0 < cuts2)) then (
            bnd1 (app 64 out6 [(GStep.mk 2 cuts2 [] [])]) fun (out9 : List GStep) =>
            some out9
          ) else (
            some out6
          )
        ) fun (out7 : List GStep) =>
        if (decide (i4 = (a1.Cuts.length : Int))) then (
          some (.ext (.inr out7))
        ) else (
          bnd1 (chk .i64 ((out7.length : Int) - 1)) fun (k1 : Int) =>
          bnd1 (gd ((decide (0 ≤ k1)) == true) (idx out7 k1)) fun (x3 : GStep) =>
          bnd1 (gd (((decide (0 ≤ k1)) && (decide (x3.Kind = 0))) == true) (idx out7 k1)) fun (x4 : GStep) =>
          bnd1 (gd (((decide (0 ≤ k1)) && (decide (x3.Kind = 0))) == true) (idx a1.Attrs i4)) fun (x5 : List GAttr) =>
          bnd1 (gd (((decide (0 ≤ k1)) && (decide (x3.Kind = 0))) == true) (ref_SameAttrs x4.Attrs x5)) fun (r1 : Bool) =>
          if (((decide (0 ≤ k1)) && (decide (x3.Kind = 0))) && r1) then (
            bnd1 (idx out7 k1) fun (x6 : GStep) =>
            bnd1 (chk .i64 (x6.N + 1)) fun (x7 : Int) =>
            some (.nrm (0, (out7.set k1.toNat (GStep.mk x6.Kind x7 x6.Attrs x6.Elems)), []))
          ) else (
            bnd1 (idx a1.Attrs i4) fun (x8 : List GAttr) =>
            bnd1 (app 64 out7 [(GStep.mk 0 1 x8 [])]) fun (out8 : List GStep) =>
            some (.nrm (0, out8, []))
          )
        )
      )
    ) fun (cuts4 : Int) (out5 : List GStep) (adds4 : List GElem) =>
    bnd1 (chk .i64 (i4 + 1)) fun (i10 : Int) =>
    some (.inl (cuts4, i10, out5, adds4))
  ) else (
    some (.inr out2)
  )
noncomputable def ref_DeltaOf (a1 : Ref_Act) : Option ((List GStep)) :=
  bnd1 (iter (fun (a : Int × Int × (List GStep) × (List GElem)) => ref_DeltaOf_L1 a1 a.1 a.2.1 a.2.2.1 a.2.2.2) (0, 0, [], [])) fun (out4 : List GStep) =>
  some out4
noncomputable def law_steps_L1 (d1 : List GStep) (x2 : Int) (out2 : List GAxisStep) : Option ((Int × (List GAxisStep)) ⊕ (List GAxisStep)) :=
  if (decide (x2 < (d1.length : Int))) then (
    bnd1 (idx d1 x2) fun (x4 : GStep) =>
    bnd1 (chk .i64 (x4.N + (x4.Elems.length : Int))) fun (x5 : Int) =>
    bnd1 (app 16 out2 [(GAxisStep.mk x4.Kind x5)]) fun (out5 : List GAxisStep) =>
    bnd1 (chk .i64 (x2 + 1)) fun (x6 : Int) =>
    some (.inl (x6, out5))
  ) else (
    some (.inr out2)
  )
noncomputable def law_steps (a1 : Ref_Act) : Option ((List GAxisStep)) :=
  bnd1 (ref_DeltaOf a1) fun (d1 : List GStep) =>
  bnd1 (iter (fun (a : Int × (List GAxisStep)) => law_steps_L1 d1 a.1 a.2) (0, [])) fun (out4 : List GAxisStep) =>
  some out4
noncomputable def ref_SameSteps_L1 (a1 : List GAxisStep) (b1 : List GAxisStep) (x2 : Int) : Option (Int ⊕ (Ctl Unit Bool)) :=
  if (decide (x2 < (a1.length : Int))) then (
    bnd1 (idx a1 x2) fun (x4 : GAxisStep) =>
    bnd1 (idx b1 x2) fun (x5 : GAxisStep) =>
    if (!(decide (x4.Kind = x5.Kind) && (decide (x4.N = x5.N) && true))) then (
      some (.inr (.ext false))
    ) else (
      bnd1 (chk .i64 (x2 + 1)) fun (x6 : Int) =>
      some (.inl x6)
    )
  ) else (
    some (.inr (.nrm ()))
  )
noncomputable def ref_SameSteps (a1 : List GAxisStep) (b1 : List GAxisStep) : Option (Bool) :=
  if (!decide ((a1.length : Int) = (b1.length : Int))) then (
    some false
  ) else (
    ctl1 (iter (fun (a : Int) => ref_SameSteps_L1 a1 b1 a) 0) fun (u2 : Unit) =>
    some true
  )
noncomputable def law_AxisPairMatches (a1 : List GAxisStep) (b1 : List GAxisStep) : Option (Bool) :=
  bnd1 (law_axes) fun (r1 : Bool) =>
  if (!r1) then (
    some false
  ) else (
    bnd3 (axis_Pair a1 b1) fun (r2 : List GAxisStep) (r3 : List GAxisStep) (r4 : Int) =>
    bnd1 (ref_AxisError a1) fun (f1 : Int) =>
    bnd1 (
      if (decide (f1 = 0)) then (
        bnd1 (ref_AxisError b1) fun (f3 : Int) =>
        some f3
      ) else (
        some f1
      )
    ) fun (f2 : Int) =>
    if (!decide (f2 = 0)) then (
      bnd1 (gd ((decide (r4 = f2)) == true) (chk .i64 ((r2.length : Int) + (r3.length : Int)))) fun (x1 : Int) =>
      some ((decide (r4 = f2)) && (decide (x1 = 0)))
    ) else (
      bnd1 (law_few a1) fun (r5 : Bool) =>
      bnd1 (gd ((!r5) == false) (law_few b1)) fun (r6 : Bool) =>
      if ((!r5) || (!r6)) then (
        bnd1 (gd ((decide (r4 = 0)) == false) (chk .i64 ((r2.length : Int) + (r3.length : Int)))) fun (x2 : Int) =>
        some ((decide (r4 = 0)) || (decide (x2 = 0)))
      ) else (
        bnd1 (law_act a1) fun (r7 : Ref_Act) =>
        bnd1 (law_act b1) fun (r8 : Ref_Act) =>
        if (!decide ((r7.Cuts.length : Int) = (r8.Cuts.length : Int))) then (
          bnd1 (gd ((decide (r4 = 14)) == true) (chk .i64 ((r2.length : Int) + (r3.length : Int)))) fun (x3 : Int) =>
          some ((decide (r4 = 14)) && (decide (x3 = 0)))
        ) else (
          bnd1 (
            if ((decide (r4 = 0)) == true) then (
              bnd1 (ref_Behind r7 r8 true) fun (r9 : Ref_Act) =>
              bnd1 (law_steps r9) fun (r10 : List GAxisStep) =>
              bnd1 (ref_SameSteps r2 r10) fun (r11 : Bool) =>
              if (((decide (r4 = 0)) && r11) == true) then (
                bnd1 (ref_Behind r8 r7 false) fun (r12 : Ref_Act) =>
                bnd1 (law_steps r12) fun (r13 : List GAxisStep) =>
                bnd1 (ref_SameSteps r3 r13) fun (r14 : Bool) =>
                some (((decide (r4 = 0)) && r11) && r14)
              ) else (
                some (((decide (r4 = 0)) && r11) && false)
              )
            ) else (
              if (((decide (r4 = 0)) && false) == true) then (
                bnd1 (ref_Behind r8 r7 false) fun (r15 : Ref_Act) =>
                bnd1 (law_steps r15) fun (r16 : List GAxisStep) =>
                bnd1 (ref_SameSteps r3 r16) fun (r17 : Bool) =>
                some (((decide (r4 = 0)) && false) && r17)
              ) else (
                some (((decide (r4 = 0)) && false) && false)
              )
            )
          ) fun (x4 : Bool) =>
          some x4
        )
      )
    )
  )
end Go.Proofs.Ytdeglnbioiicaaa.Al

namespace Go.Proofs.Ytdeglnbioiicaaa.Al
noncomputable def span_add (l1 : List GSpan) (s1 : GSpan) : Option ((List GSpan)) :=
  bnd1 (chk .i64 ((l1.length : Int) - 1)) fun (k1 : Int) =>
  bnd1 (gd ((decide (0 ≤ k1)) == true) (idx l1 k1)) fun (x1 : GSpan) =>
  if ((decide (0 ≤ k1)) && (decide (s1.From ≤ x1.To))) then (
    bnd1 (idx l1 k1) fun (x2 : GSpan) =>
    some (l1.set k1.toNat (GSpan.mk x2.From (max x2.To s1.To)))
  ) else (
    bnd1 (app 16 l1 [s1]) fun (l2 : List GSpan) =>
    some l2
  )
noncomputable def span_merged__Union_f1_L3 (b1 : List GSpan) (x3 : Int) (next2 : Int) (out5 : List GSpan) (i19 : Int) (j5 : Int) : Option (Int ⊕ (Ctl Unit ((Int × Int × Int × (List GSpan)) ⊕ (List GSpan)))) :=
  bnd1 (gd ((decide (j5 < x3)) == true) (span_end b1 j5)) fun (r2 : Int) =>
  if ((decide (j5 < x3)) && (decide (r2 = next2))) then (
    bnd1 (chk .i64 (j5 + 1)) fun (j7 : Int) =>
    some (.inl j7)
  ) else (
    some (.inr (.ext (.inl (next2, i19, j5, out5))))
  )
noncomputable def span_merged__Union_f1_L2 (a1 : List GSpan) (x1 : Int) (next2 : Int) (i15 : Int) : Option (Int ⊕ Int) :=
  bnd1 (gd ((decide (i15 < x1)) == true) (span_end a1 i15)) fun (r3 : Int) =>
  if ((decide (i15 < x1)) && (decide (r3 = next2))) then (
    bnd1 (chk .i64 (i15 + 1)) fun (i25 : Int) =>
    some (.inl i25)
  ) else (
    some (.inr i15)
  )
noncomputable def span_merged__Union_f1_L1 (a1 : List GSpan) (b1 : List GSpan) (at2 : Int) (i4 : Int) (j2 : Int) (out2 : List GSpan) : Option ((Int × Int × Int × (List GSpan)) ⊕ (List GSpan)) :=
  bnd1 (chk .i64 (2 * (a1.length : Int))) fun (x1 : Int) =>
  bnd1 (gd ((decide (i4 < x1)) == false) (chk .i64 (2 * (b1.length : Int)))) fun (x2 : Int) =>
  if ((decide (i4 < x1)) || (decide (j2 < x2))) then (
    bnd1 (
      if (decide (i4 < x1)) then (
        bnd1 (span_end a1 i4) fun (next3 : Int) =>
        some next3
      ) else (
        some 2147483648
      )
    ) fun (next1 : Int) =>
    bnd1 (chk .i64 (2 * (b1.length : Int))) fun (x3 : Int) =>
    bnd1 (
      if (decide (j2 < x3)) then (
        bnd1 (span_end b1 j2) fun (r4 : Int) =>
        some (min next1 r4)
      ) else (
        some next1
      )
    ) fun (next2 : Int) =>
    bnd1 (gd ((decide (at2 < next2)) == true) (remM i4 2)) fun (x4 : Int) =>
    bnd1 (gd ((decide (at2 < next2)) == true) (remM j2 2)) fun (x5 : Int) =>
    bnd1 (gd ((decide (at2 < next2)) == true) (span_Union_f1 (decide (x4 = 1)) (decide (x5 = 1)))) fun (r1 : Bool) =>
    bnd1 (
      if ((decide (at2 < next2)) && r1) then (
        bnd1 (span_add out2 (GSpan.mk at2 next2)) fun (w1 : List GSpan) =>
        some w1
      ) else (
        some out2
      )
    ) fun (out5 : List GSpan) =>
    bnd1 (iter (fun (a : Int) => span_merged__Union_f1_L2 a1 x1 next2 a) i4) fun (i19 : Int) =>
    ctl1 (iter (fun (a : Int) => span_merged__Union_f1_L3 b1 x3 next2 out5 i19 a) j2) fun (u4 : Unit) =>
    none
  ) else (
    some (.inr out2)
  )
noncomputable def span_merged__Union_f1 (a1 : List GSpan) (b1 : List GSpan) : Option ((List GSpan)) :=
  bnd1 (iter (fun (a : Int × Int × Int × (List GSpan)) => span_merged__Union_f1_L1 a1 b1 a.1 a.2.1 a.2.2.1 a.2.2.2) (0, 0, 0, [])) fun (out4 : List GSpan) =>
  some out4
noncomputable def span_two__Union_f1 (a1 : List GSpan) (b1 : List GSpan) : Option ((List GSpan) × Int) :=
  bnd1 (span_Check a1) fun (e1 : Int) =>
  if (!decide (e1 = 0)) then (
    some ([], e1)
  ) else (
    bnd1 (span_Check b1) fun (e2 : Int) =>
    if (!decide (e2 = 0)) then (
      some ([], e2)
    ) else (
      bnd1 (span_merged__Union_f1 a1 b1) fun (r1 : List GSpan) =>
      some (r1, 0)
    )
  )
noncomputable def span_Union (a1 : List GSpan) (b1 : List GSpan) : Option ((List GSpan) × Int) :=
  bnd2 (span_two__Union_f1 a1 b1) fun (r1 : List GSpan) (r2 : Int) =>
  some (r1, r2)
noncomputable def law_spans : Option (Bool) :=
  bnd2 (span_Union [(GSpan.mk 0 2)] [(GSpan.mk 2 3)]) fun (r1 : List GSpan) (r2 : Int) =>
  bnd1 (gd (((decide (r2 = 0)) && (decide ((r1.length : Int) = 1))) == true) (idx r1 0)) fun (x1 : GSpan) =>
  some (((decide (r2 = 0)) && (decide ((r1.length : Int) = 1))) && (decide (x1.From = 0) && (decide (x1.To = 3) && true)))
noncomputable def law_setError_L1 (l1 : List GSpan) (x2 : Int) : Option (Int ⊕ (Ctl Unit Int)) :=
  if (decide (x2 < (l1.length : Int))) then (
    bnd1 (idx l1 x2) fun (x4 : GSpan) =>
    if (((decide (x4.From < 0)) || (decide (x4.To ≤ x4.From))) || (decide (2147483647 < x4.To))) then (
      some (.inr (.ext 2))
    ) else (
      bnd1 (gd ((decide (0 < x2)) == true) (chk .i64 (x2 - 1))) fun (x5 : Int) =>
      bnd1 (gd ((decide (0 < x2)) == true) (idx l1 x5)) fun (x6 : GSpan) =>
      if ((decide (0 < x2)) && (decide (x4.From ≤ x6.To))) then (
        some (.inr (.ext 5))
      ) else (
        bnd1 (chk .i64 (x2 + 1)) fun (x7 : Int) =>
        some (.inl x7)
      )
    )
  ) else (
    some (.inr (.nrm ()))
  )
noncomputable def law_setError (l1 : List GSpan) : Option (Int) :=
  ctl1 (iter (fun (a : Int) => law_setError_L1 l1 a) 0) fun (u2 : Unit) =>
  some 0
noncomputable def span_Meet_f1 (a1 : Bool) (b1 : Bool) : Option (Bool) :=
  some (a1 && b1)
noncomputable def span_merged__Meet_f1_L3 (b1 : List GSpan) (x3 : Int) (next2 : Int) (out5 : List GSpan) (i19 : Int) (j5 : Int) : Option (Int ⊕ (Ctl Unit ((Int × Int × Int × (List GSpan)) ⊕ (List GSpan)))) :=
  bnd1 (gd ((decide (j5 < x3)) == true) (span_end b1 j5)) fun (r2 : Int) =>
  if ((decide (j5 < x3)) && (decide (r2 = next2))) then (
    bnd1 (chk .i64 (j5 + 1)) fun (j7 : Int) =>
    some (.inl j7)
  ) else (
    some (.inr (.ext (.inl (next2, i19, j5, out5))))
  )
noncomputable def span_merged__Meet_f1_L2 (a1 : List GSpan) (x1 : Int) (next2 : Int) (i15 : Int) : Option (Int ⊕ Int) :=
  bnd1 (gd ((decide (i15 < x1)) == true) (span_end a1 i15)) fun (r3 : Int) =>
  if ((decide (i15 < x1)) && (decide (r3 = next2))) then (
    bnd1 (chk .i64 (i15 + 1)) fun (i25 : Int) =>
    some (.inl i25)
  ) else (
    some (.inr i15)
  )
noncomputable def span_merged__Meet_f1_L1 (a1 : List GSpan) (b1 : List GSpan) (at2 : Int) (i4 : Int) (j2 : Int) (out2 : List GSpan) : Option ((Int × Int × Int × (List GSpan)) ⊕ (List GSpan)) :=
  bnd1 (chk .i64 (2 * (a1.length : Int))) fun (x1 : Int) =>
  bnd1 (gd ((decide (i4 < x1)) == false) (chk .i64 (2 * (b1.length : Int)))) fun (x2 : Int) =>
  if ((decide (i4 < x1)) || (decide (j2 < x2))) then (
    bnd1 (
      if (decide (i4 < x1)) then (
        bnd1 (span_end a1 i4) fun (next3 : Int) =>
        some next3
      ) else (
        some 2147483648
      )
    ) fun (next1 : Int) =>
    bnd1 (chk .i64 (2 * (b1.length : Int))) fun (x3 : Int) =>
    bnd1 (
      if (decide (j2 < x3)) then (
        bnd1 (span_end b1 j2) fun (r4 : Int) =>
        some (min next1 r4)
      ) else (
        some next1
      )
    ) fun (next2 : Int) =>
    bnd1 (gd ((decide (at2 < next2)) == true) (remM i4 2)) fun (x4 : Int) =>
    bnd1 (gd ((decide (at2 < next2)) == true) (remM j2 2)) fun (x5 : Int) =>
    bnd1 (gd ((decide (at2 < next2)) == true) (span_Meet_f1 (decide (x4 = 1)) (decide (x5 = 1)))) fun (r1 : Bool) =>
    bnd1 (
      if ((decide (at2 < next2)) && r1) then (
        bnd1 (span_add out2 (GSpan.mk at2 next2)) fun (w1 : List GSpan) =>
        some w1
      ) else (
        some out2
      )
    ) fun (out5 : List GSpan) =>
    bnd1 (iter (fun (a : Int) => span_merged__Meet_f1_L2 a1 x1 next2 a) i4) fun (i19 : Int) =>
    ctl1 (iter (fun (a : Int) => span_merged__Meet_f1_L3 b1 x3 next2 out5 i19 a) j2) fun (u4 : Unit) =>
    none
  ) else (
    some (.inr out2)
  )
noncomputable def span_merged__Meet_f1 (a1 : List GSpan) (b1 : List GSpan) : Option ((List GSpan)) :=
  bnd1 (iter (fun (a : Int × Int × Int × (List GSpan)) => span_merged__Meet_f1_L1 a1 b1 a.1 a.2.1 a.2.2.1 a.2.2.2) (0, 0, 0, [])) fun (out4 : List GSpan) =>
  some out4
noncomputable def span_two__Meet_f1 (a1 : List GSpan) (b1 : List GSpan) : Option ((List GSpan) × Int) :=
  bnd1 (span_Check a1) fun (e1 : Int) =>
  if (!decide (e1 = 0)) then (
    some ([], e1)
  ) else (
    bnd1 (span_Check b1) fun (e2 : Int) =>
    if (!decide (e2 = 0)) then (
      some ([], e2)
    ) else (
      bnd1 (span_merged__Meet_f1 a1 b1) fun (r1 : List GSpan) =>
      some (r1, 0)
    )
  )
noncomputable def span_Meet (a1 : List GSpan) (b1 : List GSpan) : Option ((List GSpan) × Int) :=
  bnd2 (span_two__Meet_f1 a1 b1) fun (r1 : List GSpan) (r2 : Int) =>
  some (r1, r2)
noncomputable def span_Minus_f1 (a1 : Bool) (b1 : Bool) : Option (Bool) :=
  some (a1 && (!b1))
noncomputable def span_merged__Minus_f1_L3 (b1 : List GSpan) (x3 : Int) (next2 : Int) (out5 : List GSpan) (i19 : Int) (j5 : Int) : Option (Int ⊕ (Ctl Unit ((Int × Int × Int × (List GSpan)) ⊕ (List GSpan)))) :=
  bnd1 (gd ((decide (j5 < x3)) == true) (span_end b1 j5)) fun (r2 : Int) =>
  if ((decide (j5 < x3)) && (decide (r2 = next2))) then (
    bnd1 (chk .i64 (j5 + 1)) fun (j7 : Int) =>
    some (.inl j7)
  ) else (
    some (.inr (.ext (.inl (next2, i19, j5, out5))))
  )
noncomputable def span_merged__Minus_f1_L2 (a1 : List GSpan) (x1 : Int) (next2 : Int) (i15 : Int) : Option (Int ⊕ Int) :=
  bnd1 (gd ((decide (i15 < x1)) == true) (span_end a1 i15)) fun (r3 : Int) =>
  if ((decide (i15 < x1)) && (decide (r3 = next2))) then (
    bnd1 (chk .i64 (i15 + 1)) fun (i25 : Int) =>
    some (.inl i25)
  ) else (
    some (.inr i15)
  )
noncomputable def span_merged__Minus_f1_L1 (a1 : List GSpan) (b1 : List GSpan) (at2 : Int) (i4 : Int) (j2 : Int) (out2 : List GSpan) : Option ((Int × Int × Int × (List GSpan)) ⊕ (List GSpan)) :=
  bnd1 (chk .i64 (2 * (a1.length : Int))) fun (x1 : Int) =>
  bnd1 (gd ((decide (i4 < x1)) == false) (chk .i64 (2 * (b1.length : Int)))) fun (x2 : Int) =>
  if ((decide (i4 < x1)) || (decide (j2 < x2))) then (
    bnd1 (
      if (decide (i4 < x1)) then (
        bnd1 (span_end a1 i4) fun (next3 : Int) =>
        some next3
      ) else (
        some 2147483648
      )
    ) fun (next1 : Int) =>
    bnd1 (chk .i64 (2 * (b1.length : Int))) fun (x3 : Int) =>
    bnd1 (
      if (decide (j2 < x3)) then (
        bnd1 (span_end b1 j2) fun (r4 : Int) =>
        some (min next1 r4)
      ) else (
        some next1
      )
    ) fun (next2 : Int) =>
    bnd1 (gd ((decide (at2 < next2)) == true) (remM i4 2)) fun (x4 : Int) =>
    bnd1 (gd ((decide (at2 < next2)) == true) (remM j2 2)) fun (x5 : Int) =>
    bnd1 (gd ((decide (at2 < next2)) == true) (span_Minus_f1 (decide (x4 = 1)) (decide (x5 = 1)))) fun (r1 : Bool) =>
    bnd1 (
      if ((decide (at2 < next2)) && r1) then (
        bnd1 (span_add out2 (GSpan.mk at2 next2)) fun (w1 : List GSpan) =>
        some w1
      ) else (
        some out2
      )
    ) fun (out5 : List GSpan) =>
    bnd1 (iter (fun (a : Int) => span_merged__Minus_f1_L2 a1 x1 next2 a) i4) fun (i19 : Int) =>
    ctl1 (iter (fun (a : Int) => span_merged__Minus_f1_L3 b1 x3 next2 out5 i19 a) j2) fun (u4 : Unit) =>
    none
  ) else (
    some (.inr out2)
  )
noncomputable def span_merged__Minus_f1 (a1 : List GSpan) (b1 : List GSpan) : Option ((List GSpan)) :=
  bnd1 (iter (fun (a : Int × Int × Int × (List GSpan)) => span_merged__Minus_f1_L1 a1 b1 a.1 a.2.1 a.2.2.1 a.2.2.2) (0, 0, 0, [])) fun (out4 : List GSpan) =>
  some out4
noncomputable def span_two__Minus_f1 (a1 : List GSpan) (b1 : List GSpan) : Option ((List GSpan) × Int) :=
  bnd1 (span_Check a1) fun (e1 : Int) =>
  if (!decide (e1 = 0)) then (
    some ([], e1)
  ) else (
    bnd1 (span_Check b1) fun (e2 : Int) =>
    if (!decide (e2 = 0)) then (
      some ([], e2)
    ) else (
      bnd1 (span_merged__Minus_f1 a1 b1) fun (r1 : List GSpan) =>
      some (r1, 0)
    )
  )
noncomputable def span_Minus (a1 : List GSpan) (b1 : List GSpan) : Option ((List GSpan) × Int) :=
  bnd2 (span_two__Minus_f1 a1 b1) fun (r1 : List GSpan) (r2 : Int) =>
  some (r1, r2)
noncomputable def law_member_L1 (l1 : List GSpan) (x1 : Int) (x3 : Int) : Option (Int ⊕ (Ctl Unit Bool)) :=
  if (decide (x3 < (l1.length : Int))) then (
    bnd1 (idx l1 x3) fun (x5 : GSpan) =>
    bnd1 (chk .i64 (x5.To - 1)) fun (x6 : Int) =>
    bnd1 (ref_In x1 x5.From x6) fun (r1 : Bool) =>
    if r1 then (
      some (.inr (.ext true))
    ) else (
      bnd1 (chk .i64 (x3 + 1)) fun (x7 : Int) =>
      some (.inl x7)
    )
  ) else (
    some (.inr (.nrm ()))
  )
noncomputable def law_member (l1 : List GSpan) (x1 : Int) : Option (Bool) :=
  ctl1 (iter (fun (a : Int) => law_member_L1 l1 x1 a) 0) fun (u2 : Unit) =>
  some false
noncomputable def law_SpanSetsMatch_L4 (a1 : List GSpan) (b1 : List GSpan) (x13 : GSpan) (x15 : Int) : Option (Int ⊕ (Ctl Unit (Int ⊕ (Ctl Unit (Int ⊕ (Ctl Unit Bool)))))) :=
  if (decide (x15 < 2)) then (
    bnd1 (idx ([x13.From, x13.To] : List Int) x15) fun (x18 : Int) =>
    bnd1 (law_member a1 x18) fun (r13 : Bool) =>
    bnd1 (chk .i64 (x18 - 1)) fun (x19 : Int) =>
    bnd1 (law_member a1 x19) fun (r14 : Bool) =>
    bnd1 (gd ((r13 == r14) == true) (law_member b1 x18)) fun (r15 : Bool) =>
    bnd1 (gd ((r13 == r14) == true) (law_member b1 x19)) fun (r16 : Bool) =>
    if ((r13 == r14) && (r15 == r16)) then (
      some (.inr (.ext (.inr (.ext (.inr (.ext false))))))
    ) else (
      bnd1 (chk .i64 (x15 + 1)) fun (x20 : Int) =>
      some (.inl x20)
    )
  ) else (
    some (.inr (.nrm ()))
  )
noncomputable def law_SpanSetsMatch_L3 (a1 : List GSpan) (b1 : List GSpan) (l1 : List GSpan) (x10 : Int) : Option (Int ⊕ (Ctl Unit (Int ⊕ (Ctl Unit Bool)))) :=
  if (decide (x10 < (l1.length : Int))) then (
    bnd1 (idx l1 x10) fun (x13 : GSpan) =>
    ctl1 (iter (fun (a : Int) => law_SpanSetsMatch_L4 a1 b1 x13 a) 0) fun (u8 : Unit) =>
    bnd1 (chk .i64 (x10 + 1)) fun (x17 : Int) =>
    some (.inl x17)
  ) else (
    some (.inr (.nrm ()))
  )
noncomputable def law_SpanSetsMatch_L2 (a1 : List GSpan) (b1 : List GSpan) (r4 : List GSpan) (r6 : List GSpan) (r8 : List GSpan) (x7 : Int) : Option (Int ⊕ (Ctl Unit Bool)) :=
  if (decide (x7 < 3)) then (
    bnd1 (idx ([r4, r6, r8] : List (List GSpan)) x7) fun (l1 : List GSpan) =>
    ctl1 (iter (fun (a : Int) => law_SpanSetsMatch_L3 a1 b1 l1 a) 0) fun (u6 : Unit) =>
    bnd1 (chk .i64 (x7 + 1)) fun (x12 : Int) =>
    some (.inl x12)
  ) else (
    some (.inr (.nrm ()))
  )
noncomputable def law_SpanSetsMatch_L6 (a1 : List GSpan) (b1 : List GSpan) (r4 : List GSpan) (r6 : List GSpan) (r8 : List GSpan) (x25 : GSpan) (x26 : Int) (x27 : Int) (x29 : Int) : Option (Int ⊕ (Ctl Unit (Int ⊕ (Ctl Unit (Int ⊕ (Ctl Unit Bool)))))) :=
  if (decide (x29 < 4)) then (
    bnd1 (idx ([x26, x25.From, x27, x25.To] : List Int) x29) fun (x32 : Int) =>
    bnd1 (law_member a1 x32) fun (p2 : Bool) =>
    bnd1 (law_member b1 x32) fun (q1 : Bool) =>
    bnd1 (law_member r4 x32) fun (r17 : Bool) =>
    bnd1 (gd ((!(r17 == (p2 || q1))) == false) (law_member r6 x32)) fun (r18 : Bool) =>
    bnd1 (gd (((!(r17 == (p2 || q1))) || (!(r18 == (p2 && q1)))) == false) (law_member r8 x32)) fun (r19 : Bool) =>
    if (((!(r17 == (p2 || q1))) || (!(r18 == (p2 && q1)))) || (!(r19 == (p2 && (!q1))))) then (
      some (.inr (.ext (.inr (.ext (.inr (.ext false))))))
    ) else (
      bnd1 (chk .i64 (x29 + 1)) fun (x33 : Int) =>
      some (.inl x33)
    )
  ) else (
    some (.inr (.nrm ()))
  )
noncomputable def law_SpanSetsMatch_L5 (a1 : List GSpan) (b1 : List GSpan) (r4 : List GSpan) (r6 : List GSpan) (r8 : List GSpan) (l2 : List GSpan) (x22 : Int) : Option (Int ⊕ (Ctl Unit (Int ⊕ (Ctl Unit Bool)))) :=
  if (decide (x22 < (l2.length : Int))) then (
    bnd1 (idx l2 x22) fun (x25 : GSpan) =>
    bnd1 (chk .i64 (x25.From - 1)) fun (x26 : Int) =>
    bnd1 (chk .i64 (x25.To - 1)) fun (x27 : Int) =>
    ctl1 (iter (fun (a : Int) => law_SpanSetsMatch_L6 a1 b1 r4 r6 r8 x25 x26 x27 a) 0) fun (u12 : Unit) =>
    bnd1 (chk .i64 (x22 + 1)) fun (x31 : Int) =>
    some (.inl x31)
  ) else (
    some (.inr (.nrm ()))
  )
noncomputable def law_SpanSetsMatch_L1 (a1 : List GSpan) (b1 : List GSpan) (r4 : List GSpan) (r6 : List GSpan) (r8 : List GSpan) (x4 : Int) : Option (Int ⊕ (Ctl Unit Bool)) :=
  if (decide (x4 < 2)) then (
    bnd1 (idx ([a1, b1] : List (List GSpan)) x4) fun (l2 : List GSpan) =>
    ctl1 (iter (fun (a : Int) => law_SpanSetsMatch_L5 a1 b1 r4 r6 r8 l2 a) 0) fun (u10 : Unit) =>
    bnd1 (chk .i64 (x4 + 1)) fun (x24 : Int) =>
    some (.inl x24)
  ) else (
    some (.inr (.nrm ()))
  )
noncomputable def law_SpanSetsMatch (a1 : List GSpan) (b1 : List GSpan) : Option (Bool) :=
  bnd1 (law_spans) fun (r1 : Bool) =>
  bnd1 (gd ((!r1) == false) (span_Check a1)) fun (r2 : Int) =>
  bnd1 (gd ((!r1) == false) (law_setError a1)) fun (r3 : Int) =>
  if ((!r1) || (!decide (r2 = r3))) then (
    some false
  ) else (
    bnd2 (span_Union a1 b1) fun (r4 : List GSpan) (r5 : Int) =>
    bnd2 (span_Meet a1 b1) fun (r6 : List GSpan) (r7 : Int) =>
    bnd2 (span_Minus a1 b1) fun (r8 : List GSpan) (r9 : Int) =>
    bnd1 (law_setError a1) fun (h8 : Int) =>
    bnd1 (
      if (decide (h8 = 0)) then (
        bnd1 (law_setError b1) fun (h64 : Int) =>
        some h64
      ) else (
        some h8
      )
    ) fun (h10 : Int) =>
    if (!decide (h10 = 0)) then (
      bnd1 (gd ((((decide (r5 = h10)) && (decide (r7 = h10))) && (decide (r9 = h10))) == true) (chk .i64 ((r4.length : Int) + (r6.length : Int)))) fun (x1 : Int) =>
      bnd1 (gd ((((decide (r5 = h10)) && (decide (r7 = h10))) && (decide (r9 = h10))) == true) (chk .i64 (x1 + (r8.length : Int)))) fun (x2 : Int) =>
      some ((((decide (r5 = h10)) && (decide (r7 = h10))) && (decide (r9 = h10))) && (decide (x2 = 0)))
    ) else (
      bnd1 (gd ((((!decide (r5 = 0)) || (!decide (r7 = 0))) || (!decide (r9 = 0))) == false) (law_setError r4)) fun (r10 : Int) =>
      bnd1 (gd (((((!decide (r5 = 0)) || (!decide (r7 = 0))) || (!decide (r9 = 0))) || (!decide (r10 = 0))) == false) (law_setError r6)) fun (r11 : Int) =>
      bnd1 (gd ((((((!decide (r5 = 0)) || (!decide (r7 = 0))) || (!decide (r9 = 0))) || (!decide (r10 = 0))) || (!decide (r11 = 0))) == false) (law_setError r8)) fun (r12 : Int) =>
      if ((((((!decide (r5 = 0)) || (!decide (r7 = 0))) || (!decide (r9 = 0))) || (!decide (r10 = 0))) || (!decide (r11 = 0))) || (!decide (r12 = 0))) then (
        some false
      ) else (
        ctl1 (iter (fun (a : Int) => law_SpanSetsMatch_L1 a1 b1 r4 r6 r8 a) 0) fun (u2 : Unit) =>
        ctl1 (iter (fun (a : Int) => law_SpanSetsMatch_L2 a1 b1 r4 r6 r8 a) 0) fun (u4 : Unit) =>
        some true
      )
    )
  )
end Go.Proofs.Ytdeglnbioiicaaa.Al

namespace Go.Proofs.Ytdeglnbioiicaaa.Al
structure Delta_Reader where
  steps : List GStep
  used : Int
deriving DecidableEq
instance : Inhabited Delta_Reader := ⟨⟨[], 0⟩⟩
@[reducible] def Delta_Reader.row (x : Delta_Reader) : List RV := [.sl (x.steps.map GStep.row), .int .i64 x.used]

structure Delta_Writer where
  out : List GStep
  add : List GElem
  cut : Int
deriving DecidableEq
instance : Inhabited Delta_Writer := ⟨⟨[], [], 0⟩⟩
@[reducible] def Delta_Writer.row (x : Delta_Writer) : List RV := [.sl (x.out.map GStep.row), .sl (x.add.map GElem.row), .int .i64 x.cut]

noncomputable def law_letters_L1 (s1 : List UInt8) (x2 : Int) (out2 : List GElem) : Option ((Int × (List GElem)) ⊕ (List GElem)) :=
  if (decide (x2 < (s1.length : Int))) then (
    bnd1 (idx s1 x2) fun (ch1 : UInt8) =>
    bnd1 (app 40 out2 [(GElem.mk (IntKind.i64.wrap (ch1.toNat : Int)) 0 [])]) fun (out5 : List GElem) =>
    bnd1 (chk .i64 (x2 + 1)) fun (x4 : Int) =>
    some (.inl (x4, out5))
  ) else (
    some (.inr out2)
  )
noncomputable def law_letters (s1 : List UInt8) : Option ((List GElem)) :=
  bnd1 (iter (fun (a : Int × (List GElem)) => law_letters_L1 s1 a.1 a.2) (0, [])) fun (out4 : List GElem) =>
  some out4
noncomputable def law_on (name1 : List UInt8) : Option ((List GAttr)) :=
  some [(GAttr.mk name1 [111, 110])]
noncomputable def delta_step (s1 : GStep) : Option (Int) :=
  bnd1 (
    if (decide (s1.Kind = 0)) then (
      some (decide (s1.Kind = 0))
    ) else (
      some (decide (s1.Kind = 2))
    )
  ) fun (x1 : Bool) =>
  if x1 then (
    if ((decide (0 < (s1.Elems.length : Int))) || ((decide (s1.Kind = 2)) && (decide (0 < (s1.Attrs.length : Int))))) then (
      some 4
    ) else (
      if ((decide (s1.N < 1)) || (decide (2147483647 < s1.N))) then (
        some 2
      ) else (
        bnd1 (attr_CheckChange s1.Attrs) fun (r1 : Int) =>
        some r1
      )
    )
  ) else (
    if (decide (s1.Kind = 1)) then (
      if ((!decide (s1.N = 0)) || (decide (0 < (s1.Attrs.length : Int)))) then (
        some 4
      ) else (
        if (decide ((s1.Elems.length : Int) = 0)) then (
          some 11
        ) else (
          bnd1 (flow_CheckPart s1.Elems) fun (r2 : Int) =>
          some r2
        )
      )
    ) else (
      some 8
    )
  )
noncomputable def delta_size (s1 : GStep) : Option (Int) :=
  if (decide (s1.Kind = 1)) then (
    some (s1.Elems.length : Int)
  ) else (
    some s1.N
  )
noncomputable def delta_Check_L1 (d1 : List GStep) (before2 : Int) (after2 : Int) (x2 : Int) : Option ((Int × Int × Int) ⊕ (Ctl (Int × Int) Int)) :=
  if (decide (x2 < (d1.length : Int))) then (
    ctl2 (
      bnd1 (idx d1 x2) fun (x5 : GStep) =>
      bnd1 (delta_step x5) fun (e1 : Int) =>
      if (!decide (e1 = 0)) then (
        some (.ext (.inr (.ext e1)))
      ) else (
        ctl1 (
          if (decide (0 < x2)) then (
            bnd1 (chk .i64 (x2 - 1)) fun (x8 : Int) =>
            bnd1 (idx d1 x8) fun (x9 : GStep) =>
            bnd1 (gd (((decide (x9.Kind = x5.Kind)) == true) && ((!decide (x5.Kind = 0)) == false)) (attr_Same x9.Attrs x5.Attrs)) fun (r2 : Bool) =>
            if (((decide (x9.Kind = x5.Kind)) && ((!decide (x5.Kind = 0)) || r2)) || ((decide (x9.Kind = 2)) && (decide (x5.Kind = 1)))) then (
              some (.ext (.ext (.inr (.ext 5))))
            ) else (
              some (.nrm ())
            )
          ) else (
            some (.nrm ())
          )
        ) fun (u2 : Unit) =>
        bnd1 (
          if (!decide (x5.Kind = 1)) then (
            bnd1 (chk .i64 (before2 + x5.N)) fun (x7 : Int) =>
            some (min x7 2147483648)
          ) else (
            some before2
          )
        ) fun (before6 : Int) =>
        if (!decide (x5.Kind = 2)) then (
          bnd1 (delta_size x5) fun (r1 : Int) =>
          bnd1 (chk .i64 (after2 + r1)) fun (x6 : Int) =>
          some (.nrm (before6, (min x6 2147483648)))
        ) else (
          some (.nrm (before6, after2))
        )
      )
    ) fun (before5 : Int) (after5 : Int) =>
    bnd1 (chk .i64 (x2 + 1)) fun (x4 : Int) =>
    some (.inl (before5, after5, x4))
  ) else (
    some (.inr (.nrm (before2, after2)))
  )
noncomputable def delta_Check (d1 : List GStep) : Option (Int) :=
  ctl2 (iter (fun (a : Int × Int × Int) => delta_Check_L1 d1 a.1 a.2.1 a.2.2) (0, 0, 0)) fun (before4 : Int) (after4 : Int) =>
  if ((decide (2147483647 < before4)) || (decide (2147483647 < after4))) then (
    some 3
  ) else (
    some 0
  )
noncomputable def delta_lengths_L1 (d1 : List GStep) (before2 : Int) (after2 : Int) (x2 : Int) : Option ((Int × Int × Int) ⊕ (Int × Int)) :=
  if (decide (x2 < (d1.length : Int))) then (
    bnd2 (
      bnd1 (idx d1 x2) fun (x5 : GStep) =>
      bnd1 (
        if (!decide (x5.Kind = 1)) then (
          bnd1 (chk .i64 (before2 + x5.N)) fun (before7 : Int) =>
          some before7
        ) else (
          some before2
        )
      ) fun (before6 : Int) =>
      if (!decide (x5.Kind = 2)) then (
        bnd1 (delta_size x5) fun (r1 : Int) =>
        bnd1 (chk .i64 (after2 + r1)) fun (after6 : Int) =>
        some (before6, after6)
      ) else (
        some (before6, after2)
      )
    ) fun (before5 : Int) (after5 : Int) =>
    bnd1 (chk .i64 (x2 + 1)) fun (x4 : Int) =>
    some (.inl (before5, after5, x4))
  ) else (
    some (.inr (before2, after2))
  )
noncomputable def delta_lengths (d1 : List GStep) : Option (Int × Int) :=
  bnd2 (iter (fun (a : Int × Int × Int) => delta_lengths_L1 d1 a.1 a.2.1 a.2.2) (0, 0, 0)) fun (before4 : Int) (after4 : Int) =>
  some (before4, after4)
noncomputable def delta_fits (f1 : List GElem) (d1 : List GStep) : Option (Int) :=
  bnd1 (flow_CheckPart f1) fun (e1 : Int) =>
  if (!decide (e1 = 0)) then (
    some e1
  ) else (
    bnd1 (delta_Check d1) fun (e2 : Int) =>
    if (!decide (e2 = 0)) then (
      some e2
    ) else (
      bnd2 (delta_lengths d1) fun (r1 : Int) (r2 : Int) =>
      if (!decide (r1 = (f1.length : Int))) then (
        some 14
      ) else (
        some 0
      )
    )
  )
noncomputable def delta_changed_L1 (l1 : List GElem) (change1 : List GAttr) (x2 : Int) (out3 : List GElem) : Option ((Int × (List GElem)) ⊕ (List GElem)) :=
  if (decide (x2 < (l1.length : Int))) then (
    bnd1 (idx l1 x2) fun (x4 : GElem) =>
    bnd1 (attr_Raw x4.Attrs change1) fun (r1 : List GAttr) =>
    bnd1 (idx out3 x2) fun (x5 : GElem) =>
    bnd1 (chk .i64 (x2 + 1)) fun (x6 : Int) =>
    some (.inl (x6, (out3.set x2.toNat (GElem.mk x4.Char x4.Ref r1))))
  ) else (
    some (.inr out3)
  )
noncomputable def delta_changed (l1 : List GElem) (change1 : List GAttr) : Option ((List GElem)) :=
  bnd1 (mk 40 (l1.length : Int) (GElem.mk 0 0 [])) fun (out1 : List GElem) =>
  bnd1 (iter (fun (a : Int × (List GElem)) => delta_changed_L1 l1 change1 a.1 a.2) (0, out1)) fun (out5 : List GElem) =>
  some out5
noncomputable def flow_Copy_L1 (f1 : List GElem) (x2 : Int) (out3 : List GElem) : Option ((Int × (List GElem)) ⊕ (List GElem)) :=
  if (decide (x2 < (f1.length : Int))) then (
    bnd1 (idx f1 x2) fun (x4 : GElem) =>
    bnd1 (app 32 [] x4.Attrs) fun (l1 : List GAttr) =>
    bnd1 (idx out3 x2) fun (x5 : GElem) =>
    bnd1 (chk .i64 (x2 + 1)) fun (x6 : Int) =>
    some (.inl (x6, (out3.set x2.toNat (GElem.mk x4.Char x4.Ref l1))))
  ) else (
    some (.inr out3)
  )
noncomputable def flow_Copy (f1 : List GElem) : Option ((List GElem)) :=
  bnd1 (mk 40 (f1.length : Int) (GElem.mk 0 0 [])) fun (out1 : List GElem) =>
  bnd1 (iter (fun (a : Int × (List GElem)) => flow_Copy_L1 f1 a.1 a.2) (0, out1)) fun (out5 : List GElem) =>
  some out5
noncomputable def delta_Raw_L1 (d1 : List GStep) (f3 : List GElem) (x2 : Int) (out2 : List GElem) : Option (((List GElem) × Int × (List GElem)) ⊕ (List GElem)) :=
  if (decide (x2 < (d1.length : Int))) then (
    bnd2 (
      bnd1 (idx d1 x2) fun (x5 : GStep) =>
      if (decide (x5.Kind = 0)) then (
        bnd1 (slc f3 0 x5.N) fun (l1 : List GElem) =>
        bnd1 (delta_changed l1 x5.Attrs) fun (r1 : List GElem) =>
        bnd1 (app 40 out2 r1) fun (out6 : List GElem) =>
        bnd1 (slc f3 x5.N (f3.length : Int)) fun (f6 : List GElem) =>
        some (f6, out6)
      ) else (
        if (decide (x5.Kind = 1)) then (
          bnd1 (flow_Copy x5.Elems) fun (r2 : List GElem) =>
          bnd1 (app 40 out2 r2) fun (out7 : List GElem) =>
          some (f3, out7)
        ) else (
          bnd1 (slc f3 x5.N (f3.length : Int)) fun (f7 : List GElem) =>
          some (f7, out2)
        )
      )
    ) fun (f5 : List GElem) (out5 : List GElem) =>
    bnd1 (chk .i64 (x2 + 1)) fun (x4 : Int) =>
    some (.inl (f5, x4, out5))
  ) else (
    some (.inr out2)
  )
noncomputable def delta_Raw (f1 : List GElem) (d1 : List GStep) : Option ((List GElem)) :=
  bnd1 (iter (fun (a : (List GElem) × Int × (List GElem)) => delta_Raw_L1 d1 a.1 a.2.1 a.2.2) (f1, 0, [])) fun (out4 : List GElem) =>
  some out4
noncomputable def delta_Apply (f1 : List GElem) (d1 : List GStep) : Option ((List GElem) × Int) :=
  bnd1 (delta_fits f1 d1) fun (e1 : Int) =>
  if (!decide (e1 = 0)) then (
    some ([], e1)
  ) else (
    bnd1 (delta_Raw f1 d1) fun (r1 : List GElem) =>
    some (r1, 0)
  )
noncomputable def law_deltas : Option (Bool) :=
  bnd1 (law_letters [97, 98]) fun (r1 : List GElem) =>
  bnd1 (law_letters [120]) fun (r2 : List GElem) =>
  bnd1 (law_on [98, 111, 108, 100]) fun (r3 : List GAttr) =>
  bnd2 (delta_Apply r1 [(GStep.mk 1 0 [] r2), (GStep.mk 2 1 [] []), (GStep.mk 0 1 r3 [])]) fun (r4 : List GElem) (r5 : Int) =>
  bnd1 (gd (((decide (r5 = 0)) && (decide ((r4.length : Int) = 2))) == true) (idx r4 0)) fun (x1 : GElem) =>
  bnd1 (gd ((((decide (r5 = 0)) && (decide ((r4.length : Int) = 2))) && (decide (x1.Char = 120))) == true) (idx r4 1)) fun (x2 : GElem) =>
  bnd1 (gd ((((decide (r5 = 0)) && (decide ((r4.length : Int) = 2))) && (decide (x1.Char = 120))) == true) (ref_SameAttrs x2.Attrs r3)) fun (r7 : Bool) =>
  some ((((decide (r5 = 0)) && (decide ((r4.length : Int) = 2))) && (decide (x1.Char = 120))) && r7)
noncomputable def delta_Lengths (d1 : List GStep) : Option (Int × Int × Int) :=
  bnd1 (delta_Check d1) fun (e1 : Int) =>
  if (!decide (e1 = 0)) then (
    some (0, 0, e1)
  ) else (
    bnd2 (delta_lengths d1) fun (r1 : Int) (r2 : Int) =>
    some (r1, r2, 0)
  )
noncomputable def ref_StepError (s1 : GStep) : Option (Int) :=
  bnd1 (ref_In s1.Kind 0 2) fun (r1 : Bool) =>
  if (!r1) then (
    some 8
  ) else (
    if (decide (s1.Kind = 1)) then (
      if ((!decide (s1.N = 0)) || (decide (0 < (s1.Attrs.length : Int)))) then (
        some 4
      ) else (
        if (decide ((s1.Elems.length : Int) = 0)) then (
          some 11
        ) else (
          bnd1 (ref_PartError s1.Elems) fun (r2 : Int) =>
          some r2
        )
      )
    ) else (
      if ((decide (0 < (s1.Elems.length : Int))) || ((decide (s1.Kind = 2)) && (decide (0 < (s1.Attrs.length : Int))))) then (
        some 4
      ) else (
        bnd1 (ref_In s1.N 1 2147483647) fun (r3 : Bool) =>
        if (!r3) then (
          some 2
        ) else (
          bnd1 (ref_AttrsError s1.Attrs true) fun (r4 : Int) =>
          some r4
        )
      )
    )
  )
noncomputable def ref_DeltaError_L1 (d1 : List GStep) (old2 : Int) (now2 : Int) (x2 : Int) : Option ((Int × Int × Int) ⊕ (Ctl (Int × Int) Int)) :=
  if (decide (x2 < (d1.length : Int))) then (
    ctl2 (
      bnd1 (idx d1 x2) fun (x5 : GStep) =>
      bnd1 (ref_StepError x5) fun (e1 : Int) =>
      if (!decide (e1 = 0)) then (
        some (.ext (.inr (.ext e1)))
      ) else (
        ctl1 (
          if (decide (0 < x2)) then (
            bnd1 (chk .i64 (x2 - 1)) fun (x7 : Int) =>
            bnd1 (idx d1 x7) fun (x8 : GStep) =>
            if (decide (x5.Kind = 1)) then (
              if (!decide (x8.Kind = 0)) then (
                some (.ext (.ext (.inr (.ext 5))))
              ) else (
                some (.nrm ())
              )
            ) else (
              if (decide (x5.Kind = 2)) then (
                if (decide (x8.Kind = 2)) then (
                  some (.ext (.ext (.inr (.ext 5))))
                ) else (
                  some (.nrm ())
                )
              ) else (
                bnd1 (gd ((decide (x8.Kind = 0)) == true) (ref_SameAttrs x8.Attrs x5.Attrs)) fun (r1 : Bool) =>
                if ((decide (x8.Kind = 0)) && r1) then (
                  some (.ext (.ext (.inr (.ext 5))))
                ) else (
                  some (.nrm ())
                )
              )
            )
          ) else (
            some (.nrm ())
          )
        ) fun (u2 : Unit) =>
        bnd1 (
          if ((!decide (x5.Kind = 1)) && (decide (old2 < 2147483648))) then (
            bnd1 (chk .i64 (old2 + x5.N)) fun (old7 : Int) =>
            some old7
          ) else (
            some old2
          )
        ) fun (old6 : Int) =>
        if ((!decide (x5.Kind = 2)) && (decide (now2 < 2147483648))) then (
          bnd1 (chk .i64 (x5.N + (x5.Elems.length : Int))) fun (x6 : Int) =>
          bnd1 (chk .i64 (now2 + x6)) fun (now6 : Int) =>
          some (.nrm (old6, now6))
        ) else (
          some (.nrm (old6, now2))
        )
      )
    ) fun (old5 : Int) (now5 : Int) =>
    bnd1 (chk .i64 (x2 + 1)) fun (x4 : Int) =>
    some (.inl (old5, now5, x4))
  ) else (
    some (.inr (.nrm (old2, now2)))
  )
noncomputable def ref_DeltaError (d1 : List GStep) : Option (Int) :=
  ctl2 (iter (fun (a : Int × Int × Int) => ref_DeltaError_L1 d1 a.1 a.2.1 a.2.2) (0, 0, 0)) fun (old4 : Int) (now4 : Int) =>
  if ((decide (2147483647 < old4)) || (decide (2147483647 < now4))) then (
    some 3
  ) else (
    some 0
  )
noncomputable def delta_Ends (d1 : List GStep) : Option (Bool) :=
  bnd1 (gd ((decide (0 < (d1.length : Int))) == true) (chk .i64 ((d1.length : Int) - 1))) fun (x1 : Int) =>
  bnd1 (gd ((decide (0 < (d1.length : Int))) == true) (idx d1 x1)) fun (x2 : GStep) =>
  some ((decide (0 < (d1.length : Int))) && (decide (x2.Kind = 0)))
noncomputable def law_DeltaCheckSays_L1 (d1 : List GStep) (old2 : Int) (now2 : Int) (x4 : Int) : Option ((Int × Int × Int) ⊕ (Int × Int)) :=
  if (decide (x4 < (d1.length : Int))) then (
    bnd2 (
      bnd1 (idx d1 x4) fun (x7 : GStep) =>
      bnd1 (
        if (!decide (x7.Kind = 1)) then (
          bnd1 (chk .i64 (old2 - x7.N)) fun (old7 : Int) =>
          some old7
        ) else (
          some old2
        )
      ) fun (old6 : Int) =>
      if (!decide (x7.Kind = 2)) then (
        bnd1 (chk .i64 (x7.N + (x7.Elems.length : Int))) fun (x8 : Int) =>
        bnd1 (chk .i64 (now2 - x8)) fun (now6 : Int) =>
        some (old6, now6)
      ) else (
        some (old6, now2)
      )
    ) fun (old5 : Int) (now5 : Int) =>
    bnd1 (chk .i64 (x4 + 1)) fun (x6 : Int) =>
    some (.inl (old5, now5, x6))
  ) else (
    some (.inr (old2, now2))
  )
noncomputable def law_DeltaCheckSays (d1 : List GStep) : Option (Bool) :=
  bnd1 (law_deltas) fun (r1 : Bool) =>
  if (!r1) then (
    some false
  ) else (
    bnd3 (delta_Lengths d1) fun (r2 : Int) (r3 : Int) (r4 : Int) =>
    bnd1 (ref_DeltaError d1) fun (f1 : Int) =>
    bnd1 (delta_Check d1) fun (r5 : Int) =>
    bnd1 (gd (((!decide (r5 = f1)) || (!decide (r4 = f1))) == false) (delta_Ends d1)) fun (r6 : Bool) =>
    bnd1 (gd ((((!decide (r5 = f1)) || (!decide (r4 = f1))) == false) && ((decide (0 < (d1.length : Int))) == true)) (chk .i64 ((d1.length : Int) - 1))) fun (x1 : Int) =>
    bnd1 (gd ((((!decide (r5 = f1)) || (!decide (r4 = f1))) == false) && ((decide (0 < (d1.length : Int))) == true)) (idx d1 x1)) fun (x2 : GStep) =>
    if (((!decide (r5 = f1)) || (!decide (r4 = f1))) || (!(r6 == ((decide (0 < (d1.length : Int))) && (decide (x2.Kind = 0)))))) then (
      some false
    ) else (
      if (!decide (f1 = 0)) then (
        some ((decide (r2 = 0)) && (decide (r3 = 0)))
      ) else (
        bnd2 (iter (fun (a : Int × Int × Int) => law_DeltaCheckSays_L1 d1 a.1 a.2.1 a.2.2) (r2, r3, 0)) fun (old4 : Int) (now4 : Int) =>
        some ((decide (old4 = 0)) && (decide (now4 = 0)))
      )
    )
  )
noncomputable def delta_writer_flush (w1 : Delta_Writer) : Option (Delta_Writer) :=
  bnd1 (
    if (decide (0 < (w1.add.length : Int))) then (
      bnd1 (app 64 w1.out [(GStep.mk 1 0 [] w1.add)]) fun (l2 : List GStep) =>
      some (Delta_Writer.mk l2 w1.add w1.cut)
    ) else (
      some w1
    )
  ) fun (w2 : Delta_Writer) =>
  bnd1 (
    if (decide (0 < w2.cut)) then (
      bnd1 (app 64 w2.out [(GStep.mk 2 w2.cut [] [])]) fun (l1 : List GStep) =>
      some (Delta_Writer.mk l1 w2.add w2.cut)
    ) else (
      some w2
    )
  ) fun (w3 : Delta_Writer) =>
  some (Delta_Writer.mk w3.out [] 0)
noncomputable def delta_writer_keep (w1 : Delta_Writer) (n1 : Int) (attrs1 : List GAttr) : Option (Delta_Writer) :=
  if (decide (n1 = 0)) then (
    some w1
  ) else (
    bnd1 (delta_writer_flush w1) fun (w2 : Delta_Writer) =>
    bnd1 (chk .i64 ((w2.out.length : Int) - 1)) fun (k1 : Int) =>
    bnd1 (gd ((decide (0 ≤ k1)) == true) (idx w2.out k1)) fun (x1 : GStep) =>
    bnd1 (gd (((decide (0 ≤ k1)) && (decide (x1.Kind = 0))) == true) (idx w2.out k1)) fun (x2 : GStep) =>
    bnd1 (gd (((decide (0 ≤ k1)) && (decide (x1.Kind = 0))) == true) (attr_Same x2.Attrs attrs1)) fun (r1 : Bool) =>
    if (((decide (0 ≤ k1)) && (decide (x1.Kind = 0))) && r1) then (
      bnd1 (idx w2.out k1) fun (x3 : GStep) =>
      bnd1 (chk .i64 (x3.N + n1)) fun (x4 : Int) =>
      some (Delta_Writer.mk (w2.out.set k1.toNat (GStep.mk x3.Kind x4 x3.Attrs x3.Elems)) [] w2.cut)
    ) else (
      bnd1 (app 32 [] attrs1) fun (l1 : List GAttr) =>
      bnd1 (app 64 w2.out [(GStep.mk 0 n1 l1 [])]) fun (l2 : List GStep) =>
      some (Delta_Writer.mk l2 [] w2.cut)
    )
  )
noncomputable def delta_writer_elems (w1 : Delta_Writer) (l1 : List GElem) : Option (Delta_Writer) :=
  bnd1 (flow_Copy l1) fun (r1 : List GElem) =>
  bnd1 (app 40 w1.add r1) fun (l2 : List GElem) =>
  some (Delta_Writer.mk w1.out l2 w1.cut)
noncomputable def delta_writer_done (w1 : Delta_Writer) : Option ((List GStep) × Int × Delta_Writer) :=
  bnd1 (delta_writer_flush w1) fun (w2 : Delta_Writer) =>
  bnd1 (delta_Check w2.out) fun (r1 : Int) =>
  if (!decide (r1 = 0)) then (
    some ([], 3, (Delta_Writer.mk w2.out [] w2.cut))
  ) else (
    some (w2.out, 0, (Delta_Writer.mk w2.out [] w2.cut))
  )
noncomputable def delta_Undo_L2 (x5 : GStep) (l1 : List GElem) (x7 : Int) (w8 : Delta_Writer) : Option ((Int × Delta_Writer) ⊕ Delta_Writer) :=
  if (decide (x7 < (l1.length : Int))) then (
    bnd1 (idx l1 x7) fun (x9 : GElem) =>
    bnd1 (attr_Raw x9.Attrs x5.Attrs) fun (r3 : List GAttr) =>
    bnd1 (attr_Change r3 x9.Attrs) fun (r4 : List GAttr) =>
    bnd1 (delta_writer_keep w8 1 r4) fun (w11 : Delta_Writer) =>
    bnd1 (chk .i64 (x7 + 1)) fun (x10 : Int) =>
    some (.inl (x10, w11))
  ) else (
    some (.inr w8)
  )
noncomputable def delta_Undo_L1 (d1 : List GStep) (f3 : List GElem) (x2 : Int) (w2 : Delta_Writer) : Option (((List GElem) × Int × Delta_Writer) ⊕ Delta_Writer) :=
  if (decide (x2 < (d1.length : Int))) then (
    bnd2 (
      bnd1 (idx d1 x2) fun (x5 : GStep) =>
      if (decide (x5.Kind = 0)) then (
        bnd1 (slc f3 0 x5.N) fun (l1 : List GElem) =>
        bnd1 (iter (fun (a : Int × Delta_Writer) => delta_Undo_L2 x5 l1 a.1 a.2) (0, w2)) fun (w10 : Delta_Writer) =>
        bnd1 (slc f3 x5.N (f3.length : Int)) fun (f6 : List GElem) =>
        some (f6, w10)
      ) else (
        if (decide (x5.Kind = 1)) then (
          bnd1 (chk .i64 (w2.cut + (x5.Elems.length : Int))) fun (x11 : Int) =>
          some (f3, (Delta_Writer.mk w2.out w2.add x11))
        ) else (
          bnd1 (slc f3 0 x5.N) fun (l2 : List GElem) =>
          bnd1 (delta_writer_elems w2 l2) fun (w12 : Delta_Writer) =>
          bnd1 (slc f3 x5.N (f3.length : Int)) fun (f7 : List GElem) =>
          some (f7, w12)
        )
      )
    ) fun (f5 : List GElem) (w6 : Delta_Writer) =>
    bnd1 (chk .i64 (x2 + 1)) fun (x4 : Int) =>
    some (.inl (f5, x4, w6))
  ) else (
    some (.inr w2)
  )
noncomputable def delta_Undo (f1 : List GElem) (d1 : List GStep) : Option ((List GStep) × Int) :=
  bnd1 (delta_fits f1 d1) fun (e1 : Int) =>
  if (!decide (e1 = 0)) then (
    some ([], e1)
  ) else (
    bnd1 (iter (fun (a : (List GElem) × Int × Delta_Writer) => delta_Undo_L1 d1 a.1 a.2.1 a.2.2) (f1, 0, (Delta_Writer.mk [] [] 0))) fun (w4 : Delta_Writer) =>
    bnd3 (delta_writer_done w4) fun (r1 : List GStep) (r2 : Int) (w5 : Delta_Writer) =>
    some (r1, r2)
  )
noncomputable def ref_DeltaSize_L1 (d1 : List GStep) (n2 : Int) (x2 : Int) : Option ((Int × Int) ⊕ Int) :=
  if (decide (x2 < (d1.length : Int))) then (
    bnd1 (idx d1 x2) fun (x4 : GStep) =>
    bnd1 (chk .i64 (n2 + x4.N)) fun (n5 : Int) =>
    bnd1 (chk .i64 (x2 + 1)) fun (x5 : Int) =>
    some (.inl (n5, x5))
  ) else (
    some (.inr n2)
  )
noncomputable def ref_DeltaSize (d1 : List GStep) : Option (Int) :=
  bnd1 (iter (fun (a : Int × Int) => ref_DeltaSize_L1 d1 a.1 a.2) (0, 0)) fun (n4 : Int) =>
  some n4
noncomputable def law_fitError (f1 : List GElem) (d1 : List GStep) : Option (Int) :=
  bnd1 (ref_PartError f1) fun (e1 : Int) =>
  if (!decide (e1 = 0)) then (
    some e1
  ) else (
    bnd1 (ref_DeltaError d1) fun (e2 : Int) =>
    if (!decide (e2 = 0)) then (
      some e2
    ) else (
      bnd1 (ref_DeltaSize d1) fun (r1 : Int) =>
      if (!decide (r1 = (f1.length : Int))) then (
        some 14
      ) else (
        some 0
      )
    )
  )
noncomputable def ref_Done_L1 (f1 : List GElem) (a1 : Ref_Act) (x2 : Int) (out2 : List GElem) : Option ((Int × (List GElem)) ⊕ (List GElem)) :=
  if (decide (x2 < (f1.length : Int))) then (
    bnd1 (
      bnd1 (idx a1.Adds x2) fun (x6 : List GElem) =>
      bnd1 (app 40 out2 x6) fun (out6 : List GElem) =>
      bnd1 (idx a1.Cuts x2) fun (x7 : Bool) =>
      if (!x7) then (
        bnd1 (idx f1 x2) fun (x8 : GElem) =>
        bnd1 (idx a1.Attrs x2) fun (x9 : List GAttr) =>
        bnd1 (ref_Changed x8.Attrs x9) fun (r1 : List GAttr) =>
        bnd1 (app 40 out6 [(GElem.mk x8.Char x8.Ref r1)]) fun (out7 : List GElem) =>
        some out7
      ) else (
        some out6
      )
    ) fun (out5 : List GElem) =>
    bnd1 (chk .i64 (x2 + 1)) fun (x5 : Int) =>
    some (.inl (x5, out5))
  ) else (
    some (.inr out2)
  )
noncomputable def ref_Done (f1 : List GElem) (a1 : Ref_Act) : Option ((List GElem)) :=
  bnd1 (iter (fun (a : Int × (List GElem)) => ref_Done_L1 f1 a1 a.1 a.2) (0, [])) fun (out4 : List GElem) =>
  bnd1 (idx a1.Adds (f1.length : Int)) fun (x4 : List GElem) =>
  bnd1 (app 40 out4 x4) fun (l1 : List GElem) =>
  some l1
noncomputable def ref_SameElem (a1 : GElem) (b1 : GElem) : Option (Bool) :=
  bnd1 (gd (((decide (a1.Char = b1.Char)) && (decide (a1.Ref = b1.Ref))) == true) (ref_SameAttrs a1.Attrs b1.Attrs)) fun (r1 : Bool) =>
  some (((decide (a1.Char = b1.Char)) && (decide (a1.Ref = b1.Ref))) && r1)
noncomputable def ref_SameFlow_L1 (a1 : List GElem) (b1 : List GElem) (x2 : Int) : Option (Int ⊕ (Ctl Unit Bool)) :=
  if (decide (x2 < (a1.length : Int))) then (
    bnd1 (idx a1 x2) fun (x4 : GElem) =>
    bnd1 (idx b1 x2) fun (x5 : GElem) =>
    bnd1 (ref_SameElem x4 x5) fun (r1 : Bool) =>
    if (!r1) then (
      some (.inr (.ext false))
    ) else (
      bnd1 (chk .i64 (x2 + 1)) fun (x6 : Int) =>
      some (.inl x6)
    )
  ) else (
    some (.inr (.nrm ()))
  )
noncomputable def ref_SameFlow (a1 : List GElem) (b1 : List GElem) : Option (Bool) :=
  if (!decide ((a1.length : Int) = (b1.length : Int))) then (
    some false
  ) else (
    ctl1 (iter (fun (a : Int) => ref_SameFlow_L1 a1 b1 a) 0) fun (u2 : Unit) =>
    some true
  )
noncomputable def ref_Back_L2 (x1 : List GElem) (x3 : Int) (out7 : Ref_Act) : Option ((Int × Ref_Act) ⊕ Ref_Act) :=
  if (decide (x3 < (x1.length : Int))) then (
    bnd1 (app 24 out7.Adds [[]]) fun (l6 : List (List GElem)) =>
    bnd1 (app 1 out7.Cuts [true]) fun (l7 : List Bool) =>
    bnd1 (app 24 out7.Attrs [[]]) fun (l8 : List (List GAttr)) =>
    bnd1 (chk .i64 (x3 + 1)) fun (x10 : Int) =>
    some (.inl (x10, (Ref_Act.mk l6 l7 l8)))
  ) else (
    some (.inr out7)
  )
noncomputable def ref_Back_L1 (f1 : List GElem) (a1 : Ref_Act) (i4 : Int) (out2 : Ref_Act) : Option ((Int × Ref_Act) ⊕ Ref_Act) :=
  if (decide (i4 ≤ (f1.length : Int))) then (
    ctl1 (
      bnd1 (idx a1.Adds i4) fun (x1 : List GElem) =>
      bnd1 (iter (fun (a : Int × Ref_Act) => ref_Back_L2 x1 a.1 a.2) (0, out2)) fun (out9 : Ref_Act) =>
      if (decide (i4 = (f1.length : Int))) then (
        some (.ext (.inr out9))
      ) else (
        bnd1 (chk .i64 ((out9.Adds.length : Int) - 1)) fun (k1 : Int) =>
        bnd1 (idx a1.Cuts i4) fun (x5 : Bool) =>
        if x5 then (
          bnd1 (idx out9.Adds k1) fun (x6 : List GElem) =>
          bnd1 (app 40 [] x6) fun (l1 : List GElem) =>
          bnd1 (idx f1 i4) fun (x7 : GElem) =>
          bnd1 (app 40 l1 [x7]) fun (l2 : List GElem) =>
          some (.nrm (Ref_Act.mk (out9.Adds.set k1.toNat l2) out9.Cuts out9.Attrs))
        ) else (
          bnd1 (idx f1 i4) fun (x8 : GElem) =>
          bnd1 (idx a1.Attrs i4) fun (x9 : List GAttr) =>
          bnd1 (ref_Changed x8.Attrs x9) fun (r1 : List GAttr) =>
          bnd1 (ref_Between r1 x8.Attrs) fun (change1 : List GAttr) =>
          bnd1 (app 24 out9.Adds [[]]) fun (l3 : List (List GElem)) =>
          bnd1 (app 1 out9.Cuts [false]) fun (l4 : List Bool) =>
          bnd1 (app 24 out9.Attrs [change1]) fun (l5 : List (List GAttr)) =>
          some (.nrm (Ref_Act.mk l3 l4 l5))
        )
      )
    ) fun (out5 : Ref_Act) =>
    bnd1 (chk .i64 (i4 + 1)) fun (i10 : Int) =>
    some (.inl (i10, out5))
  ) else (
    some (.inr out2)
  )
noncomputable def ref_Back (f1 : List GElem) (a1 : Ref_Act) : Option (Ref_Act) :=
  bnd1 (iter (fun (a : Int × Ref_Act) => ref_Back_L1 f1 a1 a.1 a.2) (0, (Ref_Act.mk [[]] [] []))) fun (out4 : Ref_Act) =>
  some out4
noncomputable def ref_SameDelta_L1 (a1 : List GStep) (b1 : List GStep) (x2 : Int) : Option (Int ⊕ (Ctl Unit Bool)) :=
  if (decide (x2 < (a1.length : Int))) then (
    bnd1 (idx a1 x2) fun (x4 : GStep) =>
    bnd1 (idx b1 x2) fun (x5 : GStep) =>
    bnd1 (gd (((!decide (x4.Kind = x5.Kind)) || (!decide (x4.N = x5.N))) == false) (ref_SameAttrs x4.Attrs x5.Attrs)) fun (r1 : Bool) =>
    bnd1 (gd ((((!decide (x4.Kind = x5.Kind)) || (!decide (x4.N = x5.N))) || (!r1)) == false) (ref_SameFlow x4.Elems x5.Elems)) fun (r2 : Bool) =>
    if ((((!decide (x4.Kind = x5.Kind)) || (!decide (x4.N = x5.N))) || (!r1)) || (!r2)) then (
      some (.inr (.ext false))
    ) else (
      bnd1 (chk .i64 (x2 + 1)) fun (x6 : Int) =>
      some (.inl x6)
    )
  ) else (
    some (.inr (.nrm ()))
  )
noncomputable def ref_SameDelta (a1 : List GStep) (b1 : List GStep) : Option (Bool) :=
  if (!decide ((a1.length : Int) = (b1.length : Int))) then (
    some false
  ) else (
    ctl1 (iter (fun (a : Int) => ref_SameDelta_L1 a1 b1 a) 0) fun (u2 : Unit) =>
    some true
  )
noncomputable def law_DeltaApplyMatches (f1 : List GElem) (d1 : List GStep) : Option (Bool) :=
  bnd1 (law_deltas) fun (r1 : Bool) =>
  if (!r1) then (
    some false
  ) else (
    bnd2 (delta_Apply f1 d1) fun (r2 : List GElem) (r3 : Int) =>
    bnd2 (delta_Undo f1 d1) fun (r4 : List GStep) (r5 : Int) =>
    bnd1 (law_fitError f1 d1) fun (p1 : Int) =>
    if (!decide (p1 = 0)) then (
      bnd1 (gd (((decide (r3 = p1)) && (decide (r5 = p1))) == true) (chk .i64 ((r2.length : Int) + (r4.length : Int)))) fun (x1 : Int) =>
      some (((decide (r3 = p1)) && (decide (r5 = p1))) && (decide (x1 = 0)))
    ) else (
      bnd1 (ref_ActOf d1) fun (r6 : Ref_Act) =>
      bnd1 (
        if (((decide (r3 = 0)) && (decide (r5 = 0))) == true) then (
          bnd1 (ref_Done f1 r6) fun (r7 : List GElem) =>
          bnd1 (ref_SameFlow r2 r7) fun (r8 : Bool) =>
          if ((((decide (r3 = 0)) && (decide (r5 = 0))) && r8) == true) then (
            bnd1 (ref_Back f1 r6) fun (r9 : Ref_Act) =>
            bnd1 (ref_DeltaOf r9) fun (r10 : List GStep) =>
            bnd1 (ref_SameDelta r4 r10) fun (r11 : Bool) =>
            some ((((decide (r3 = 0)) && (decide (r5 = 0))) && r8) && r11)
          ) else (
            some ((((decide (r3 = 0)) && (decide (r5 = 0))) && r8) && false)
          )
        ) else (
          if ((((decide (r3 = 0)) && (decide (r5 = 0))) && false) == true) then (
            bnd1 (ref_Back f1 r6) fun (r12 : Ref_Act) =>
            bnd1 (ref_DeltaOf r12) fun (r13 : List GStep) =>
            bnd1 (ref_SameDelta r4 r13) fun (r14 : Bool) =>
            some ((((decide (r3 = 0)) && (decide (r5 = 0))) && false) && r14)
          ) else (
            some ((((decide (r3 = 0)) && (decide (r5 = 0))) && false) && false)
          )
        )
      ) fun (x2 : Bool) =>
      some x2
    )
  )
noncomputable def delta_reader_kind (w1 : Delta_Reader) : Option (Int) :=
  if (decide ((w1.steps.length : Int) = 0)) then (
    some (-1)
  ) else (
    bnd1 (idx w1.steps 0) fun (x1 : GStep) =>
    some x1.Kind
  )
noncomputable def delta_reader_left (w1 : Delta_Reader) : Option (Int) :=
  bnd1 (idx w1.steps 0) fun (x1 : GStep) =>
  bnd1 (delta_size x1) fun (r1 : Int) =>
  bnd1 (chk .i64 (r1 - w1.used)) fun (x2 : Int) =>
  some x2
noncomputable def delta_reader_take (w1 : Delta_Reader) (n1 : Int) : Option (GStep × Delta_Reader) :=
  bnd1 (idx w1.steps 0) fun (x1 : GStep) =>
  bnd1 (
    if (decide (x1.Kind = 1)) then (
      bnd1 (chk .i64 (w1.used + n1)) fun (x3 : Int) =>
      bnd1 (slc x1.Elems w1.used x3) fun (l2 : List GElem) =>
      some (GStep.mk x1.Kind x1.N x1.Attrs l2)
    ) else (
      some (GStep.mk x1.Kind n1 x1.Attrs x1.Elems)
    )
  ) fun (s1 : GStep) =>
  bnd1 (chk .i64 (w1.used + n1)) fun (x2 : Int) =>
  bnd1 (delta_size x1) fun (r1 : Int) =>
  bnd1 (
    if (decide (x2 = r1)) then (
      bnd1 (slc w1.steps 1 (w1.steps.length : Int)) fun (l1 : List GStep) =>
      some (Delta_Reader.mk l1 0)
    ) else (
      some (Delta_Reader.mk w1.steps x2)
    )
  ) fun (r2 : Delta_Reader) =>
  some (s1, r2)
noncomputable def delta_Pair_L1 (x2 : Delta_Writer) (y2 : Delta_Writer) (p2 : Delta_Reader) (q2 : Delta_Reader) : Option ((Delta_Writer × Delta_Writer × Delta_Reader × Delta_Reader) ⊕ (Delta_Writer × Delta_Writer)) :=
  bnd1 (delta_reader_kind p2) fun (r9 : Int) =>
  bnd1 (
    if ((decide (0 ≤ r9)) == false) then (
      bnd1 (delta_reader_kind q2) fun (r21 : Int) =>
      some ((decide (0 ≤ r9)) || (decide (0 ≤ r21)))
    ) else (
      some ((decide (0 ≤ r9)) || false)
    )
  ) fun (x5 : Bool) =>
  if x5 then (
    if (decide (r9 = 1)) then (
      bnd1 (delta_reader_left p2) fun (r11 : Int) =>
      bnd2 (delta_reader_take p2 r11) fun (r12 : GStep) (w3 : Delta_Reader) =>
      bnd1 (delta_writer_elems x2 r12.Elems) fun (w4 : Delta_Writer) =>
      bnd1 (delta_writer_keep y2 (r12.Elems.length : Int) []) fun (w5 : Delta_Writer) =>
      some (.inl (w4, w5, w3, q2))
    ) else (
      bnd1 (delta_reader_kind q2) fun (r13 : Int) =>
      if (decide (r13 = 1)) then (
        bnd1 (delta_reader_left q2) fun (r14 : Int) =>
        bnd2 (delta_reader_take q2 r14) fun (r15 : GStep) (w6 : Delta_Reader) =>
        bnd1 (delta_writer_keep x2 (r15.Elems.length : Int) []) fun (w7 : Delta_Writer) =>
        bnd1 (delta_writer_elems y2 r15.Elems) fun (w8 : Delta_Writer) =>
        some (.inl (w7, w8, p2, w6))
      ) else (
        bnd1 (delta_reader_left p2) fun (r16 : Int) =>
        bnd1 (delta_reader_left q2) fun (r17 : Int) =>
        bnd2 (delta_reader_take p2 (min r16 r17)) fun (r18 : GStep) (w9 : Delta_Reader) =>
        bnd2 (delta_reader_take q2 (min r16 r17)) fun (r19 : GStep) (w10 : Delta_Reader) =>
        if ((decide (r18.Kind = 0)) && (decide (r19.Kind = 0))) then (
          bnd1 (attr_Without r18.Attrs r19.Attrs) fun (r20 : List GAttr) =>
          bnd1 (delta_writer_keep x2 (min r16 r17) r20) fun (w11 : Delta_Writer) =>
          bnd1 (delta_writer_keep y2 (min r16 r17) r19.Attrs) fun (w12 : Delta_Writer) =>
          some (.inl (w11, w12, w9, w10))
        ) else (
          if (decide (r18.Kind = 0)) then (
            bnd1 (chk .i64 (y2.cut + (min r16 r17))) fun (x6 : Int) =>
            some (.inl (x2, (Delta_Writer.mk y2.out y2.add x6), w9, w10))
          ) else (
            if (decide (r19.Kind = 0)) then (
              bnd1 (chk .i64 (x2.cut + (min r16 r17))) fun (x7 : Int) =>
              some (.inl ((Delta_Writer.mk x2.out x2.add x7), y2, w9, w10))
            ) else (
              some (.inl (x2, y2, w9, w10))
            )
          )
        )
      )
    )
  ) else (
    some (.inr (x2, y2))
  )
noncomputable def delta_Pair (a1 : List GStep) (b1 : List GStep) : Option ((List GStep) × (List GStep) × Int) :=
  bnd1 (delta_Check a1) fun (e1 : Int) =>
  if (!decide (e1 = 0)) then (
    some ([], [], e1)
  ) else (
    bnd1 (delta_Check b1) fun (e2 : Int) =>
    if (!decide (e2 = 0)) then (
      some ([], [], e2)
    ) else (
      bnd2 (delta_lengths a1) fun (r1 : Int) (r2 : Int) =>
      bnd2 (delta_lengths b1) fun (r3 : Int) (r4 : Int) =>
      if (!decide (r1 = r3)) then (
        some ([], [], 14)
      ) else (
        bnd2 (iter (fun (a : Delta_Writer × Delta_Writer × Delta_Reader × Delta_Reader) => delta_Pair_L1 a.1 a.2.1 a.2.2.1 a.2.2.2) ((Delta_Writer.mk [] [] 0), (Delta_Writer.mk [] [] 0), (Delta_Reader.mk a1 0), (Delta_Reader.mk b1 0))) fun (x4 : Delta_Writer) (y4 : Delta_Writer) =>
        bnd3 (delta_writer_done x4) fun (r5 : List GStep) (r6 : Int) (w1 : Delta_Writer) =>
        bnd3 (delta_writer_done y4) fun (r7 : List GStep) (r8 : Int) (w2 : Delta_Writer) =>
        if ((!decide (r6 = 0)) || (!decide (r8 = 0))) then (
          some ([], [], 3)
        ) else (
          some (r5, r7, 0)
        )
      )
    )
  )
noncomputable def law_short (d1 : List GStep) : Option (Bool) :=
  bnd1 (ref_DeltaSize d1) fun (r1 : Int) =>
  some (decide (r1 ≤ 300))
noncomputable def law_DeltaPairMatches (a1 : List GStep) (b1 : List GStep) : Option (Bool) :=
  bnd1 (law_deltas) fun (r1 : Bool) =>
  if (!r1) then (
    some false
  ) else (
    bnd3 (delta_Pair a1 b1) fun (r2 : List GStep) (r3 : List GStep) (r4 : Int) =>
    bnd1 (ref_DeltaError a1) fun (f1 : Int) =>
    bnd1 (
      if (decide (f1 = 0)) then (
        bnd1 (ref_DeltaError b1) fun (f3 : Int) =>
        some f3
      ) else (
        some f1
      )
    ) fun (f2 : Int) =>
    if (!decide (f2 = 0)) then (
      bnd1 (gd ((decide (r4 = f2)) == true) (chk .i64 ((r2.length : Int) + (r3.length : Int)))) fun (x1 : Int) =>
      some ((decide (r4 = f2)) && (decide (x1 = 0)))
    ) else (
      bnd1 (law_short a1) fun (r5 : Bool) =>
      bnd1 (gd ((!r5) == false) (law_short b1)) fun (r6 : Bool) =>
      if ((!r5) || (!r6)) then (
        bnd1 (gd ((decide (r4 = 0)) == false) (chk .i64 ((r2.length : Int) + (r3.length : Int)))) fun (x2 : Int) =>
        some ((decide (r4 = 0)) || (decide (x2 = 0)))
      ) else (
        bnd1 (ref_ActOf a1) fun (r7 : Ref_Act) =>
        bnd1 (ref_ActOf b1) fun (r8 : Ref_Act) =>
        if (!decide ((r7.Cuts.length : Int) = (r8.Cuts.length : Int))) then (
          bnd1 (gd ((decide (r4 = 14)) == true) (chk .i64 ((r2.length : Int) + (r3.length : Int)))) fun (x3 : Int) =>
          some ((decide (r4 = 14)) && (decide (x3 = 0)))
        ) else (
          bnd1 (
            if ((decide (r4 = 0)) == true) then (
              bnd1 (ref_Behind r7 r8 true) fun (r9 : Ref_Act) =>
              bnd1 (ref_DeltaOf r9) fun (r10 : List GStep) =>
              bnd1 (ref_SameDelta r2 r10) fun (r11 : Bool) =>
              if (((decide (r4 = 0)) && r11) == true) then (
                bnd1 (ref_Behind r8 r7 false) fun (r12 : Ref_Act) =>
                bnd1 (ref_DeltaOf r12) fun (r13 : List GStep) =>
                bnd1 (ref_SameDelta r3 r13) fun (r14 : Bool) =>
                some (((decide (r4 = 0)) && r11) && r14)
              ) else (
                some (((decide (r4 = 0)) && r11) && false)
              )
            ) else (
              if (((decide (r4 = 0)) && false) == true) then (
                bnd1 (ref_Behind r8 r7 false) fun (r15 : Ref_Act) =>
                bnd1 (ref_DeltaOf r15) fun (r16 : List GStep) =>
                bnd1 (ref_SameDelta r3 r16) fun (r17 : Bool) =>
                some (((decide (r4 = 0)) && false) && r17)
              ) else (
                some (((decide (r4 = 0)) && false) && false)
              )
            )
          ) fun (x4 : Bool) =>
          some x4
        )
      )
    )
  )
noncomputable def flow_Check_L1 (f1 : List GElem) (text1 : Bool) (x2 : Int) : Option (Int ⊕ (Ctl Unit Int)) :=
  if (decide (x2 < (f1.length : Int))) then (
    bnd1 (idx f1 x2) fun (x6 : GElem) =>
    bnd1 (flow_elem x6) fun (e1 : Int) =>
    if (!decide (e1 = 0)) then (
      some (.inr (.ext e1))
    ) else (
      if ((!text1) && (decide (x6.Ref = 0))) then (
        some (.inr (.ext 8))
      ) else (
        bnd1 (chk .i64 (x2 + 1)) fun (x7 : Int) =>
        some (.inl x7)
      )
    )
  ) else (
    some (.inr (.nrm ()))
  )
noncomputable def flow_Check (f1 : List GElem) (text1 : Bool) : Option (Int) :=
  ctl1 (iter (fun (a : Int) => flow_Check_L1 f1 text1 a) 0) fun (u2 : Unit) =>
  bnd1 (gd ((text1 == true) && ((decide ((f1.length : Int) = 0)) == false)) (chk .i64 ((f1.length : Int) - 1))) fun (x4 : Int) =>
  bnd1 (gd ((text1 == true) && ((decide ((f1.length : Int) = 0)) == false)) (idx f1 x4)) fun (x5 : GElem) =>
  if (text1 && ((decide ((f1.length : Int) = 0)) || (!decide (x5.Char = 10)))) then (
    some 11
  ) else (
    some 0
  )
noncomputable def delta_Tidy_L1 (d1 : List GStep) (x2 : Int) (w2 : Delta_Writer) : Option ((Int × Delta_Writer) ⊕ (Ctl Delta_Writer ((List GStep) × Int))) :=
  if (decide (x2 < (d1.length : Int))) then (
    ctl1 (
      bnd1 (idx d1 x2) fun (x5 : GStep) =>
      bnd1 (delta_step x5) fun (e1 : Int) =>
      bnd1 (
        if ((((decide (x5.Kind = 1)) && (decide ((x5.Elems.length : Int) = 0))) && (decide (e1 = 11))) || (((!decide (x5.Kind = 1)) && (decide (x5.N = 0))) && (decide (e1 = 2)))) then (
          bnd1 (attr_CheckChange x5.Attrs) fun (e3 : Int) =>
          some e3
        ) else (
          some e1
        )
      ) fun (e2 : Int) =>
      if (!decide (e2 = 0)) then (
        some (.ext (.inr (.ext ([], e2))))
      ) else (
        if (decide (x5.Kind = 0)) then (
          bnd1 (delta_writer_keep w2 x5.N x5.Attrs) fun (w7 : Delta_Writer) =>
          some (.nrm w7)
        ) else (
          if (decide (x5.Kind = 1)) then (
            bnd1 (delta_writer_elems w2 x5.Elems) fun (w8 : Delta_Writer) =>
            some (.nrm w8)
          ) else (
            bnd1 (chk .i64 (w2.cut + x5.N)) fun (x6 : Int) =>
            if (decide (2147483647 < x6)) then (
              some (.ext (.inr (.ext ([], 3))))
            ) else (
              some (.nrm (Delta_Writer.mk w2.out w2.add x6))
            )
          )
        )
      )
    ) fun (w6 : Delta_Writer) =>
    bnd1 (chk .i64 (x2 + 1)) fun (x4 : Int) =>
    some (.inl (x4, w6))
  ) else (
    some (.inr (.nrm w2))
  )
noncomputable def delta_Tidy (d1 : List GStep) : Option ((List GStep) × Int) :=
  ctl1 (iter (fun (a : Int × Delta_Writer) => delta_Tidy_L1 d1 a.1 a.2) (0, (Delta_Writer.mk [] [] 0))) fun (w4 : Delta_Writer) =>
  bnd3 (delta_writer_done w4) fun (r1 : List GStep) (r2 : Int) (w5 : Delta_Writer) =>
  some (r1, r2)
noncomputable def track_settle_L1 (f1 : List GElem) (from1 : Int) (to1 : Int) (kept1 : List UInt8) (lost1 : List UInt8) (x2 : Int) (out2 : List GStep) : Option ((Int × (List GStep)) ⊕ (List GStep)) :=
  if (decide (x2 < (f1.length : Int))) then (
    bnd1 (idx f1 x2) fun (x4 : GElem) =>
    bnd1 (
      if ((decide (from1 ≤ x2)) && (decide (x2 < to1))) then (
        bnd1 (attr_Get x4.Attrs lost1) fun (r3 : List UInt8) =>
        bnd1 (gd ((!decide (r3 = [])) == true) (chk .i64 ((f1.length : Int) - 1))) fun (x6 : Int) =>
        if ((!decide (r3 = [])) && (decide (x2 < x6))) then (
          some (GStep.mk 2 1 [] [])
        ) else (
          bnd1 (attr_Get x4.Attrs kept1) fun (r4 : List UInt8) =>
          bnd1 (
            if (!decide (r4 = [])) then (
              bnd1 (app 32 [] [(GAttr.mk kept1 [])]) fun (l2 : List GAttr) =>
              some (GStep.mk 0 1 l2 [])
            ) else (
              some (GStep.mk 0 1 [] [])
            )
          ) fun (s2 : GStep) =>
          bnd1 (
            if (!decide (r3 = [])) then (
              bnd1 (app 32 s2.Attrs [(GAttr.mk lost1 [])]) fun (l1 : List GAttr) =>
              some (GStep.mk s2.Kind s2.N l1 [])
            ) else (
              some (GStep.mk s2.Kind s2.N s2.Attrs [])
            )
          ) fun (s3 : GStep) =>
          if (decide ((s3.Attrs.length : Int) = 2)) then (
            some (GStep.mk s3.Kind s3.N [(GAttr.mk [97, 100, 100] []), (GAttr.mk [99, 117, 116] [])] [])
          ) else (
            some (GStep.mk s3.Kind s3.N s3.Attrs [])
          )
        )
      ) else (
        some (GStep.mk 0 1 [] [])
      )
    ) fun (s1 : GStep) =>
    bnd1 (app 64 out2 [(GStep.mk s1.Kind s1.N s1.Attrs [])]) fun (out5 : List GStep) =>
    bnd1 (chk .i64 (x2 + 1)) fun (x5 : Int) =>
    some (.inl (x5, out5))
  ) else (
    some (.inr out2)
  )
noncomputable def track_settle (f1 : List GElem) (from1 : Int) (to1 : Int) (kept1 : List UInt8) (lost1 : List UInt8) : Option ((List GStep) × Int) :=
  bnd1 (flow_Check f1 true) fun (e1 : Int) =>
  if (!decide (e1 = 0)) then (
    some ([], e1)
  ) else (
    if (((decide (from1 < 0)) || (decide (to1 < from1))) || (decide ((f1.length : Int) < to1))) then (
      some ([], 2)
    ) else (
      bnd1 (iter (fun (a : Int × (List GStep)) => track_settle_L1 f1 from1 to1 kept1 lost1 a.1 a.2) (0, [])) fun (out4 : List GStep) =>
      bnd2 (delta_Tidy out4) fun (r1 : List GStep) (r2 : Int) =>
      some (r1, r2)
    )
  )
noncomputable def track_Accept (f1 : List GElem) (from1 : Int) (to1 : Int) : Option ((List GStep) × Int) :=
  bnd2 (track_settle f1 from1 to1 [97, 100, 100] [99, 117, 116]) fun (r1 : List GStep) (r2 : Int) =>
  some (r1, r2)
noncomputable def track_Reject (f1 : List GElem) (from1 : Int) (to1 : Int) : Option ((List GStep) × Int) :=
  bnd2 (track_settle f1 from1 to1 [99, 117, 116] [97, 100, 100]) fun (r1 : List GStep) (r2 : Int) =>
  some (r1, r2)
noncomputable def ref_FlowError_L1 (f1 : List GElem) (text1 : Bool) (x2 : Int) : Option (Int ⊕ (Ctl Unit Int)) :=
  if (decide (x2 < (f1.length : Int))) then (
    bnd1 (idx f1 x2) fun (x6 : GElem) =>
    bnd1 (ref_ElemError x6) fun (e1 : Int) =>
    if (!decide (e1 = 0)) then (
      some (.inr (.ext e1))
    ) else (
      if ((!text1) && (!decide (x6.Char = 0))) then (
        some (.inr (.ext 8))
      ) else (
        bnd1 (chk .i64 (x2 + 1)) fun (x7 : Int) =>
        some (.inl x7)
      )
    )
  ) else (
    some (.inr (.nrm ()))
  )
noncomputable def ref_FlowError (f1 : List GElem) (text1 : Bool) : Option (Int) :=
  ctl1 (iter (fun (a : Int) => ref_FlowError_L1 f1 text1 a) 0) fun (u2 : Unit) =>
  bnd1 (gd ((text1 == true) && ((decide ((f1.length : Int) = 0)) == false)) (chk .i64 ((f1.length : Int) - 1))) fun (x4 : Int) =>
  bnd1 (gd ((text1 == true) && ((decide ((f1.length : Int) = 0)) == false)) (idx f1 x4)) fun (x5 : GElem) =>
  if (text1 && ((decide ((f1.length : Int) = 0)) || (!decide (x5.Char = 10)))) then (
    some 11
  ) else (
    some 0
  )
noncomputable def ref_Settled_L1 (f1 : List GElem) (from1 : Int) (to1 : Int) (accept1 : Bool) (x2 : Int) (out2 : List GElem) : Option ((Int × (List GElem)) ⊕ (List GElem)) :=
  if (decide (x2 < (f1.length : Int))) then (
    bnd1 (
      bnd1 (idx f1 x2) fun (x5 : GElem) =>
      if ((decide (x2 < from1)) || (decide (to1 ≤ x2))) then (
        bnd1 (app 40 out2 [x5]) fun (out6 : List GElem) =>
        some out6
      ) else (
        bnd1 (ref_Has x5.Attrs [97, 100, 100]) fun (add1 : Bool) =>
        bnd1 (ref_Has x5.Attrs [99, 117, 116]) fun (cut1 : Bool) =>
        ctl1 (
          bnd1 (gd (((accept1 && cut1) || ((!accept1) && add1)) == true) (chk .i64 ((f1.length : Int) - 1))) fun (x7 : Int) =>
          if (((accept1 && cut1) || ((!accept1) && add1)) && (decide (x2 < x7))) then (
            some (.ext out2)
          ) else (
            if ((accept1 && cut1) || ((!accept1) && add1)) then (
              bnd1 (ref_Changed x5.Attrs [(GAttr.mk [97, 100, 100] []), (GAttr.mk [99, 117, 116] [])]) fun (r1 : List GAttr) =>
              some (.nrm (GElem.mk x5.Char x5.Ref r1))
            ) else (
              if accept1 then (
                bnd1 (ref_Changed x5.Attrs [(GAttr.mk [97, 100, 100] [])]) fun (r2 : List GAttr) =>
                some (.nrm (GElem.mk x5.Char x5.Ref r2))
              ) else (
                bnd1 (ref_Changed x5.Attrs [(GAttr.mk [99, 117, 116] [])]) fun (r3 : List GAttr) =>
                some (.nrm (GElem.mk x5.Char x5.Ref r3))
              )
            )
          )
        ) fun (x6 : GElem) =>
        bnd1 (app 40 out2 [x6]) fun (out7 : List GElem) =>
        some out7
      )
    ) fun (out5 : List GElem) =>
    bnd1 (chk .i64 (x2 + 1)) fun (x4 : Int) =>
    some (.inl (x4, out5))
  ) else (
    some (.inr out2)
  )
noncomputable def ref_Settled (f1 : List GElem) (from1 : Int) (to1 : Int) (accept1 : Bool) : Option ((List GElem)) :=
  bnd1 (iter (fun (a : Int × (List GElem)) => ref_Settled_L1 f1 from1 to1 accept1 a.1 a.2) (0, [])) fun (out4 : List GElem) =>
  some out4
noncomputable def law_exact_L1 (f1 : List GElem) (r3 : Ref_Act) (x2 : Int) : Option (Int ⊕ (Ctl Unit Bool)) :=
  if (decide (x2 < (f1.length : Int))) then (
    bnd1 (idx f1 x2) fun (x4 : GElem) =>
    bnd1 (idx r3.Attrs x2) fun (x5 : List GAttr) =>
    bnd1 (ref_Changed x4.Attrs x5) fun (r7 : List GAttr) =>
    bnd1 (ref_Between x4.Attrs r7) fun (r8 : List GAttr) =>
    if (!decide ((r8.length : Int) = (x5.length : Int))) then (
      some (.inr (.ext false))
    ) else (
      bnd1 (chk .i64 (x2 + 1)) fun (x6 : Int) =>
      some (.inl x6)
    )
  ) else (
    some (.inr (.nrm ()))
  )
noncomputable def law_exact (f1 : List GElem) (d1 : List GStep) (want1 : List GElem) : Option (Bool) :=
  bnd1 (ref_DeltaError d1) fun (r1 : Int) =>
  bnd1 (gd ((!decide (r1 = 0)) == false) (ref_DeltaSize d1)) fun (r2 : Int) =>
  if ((!decide (r1 = 0)) || (!decide (r2 = (f1.length : Int)))) then (
    some false
  ) else (
    bnd1 (ref_ActOf d1) fun (r3 : Ref_Act) =>
    ctl1 (iter (fun (a : Int) => law_exact_L1 f1 r3 a) 0) fun (u2 : Unit) =>
    bnd2 (delta_Apply f1 d1) fun (r4 : List GElem) (r5 : Int) =>
    bnd1 (gd ((decide (r5 = 0)) == true) (ref_SameFlow r4 want1)) fun (r6 : Bool) =>
    some ((decide (r5 = 0)) && r6)
  )
noncomputable def law_TrackSettleMatches (f1 : List GElem) (from1 : Int) (to1 : Int) : Option (Bool) :=
  bnd1 (law_tracks) fun (r1 : Bool) =>
  bnd1 (gd ((!r1) == false) (law_deltas)) fun (r2 : Bool) =>
  if ((!r1) || (!r2)) then (
    some false
  ) else (
    bnd2 (track_Accept f1 from1 to1) fun (r3 : List GStep) (r4 : Int) =>
    bnd2 (track_Reject f1 from1 to1) fun (r5 : List GStep) (r6 : Int) =>
    bnd1 (ref_FlowError f1 true) fun (p1 : Int) =>
    bnd1 (
      if ((decide (p1 = 0)) && (((decide (from1 < 0)) || (decide (to1 < from1))) || (decide ((f1.length : Int) < to1)))) then (
        some 2
      ) else (
        some p1
      )
    ) fun (p2 : Int) =>
    if (!decide (p2 = 0)) then (
      bnd1 (gd (((decide (r4 = p2)) && (decide (r6 = p2))) == true) (chk .i64 ((r3.length : Int) + (r5.length : Int)))) fun (x1 : Int) =>
      some (((decide (r4 = p2)) && (decide (r6 = p2))) && (decide (x1 = 0)))
    ) else (
      bnd1 (
        if (((decide (r4 = 0)) && (decide (r6 = 0))) == true) then (
          bnd1 (ref_Settled f1 from1 to1 true) fun (r7 : List GElem) =>
          bnd1 (law_exact f1 r3 r7) fun (r8 : Bool) =>
          if ((((decide (r4 = 0)) && (decide (r6 = 0))) && r8) == true) then (
            bnd1 (ref_Settled f1 from1 to1 false) fun (r9 : List GElem) =>
            bnd1 (law_exact f1 r5 r9) fun (r10 : Bool) =>
            some ((((decide (r4 = 0)) && (decide (r6 = 0))) && r8) && r10)
          ) else (
            some ((((decide (r4 = 0)) && (decide (r6 = 0))) && r8) && false)
          )
        ) else (
          if ((((decide (r4 = 0)) && (decide (r6 = 0))) && false) == true) then (
            bnd1 (ref_Settled f1 from1 to1 false) fun (r11 : List GElem) =>
            bnd1 (law_exact f1 r5 r11) fun (r12 : Bool) =>
            some ((((decide (r4 = 0)) && (decide (r6 = 0))) && false) && r12)
          ) else (
            some ((((decide (r4 = 0)) && (decide (r6 = 0))) && false) && false)
          )
        )
      ) fun (x2 : Bool) =>
      some x2
    )
  )
noncomputable def delta_Axis_L1 (d1 : List GStep) (x2 : Int) (out2 : List GAxisStep) : Option ((Int × (List GAxisStep)) ⊕ (List GAxisStep)) :=
  if (decide (x2 < (d1.length : Int))) then (
    bnd1 (
      bnd1 (idx d1 x2) fun (x5 : GStep) =>
      bnd1 (chk .i64 ((out2.length : Int) - 1)) fun (k1 : Int) =>
      bnd1 (gd (((decide (x5.Kind = 0)) && (decide (0 ≤ k1))) == true) (idx out2 k1)) fun (x6 : GAxisStep) =>
      if (((decide (x5.Kind = 0)) && (decide (0 ≤ k1))) && (decide (x6.Kind = 0))) then (
        bnd1 (idx out2 k1) fun (x7 : GAxisStep) =>
        bnd1 (chk .i64 (x7.N + x5.N)) fun (x8 : Int) =>
        some (out2.set k1.toNat (GAxisStep.mk x7.Kind x8))
      ) else (
        bnd1 (delta_size x5) fun (r1 : Int) =>
        bnd1 (app 16 out2 [(GAxisStep.mk x5.Kind r1)]) fun (out6 : List GAxisStep) =>
        some out6
      )
    ) fun (out5 : List GAxisStep) =>
    bnd1 (chk .i64 (x2 + 1)) fun (x4 : Int) =>
    some (.inl (x4, out5))
  ) else (
    some (.inr out2)
  )
noncomputable def delta_Axis (d1 : List GStep) : Option ((List GAxisStep) × Int) :=
  bnd1 (delta_Check d1) fun (e1 : Int) =>
  if (!decide (e1 = 0)) then (
    some ([], e1)
  ) else (
    bnd1 (iter (fun (a : Int × (List GAxisStep)) => delta_Axis_L1 d1 a.1 a.2) (0, [])) fun (out4 : List GAxisStep) =>
    some (out4, 0)
  )
noncomputable def span_Move (d1 : List GStep) (at1 : Int) (right1 : Bool) : Option (Int × Int) :=
  bnd2 (delta_Axis d1) fun (r1 : List GAxisStep) (r2 : Int) =>
  if (!decide (r2 = 0)) then (
    some (0, r2)
  ) else (
    bnd2 (axis_Gap r1 at1 right1) fun (r3 : Int) (r4 : Int) =>
    some (r3, r4)
  )
noncomputable def span_Through_L1 (l1 : List GSpan) (r1 : List GAxisStep) (x4 : Int) (out2 : List GSpan) : Option ((Int × (List GSpan)) ⊕ (List GSpan)) :=
  if (decide (x4 < (l1.length : Int))) then (
    bnd1 (
      bnd1 (idx l1 x4) fun (x7 : GSpan) =>
      bnd2 (axis_Hull r1 x7.From x7.To) fun (r6 : Int) (r7 : Int) =>
      if (decide (r6 < r7)) then (
        bnd1 (span_add out2 (GSpan.mk r6 r7)) fun (w1 : List GSpan) =>
        some w1
      ) else (
        some out2
      )
    ) fun (out5 : List GSpan) =>
    bnd1 (chk .i64 (x4 + 1)) fun (x6 : Int) =>
    some (.inl (x6, out5))
  ) else (
    some (.inr out2)
  )
noncomputable def span_Through (d1 : List GStep) (l1 : List GSpan) : Option ((List GSpan) × Int) :=
  bnd2 (delta_Axis d1) fun (r1 : List GAxisStep) (r2 : Int) =>
  if (!decide (r2 = 0)) then (
    some ([], r2)
  ) else (
    bnd1 (span_Check l1) fun (e1 : Int) =>
    if (!decide (e1 = 0)) then (
      some ([], e1)
    ) else (
      bnd3 (axis_Lengths r1) fun (r3 : Int) (r4 : Int) (r5 : Int) =>
      bnd1 (gd ((decide (0 < (l1.length : Int))) == true) (chk .i64 ((l1.length : Int) - 1))) fun (x1 : Int) =>
      bnd1 (gd ((decide (0 < (l1.length : Int))) == true) (idx l1 x1)) fun (x2 : GSpan) =>
      if ((decide (0 < (l1.length : Int))) && (decide (r3 < x2.To))) then (
        some ([], 2)
      ) else (
        bnd1 (iter (fun (a : Int × (List GSpan)) => span_Through_L1 l1 r1 a.1 a.2) (0, [])) fun (out4 : List GSpan) =>
        some (out4, 0)
      )
    )
  )
noncomputable def law_plain (a1 : Ref_Act) : Option (Ref_Act) :=
  bnd1 (mk 24 (a1.Cuts.length : Int) []) fun (l1 : List (List GAttr)) =>
  some (Ref_Act.mk a1.Adds a1.Cuts l1)
noncomputable def span_Range (d1 : List GStep) (s1 : GSpan) : Option (GSpan × Int) :=
  bnd2 (delta_Axis d1) fun (r1 : List GAxisStep) (r2 : Int) =>
  if (!decide (r2 = 0)) then (
    some ((GSpan.mk 0 0), r2)
  ) else (
    bnd3 (axis_Rest r1 s1.From s1.To) fun (r3 : Int) (r4 : Int) (r5 : Int) =>
    some ((GSpan.mk r3 r4), r5)
  )
noncomputable def law_SpanThroughMatches_L2 (r5 : List GSpan) (want4 : List GSpan) (x7 : Int) : Option (Int ⊕ (Ctl Unit Bool)) :=
  if (decide (x7 < (r5.length : Int))) then (
    bnd1 (idx r5 x7) fun (x9 : GSpan) =>
    bnd1 (idx want4 x7) fun (x10 : GSpan) =>
    if (!(decide (x9.From = x10.From) && (decide (x9.To = x10.To) && true))) then (
      some (.inr (.ext false))
    ) else (
      bnd1 (chk .i64 (x7 + 1)) fun (x11 : Int) =>
      some (.inl x11)
    )
  ) else (
    some (.inr (.nrm ()))
  )
noncomputable def law_SpanThroughMatches_L1 (d1 : List GStep) (l1 : List GSpan) (units1 : List Int) (x4 : Int) (want2 : List GSpan) : Option ((Int × (List GSpan)) ⊕ (Ctl (List GSpan) Bool)) :=
  if (decide (x4 < (l1.length : Int))) then (
    ctl1 (
      bnd1 (idx l1 x4) fun (x13 : GSpan) =>
      bnd2 (ref_RestOf units1 x13.From x13.To) fun (r12 : Int) (r13 : Int) =>
      bnd2 (span_Range d1 x13) fun (r14 : GSpan) (r15 : Int) =>
      if ((!decide (r15 = 0)) || (!(decide (r14.From = r12) && (decide (r14.To = r13) && true)))) then (
        some (.ext (.inr (.ext false)))
      ) else (
        if (decide (r12 = r13)) then (
          some (.nrm want2)
        ) else (
          bnd1 (chk .i64 ((want2.length : Int) - 1)) fun (c1 : Int) =>
          bnd1 (gd ((decide (0 ≤ c1)) == true) (idx want2 c1)) fun (x14 : GSpan) =>
          if ((decide (0 ≤ c1)) && (decide (x14.To = r12))) then (
            bnd1 (idx want2 c1) fun (x15 : GSpan) =>
            some (.nrm (want2.set c1.toNat (GSpan.mk x15.From r13)))
          ) else (
            bnd1 (app 16 want2 [(GSpan.mk r12 r13)]) fun (want6 : List GSpan) =>
            some (.nrm want6)
          )
        )
      )
    ) fun (want5 : List GSpan) =>
    bnd1 (chk .i64 (x4 + 1)) fun (x12 : Int) =>
    some (.inl (x12, want5))
  ) else (
    some (.inr (.nrm want2))
  )
noncomputable def law_SpanThroughMatches (d1 : List GStep) (l1 : List GSpan) (at1 : Int) (right1 : Bool) : Option (Bool) :=
  bnd1 (law_spans) fun (r1 : Bool) =>
  bnd1 (gd ((!r1) == false) (law_deltas)) fun (r2 : Bool) =>
  if ((!r1) || (!r2)) then (
    some false
  ) else (
    bnd2 (span_Move d1 at1 right1) fun (r3 : Int) (r4 : Int) =>
    bnd2 (span_Through d1 l1) fun (r5 : List GSpan) (r6 : Int) =>
    bnd1 (ref_DeltaError d1) fun (f1 : Int) =>
    if (!decide (f1 = 0)) then (
      some ((((decide (r4 = f1)) && (decide (r6 = f1))) && (decide (r3 = 0))) && (decide ((r5.length : Int) = 0)))
    ) else (
      bnd1 (law_short d1) fun (r7 : Bool) =>
      if (!r7) then (
        some true
      ) else (
        bnd1 (ref_ActOf d1) fun (r8 : Ref_Act) =>
        bnd1 (law_plain r8) fun (r9 : Ref_Act) =>
        bnd1 (law_steps r9) fun (r10 : List GAxisStep) =>
        bnd1 (ref_Units r10) fun (units1 : List Int) =>
        bnd1 (ref_DeltaSize d1) fun (n1 : Int) =>
        bnd1 (ref_In at1 0 n1) fun (r11 : Bool) =>
        ctl1 (
          if (!r11) then (
            if ((!decide (r4 = 2)) || (!decide (r3 = 0))) then (
              some (.ext false)
            ) else (
              some (.nrm ())
            )
          ) else (
            bnd1 (gd ((!decide (r4 = 0)) == false) (ref_GapAt units1 at1 right1)) fun (r16 : Int) =>
            if ((!decide (r4 = 0)) || (!decide (r3 = r16))) then (
              some (.ext false)
            ) else (
              some (.nrm ())
            )
          )
        ) fun (u1 : Unit) =>
        bnd1 (law_setError l1) fun (f2 : Int) =>
        bnd1 (gd (((decide (f2 = 0)) && (decide (0 < (l1.length : Int)))) == true) (chk .i64 ((l1.length : Int) - 1))) fun (x1 : Int) =>
        bnd1 (gd (((decide (f2 = 0)) && (decide (0 < (l1.length : Int)))) == true) (idx l1 x1)) fun (x2 : GSpan) =>
        bnd1 (
          if (((decide (f2 = 0)) && (decide (0 < (l1.length : Int)))) && (decide (n1 < x2.To))) then (
            some 2
          ) else (
            some f2
          )
        ) fun (f3 : Int) =>
        if (!decide (f3 = 0)) then (
          some ((decide (r6 = f3)) && (decide ((r5.length : Int) = 0)))
        ) else (
          ctl1 (iter (fun (a : Int × (List GSpan)) => law_SpanThroughMatches_L1 d1 l1 units1 a.1 a.2) (0, [])) fun (want4 : List GSpan) =>
          if ((!decide (r6 = 0)) || (!decide ((r5.length : Int) = (want4.length : Int)))) then (
            some false
          ) else (
            ctl1 (iter (fun (a : Int) => law_SpanThroughMatches_L2 r5 want4 a) 0) fun (u4 : Unit) =>
            some true
          )
        )
      )
    )
  )
end Go.Proofs.Ytdeglnbioiicaaa.Al
