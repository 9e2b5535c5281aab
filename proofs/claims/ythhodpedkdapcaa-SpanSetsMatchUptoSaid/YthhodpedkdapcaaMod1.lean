/- Models, as printed. -/
import Derived.Test.YthhodpedkdapcaaAl2
namespace Go.Proofs.Ythhodpedkdapcaa.Al
structure GAxisStep where
  Kind : Int
  N : Int
deriving DecidableEq
instance : Inhabited GAxisStep := ⟨⟨0, 0⟩⟩
@[reducible] def GAxisStep.row (x : GAxisStep) : List RV := [.int .i64 x.Kind, .int .i64 x.N]
structure Axis_Reader where
  steps : List GAxisStep
  used : Int
deriving DecidableEq
instance : Inhabited Axis_Reader := ⟨⟨[], 0⟩⟩
@[reducible] def Axis_Reader.row (x : Axis_Reader) : List RV := [.sl (x.steps.map GAxisStep.row), .int .i64 x.used]
structure Axis_Writer where
  out : List GAxisStep
  add : Int
  cut : Int
deriving DecidableEq
instance : Inhabited Axis_Writer := ⟨⟨[], 0, 0⟩⟩
@[reducible] def Axis_Writer.row (x : Axis_Writer) : List RV := [.sl (x.out.map GAxisStep.row), .int .i64 x.add, .int .i64 x.cut]
structure GAttr where
  Name : List UInt8
  Value : List UInt8
deriving DecidableEq
instance : Inhabited GAttr := ⟨⟨[], []⟩⟩
@[reducible] def GAttr.row (x : GAttr) : List RV := [.str x.Name, .str x.Value]
structure GElem where
  Char : Int
  Ref : Int
  Attrs : List GAttr
deriving DecidableEq
instance : Inhabited GElem := ⟨⟨0, 0, []⟩⟩
@[reducible] def GElem.row (x : GElem) : List RV := [.int .i64 x.Char, .int .i64 x.Ref, .sl (x.Attrs.map GAttr.row)]
structure GCell where
  Row : Int
  Col : Int
  Text : List UInt8
  Ref : Int
  Attrs : List GAttr
deriving DecidableEq
instance : Inhabited GCell := ⟨⟨0, 0, [], 0, []⟩⟩
@[reducible] def GCell.row (x : GCell) : List RV := [.int .i64 x.Row, .int .i64 x.Col, .str x.Text, .int .i64 x.Ref, .sl (x.Attrs.map GAttr.row)]
structure GRect where
  Row : Int
  Col : Int
  H : Int
  W : Int
deriving DecidableEq
instance : Inhabited GRect := ⟨⟨0, 0, 0, 0⟩⟩
@[reducible] def GRect.row (x : GRect) : List RV := [.int .i64 x.Row, .int .i64 x.Col, .int .i64 x.H, .int .i64 x.W]
structure GGrid where
  Rows : Int
  Cols : Int
  Cells : List GCell
  Merges : List GRect
deriving DecidableEq
instance : Inhabited GGrid := ⟨⟨0, 0, [], []⟩⟩
@[reducible] def GGrid.row (x : GGrid) : List RV := [.int .i64 x.Rows, .int .i64 x.Cols, .sl (x.Cells.map GCell.row), .sl (x.Merges.map GRect.row)]
structure GDrawOp where
  Clock : Int
  Site : Int
  Kind : Int
  Item : Int
  Parent : Int
  Place : List UInt8
  Name : List UInt8
  Value : List UInt8
deriving DecidableEq
instance : Inhabited GDrawOp := ⟨⟨0, 0, 0, 0, 0, [], [], []⟩⟩
@[reducible] def GDrawOp.row (x : GDrawOp) : List RV := [.int .i64 x.Clock, .int .i64 x.Site, .int .i64 x.Kind, .int .i64 x.Item, .int .i64 x.Parent, .str x.Place, .str x.Name, .str x.Value]
structure GNode where
  ID : Int
  Kind : Int
  Attrs : List GAttr
  Flow : List GElem
  Grid : GGrid
  Draw : List GDrawOp
deriving DecidableEq
instance : Inhabited GNode := ⟨⟨0, 0, [], [], (GGrid.mk 0 0 [] []), []⟩⟩
@[reducible] def GNode.row (x : GNode) : List RV := [.int .i64 x.ID, .int .i64 x.Kind, .sl (x.Attrs.map GAttr.row), .sl (x.Flow.map GElem.row), .int .i64 x.Grid.Rows, .int .i64 x.Grid.Cols, .sl (x.Grid.Cells.map GCell.row), .sl (x.Grid.Merges.map GRect.row), .sl (x.Draw.map GDrawOp.row)]
structure GStep where
  Kind : Int
  N : Int
  Attrs : List GAttr
  Elems : List GElem
deriving DecidableEq
instance : Inhabited GStep := ⟨⟨0, 0, [], []⟩⟩
@[reducible] def GStep.row (x : GStep) : List RV := [.int .i64 x.Kind, .int .i64 x.N, .sl (x.Attrs.map GAttr.row), .sl (x.Elems.map GElem.row)]
structure GGridEdit where
  Rows : List GAxisStep
  Cols : List GAxisStep
  Cells : List GCell
  Split : List GRect
  Merge : List GRect
deriving DecidableEq
instance : Inhabited GGridEdit := ⟨⟨[], [], [], [], []⟩⟩
@[reducible] def GGridEdit.row (x : GGridEdit) : List RV := [.sl (x.Rows.map GAxisStep.row), .sl (x.Cols.map GAxisStep.row), .sl (x.Cells.map GCell.row), .sl (x.Split.map GRect.row), .sl (x.Merge.map GRect.row)]
structure GOp where
  Kind : Int
  Node : Int
  New : GNode
  Attrs : List GAttr
  Steps : List GStep
  Grid : GGridEdit
  Draw : List GDrawOp
deriving DecidableEq
instance : Inhabited GOp := ⟨⟨0, 0, (GNode.mk 0 0 [] [] (GGrid.mk 0 0 [] []) []), [], [], (GGridEdit.mk [] [] [] [] []), []⟩⟩
@[reducible] def GOp.row (x : GOp) : List RV := [.int .i64 x.Kind, .int .i64 x.Node, .int .i64 x.New.ID, .int .i64 x.New.Kind, .sl (x.New.Attrs.map GAttr.row), .sl (x.New.Flow.map GElem.row), .int .i64 x.New.Grid.Rows, .int .i64 x.New.Grid.Cols, .sl (x.New.Grid.Cells.map GCell.row), .sl (x.New.Grid.Merges.map GRect.row), .sl (x.New.Draw.map GDrawOp.row), .sl (x.Attrs.map GAttr.row), .sl (x.Steps.map GStep.row), .sl (x.Grid.Rows.map GAxisStep.row), .sl (x.Grid.Cols.map GAxisStep.row), .sl (x.Grid.Cells.map GCell.row), .sl (x.Grid.Split.map GRect.row), .sl (x.Grid.Merge.map GRect.row), .sl (x.Draw.map GDrawOp.row)]
structure GEntry where
  Site : Int
  Number : Int
  Change : List GOp
  Undoes : Int
  Refused : Int
deriving DecidableEq
instance : Inhabited GEntry := ⟨⟨0, 0, [], 0, 0⟩⟩
@[reducible] def GEntry.row (x : GEntry) : List RV := [.int .i64 x.Site, .int .i64 x.Number, .sl (x.Change.map GOp.row), .int .i64 x.Undoes, .int .i64 x.Refused]
structure GSpan where
  From : Int
  To : Int
deriving DecidableEq
instance : Inhabited GSpan := ⟨⟨0, 0⟩⟩
@[reducible] def GSpan.row (x : GSpan) : List RV := [.int .i64 x.From, .int .i64 x.To]
noncomputable def ref_In (x1 : Int) (low1 : Int) (high1 : Int) : Option (Bool) :=
  some ((decide (low1 ≤ x1)) && (decide (x1 ≤ high1)))
noncomputable def span_Check_L1 (l1 : List GSpan) (x2 : Int) : Option (Int ⊕ (Ctl Unit Int)) :=
  if (decide (x2 < (l1.length : Int))) then (
    bnd1 (idx l1 x2) fun (x4 : GSpan) =>
    if (((decide (x4.From < 0)) || (decide (x4.To ≤ x4.From))) || (decide (2147483647 < x4.To))) then (
      some (.inr (.ext 2))
    ) else (
      bnd1 (gd ((decide (0 < x2)) == true) (chk .i64 (x2 - 1))) fun (x5 : Int) =>
      bnd1 (gd ((decide (0 < x2)) == true) (idx l1 x5)) fun (x6 : GSpan) =>
      if ((decide (0 < x2)) && (decide (x4.From ≤ x6.To))) then (
        some (.inr (.ext 5))
      ) else (
        bnd1 (chk .i64 (x2 + 1)) fun (x7 : Int) =>
        some (.inl x7)
      )
    )
  ) else (
    some (.inr (.nrm ()))
  )
noncomputable def span_Check (l1 : List GSpan) : Option (Int) :=
  ctl1 (iter (fun (a : Int) => span_Check_L1 l1 a) 0) fun (u2 : Unit) =>
  some 0
noncomputable def span_end (l1 : List GSpan) (k1 : Int) : Option (Int) :=
  bnd1 (remM k1 2) fun (x1 : Int) =>
  if (decide (x1 = 0)) then (
    bnd1 (quoM .i64 k1 2) fun (x2 : Int) =>
    bnd1 (idx l1 x2) fun (x3 : GSpan) =>
    some x3.From
  ) else (
    bnd1 (quoM .i64 k1 2) fun (x4 : Int) =>
    bnd1 (idx l1 x4) fun (x5 : GSpan) =>
    some x5.To
  )
noncomputable def span_Union_f1 (a1 : Bool) (b1 : Bool) : Option (Bool) :=
  some (a1 || b1)
end Go.Proofs.Ythhodpedkdapcaa.Al


namespace Go.Proofs.Ythhodpedkdapcaa.Al
structure Ref_Act where
  Adds : List (List GElem)
  Cuts : List Bool
  Attrs : List (List GAttr)
deriving DecidableEq
instance : Inhabited Ref_Act := ⟨⟨[], [], []⟩⟩
@[reducible] def Ref_Act.row (x : Ref_Act) : List RV := [.sl (x.Adds.map (rSl GElem.row)), .sl (x.Cuts.map rBool), .sl (x.Attrs.map (rSl GAttr.row))]
end Go.Proofs.Ythhodpedkdapcaa.Al


namespace Go.Proofs.Ythhodpedkdapcaa.Al
noncomputable def span_add (l1 : List GSpan) (s1 : GSpan) : Option ((List GSpan)) :=
  bnd1 (chk .i64 ((l1.length : Int) - 1)) fun (k1 : Int) =>
  bnd1 (gd ((decide (0 ≤ k1)) == true) (idx l1 k1)) fun (x1 : GSpan) =>
  if ((decide (0 ≤ k1)) && (decide (s1.From ≤ x1.To))) then (
    bnd1 (idx l1 k1) fun (x2 : GSpan) =>
    some (l1.set k1.toNat (GSpan.mk x2.From (max x2.To s1.To)))
  ) else (
    bnd1 (app 16 l1 [s1]) fun (l2 : List GSpan) =>
    some l2
  )
noncomputable def span_merged__Union_f1_L3 (b1 : List GSpan) (x3 : Int) (next2 : Int) (out5 : List GSpan) (i19 : Int) (j5 : Int) : Option (Int ⊕ (Ctl Unit ((Int × Int × Int × (List GSpan)) ⊕ (List GSpan)))) :=
  bnd1 (gd ((decide (j5 < x3)) == true) (span_end b1 j5)) fun (r2 : Int) =>
  if ((decide (j5 < x3)) && (decide (r2 = next2))) then (
    bnd1 (chk .i64 (j5 + 1)) fun (j7 : Int) =>
    some (.inl j7)
  ) else (
    some (.inr (.ext (.inl (next2, i19, j5, out5))))
  )
noncomputable def span_merged__Union_f1_L2 (a1 : List GSpan) (x1 : Int) (next2 : Int) (i15 : Int) : Option (Int ⊕ Int) :=
  bnd1 (gd ((decide (i15 < x1)) == true) (span_end a1 i15)) fun (r3 : Int) =>
  if ((decide (i15 < x1)) && (decide (r3 = next2))) then (
    bnd1 (chk .i64 (i15 + 1)) fun (i25 : Int) =>
    some (.inl i25)
  ) else (
    some (.inr i15)
  )
noncomputable def span_merged__Union_f1_L1 (a1 : List GSpan) (b1 : List GSpan) (at2 : Int) (i4 : Int) (j2 : Int) (out2 : List GSpan) : Option ((Int × Int × Int × (List GSpan)) ⊕ (List GSpan)) :=
  bnd1 (chk .i64 (2 * (a1.length : Int))) fun (x1 : Int) =>
  bnd1 (gd ((decide (i4 < x1)) == false) (chk .i64 (2 * (b1.length : Int)))) fun (x2 : Int) =>
  if ((decide (i4 < x1)) || (decide (j2 < x2))) then (
    bnd1 (
      if (decide (i4 < x1)) then (
        bnd1 (span_end a1 i4) fun (next3 : Int) =>
        some next3
      ) else (
        some 2147483648
      )
    ) fun (next1 : Int) =>
    bnd1 (chk .i64 (2 * (b1.length : Int))) fun (x3 : Int) =>
    bnd1 (
      if (decide (j2 < x3)) then (
        bnd1 (span_end b1 j2) fun (r4 : Int) =>
        some (min next1 r4)
      ) else (
        some next1
      )
    ) fun (next2 : Int) =>
    bnd1 (gd ((decide (at2 < next2)) == true) (remM i4 2)) fun (x4 : Int) =>
    bnd1 (gd ((decide (at2 < next2)) == true) (remM j2 2)) fun (x5 : Int) =>
    bnd1 (gd ((decide (at2 < next2)) == true) (span_Union_f1 (decide (x4 = 1)) (decide (x5 = 1)))) fun (r1 : Bool) =>
    bnd1 (
      if ((decide (at2 < next2)) && r1) then (
        bnd1 (span_add out2 (GSpan.mk at2 next2)) fun (w1 : List GSpan) =>
        some w1
      ) else (
        some out2
      )
    ) fun (out5 : List GSpan) =>
    bnd1 (iter (fun (a : Int) => span_merged__Union_f1_L2 a1 x1 next2 a) i4) fun (i19 : Int) =>
    ctl1 (iter (fun (a : Int) => span_merged__Union_f1_L3 b1 x3 next2 out5 i19 a) j2) fun (u4 : Unit) =>
    none
  ) else (
    some (.inr out2)
  )
noncomputable def span_merged__Union_f1 (a1 : List GSpan) (b1 : List GSpan) : Option ((List GSpan)) :=
  bnd1 (iter (fun (a : Int × Int × Int × (List GSpan)) => span_merged__Union_f1_L1 a1 b1 a.1 a.2.1 a.2.2.1 a.2.2.2) (0, 0, 0, [])) fun (out4 : List GSpan) =>
  some out4
noncomputable def span_two__Union_f1 (a1 : List GSpan) (b1 : List GSpan) : Option ((List GSpan) × Int) :=
  bnd1 (span_Check a1) fun (e1 : Int) =>
  if (!decide (e1 = 0)) then (
    some ([], e1)
  ) else (
    bnd1 (span_Check b1) fun (e2 : Int) =>
    if (!decide (e2 = 0)) then (
      some ([], e2)
    ) else (
      bnd1 (span_merged__Union_f1 a1 b1) fun (r1 : List GSpan) =>
      some (r1, 0)
    )
  )
noncomputable def span_Union (a1 : List GSpan) (b1 : List GSpan) : Option ((List GSpan) × Int) :=
  bnd2 (span_two__Union_f1 a1 b1) fun (r1 : List GSpan) (r2 : Int) =>
  some (r1, r2)
noncomputable def law_spans : Option (Bool) :=
  bnd2 (span_Union [(GSpan.mk 0 2)] [(GSpan.mk 2 3)]) fun (r1 : List GSpan) (r2 : Int) =>
  bnd1 (gd (((decide (r2 = 0)) && (decide ((r1.length : Int) = 1))) == true) (idx r1 0)) fun (x1 : GSpan) =>
  some (((decide (r2 = 0)) && (decide ((r1.length : Int) = 1))) && (decide (x1.From = 0) && (decide (x1.To = 3) && true)))
noncomputable def law_setError_L1 (l1 : List GSpan) (x2 : Int) : Option (Int ⊕ (Ctl Unit Int)) :=
  if (decide (x2 < (l1.length : Int))) then (
    bnd1 (idx l1 x2) fun (x4 : GSpan) =>
    if (((decide (x4.From < 0)) || (decide (x4.To ≤ x4.From))) || (decide (2147483647 < x4.To))) then (
      some (.inr (.ext 2))
    ) else (
      bnd1 (gd ((decide (0 < x2)) == true) (chk .i64 (x2 - 1))) fun (x5 : Int) =>
      bnd1 (gd ((decide (0 < x2)) == true) (idx l1 x5)) fun (x6 : GSpan) =>
      if ((decide (0 < x2)) && (decide (x4.From ≤ x6.To))) then (
        some (.inr (.ext 5))
      ) else (
        bnd1 (chk .i64 (x2 + 1)) fun (x7 : Int) =>
        some (.inl x7)
      )
    )
  ) else (
    some (.inr (.nrm ()))
  )
noncomputable def law_setError (l1 : List GSpan) : Option (Int) :=
  ctl1 (iter (fun (a : Int) => law_setError_L1 l1 a) 0) fun (u2 : Unit) =>
  some 0
noncomputable def span_Meet_f1 (a1 : Bool) (b1 : Bool) : Option (Bool) :=
  some (a1 && b1)
noncomputable def span_merged__Meet_f1_L3 (b1 : List GSpan) (x3 : Int) (next2 : Int) (out5 : List GSpan) (i19 : Int) (j5 : Int) : Option (Int ⊕ (Ctl Unit ((Int × Int × Int × (List GSpan)) ⊕ (List GSpan)))) :=
  bnd1 (gd ((decide (j5 < x3)) == true) (span_end b1 j5)) fun (r2 : Int) =>
  if ((decide (j5 < x3)) && (decide (r2 = next2))) then (
    bnd1 (chk .i64 (j5 + 1)) fun (j7 : Int) =>
    some (.inl j7)
  ) else (
    some (.inr (.ext (.inl (next2, i19, j5, out5))))
  )
noncomputable def span_merged__Meet_f1_L2 (a1 : List GSpan) (x1 : Int) (next2 : Int) (i15 : Int) : Option (Int ⊕ Int) :=
  bnd1 (gd ((decide (i15 < x1)) == true) (span_end a1 i15)) fun (r3 : Int) =>
  if ((decide (i15 < x1)) && (decide (r3 = next2))) then (
    bnd1 (chk .i64 (i15 + 1)) fun (i25 : Int) =>
    some (.inl i25)
  ) else (
    some (.inr i15)
  )
noncomputable def span_merged__Meet_f1_L1 (a1 : List GSpan) (b1 : List GSpan) (at2 : Int) (i4 : Int) (j2 : Int) (out2 : List GSpan) : Option ((Int × Int × Int × (List GSpan)) ⊕ (List GSpan)) :=
  bnd1 (chk .i64 (2 * (a1.length : Int))) fun (x1 : Int) =>
  bnd1 (gd ((decide (i4 < x1)) == false) (chk .i64 (2 * (b1.length : Int)))) fun (x2 : Int) =>
  if ((decide (i4 < x1)) || (decide (j2 < x2))) then (
    bnd1 (
      if (decide (i4 < x1)) then (
        bnd1 (span_end a1 i4) fun (next3 : Int) =>
        some next3
      ) else (
        some 2147483648
      )
    ) fun (next1 : Int) =>
    bnd1 (chk .i64 (2 * (b1.length : Int))) fun (x3 : Int) =>
    bnd1 (
      if (decide (j2 < x3)) then (
        bnd1 (span_end b1 j2) fun (r4 : Int) =>
        some (min next1 r4)
      ) else (
        some next1
      )
    ) fun (next2 : Int) =>
    bnd1 (gd ((decide (at2 < next2)) == true) (remM i4 2)) fun (x4 : Int) =>
    bnd1 (gd ((decide (at2 < next2)) == true) (remM j2 2)) fun (x5 : Int) =>
    bnd1 (gd ((decide (at2 < next2)) == true) (span_Meet_f1 (decide (x4 = 1)) (decide (x5 = 1)))) fun (r1 : Bool) =>
    bnd1 (
      if ((decide (at2 < next2)) && r1) then (
        bnd1 (span_add out2 (GSpan.mk at2 next2)) fun (w1 : List GSpan) =>
        some w1
      ) else (
        some out2
      )
    ) fun (out5 : List GSpan) =>
    bnd1 (iter (fun (a : Int) => span_merged__Meet_f1_L2 a1 x1 next2 a) i4) fun (i19 : Int) =>
    ctl1 (iter (fun (a : Int) => span_merged__Meet_f1_L3 b1 x3 next2 out5 i19 a) j2) fun (u4 : Unit) =>
    none
  ) else (
    some (.inr out2)
  )
noncomputable def span_merged__Meet_f1 (a1 : List GSpan) (b1 : List GSpan) : Option ((List GSpan)) :=
  bnd1 (iter (fun (a : Int × Int × Int × (List GSpan)) => span_merged__Meet_f1_L1 a1 b1 a.1 a.2.1 a.2.2.1 a.2.2.2) (0, 0, 0, [])) fun (out4 : List GSpan) =>
  some out4
noncomputable def span_two__Meet_f1 (a1 : List GSpan) (b1 : List GSpan) : Option ((List GSpan) × Int) :=
  bnd1 (span_Check a1) fun (e1 : Int) =>
  if (!decide (e1 = 0)) then (
    some ([], e1)
  ) else (
    bnd1 (span_Check b1) fun (e2 : Int) =>
    if (!decide (e2 = 0)) then (
      some ([], e2)
    ) else (
      bnd1 (span_merged__Meet_f1 a1 b1) fun (r1 : List GSpan) =>
      some (r1, 0)
    )
  )
noncomputable def span_Meet (a1 : List GSpan) (b1 : List GSpan) : Option ((List GSpan) × Int) :=
  bnd2 (span_two__Meet_f1 a1 b1) fun (r1 : List GSpan) (r2 : Int) =>
  some (r1, r2)
noncomputable def span_Minus_f1 (a1 : Bool) (b1 : Bool) : Option (Bool) :=
  some (a1 && (!b1))
noncomputable def span_merged__Minus_f1_L3 (b1 : List GSpan) (x3 : Int) (next2 : Int) (out5 : List GSpan) (i19 : Int) (j5 : Int) : Option (Int ⊕ (Ctl Unit ((Int × Int × Int × (List GSpan)) ⊕ (List GSpan)))) :=
  bnd1 (gd ((decide (j5 < x3)) == true) (span_end b1 j5)) fun (r2 : Int) =>
  if ((decide (j5 < x3)) && (decide (r2 = next2))) then (
    bnd1 (chk .i64 (j5 + 1)) fun (j7 : Int) =>
    some (.inl j7)
  ) else (
    some (.inr (.ext (.inl (next2, i19, j5, out5))))
  )
noncomputable def span_merged__Minus_f1_L2 (a1 : List GSpan) (x1 : Int) (next2 : Int) (i15 : Int) : Option (Int ⊕ Int) :=
  bnd1 (gd ((decide (i15 < x1)) == true) (span_end a1 i15)) fun (r3 : Int) =>
  if ((decide (i15 < x1)) && (decide (r3 = next2))) then (
    bnd1 (chk .i64 (i15 + 1)) fun (i25 : Int) =>
    some (.inl i25)
  ) else (
    some (.inr i15)
  )
noncomputable def span_merged__Minus_f1_L1 (a1 : List GSpan) (b1 : List GSpan) (at2 : Int) (i4 : Int) (j2 : Int) (out2 : List GSpan) : Option ((Int × Int × Int × (List GSpan)) ⊕ (List GSpan)) :=
  bnd1 (chk .i64 (2 * (a1.length : Int))) fun (x1 : Int) =>
  bnd1 (gd ((decide (i4 < x1)) == false) (chk .i64 (2 * (b1.length : Int)))) fun (x2 : Int) =>
  if ((decide (i4 < x1)) || (decide (j2 < x2))) then (
    bnd1 (
      if (decide (i4 < x1)) then (
        bnd1 (span_end a1 i4) fun (next3 : Int) =>
        some next3
      ) else (
        some 2147483648
      )
    ) fun (next1 : Int) =>
    bnd1 (chk .i64 (2 * (b1.length : Int))) fun (x3 : Int) =>
    bnd1 (
      if (decide (j2 < x3)) then (
        bnd1 (span_end b1 j2) fun (r4 : Int) =>
        some (min next1 r4)
      ) else (
        some next1
      )
    ) fun (next2 : Int) =>
    bnd1 (gd ((decide (at2 < next2)) == true) (remM i4 2)) fun (x4 : Int) =>
    bnd1 (gd ((decide (at2 < next2)) == true) (remM j2 2)) fun (x5 : Int) =>
    bnd1 (gd ((decide (at2 < next2)) == true) (span_Minus_f1 (decide (x4 = 1)) (decide (x5 = 1)))) fun (r1 : Bool) =>
    bnd1 (
      if ((decide (at2 < next2)) && r1) then (
        bnd1 (span_add out2 (GSpan.mk at2 next2)) fun (w1 : List GSpan) =>
        some w1
      ) else (
        some out2
      )
    ) fun (out5 : List GSpan) =>
    bnd1 (iter (fun (a : Int) => span_merged__Minus_f1_L2 a1 x1 next2 a) i4) fun (i19 : Int) =>
    ctl1 (iter (fun (a : Int) => span_merged__Minus_f1_L3 b1 x3 next2 out5 i19 a) j2) fun (u4 : Unit) =>
    none
  ) else (
    some (.inr out2)
  )
noncomputable def span_merged__Minus_f1 (a1 : List GSpan) (b1 : List GSpan) : Option ((List GSpan)) :=
  bnd1 (iter (fun (a : Int × Int × Int × (List GSpan)) => span_merged__Minus_f1_L1 a1 b1 a.1 a.2.1 a.2.2.1 a.2.2.2) (0, 0, 0, [])) fun (out4 : List GSpan) =>
  some out4
noncomputable def span_two__Minus_f1 (a1 : List GSpan) (b1 : List GSpan) : Option ((List GSpan) × Int) :=
  bnd1 (span_Check a1) fun (e1 : Int) =>
  if (!decide (e1 = 0)) then (
    some ([], e1)
  ) else (
    bnd1 (span_Check b1) fun (e2 : Int) =>
    if (!decide (e2 = 0)) then (
      some ([], e2)
    ) else (
      bnd1 (span_merged__Minus_f1 a1 b1) fun (r1 : List GSpan) =>
      some (r1, 0)
    )
  )
noncomputable def span_Minus (a1 : List GSpan) (b1 : List GSpan) : Option ((List GSpan) × Int) :=
  bnd2 (span_two__Minus_f1 a1 b1) fun (r1 : List GSpan) (r2 : Int) =>
  some (r1, r2)
noncomputable def law_member_L1 (l1 : List GSpan) (x1 : Int) (x3 : Int) : Option (Int ⊕ (Ctl Unit Bool)) :=
  if (decide (x3 < (l1.length : Int))) then (
    bnd1 (idx l1 x3) fun (x5 : GSpan) =>
    bnd1 (chk .i64 (x5.To - 1)) fun (x6 : Int) =>
    bnd1 (ref_In x1 x5.From x6) fun (r1 : Bool) =>
    if r1 then (
      some (.inr (.ext true))
    ) else (
      bnd1 (chk .i64 (x3 + 1)) fun (x7 : Int) =>
      some (.inl x7)
    )
  ) else (
    some (.inr (.nrm ()))
  )
noncomputable def law_member (l1 : List GSpan) (x1 : Int) : Option (Bool) :=
  ctl1 (iter (fun (a : Int) => law_member_L1 l1 x1 a) 0) fun (u2 : Unit) =>
  some false
noncomputable def law_SpanSetsMatch_L4 (a1 : List GSpan) (b1 : List GSpan) (x13 : GSpan) (x15 : Int) : Option (Int ⊕ (Ctl Unit (Int ⊕ (Ctl Unit (Int ⊕ (Ctl Unit Bool)))))) :=
  if (decide (x15 < 2)) then (
    bnd1 (idx ([x13.From, x13.To] : List Int) x15) fun (x18 : Int) =>
    bnd1 (law_member a1 x18) fun (r13 : Bool) =>
    bnd1 (chk .i64 (x18 - 1)) fun (x19 : Int) =>
    bnd1 (law_member a1 x19) fun (r14 : Bool) =>
    bnd1 (gd ((r13 == r14) == true) (law_member b1 x18)) fun (r15 : Bool) =>
    bnd1 (gd ((r13 == r14) == true) (law_member b1 x19)) fun (r16 : Bool) =>
    if ((r13 == r14) && (r15 == r16)) then (
      some (.inr (.ext (.inr (.ext (.inr (.ext false))))))
    ) else (
      bnd1 (chk .i64 (x15 + 1)) fun (x20 : Int) =>
      some (.inl x20)
    )
  ) else (
    some (.inr (.nrm ()))
  )
noncomputable def law_SpanSetsMatch_L3 (a1 : List GSpan) (b1 : List GSpan) (l1 : List GSpan) (x10 : Int) : Option (Int ⊕ (Ctl Unit (Int ⊕ (Ctl Unit Bool)))) :=
  if (decide (x10 < (l1.length : Int))) then (
    bnd1 (idx l1 x10) fun (x13 : GSpan) =>
    ctl1 (iter (fun (a : Int) => law_SpanSetsMatch_L4 a1 b1 x13 a) 0) fun (u8 : Unit) =>
    bnd1 (chk .i64 (x10 + 1)) fun (x17 : Int) =>
    some (.inl x17)
  ) else (
    some (.inr (.nrm ()))
  )
noncomputable def law_SpanSetsMatch_L2 (a1 : List GSpan) (b1 : List GSpan) (r4 : List GSpan) (r6 : List GSpan) (r8 : List GSpan) (x7 : Int) : Option (Int ⊕ (Ctl Unit Bool)) :=
  if (decide (x7 < 3)) then (
    bnd1 (idx ([r4, r6, r8] : List (List GSpan)) x7) fun (l1 : List GSpan) =>
    ctl1 (iter (fun (a : Int) => law_SpanSetsMatch_L3 a1 b1 l1 a) 0) fun (u6 : Unit) =>
    bnd1 (chk .i64 (x7 + 1)) fun (x12 : Int) =>
    some (.inl x12)
  ) else (
    some (.inr (.nrm ()))
  )
noncomputable def law_SpanSetsMatch_L6 (a1 : List GSpan) (b1 : List GSpan) (r4 : List GSpan) (r6 : List GSpan) (r8 : List GSpan) (x25 : GSpan) (x26 : Int) (x27 : Int) (x29 : Int) : Option (Int ⊕ (Ctl Unit (Int ⊕ (Ctl Unit (Int ⊕ (Ctl Unit Bool)))))) :=
  if (decide (x29 < 4)) then (
    bnd1 (idx ([x26, x25.From, x27, x25.To] : List Int) x29) fun (x32 : Int) =>
    bnd1 (law_member a1 x32) fun (p2 : Bool) =>
    bnd1 (law_member b1 x32) fun (q1 : Bool) =>
    bnd1 (law_member r4 x32) fun (r17 : Bool) =>
    bnd1 (gd ((!(r17 == (p2 || q1))) == false) (law_member r6 x32)) fun (r18 : Bool) =>
    bnd1 (gd (((!(r17 == (p2 || q1))) || (!(r18 == (p2 && q1)))) == false) (law_member r8 x32)) fun (r19 : Bool) =>
    if (((!(r17 == (p2 || q1))) || (!(r18 == (p2 && q1)))) || (!(r19 == (p2 && (!q1))))) then (
      some (.inr (.ext (.inr (.ext (.inr (.ext false))))))
    ) else (
      bnd1 (chk .i64 (x29 + 1)) fun (x33 : Int) =>
      some (.inl x33)
    )
  ) else (
    some (.inr (.nrm ()))
  )
noncomputable def law_SpanSetsMatch_L5 (a1 : List GSpan) (b1 : List GSpan) (r4 : List GSpan) (r6 : List GSpan) (r8 : List GSpan) (l2 : List GSpan) (x22 : Int) : Option (Int ⊕ (Ctl Unit (Int ⊕ (Ctl Unit Bool)))) :=
  if (decide (x22 < (l2.length : Int))) then (
    bnd1 (idx l2 x22) fun (x25 : GSpan) =>
    bnd1 (chk .i64 (x25.From - 1)) fun (x26 : Int) =>
    bnd1 (chk .i64 (x25.To - 1)) fun (x27 : Int) =>
    ctl1 (iter (fun (a : Int) => law_SpanSetsMatch_L6 a1 b1 r4 r6 r8 x25 x26 x27 a) 0) fun (u12 : Unit) =>
    bnd1 (chk .i64 (x22 + 1)) fun (x31 : Int) =>
    some (.inl x31)
  ) else (
    some (.inr (.nrm ()))
  )
noncomputable def law_SpanSetsMatch_L1 (a1 : List GSpan) (b1 : List GSpan) (r4 : List GSpan) (r6 : List GSpan) (r8 : List GSpan) (x4 : Int) : Option (Int ⊕ (Ctl Unit Bool)) :=
  if (decide (x4 < 2)) then (
    bnd1 (idx ([a1, b1] : List (List GSpan)) x4) fun (l2 : List GSpan) =>
    ctl1 (iter (fun (a : Int) => law_SpanSetsMatch_L5 a1 b1 r4 r6 r8 l2 a) 0) fun (u10 : Unit) =>
    bnd1 (chk .i64 (x4 + 1)) fun (x24 : Int) =>
    some (.inl x24)
  ) else (
    some (.inr (.nrm ()))
  )
noncomputable def law_SpanSetsMatch (a1 : List GSpan) (b1 : List GSpan) : Option (Bool) :=
  bnd1 (law_spans) fun (r1 : Bool) =>
  bnd1 (gd ((!r1) == false) (span_Check a1)) fun (r2 : Int) =>
  bnd1 (gd ((!r1) == false) (law_setError a1)) fun (r3 : Int) =>
  if ((!r1) || (!decide (r2 = r3))) then (
    some false
  ) else (
    bnd2 (span_Union a1 b1) fun (r4 : List GSpan) (r5 : Int) =>
    bnd2 (span_Meet a1 b1) fun (r6 : List GSpan) (r7 : Int) =>
    bnd2 (span_Minus a1 b1) fun (r8 : List GSpan) (r9 : Int) =>
    bnd1 (law_setError a1) fun (h8 : Int) =>
    bnd1 (
      if (decide (h8 = 0)) then (
        bnd1 (law_setError b1) fun (h64 : Int) =>
        some h64
      ) else (
        some h8
      )
    ) fun (h10 : Int) =>
    if (!decide (h10 = 0)) then (
      bnd1 (gd ((((decide (r5 = h10)) && (decide (r7 = h10))) && (decide (r9 = h10))) == true) (chk .i64 ((r4.length : Int) + (r6.length : Int)))) fun (x1 : Int) =>
      bnd1 (gd ((((decide (r5 = h10)) && (decide (r7 = h10))) && (decide (r9 = h10))) == true) (chk .i64 (x1 + (r8.length : Int)))) fun (x2 : Int) =>
      some ((((decide (r5 = h10)) && (decide (r7 = h10))) && (decide (r9 = h10))) && (decide (x2 = 0)))
    ) else (
      bnd1 (gd ((((!decide (r5 = 0)) || (!decide (r7 = 0))) || (!decide (r9 = 0))) == false) (law_setError r4)) fun (r10 : Int) =>
      bnd1 (gd (((((!decide (r5 = 0)) || (!decide (r7 = 0))) || (!decide (r9 = 0))) || (!decide (r10 = 0))) == false) (law_setError r6)) fun (r11 : Int) =>
      bnd1 (gd ((((((!decide (r5 = 0)) || (!decide (r7 = 0))) || (!decide (r9 = 0))) || (!decide (r10 = 0))) || (!decide (r11 = 0))) == false) (law_setError r8)) fun (r12 : Int) =>
      if ((((((!decide (r5 = 0)) || (!decide (r7 = 0))) || (!decide (r9 = 0))) || (!decide (r10 = 0))) || (!decide (r11 = 0))) || (!decide (r12 = 0))) then (
        some false
      ) else (
        ctl1 (iter (fun (a : Int) => law_SpanSetsMatch_L1 a1 b1 r4 r6 r8 a) 0) fun (u2 : Unit) =>
        ctl1 (iter (fun (a : Int) => law_SpanSetsMatch_L2 a1 b1 r4 r6 r8 a) 0) fun (u4 : Unit) =>
        some true
      )
    )
  )
end Go.Proofs.Ythhodpedkdapcaa.Al


namespace Go.Proofs.Ythhodpedkdapcaa.Al
structure Delta_Reader where
  steps : List GStep
  used : Int
deriving DecidableEq
instance : Inhabited Delta_Reader := ⟨⟨[], 0⟩⟩
@[reducible] def Delta_Reader.row (x : Delta_Reader) : List RV := [.sl (x.steps.map GStep.row), .int .i64 x.used]
structure Delta_Writer where
  out : List GStep
  add : List GElem
  cut : Int
deriving DecidableEq
instance : Inhabited Delta_Writer := ⟨⟨[], [], 0⟩⟩
@[reducible] def Delta_Writer.row (x : Delta_Writer) : List RV := [.sl (x.out.map GStep.row), .sl (x.add.map GElem.row), .int .i64 x.cut]
end Go.Proofs.Ythhodpedkdapcaa.Al

