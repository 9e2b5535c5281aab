/- Models, as printed. -/
import Derived.Test.YtfkolgjapajekaaDoorAl2
namespace Go.Proofs.YtfkolgjapajekaaDoor.Al
structure GAxisStep where
  Kind : Int
  N : Int
deriving DecidableEq
instance : Inhabited GAxisStep := ⟨⟨0, 0⟩⟩
@[reducible] def GAxisStep.row (x : GAxisStep) : List RV := [.int .i64 x.Kind, .int .i64 x.N]
structure Axis_Reader where
  steps : List GAxisStep
  used : Int
deriving DecidableEq
instance : Inhabited Axis_Reader := ⟨⟨[], 0⟩⟩
@[reducible] def Axis_Reader.row (x : Axis_Reader) : List RV := [.sl (x.steps.map GAxisStep.row), .int .i64 x.used]
structure Axis_Writer where
  out : List GAxisStep
  add : Int
  cut : Int
deriving DecidableEq
instance : Inhabited Axis_Writer := ⟨⟨[], 0, 0⟩⟩
@[reducible] def Axis_Writer.row (x : Axis_Writer) : List RV := [.sl (x.out.map GAxisStep.row), .int .i64 x.add, .int .i64 x.cut]
structure GAttr where
  Name : List UInt8
  Value : List UInt8
deriving DecidableEq
instance : Inhabited GAttr := ⟨⟨[], []⟩⟩
@[reducible] def GAttr.row (x : GAttr) : List RV := [.str x.Name, .str x.Value]
structure GElem where
  Char : Int
  Ref : Int
  Attrs : List GAttr
deriving DecidableEq
instance : Inhabited GElem := ⟨⟨0, 0, []⟩⟩
@[reducible] def GElem.row (x : GElem) : List RV := [.int .i64 x.Char, .int .i64 x.Ref, .sl (x.Attrs.map GAttr.row)]
structure GCell where
  Row : Int
  Col : Int
  Text : List UInt8
  Ref : Int
  Attrs : List GAttr
deriving DecidableEq
instance : Inhabited GCell := ⟨⟨0, 0, [], 0, []⟩⟩
@[reducible] def GCell.row (x : GCell) : List RV := [.int .i64 x.Row, .int .i64 x.Col, .str x.Text, .int .i64 x.Ref, .sl (x.Attrs.map GAttr.row)]
structure GRect where
  Row : Int
  Col : Int
  H : Int
  W : Int
deriving DecidableEq
instance : Inhabited GRect := ⟨⟨0, 0, 0, 0⟩⟩
@[reducible] def GRect.row (x : GRect) : List RV := [.int .i64 x.Row, .int .i64 x.Col, .int .i64 x.H, .int .i64 x.W]
structure GGrid where
  Rows : Int
  Cols : Int
  Cells : List GCell
  Merges : List GRect
deriving DecidableEq
instance : Inhabited GGrid := ⟨⟨0, 0, [], []⟩⟩
@[reducible] def GGrid.row (x : GGrid) : List RV := [.int .i64 x.Rows, .int .i64 x.Cols, .sl (x.Cells.map GCell.row), .sl (x.Merges.map GRect.row)]
structure GDrawOp where
  Clock : Int
  Site : Int
  Kind : Int
  Item : Int
  Parent : Int
  Place : List UInt8
  Name : List UInt8
  Value : List UInt8
deriving DecidableEq
instance : Inhabited GDrawOp := ⟨⟨0, 0, 0, 0, 0, [], [], []⟩⟩
@[reducible] def GDrawOp.row (x : GDrawOp) : List RV := [.int .i64 x.Clock, .int .i64 x.Site, .int .i64 x.Kind, .int .i64 x.Item, .int .i64 x.Parent, .str x.Place, .str x.Name, .str x.Value]
structure GNode where
  ID : Int
  Kind : Int
  Attrs : List GAttr
  Flow : List GElem
  Grid : GGrid
  Draw : List GDrawOp
deriving DecidableEq
instance : Inhabited GNode := ⟨⟨0, 0, [], [], (GGrid.mk 0 0 [] []), []⟩⟩
@[reducible] def GNode.row (x : GNode) : List RV := [.int .i64 x.ID, .int .i64 x.Kind, .sl (x.Attrs.map GAttr.row), .sl (x.Flow.map GElem.row), .int .i64 x.Grid.Rows, .int .i64 x.Grid.Cols, .sl (x.Grid.Cells.map GCell.row), .sl (x.Grid.Merges.map GRect.row), .sl (x.Draw.map GDrawOp.row)]
structure GStep where
  Kind : Int
  N : Int
  Attrs : List GAttr
  Elems : List GElem
deriving DecidableEq
instance : Inhabited GStep := ⟨⟨0, 0, [], []⟩⟩
@[reducible] def GStep.row (x : GStep) : List RV := [.int .i64 x.Kind, .int .i64 x.N, .sl (x.Attrs.map GAttr.row), .sl (x.Elems.map GElem.row)]
structure GGridEdit where
  Rows : List GAxisStep
  Cols : List GAxisStep
  Cells : List GCell
  Split : List GRect
  Merge : List GRect
deriving DecidableEq
instance : Inhabited GGridEdit := ⟨⟨[], [], [], [], []⟩⟩
@[reducible] def GGridEdit.row (x : GGridEdit) : List RV := [.sl (x.Rows.map GAxisStep.row), .sl (x.Cols.map GAxisStep.row), .sl (x.Cells.map GCell.row), .sl (x.Split.map GRect.row), .sl (x.Merge.map GRect.row)]
structure GOp where
  Kind : Int
  Node : Int
  New : GNode
  Attrs : List GAttr
  Steps : List GStep
  Grid : GGridEdit
  Draw : List GDrawOp
deriving DecidableEq
instance : Inhabited GOp := ⟨⟨0, 0, (GNode.mk 0 0 [] [] (GGrid.mk 0 0 [] []) []), [], [], (GGridEdit.mk [] [] [] [] []), []⟩⟩
@[reducible] def GOp.row (x : GOp) : List RV := [.int .i64 x.Kind, .int .i64 x.Node, .int .i64 x.New.ID, .int .i64 x.New.Kind, .sl (x.New.Attrs.map GAttr.row), .sl (x.New.Flow.map GElem.row), .int .i64 x.New.Grid.Rows, .int .i64 x.New.Grid.Cols, .sl (x.New.Grid.Cells.map GCell.row), .sl (x.New.Grid.Merges.map GRect.row), .sl (x.New.Draw.map GDrawOp.row), .sl (x.Attrs.map GAttr.row), .sl (x.Steps.map GStep.row), .sl (x.Grid.Rows.map GAxisStep.row), .sl (x.Grid.Cols.map GAxisStep.row), .sl (x.Grid.Cells.map GCell.row), .sl (x.Grid.Split.map GRect.row), .sl (x.Grid.Merge.map GRect.row), .sl (x.Draw.map GDrawOp.row)]
structure GEntry where
  Site : Int
  Number : Int
  Change : List GOp
  Undoes : Int
  Refused : Int
deriving DecidableEq
instance : Inhabited GEntry := ⟨⟨0, 0, [], 0, 0⟩⟩
@[reducible] def GEntry.row (x : GEntry) : List RV := [.int .i64 x.Site, .int .i64 x.Number, .sl (x.Change.map GOp.row), .int .i64 x.Undoes, .int .i64 x.Refused]
structure GSpan where
  From : Int
  To : Int
deriving DecidableEq
instance : Inhabited GSpan := ⟨⟨0, 0⟩⟩
@[reducible] def GSpan.row (x : GSpan) : List RV := [.int .i64 x.From, .int .i64 x.To]
noncomputable def ref_In (x1 : Int) (low1 : Int) (high1 : Int) : Option (Bool) :=
  some ((decide (low1 ≤ x1)) && (decide (x1 ≤ high1)))
noncomputable def axis_Check_L1 (a1 : List GAxisStep) (before2 : Int) (after2 : Int) (x2 : Int) : Option ((Int × Int × Int) ⊕ (Ctl (Int × Int) Int)) :=
  if (decide (x2 < (a1.length : Int))) then (
    ctl2 (
      bnd1 (idx a1 x2) fun (x5 : GAxisStep) =>
      if ((decide (x5.Kind < 0)) || (decide (2 < x5.Kind))) then (
        some (.ext (.inr (.ext 8)))
      ) else (
        if ((decide (x5.N < 1)) || (decide (2147483647 < x5.N))) then (
          some (.ext (.inr (.ext 2)))
        ) else (
          bnd1 (gd ((decide (0 < x2)) == true) (chk .i64 (x2 - 1))) fun (x6 : Int) =>
          bnd1 (gd ((decide (0 < x2)) == true) (idx a1 x6)) fun (x7 : GAxisStep) =>
          if ((decide (0 < x2)) && ((decide (x7.Kind = x5.Kind)) || ((decide (x7.Kind = 2)) && (decide (x5.Kind = 1))))) then (
            some (.ext (.inr (.ext 5)))
          ) else (
            bnd1 (
              if (!decide (x5.Kind = 1)) then (
                bnd1 (chk .i64 (before2 + x5.N)) fun (x9 : Int) =>
                some (min x9 2147483648)
              ) else (
                some before2
              )
            ) fun (before6 : Int) =>
            if (!decide (x5.Kind = 2)) then (
              bnd1 (chk .i64 (after2 + x5.N)) fun (x8 : Int) =>
              some (.nrm (before6, (min x8 2147483648)))
            ) else (
              some (.nrm (before6, after2))
            )
          )
        )
      )
    ) fun (before5 : Int) (after5 : Int) =>
    bnd1 (chk .i64 (x2 + 1)) fun (x4 : Int) =>
    some (.inl (before5, after5, x4))
  ) else (
    some (.inr (.nrm (before2, after2)))
  )
noncomputable def axis_Check (a1 : List GAxisStep) : Option (Int) :=
  ctl2 (iter (fun (a : Int × Int × Int) => axis_Check_L1 a1 a.1 a.2.1 a.2.2) (0, 0, 0)) fun (before4 : Int) (after4 : Int) =>
  if ((decide (2147483647 < before4)) || (decide (2147483647 < after4))) then (
    some 3
  ) else (
    some 0
  )
noncomputable def axis_lengths_L1 (a1 : List GAxisStep) (before2 : Int) (after2 : Int) (x2 : Int) : Option ((Int × Int × Int) ⊕ (Int × Int)) :=
  if (decide (x2 < (a1.length : Int))) then (
    bnd2 (
      bnd1 (idx a1 x2) fun (x5 : GAxisStep) =>
      bnd1 (
        if (!decide (x5.Kind = 1)) then (
          bnd1 (chk .i64 (before2 + x5.N)) fun (before7 : Int) =>
          some before7
        ) else (
          some before2
        )
      ) fun (before6 : Int) =>
      if (!decide (x5.Kind = 2)) then (
        bnd1 (chk .i64 (after2 + x5.N)) fun (after6 : Int) =>
        some (before6, after6)
      ) else (
        some (before6, after2)
      )
    ) fun (before5 : Int) (after5 : Int) =>
    bnd1 (chk .i64 (x2 + 1)) fun (x4 : Int) =>
    some (.inl (before5, after5, x4))
  ) else (
    some (.inr (before2, after2))
  )
noncomputable def axis_lengths (a1 : List GAxisStep) : Option (Int × Int) :=
  bnd2 (iter (fun (a : Int × Int × Int) => axis_lengths_L1 a1 a.1 a.2.1 a.2.2) (0, 0, 0)) fun (before4 : Int) (after4 : Int) =>
  some (before4, after4)
noncomputable def axis_place_L1 (a1 : List GAxisStep) (p1 : Int) (from2 : Int) (to2 : Int) (x2 : Int) : Option ((Int × Int × Int) ⊕ (Ctl Unit Int)) :=
  if (decide (x2 < (a1.length : Int))) then (
    ctl2 (
      bnd1 (idx a1 x2) fun (x5 : GAxisStep) =>
      ctl1 (
        if (decide (x5.Kind = 1)) then (
          bnd1 (chk .i64 (to2 + x5.N)) fun (to6 : Int) =>
          some (.ext (.nrm (from2, to6)))
        ) else (
          if (decide (x5.Kind = 0)) then (
            bnd1 (chk .i64 (from2 + x5.N)) fun (x6 : Int) =>
            if (decide (p1 < x6)) then (
              bnd1 (chk .i64 (to2 + p1)) fun (x7 : Int) =>
              bnd1 (chk .i64 (x7 - from2)) fun (x8 : Int) =>
              some (.ext (.ext (.inr (.ext x8))))
            ) else (
              bnd1 (chk .i64 (to2 + x5.N)) fun (to7 : Int) =>
              some (.nrm to7)
            )
          ) else (
            bnd1 (chk .i64 (from2 + x5.N)) fun (x9 : Int) =>
            if (decide (p1 < x9)) then (
              some (.ext (.ext (.inr (.ext (-1)))))
            ) else (
              some (.nrm to2)
            )
          )
        )
      ) fun (to5 : Int) =>
      bnd1 (chk .i64 (from2 + x5.N)) fun (from5 : Int) =>
      some (.nrm (from5, to5))
    ) fun (from4 : Int) (to4 : Int) =>
    bnd1 (chk .i64 (x2 + 1)) fun (x4 : Int) =>
    some (.inl (from4, to4, x4))
  ) else (
    some (.inr (.nrm ()))
  )
noncomputable def axis_place (a1 : List GAxisStep) (p1 : Int) : Option (Int) :=
  ctl1 (iter (fun (a : Int × Int × Int) => axis_place_L1 a1 p1 a.1 a.2.1 a.2.2) (0, 0, 0)) fun (u2 : Unit) =>
  some (-1)
noncomputable def axis_Apply_L1 (a1 : List GAxisStep) (places1 : List Int) (r1 : Int) (x2 : Int) (out2 : List Int) : Option ((Int × (List Int)) ⊕ (Ctl (List Int) ((List Int) × Int))) :=
  if (decide (x2 < (places1.length : Int))) then (
    bnd1 (idx places1 x2) fun (x4 : Int) =>
    if ((decide (x4 < 0)) || (decide (r1 ≤ x4))) then (
      some (.inr (.ext ([], 2)))
    ) else (
      bnd1 (axis_place a1 x4) fun (r3 : Int) =>
      bnd1 (app 8 out2 [r3]) fun (out5 : List Int) =>
      bnd1 (chk .i64 (x2 + 1)) fun (x5 : Int) =>
      some (.inl (x5, out5))
    )
  ) else (
    some (.inr (.nrm out2))
  )
noncomputable def axis_Apply (a1 : List GAxisStep) (places1 : List Int) : Option ((List Int) × Int) :=
  bnd1 (axis_Check a1) fun (e1 : Int) =>
  if (!decide (e1 = 0)) then (
    some ([], e1)
  ) else (
    bnd2 (axis_lengths a1) fun (r1 : Int) (r2 : Int) =>
    ctl1 (iter (fun (a : Int × (List Int)) => axis_Apply_L1 a1 places1 r1 a.1 a.2) (0, [])) fun (out4 : List Int) =>
    some (out4, 0)
  )
noncomputable def ref_AxisError_L1 (a1 : List GAxisStep) (old2 : Int) (now2 : Int) (x2 : Int) : Option ((Int × Int × Int) ⊕ (Ctl (Int × Int) Int)) :=
  if (decide (x2 < (a1.length : Int))) then (
    ctl2 (
      bnd1 (idx a1 x2) fun (x5 : GAxisStep) =>
      bnd1 (ref_In x5.Kind 0 2) fun (r1 : Bool) =>
      if (!r1) then (
        some (.ext (.inr (.ext 8)))
      ) else (
        bnd1 (ref_In x5.N 1 2147483647) fun (r2 : Bool) =>
        if (!r2) then (
          some (.ext (.inr (.ext 2)))
        ) else (
          bnd1 (gd ((decide (0 < x2)) == true) (chk .i64 (x2 - 1))) fun (x6 : Int) =>
          bnd1 (gd ((decide (0 < x2)) == true) (idx a1 x6)) fun (x7 : GAxisStep) =>
          bnd1 (gd ((((decide (0 < x2)) == true) && ((decide (x5.Kind = x7.Kind)) == false)) && ((decide (x5.Kind = 1)) == true)) (chk .i64 (x2 - 1))) fun (x8 : Int) =>
          bnd1 (gd ((((decide (0 < x2)) == true) && ((decide (x5.Kind = x7.Kind)) == false)) && ((decide (x5.Kind = 1)) == true)) (idx a1 x8)) fun (x9 : GAxisStep) =>
          if ((decide (0 < x2)) && ((decide (x5.Kind = x7.Kind)) || ((decide (x5.Kind = 1)) && (decide (x9.Kind = 2))))) then (
            some (.ext (.inr (.ext 5)))
          ) else (
            bnd1 (
              if ((!decide (x5.Kind = 1)) && (decide (old2 < 2147483648))) then (
                bnd1 (chk .i64 (old2 + x5.N)) fun (old7 : Int) =>
                some old7
              ) else (
                some old2
              )
            ) fun (old6 : Int) =>
            if ((!decide (x5.Kind = 2)) && (decide (now2 < 2147483648))) then (
              bnd1 (chk .i64 (now2 + x5.N)) fun (now6 : Int) =>
              some (.nrm (old6, now6))
            ) else (
              some (.nrm (old6, now2))
            )
          )
        )
      )
    ) fun (old5 : Int) (now5 : Int) =>
    bnd1 (chk .i64 (x2 + 1)) fun (x4 : Int) =>
    some (.inl (old5, now5, x4))
  ) else (
    some (.inr (.nrm (old2, now2)))
  )
noncomputable def ref_AxisError (a1 : List GAxisStep) : Option (Int) :=
  ctl2 (iter (fun (a : Int × Int × Int) => ref_AxisError_L1 a1 a.1 a.2.1 a.2.2) (0, 0, 0)) fun (old4 : Int) (now4 : Int) =>
  if ((decide (2147483647 < old4)) || (decide (2147483647 < now4))) then (
    some 3
  ) else (
    some 0
  )
noncomputable def attr_Name_L1 (s1 : List UInt8) (x2 : Int) : Option (Int ⊕ (Ctl Unit Bool)) :=
  if (decide (x2 < (s1.length : Int))) then (
    bnd1 (idx s1 x2) fun (c1 : UInt8) =>
    if (((((decide ((c1.toNat : Int) < 97)) || (decide (122 < (c1.toNat : Int)))) && ((decide ((c1.toNat : Int) < 48)) || (decide (57 < (c1.toNat : Int))))) && (!decide ((c1.toNat : Int) = 46))) && (!decide ((c1.toNat : Int) = 45))) then (
      some (.inr (.ext false))
    ) else (
      bnd1 (chk .i64 (x2 + 1)) fun (x4 : Int) =>
      some (.inl x4)
    )
  ) else (
    some (.inr (.nrm ()))
  )
noncomputable def attr_Name (s1 : List UInt8) : Option (Bool) :=
  bnd1 (gd (((decide (s1 = [])) || (decide (24 < (s1.length : Int)))) == false) (idx s1 0)) fun (ch1 : UInt8) =>
  bnd1 (gd ((((decide (s1 = [])) || (decide (24 < (s1.length : Int)))) || (decide ((ch1.toNat : Int) < 97))) == false) (idx s1 0)) fun (ch2 : UInt8) =>
  if ((((decide (s1 = [])) || (decide (24 < (s1.length : Int)))) || (decide ((ch1.toNat : Int) < 97))) || (decide (122 < (ch2.toNat : Int)))) then (
    some false
  ) else (
    ctl1 (iter (fun (a : Int) => attr_Name_L1 s1 a) 0) fun (u2 : Unit) =>
    some true
  )
noncomputable def attr_Value_L1 (s1 : List UInt8) (x2 : Int) : Option (Int ⊕ (Ctl Unit Bool)) :=
  if (decide (x2 < (s1.length : Int))) then (
    bnd1 (idx s1 x2) fun (ch1 : UInt8) =>
    if ((decide ((ch1.toNat : Int) < 32)) || (decide (126 < (ch1.toNat : Int)))) then (
      some (.inr (.ext false))
    ) else (
      bnd1 (chk .i64 (x2 + 1)) fun (x4 : Int) =>
      some (.inl x4)
    )
  ) else (
    some (.inr (.nrm ()))
  )
noncomputable def attr_Value (s1 : List UInt8) : Option (Bool) :=
  if ((decide (s1 = [])) || (decide (200 < (s1.length : Int)))) then (
    some false
  ) else (
    ctl1 (iter (fun (a : Int) => attr_Value_L1 s1 a) 0) fun (u2 : Unit) =>
    some true
  )
noncomputable def attr_check_L1 (l1 : List GAttr) (empty1 : Bool) (x2 : Int) : Option (Int ⊕ (Ctl Unit Int)) :=
  if (decide (x2 < (l1.length : Int))) then (
    bnd1 (idx l1 x2) fun (x4 : GAttr) =>
    bnd1 (attr_Name x4.Name) fun (r1 : Bool) =>
    if (!r1) then (
      some (.inr (.ext 9))
    ) else (
      bnd1 (attr_Value x4.Value) fun (r2 : Bool) =>
      if ((!r2) && (!(empty1 && (decide (x4.Value = []))))) then (
        some (.inr (.ext 23))
      ) else (
        bnd1 (gd ((decide (0 < x2)) == true) (chk .i64 (x2 - 1))) fun (x5 : Int) =>
        bnd1 (gd ((decide (0 < x2)) == true) (idx l1 x5)) fun (x6 : GAttr) =>
        if ((decide (0 < x2)) && (sLt x4.Name x6.Name || decide (x4.Name = x6.Name))) then (
          some (.inr (.ext 5))
        ) else (
          bnd1 (chk .i64 (x2 + 1)) fun (x7 : Int) =>
          some (.inl x7)
        )
      )
    )
  ) else (
    some (.inr (.nrm ()))
  )
noncomputable def attr_check (l1 : List GAttr) (empty1 : Bool) : Option (Int) :=
  ctl1 (iter (fun (a : Int) => attr_check_L1 l1 empty1 a) 0) fun (u2 : Unit) =>
  some 0
noncomputable def attr_Check (l1 : List GAttr) : Option (Int) :=
  bnd1 (attr_check l1 false) fun (r1 : Int) =>
  some r1
noncomputable def ref_SameAttrs_L1 (a1 : List GAttr) (b1 : List GAttr) (x2 : Int) : Option (Int ⊕ (Ctl Unit Bool)) :=
  if (decide (x2 < (a1.length : Int))) then (
    bnd1 (idx a1 x2) fun (x4 : GAttr) =>
    bnd1 (idx b1 x2) fun (x5 : GAttr) =>
    if (!(decide (x4.Name = x5.Name) && (decide (x4.Value = x5.Value) && true))) then (
      some (.inr (.ext false))
    ) else (
      bnd1 (chk .i64 (x2 + 1)) fun (x6 : Int) =>
      some (.inl x6)
    )
  ) else (
    some (.inr (.nrm ()))
  )
noncomputable def ref_SameAttrs (a1 : List GAttr) (b1 : List GAttr) : Option (Bool) :=
  if (!decide ((a1.length : Int) = (b1.length : Int))) then (
    some false
  ) else (
    ctl1 (iter (fun (a : Int) => ref_SameAttrs_L1 a1 b1 a) 0) fun (u2 : Unit) =>
    some true
  )
noncomputable def ref_Name_L1 (s1 : List UInt8) (x2 : Int) : Option (Int ⊕ (Ctl Unit Bool)) :=
  if (decide (x2 < (s1.length : Int))) then (
    bnd1 (idx s1 x2) fun (ch1 : UInt8) =>
    if ((!((decide (97 ≤ (ch1.toNat : Int))) && (decide ((ch1.toNat : Int) ≤ 122)))) && ((decide (x2 = 0)) || (((!decide ((ch1.toNat : Int) = 46)) && (!decide ((ch1.toNat : Int) = 45))) && ((decide ((ch1.toNat : Int) < 48)) || (decide (57 < (ch1.toNat : Int))))))) then (
      some (.inr (.ext false))
    ) else (
      bnd1 (chk .i64 (x2 + 1)) fun (x4 : Int) =>
      some (.inl x4)
    )
  ) else (
    some (.inr (.nrm ()))
  )
noncomputable def ref_Name (s1 : List UInt8) : Option (Bool) :=
  ctl1 (iter (fun (a : Int) => ref_Name_L1 s1 a) 0) fun (u2 : Unit) =>
  some ((decide (1 ≤ (s1.length : Int))) && (decide ((s1.length : Int) ≤ 24)))
noncomputable def ref_Value_L1 (s1 : List UInt8) (x2 : Int) : Option (Int ⊕ (Ctl Unit Bool)) :=
  if (decide (x2 < (s1.length : Int))) then (
    bnd1 (idx s1 x2) fun (ch1 : UInt8) =>
    if ((decide ((ch1.toNat : Int) < 32)) || (decide (126 < (ch1.toNat : Int)))) then (
      some (.inr (.ext false))
    ) else (
      bnd1 (chk .i64 (x2 + 1)) fun (x4 : Int) =>
      some (.inl x4)
    )
  ) else (
    some (.inr (.nrm ()))
  )
noncomputable def ref_Value (s1 : List UInt8) : Option (Bool) :=
  ctl1 (iter (fun (a : Int) => ref_Value_L1 s1 a) 0) fun (u2 : Unit) =>
  some ((decide (1 ≤ (s1.length : Int))) && (decide ((s1.length : Int) ≤ 200)))
noncomputable def ref_AttrsError_L1 (l1 : List GAttr) (change1 : Bool) (x2 : Int) : Option (Int ⊕ (Ctl Unit Int)) :=
  if (decide (x2 < (l1.length : Int))) then (
    bnd1 (idx l1 x2) fun (x4 : GAttr) =>
    bnd1 (ref_Name x4.Name) fun (r1 : Bool) =>
    if (!r1) then (
      some (.inr (.ext 9))
    ) else (
      bnd1 (ref_Value x4.Value) fun (r2 : Bool) =>
      if ((!r2) && ((!decide (x4.Value = [])) || (!change1))) then (
        some (.inr (.ext 23))
      ) else (
        bnd1 (gd ((decide (0 < x2)) == true) (chk .i64 (x2 - 1))) fun (x5 : Int) =>
        bnd1 (gd ((decide (0 < x2)) == true) (idx l1 x5)) fun (x6 : GAttr) =>
        if ((decide (0 < x2)) && (!sLt x6.Name x4.Name)) then (
          some (.inr (.ext 5))
        ) else (
          bnd1 (chk .i64 (x2 + 1)) fun (x7 : Int) =>
          some (.inl x7)
        )
      )
    )
  ) else (
    some (.inr (.nrm ()))
  )
noncomputable def ref_AttrsError (l1 : List GAttr) (change1 : Bool) : Option (Int) :=
  ctl1 (iter (fun (a : Int) => ref_AttrsError_L1 l1 change1 a) 0) fun (u2 : Unit) =>
  some 0
noncomputable def flow_Char (c1 : Int) : Option (Bool) :=
  some (((((decide (c1 = 9)) || (decide (c1 = 10))) || ((decide (32 ≤ c1)) && (decide (c1 < 127)))) || ((decide (160 ≤ c1)) && (decide (c1 < 55296)))) || ((decide (57343 < c1)) && (decide (c1 ≤ 1114111))))
noncomputable def ref_Char (c1 : Int) : Option (Bool) :=
  bnd1 (gd (((decide (c1 = 9)) || (decide (c1 = 10))) == false) (ref_In c1 32 126)) fun (r1 : Bool) =>
  bnd1 (gd ((((decide (c1 = 9)) || (decide (c1 = 10))) || r1) == false) (ref_In c1 160 55295)) fun (r2 : Bool) =>
  bnd1 (gd (((((decide (c1 = 9)) || (decide (c1 = 10))) || r1) || r2) == false) (ref_In c1 57344 1114111)) fun (r3 : Bool) =>
  some (((((decide (c1 = 9)) || (decide (c1 = 10))) || r1) || r2) || r3)
noncomputable def axis_Lengths (a1 : List GAxisStep) : Option (Int × Int × Int) :=
  bnd1 (axis_Check a1) fun (e1 : Int) =>
  if (!decide (e1 = 0)) then (
    some (0, 0, e1)
  ) else (
    bnd2 (axis_lengths a1) fun (r1 : Int) (r2 : Int) =>
    some (r1, r2, 0)
  )
noncomputable def axis_Hull_L1 (a1 : List GAxisStep) (from1 : Int) (to1 : Int) (first2 : Int) (last2 : Int) (old2 : Int) (now2 : Int) (x2 : Int) : Option ((Int × Int × Int × Int × Int) ⊕ (Int × Int)) :=
  if (decide (x2 < (a1.length : Int))) then (
    bnd4 (
      bnd1 (idx a1 x2) fun (x5 : GAxisStep) =>
      bnd1 (chk .i64 (old2 + x5.N)) fun (x6 : Int) =>
      bnd2 (
        if ((decide (x5.Kind = 0)) && (decide ((max from1 old2) < (min to1 x6)))) then (
          bnd1 (
            if (decide (last2 = 0)) then (
              bnd1 (chk .i64 (now2 + (max from1 old2))) fun (x8 : Int) =>
              bnd1 (chk .i64 (x8 - old2)) fun (first8 : Int) =>
              some first8
            ) else (
              some first2
            )
          ) fun (first7 : Int) =>
          bnd1 (chk .i64 (now2 + (min to1 x6))) fun (x7 : Int) =>
          bnd1 (chk .i64 (x7 - old2)) fun (last7 : Int) =>
          some (first7, last7)
        ) else (
          some (first2, last2)
        )
      ) fun (first6 : Int) (last6 : Int) =>
      bnd1 (
        if (!decide (x5.Kind = 2)) then (
          bnd1 (chk .i64 (now2 + x5.N)) fun (now6 : Int) =>
          some now6
        ) else (
          some now2
        )
      ) fun (now5 : Int) =>
      if (!decide (x5.Kind = 1)) then (
        some (first6, last6, x6, now5)
      ) else (
        some (first6, last6, old2, now5)
      )
    ) fun (first5 : Int) (last5 : Int) (old4 : Int) (now4 : Int) =>
    bnd1 (chk .i64 (x2 + 1)) fun (x4 : Int) =>
    some (.inl (first5, last5, old4, now4, x4))
  ) else (
    some (.inr (first2, last2))
  )
noncomputable def axis_Hull (a1 : List GAxisStep) (from1 : Int) (to1 : Int) : Option (Int × Int) :=
  bnd2 (iter (fun (a : Int × Int × Int × Int × Int) => axis_Hull_L1 a1 from1 to1 a.1 a.2.1 a.2.2.1 a.2.2.2.1 a.2.2.2.2) (0, 0, 0, 0, 0)) fun (first4 : Int) (last4 : Int) =>
  some (first4, last4)
end Go.Proofs.YtfkolgjapajekaaDoor.Al


namespace Go.Proofs.YtfkolgjapajekaaDoor.Al
structure Ref_Act where
  Adds : List (List GElem)
  Cuts : List Bool
  Attrs : List (List GAttr)
deriving DecidableEq
instance : Inhabited Ref_Act := ⟨⟨[], [], []⟩⟩
@[reducible] def Ref_Act.row (x : Ref_Act) : List RV := [.sl (x.Adds.map (rSl GElem.row)), .sl (x.Cuts.map rBool), .sl (x.Attrs.map (rSl GAttr.row))]
end Go.Proofs.YtfkolgjapajekaaDoor.Al


namespace Go.Proofs.YtfkolgjapajekaaDoor.Al
end Go.Proofs.YtfkolgjapajekaaDoor.Al


namespace Go.Proofs.YtfkolgjapajekaaDoor.Al
structure Delta_Reader where
  steps : List GStep
  used : Int
deriving DecidableEq
instance : Inhabited Delta_Reader := ⟨⟨[], 0⟩⟩
@[reducible] def Delta_Reader.row (x : Delta_Reader) : List RV := [.sl (x.steps.map GStep.row), .int .i64 x.used]
structure Delta_Writer where
  out : List GStep
  add : List GElem
  cut : Int
deriving DecidableEq
instance : Inhabited Delta_Writer := ⟨⟨[], [], 0⟩⟩
@[reducible] def Delta_Writer.row (x : Delta_Writer) : List RV := [.sl (x.out.map GStep.row), .sl (x.add.map GElem.row), .int .i64 x.cut]
end Go.Proofs.YtfkolgjapajekaaDoor.Al


namespace Go.Proofs.YtfkolgjapajekaaDoor.Al
structure Utf8_AcceptRange where
  lo : Int
  hi : Int
deriving DecidableEq
instance : Inhabited Utf8_AcceptRange := ⟨⟨0, 0⟩⟩
@[reducible] def Utf8_AcceptRange.row (x : Utf8_AcceptRange) : List RV := [.int .u8 x.lo, .int .u8 x.hi]
noncomputable def tabAccept : List Utf8_AcceptRange := tabAccept0.map fun p => Utf8_AcceptRange.mk p.1 p.2
noncomputable def unicode_utf8_decodeRuneInStringSlow (s1 : List UInt8) : Option (Int × Int) :=
  if (decide ((s1.length : Int) < 1)) then (
    some (65533, 0)
  ) else (
    bnd1 (idx s1 0) fun (s01 : UInt8) =>
    bnd1 (idx tabFirst (s01.toNat : Int)) fun (x1 : Int) =>
    if (decide (240 ≤ x1)) then (
      some ((bOr .i32 (bAndNot .i32 (IntKind.i32.wrap (s01.toNat : Int)) (shrC .i32 (shlC .i32 (IntKind.i32.wrap x1) 31) 31)) (bAnd .i32 65533 (shrC .i32 (shlC .i32 (IntKind.i32.wrap x1) 31) 31))), 1)
    ) else (
      bnd1 (idx tabAccept (shrC .u8 x1 4)) fun (x2 : Utf8_AcceptRange) =>
      if (decide ((s1.length : Int) < (IntKind.i64.wrap (bAnd .u8 x1 7)))) then (
        some (65533, 1)
      ) else (
        bnd1 (idx s1 1) fun (s11 : UInt8) =>
        if ((decide ((s11.toNat : Int) < x2.lo)) || (decide (x2.hi < (s11.toNat : Int)))) then (
          some (65533, 1)
        ) else (
          if (decide ((IntKind.i64.wrap (bAnd .u8 x1 7)) ≤ 2)) then (
            some ((bOr .i32 (shlC .i32 (IntKind.i32.wrap (bAnd .u8 (s01.toNat : Int) 31)) 6) (IntKind.i32.wrap (bAnd .u8 (s11.toNat : Int) 63))), 2)
          ) else (
            bnd1 (idx s1 2) fun (s21 : UInt8) =>
            if ((decide ((s21.toNat : Int) < 128)) || (decide (191 < (s21.toNat : Int)))) then (
              some (65533, 1)
            ) else (
              if (decide ((IntKind.i64.wrap (bAnd .u8 x1 7)) ≤ 3)) then (
                some ((bOr .i32 (bOr .i32 (shlC .i32 (IntKind.i32.wrap (bAnd .u8 (s01.toNat : Int) 15)) 12) (shlC .i32 (IntKind.i32.wrap (bAnd .u8 (s11.toNat : Int) 63)) 6)) (IntKind.i32.wrap (bAnd .u8 (s21.toNat : Int) 63))), 3)
              ) else (
                bnd1 (idx s1 3) fun (s31 : UInt8) =>
                if ((decide ((s31.toNat : Int) < 128)) || (decide (191 < (s31.toNat : Int)))) then (
                  some (65533, 1)
                ) else (
                  some ((bOr .i32 (bOr .i32 (bOr .i32 (shlC .i32 (IntKind.i32.wrap (bAnd .u8 (s01.toNat : Int) 7)) 18) (shlC .i32 (IntKind.i32.wrap (bAnd .u8 (s11.toNat : Int) 63)) 12)) (shlC .i32 (IntKind.i32.wrap (bAnd .u8 (s21.toNat : Int) 63)) 6)) (IntKind.i32.wrap (bAnd .u8 (s31.toNat : Int) 63))), 4)
                )
              )
            )
          )
        )
      )
    )
  )
noncomputable def unicode_utf8_DecodeRuneInString (s1 : List UInt8) : Option (Int × Int) :=
  bnd1 (gd ((!decide (s1 = [])) == true) (idx s1 0)) fun (ch1 : UInt8) =>
  if ((!decide (s1 = [])) && (decide ((ch1.toNat : Int) < 128))) then (
    bnd1 (idx s1 0) fun (ch2 : UInt8) =>
    some ((IntKind.i32.wrap (ch2.toNat : Int)), 1)
  ) else (
    bnd2 (unicode_utf8_decodeRuneInStringSlow s1) fun (r1 : Int) (r2 : Int) =>
    some (r1, r2)
  )
end Go.Proofs.YtfkolgjapajekaaDoor.Al


namespace Go.Proofs.YtfkolgjapajekaaDoor.Al
end Go.Proofs.YtfkolgjapajekaaDoor.Al


namespace Go.Proofs.YtfkolgjapajekaaDoor.Al
end Go.Proofs.YtfkolgjapajekaaDoor.Al


namespace Go.Proofs.YtfkolgjapajekaaDoor.Al
structure GDoc where
  Nodes : List GNode
deriving DecidableEq
instance : Inhabited GDoc := ⟨⟨[]⟩⟩
@[reducible] def GDoc.row (x : GDoc) : List RV := [.sl (x.Nodes.map GNode.row)]
noncomputable def grid_Text_L1 (s3 : List UInt8) : Option ((List UInt8) ⊕ (Ctl Unit Bool)) :=
  if (!decide (s3 = [])) then (
    bnd2 (unicode_utf8_DecodeRuneInString s3) fun (r1 : Int) (r2 : Int) =>
    bnd1 (gd ((((decide (r1 = 65533)) && (decide (r2 = 1))) || (decide (r1 = 10))) == false) (flow_Char (IntKind.i64.wrap r1))) fun (r3 : Bool) =>
    if ((((decide (r1 = 65533)) && (decide (r2 = 1))) || (decide (r1 = 10))) || (!r3)) then (
      some (.inr (.ext false))
    ) else (
      bnd1 (slc s3 r2 (s3.length : Int)) fun (s5 : List UInt8) =>
      some (.inl s5)
    )
  ) else (
    some (.inr (.nrm ()))
  )
noncomputable def grid_Text (s1 : List UInt8) : Option (Bool) :=
  ctl1 (iter (fun (a : (List UInt8)) => grid_Text_L1 a) s1) fun (u2 : Unit) =>
  some true
noncomputable def grid_empty (c1 : GCell) : Option (Bool) :=
  some (((decide (c1.Text = [])) && (decide (c1.Ref = 0))) && (decide ((c1.Attrs.length : Int) = 0)))
noncomputable def cmp_isNaN_int (x1 : Int) : Option (Bool) :=
  some (!decide (x1 = x1))
noncomputable def cmp_Compare_int (x1 : Int) (y1 : Int) : Option (Int) :=
  bnd1 (cmp_isNaN_int x1) fun (xNaN1 : Bool) =>
  bnd1 (cmp_isNaN_int y1) fun (yNaN1 : Bool) =>
  if xNaN1 then (
    if yNaN1 then (
      some 0
    ) else (
      some (-1)
    )
  ) else (
    if yNaN1 then (
      some 1
    ) else (
      if (decide (x1 < y1)) then (
        some (-1)
      ) else (
        if (decide (y1 < x1)) then (
          some 1
        ) else (
          some 0
        )
      )
    )
  )
noncomputable def cmp_Or_int_L1 (vals1 : List Int) (x2 : Int) : Option (Int ⊕ (Ctl Unit Int)) :=
  if (decide (x2 < (vals1.length : Int))) then (
    bnd1 (idx vals1 x2) fun (x4 : Int) =>
    if (!decide (x4 = 0)) then (
      some (.inr (.ext x4))
    ) else (
      bnd1 (chk .i64 (x2 + 1)) fun (x5 : Int) =>
      some (.inl x5)
    )
  ) else (
    some (.inr (.nrm ()))
  )
noncomputable def cmp_Or_int (vals1 : List Int) : Option (Int) :=
  ctl1 (iter (fun (a : Int) => cmp_Or_int_L1 vals1 a) 0) fun (u2 : Unit) =>
  some 0
noncomputable def grid_order (a1 : GCell) (b1 : GCell) : Option (Int) :=
  bnd1 (cmp_Compare_int a1.Row b1.Row) fun (r1 : Int) =>
  bnd1 (cmp_Compare_int a1.Col b1.Col) fun (r2 : Int) =>
  bnd1 (cmp_Or_int [r1, r2]) fun (r3 : Int) =>
  some r3
noncomputable def grid_cells_L1 (l1 : List GCell) (rows1 : Int) (cols1 : Int) (none1 : Bool) (x2 : Int) : Option (Int ⊕ (Ctl Unit Int)) :=
  if (decide (x2 < (l1.length : Int))) then (
    bnd1 (idx l1 x2) fun (x4 : GCell) =>
    if ((((decide (x4.Row < 0)) || (decide (rows1 ≤ x4.Row))) || (decide (x4.Col < 0))) || (decide (cols1 ≤ x4.Col))) then (
      some (.inr (.ext 2))
    ) else (
      if ((decide (x4.Ref < 0)) || (decide (1073741824 < x4.Ref))) then (
        some (.inr (.ext 2))
      ) else (
        bnd1 (grid_Text x4.Text) fun (r1 : Bool) =>
        if (!r1) then (
          some (.inr (.ext 23))
        ) else (
          bnd1 (attr_Check x4.Attrs) fun (e1 : Int) =>
          if (!decide (e1 = 0)) then (
            some (.inr (.ext e1))
          ) else (
            bnd1 (grid_empty x4) fun (r2 : Bool) =>
            if (r2 && (!none1)) then (
              some (.inr (.ext 4))
            ) else (
              bnd1 (gd ((decide (0 < x2)) == true) (chk .i64 (x2 - 1))) fun (x5 : Int) =>
              bnd1 (gd ((decide (0 < x2)) == true) (idx l1 x5)) fun (x6 : GCell) =>
              bnd1 (gd ((decide (0 < x2)) == true) (grid_order x6 x4)) fun (r3 : Int) =>
              if ((decide (0 < x2)) && (decide (0 ≤ r3))) then (
                some (.inr (.ext 5))
              ) else (
                bnd1 (chk .i64 (x2 + 1)) fun (x7 : Int) =>
                some (.inl x7)
              )
            )
          )
        )
      )
    )
  ) else (
    some (.inr (.nrm ()))
  )
noncomputable def grid_cells (l1 : List GCell) (rows1 : Int) (cols1 : Int) (none1 : Bool) : Option (Int) :=
  ctl1 (iter (fun (a : Int) => grid_cells_L1 l1 rows1 cols1 none1 a) 0) fun (u2 : Unit) =>
  some 0
noncomputable def grid_inside (r1 : GRect) (rows1 : Int) (cols1 : Int) : Option (Bool) :=
  bnd1 (gd (((((((decide (0 ≤ r1.Row)) && (decide (0 ≤ r1.Col))) && (decide (1 ≤ r1.H))) && (decide (1 ≤ r1.W))) && (decide (r1.Row < rows1))) && (decide (r1.Col < cols1))) == true) (chk .i64 (rows1 - r1.Row))) fun (x1 : Int) =>
  bnd1 (gd ((((((((decide (0 ≤ r1.Row)) && (decide (0 ≤ r1.Col))) && (decide (1 ≤ r1.H))) && (decide (1 ≤ r1.W))) && (decide (r1.Row < rows1))) && (decide (r1.Col < cols1))) && (decide (r1.H ≤ x1))) == true) (chk .i64 (cols1 - r1.Col))) fun (x2 : Int) =>
  some ((((((((decide (0 ≤ r1.Row)) && (decide (0 ≤ r1.Col))) && (decide (1 ≤ r1.H))) && (decide (1 ≤ r1.W))) && (decide (r1.Row < rows1))) && (decide (r1.Col < cols1))) && (decide (r1.H ≤ x1))) && (decide (r1.W ≤ x2)))
noncomputable def grid_before (a1 : GRect) (b1 : GRect) : Option (Bool) :=
  some ((decide (a1.Row < b1.Row)) || ((decide (a1.Row = b1.Row)) && (decide (a1.Col < b1.Col))))
noncomputable def grid_meets (a1 : GRect) (b1 : GRect) : Option (Bool) :=
  bnd1 (chk .i64 (b1.Row + b1.H)) fun (x1 : Int) =>
  bnd1 (gd ((decide (a1.Row < x1)) == true) (chk .i64 (a1.Row + a1.H))) fun (x2 : Int) =>
  bnd1 (gd (((decide (a1.Row < x1)) && (decide (b1.Row < x2))) == true) (chk .i64 (b1.Col + b1.W))) fun (x3 : Int) =>
  bnd1 (gd ((((decide (a1.Row < x1)) && (decide (b1.Row < x2))) && (decide (a1.Col < x3))) == true) (chk .i64 (a1.Col + a1.W))) fun (x4 : Int) =>
  some ((((decide (a1.Row < x1)) && (decide (b1.Row < x2))) && (decide (a1.Col < x3))) && (decide (b1.Col < x4)))
noncomputable def grid_Check_f1 (w1 : GRect) (q1 : GRect) : Option (Bool) :=
  bnd1 (grid_meets q1 w1) fun (r1 : Bool) =>
  some r1
noncomputable def slices_IndexFunc_api_Rect_api_Rect__Check_f1_L1 (w1 : GRect) (s1 : List GRect) (x2 : Int) : Option (Int ⊕ (Ctl Unit Int)) :=
  if (decide (x2 < (s1.length : Int))) then (
    bnd1 (idx s1 x2) fun (x4 : GRect) =>
    bnd1 (grid_Check_f1 w1 x4) fun (r1 : Bool) =>
    if r1 then (
      some (.inr (.ext x2))
    ) else (
      bnd1 (chk .i64 (x2 + 1)) fun (x5 : Int) =>
      some (.inl x5)
    )
  ) else (
    some (.inr (.nrm ()))
  )
noncomputable def slices_IndexFunc_api_Rect_api_Rect__Check_f1 (w1 : GRect) (s1 : List GRect) : Option (Int) :=
  ctl1 (iter (fun (a : Int) => slices_IndexFunc_api_Rect_api_Rect__Check_f1_L1 w1 s1 a) 0) fun (u2 : Unit) =>
  some (-1)
noncomputable def slices_ContainsFunc_api_Rect_api_Rect__Check_f1 (w1 : GRect) (s1 : List GRect) : Option (Bool) :=
  bnd1 (slices_IndexFunc_api_Rect_api_Rect__Check_f1 w1 s1) fun (r1 : Int) =>
  some (decide (0 ≤ r1))
noncomputable def grid_Check_L1 (g1 : GGrid) (x2 : Int) : Option (Int ⊕ (Ctl Unit Int)) :=
  if (decide (x2 < (g1.Merges.length : Int))) then (
    bnd1 (idx g1.Merges x2) fun (x4 : GRect) =>
    bnd1 (grid_inside x4 g1.Rows g1.Cols) fun (r1 : Bool) =>
    if (!r1) then (
      some (.inr (.ext 2))
    ) else (
      if ((decide (x4.H = 1)) && (decide (x4.W = 1))) then (
        some (.inr (.ext 4))
      ) else (
        bnd1 (gd ((decide (0 < x2)) == true) (chk .i64 (x2 - 1))) fun (x5 : Int) =>
        bnd1 (gd ((decide (0 < x2)) == true) (idx g1.Merges x5)) fun (x6 : GRect) =>
        bnd1 (gd ((decide (0 < x2)) == true) (grid_before x6 x4)) fun (r2 : Bool) =>
        if ((decide (0 < x2)) && (!r2)) then (
          some (.inr (.ext 5))
        ) else (
          bnd1 (slc g1.Merges 0 x2) fun (l1 : List GRect) =>
          bnd1 (slices_ContainsFunc_api_Rect_api_Rect__Check_f1 x4 l1) fun (r3 : Bool) =>
          if r3 then (
            some (.inr (.ext 21))
          ) else (
            bnd1 (chk .i64 (x2 + 1)) fun (x7 : Int) =>
            some (.inl x7)
          )
        )
      )
    )
  ) else (
    some (.inr (.nrm ()))
  )
noncomputable def grid_Check (g1 : GGrid) : Option (Int) :=
  if ((((decide (g1.Rows < 0)) || (decide (2147483647 < g1.Rows))) || (decide (g1.Cols < 0))) || (decide (2147483647 < g1.Cols))) then (
    some 2
  ) else (
    bnd1 (grid_cells g1.Cells g1.Rows g1.Cols false) fun (e1 : Int) =>
    if (!decide (e1 = 0)) then (
      some e1
    ) else (
      ctl1 (iter (fun (a : Int) => grid_Check_L1 g1 a) 0) fun (u2 : Unit) =>
      some 0
    )
  )
noncomputable def ref_SameCell (a1 : GCell) (b1 : GCell) : Option (Bool) :=
  bnd1 (gd (((((decide (a1.Row = b1.Row)) && (decide (a1.Col = b1.Col))) && (decide (a1.Text = b1.Text))) && (decide (a1.Ref = b1.Ref))) == true) (ref_SameAttrs a1.Attrs b1.Attrs)) fun (r1 : Bool) =>
  some (((((decide (a1.Row = b1.Row)) && (decide (a1.Col = b1.Col))) && (decide (a1.Text = b1.Text))) && (decide (a1.Ref = b1.Ref))) && r1)
end Go.Proofs.YtfkolgjapajekaaDoor.Al


namespace Go.Proofs.YtfkolgjapajekaaDoor.Al
noncomputable def unicode_utf8_ValidString (s1 : List UInt8) : Option (Bool) :=
  validS s1
noncomputable def ref_CellText_L1 (s1 : List UInt8) (p2 : (Nat)) : Option ((Nat) ⊕ (Ctl Unit Bool)) :=
  if (decide (p2 < s1.length)) then (
    bnd1 (gd ((decide (((runeAt s1 p2).1 : Int) = 10)) == false) (ref_Char (IntKind.i64.wrap ((runeAt s1 p2).1 : Int)))) fun (r2 : Bool) =>
    if ((decide (((runeAt s1 p2).1 : Int) = 10)) || (!r2)) then (
      some (.inr (.ext false))
    ) else (
      some (.inl (p2 + (runeAt s1 p2).2))
    )
  ) else (
    some (.inr (.nrm ()))
  )
noncomputable def ref_CellText (s1 : List UInt8) : Option (Bool) :=
  bnd1 (unicode_utf8_ValidString s1) fun (r1 : Bool) =>
  if (!r1) then (
    some false
  ) else (
    ctl1 (iter (fun (a : (Nat)) => ref_CellText_L1 s1 a) 0) fun (u2 : Unit) =>
    some true
  )
noncomputable def ref_EmptyCell (c1 : GCell) : Option (Bool) :=
  some (((decide (c1.Text = [])) && (decide (c1.Ref = 0))) && (decide ((c1.Attrs.length : Int) = 0)))
noncomputable def ref_CellsError_L1 (l1 : List GCell) (rows1 : Int) (cols1 : Int) (none1 : Bool) (x2 : Int) : Option (Int ⊕ (Ctl Unit Int)) :=
  if (decide (x2 < (l1.length : Int))) then (
    bnd1 (idx l1 x2) fun (x4 : GCell) =>
    bnd1 (chk .i64 (rows1 - 1)) fun (x5 : Int) =>
    bnd1 (ref_In x4.Row 0 x5) fun (r1 : Bool) =>
    bnd1 (gd ((!r1) == false) (chk .i64 (cols1 - 1))) fun (x6 : Int) =>
    bnd1 (gd ((!r1) == false) (ref_In x4.Col 0 x6)) fun (r2 : Bool) =>
    bnd1 (gd (((!r1) || (!r2)) == false) (ref_In x4.Ref 0 1073741824)) fun (r3 : Bool) =>
    if (((!r1) || (!r2)) || (!r3)) then (
      some (.inr (.ext 2))
    ) else (
      bnd1 (ref_CellText x4.Text) fun (r4 : Bool) =>
      if (!r4) then (
        some (.inr (.ext 23))
      ) else (
        bnd1 (ref_AttrsError x4.Attrs false) fun (e1 : Int) =>
        if (!decide (e1 = 0)) then (
          some (.inr (.ext e1))
        ) else (
          bnd1 (gd ((!none1) == true) (ref_EmptyCell x4)) fun (r5 : Bool) =>
          if ((!none1) && r5) then (
            some (.inr (.ext 4))
          ) else (
            bnd1 (gd ((decide (0 < x2)) == true) (chk .i64 (x2 - 1))) fun (x7 : Int) =>
            bnd1 (gd ((decide (0 < x2)) == true) (idx l1 x7)) fun (x8 : GCell) =>
            bnd1 (gd ((((decide (0 < x2)) == true) && ((decide (x4.Row < x8.Row)) == false)) && ((decide (x4.Row = x8.Row)) == true)) (chk .i64 (x2 - 1))) fun (x9 : Int) =>
            bnd1 (gd ((((decide (0 < x2)) == true) && ((decide (x4.Row < x8.Row)) == false)) && ((decide (x4.Row = x8.Row)) == true)) (idx l1 x9)) fun (x10 : GCell) =>
            if ((decide (0 < x2)) && ((decide (x4.Row < x8.Row)) || ((decide (x4.Row = x8.Row)) && (decide (x4.Col ≤ x10.Col))))) then (
              some (.inr (.ext 5))
            ) else (
              bnd1 (chk .i64 (x2 + 1)) fun (x11 : Int) =>
              some (.inl x11)
            )
          )
        )
      )
    )
  ) else (
    some (.inr (.nrm ()))
  )
noncomputable def ref_CellsError (l1 : List GCell) (rows1 : Int) (cols1 : Int) (none1 : Bool) : Option (Int) :=
  ctl1 (iter (fun (a : Int) => ref_CellsError_L1 l1 rows1 cols1 none1 a) 0) fun (u2 : Unit) =>
  some 0
noncomputable def ref_Lies (r1 : GRect) (rows1 : Int) (cols1 : Int) : Option (Bool) :=
  bnd1 (chk .i64 (rows1 - 1)) fun (x1 : Int) =>
  bnd1 (ref_In r1.Row 0 x1) fun (r2 : Bool) =>
  bnd1 (gd (r2 == true) (chk .i64 (cols1 - 1))) fun (x2 : Int) =>
  bnd1 (gd (r2 == true) (ref_In r1.Col 0 x2)) fun (r3 : Bool) =>
  bnd1 (gd ((r2 && r3) == true) (chk .i64 (rows1 - r1.Row))) fun (x3 : Int) =>
  bnd1 (gd ((r2 && r3) == true) (ref_In r1.H 1 x3)) fun (r4 : Bool) =>
  bnd1 (gd (((r2 && r3) && r4) == true) (chk .i64 (cols1 - r1.Col))) fun (x4 : Int) =>
  bnd1 (gd (((r2 && r3) && r4) == true) (ref_In r1.W 1 x4)) fun (r5 : Bool) =>
  some (((r2 && r3) && r4) && r5)
noncomputable def ref_Share (a1 : GRect) (b1 : GRect) : Option (Bool) :=
  bnd1 (chk .i64 (a1.Row + a1.H)) fun (x1 : Int) =>
  bnd1 (chk .i64 (b1.Row + b1.H)) fun (x2 : Int) =>
  bnd1 (gd ((decide ((max a1.Row b1.Row) < (min x1 x2))) == true) (chk .i64 (a1.Col + a1.W))) fun (x3 : Int) =>
  bnd1 (gd ((decide ((max a1.Row b1.Row) < (min x1 x2))) == true) (chk .i64 (b1.Col + b1.W))) fun (x4 : Int) =>
  some ((decide ((max a1.Row b1.Row) < (min x1 x2))) && (decide ((max a1.Col b1.Col) < (min x3 x4))))
noncomputable def ref_GridError_L2 (g1 : GGrid) (x2 : Int) (x4 : GRect) (x10 : Int) : Option (Int ⊕ (Ctl Unit (Int ⊕ (Ctl Unit Int)))) :=
  if (decide (x10 < x2)) then (
    bnd1 (idx g1.Merges x10) fun (x13 : GRect) =>
    bnd1 (ref_Share x4 x13) fun (r4 : Bool) =>
    if r4 then (
      some (.inr (.ext (.inr (.ext 21))))
    ) else (
      bnd1 (chk .i64 (x10 + 1)) fun (x14 : Int) =>
      some (.inl x14)
    )
  ) else (
    some (.inr (.nrm ()))
  )
noncomputable def ref_GridError_L1 (g1 : GGrid) (x2 : Int) : Option (Int ⊕ (Ctl Unit Int)) :=
  if (decide (x2 < (g1.Merges.length : Int))) then (
    bnd1 (idx g1.Merges x2) fun (x4 : GRect) =>
    bnd1 (ref_Lies x4 g1.Rows g1.Cols) fun (r3 : Bool) =>
    if (!r3) then (
      some (.inr (.ext 2))
    ) else (
      if ((decide (x4.H = 1)) && (decide (x4.W = 1))) then (
        some (.inr (.ext 4))
      ) else (
        bnd1 (gd ((decide (0 < x2)) == true) (chk .i64 (x2 - 1))) fun (x5 : Int) =>
        bnd1 (gd ((decide (0 < x2)) == true) (idx g1.Merges x5)) fun (x6 : GRect) =>
        bnd1 (gd ((((decide (0 < x2)) == true) && ((decide (x4.Row < x6.Row)) == false)) && ((decide (x4.Row = x6.Row)) == true)) (chk .i64 (x2 - 1))) fun (x7 : Int) =>
        bnd1 (gd ((((decide (0 < x2)) == true) && ((decide (x4.Row < x6.Row)) == false)) && ((decide (x4.Row = x6.Row)) == true)) (idx g1.Merges x7)) fun (x8 : GRect) =>
        if ((decide (0 < x2)) && ((decide (x4.Row < x6.Row)) || ((decide (x4.Row = x6.Row)) && (decide (x4.Col ≤ x8.Col))))) then (
          some (.inr (.ext 5))
        ) else (
          ctl1 (iter (fun (a : Int) => ref_GridError_L2 g1 x2 x4 a) 0) fun (u4 : Unit) =>
          bnd1 (chk .i64 (x2 + 1)) fun (x12 : Int) =>
          some (.inl x12)
        )
      )
    )
  ) else (
    some (.inr (.nrm ()))
  )
noncomputable def ref_GridError (g1 : GGrid) : Option (Int) :=
  bnd1 (ref_In g1.Rows 0 2147483647) fun (r1 : Bool) =>
  bnd1 (gd ((!r1) == false) (ref_In g1.Cols 0 2147483647)) fun (r2 : Bool) =>
  if ((!r1) || (!r2)) then (
    some 2
  ) else (
    bnd1 (ref_CellsError g1.Cells g1.Rows g1.Cols false) fun (e1 : Int) =>
    if (!decide (e1 = 0)) then (
      some e1
    ) else (
      ctl1 (iter (fun (a : Int) => ref_GridError_L1 g1 a) 0) fun (u2 : Unit) =>
      some 0
    )
  )
end Go.Proofs.YtfkolgjapajekaaDoor.Al


namespace Go.Proofs.YtfkolgjapajekaaDoor.Al
noncomputable def grid_CheckEdit_L3 (x5 : Int) (l1 : List GRect) (x8 : Int) : Option (Int ⊕ (Ctl Unit (Int ⊕ (Ctl Unit Int)))) :=
  if (decide (x8 < (l1.length : Int))) then (
    bnd1 (idx l1 x8) fun (x11 : GRect) =>
    bnd1 (grid_inside x11 2147483647 2147483647) fun (r1 : Bool) =>
    if (!r1) then (
      some (.inr (.ext (.inr (.ext 2))))
    ) else (
      if (((decide (x5 = 1)) && (decide (x11.H = 1))) && (decide (x11.W = 1))) then (
        some (.inr (.ext (.inr (.ext 4))))
      ) else (
        bnd1 (chk .i64 (x8 + 1)) fun (x12 : Int) =>
        some (.inl x12)
      )
    )
  ) else (
    some (.inr (.nrm ()))
  )
noncomputable def grid_CheckEdit_L2 (e1 : GGridEdit) (x5 : Int) : Option (Int ⊕ (Ctl Unit Int)) :=
  if (decide (x5 < 2)) then (
    bnd1 (idx ([e1.Split, e1.Merge] : List (List GRect)) x5) fun (l1 : List GRect) =>
    ctl1 (iter (fun (a : Int) => grid_CheckEdit_L3 x5 l1 a) 0) fun (u6 : Unit) =>
    bnd1 (chk .i64 (x5 + 1)) fun (x10 : Int) =>
    some (.inl x10)
  ) else (
    some (.inr (.nrm ()))
  )
noncomputable def grid_CheckEdit_L1 (e1 : GGridEdit) (x2 : Int) : Option (Int ⊕ (Ctl Unit Int)) :=
  if (decide (x2 < 2)) then (
    bnd1 (idx ([e1.Rows, e1.Cols] : List (List GAxisStep)) x2) fun (a1 : List GAxisStep) =>
    bnd1 (axis_Check a1) fun (f2 : Int) =>
    if (!decide (f2 = 0)) then (
      some (.inr (.ext f2))
    ) else (
      bnd1 (chk .i64 (x2 + 1)) fun (x13 : Int) =>
      some (.inl x13)
    )
  ) else (
    some (.inr (.nrm ()))
  )
noncomputable def grid_CheckEdit (e1 : GGridEdit) : Option (Int) :=
  ctl1 (iter (fun (a : Int) => grid_CheckEdit_L1 e1 a) 0) fun (u2 : Unit) =>
  bnd1 (grid_cells e1.Cells 2147483647 2147483647 true) fun (f1 : Int) =>
  if (!decide (f1 = 0)) then (
    some f1
  ) else (
    ctl1 (iter (fun (a : Int) => grid_CheckEdit_L2 e1 a) 0) fun (u4 : Unit) =>
    some 0
  )
noncomputable def grid_size (n1 : Int) (a1 : List GAxisStep) : Option (Int × Bool) :=
  if (decide ((a1.length : Int) = 0)) then (
    some (n1, true)
  ) else (
    bnd3 (axis_Lengths a1) fun (r1 : Int) (r2 : Int) (r3 : Int) =>
    some (r2, (decide (r1 = n1)))
  )
noncomputable def grid_fits_L3 (r1 : Int) (r3 : Int) (l1 : List GRect) (x8 : Int) : Option (Int ⊕ (Ctl Unit (Int ⊕ (Ctl Unit (Int × Int × Int))))) :=
  if (decide (x8 < (l1.length : Int))) then (
    bnd1 (idx l1 x8) fun (x11 : GRect) =>
    bnd1 (grid_inside x11 r1 r3) fun (r5 : Bool) =>
    if (!r5) then (
      some (.inr (.ext (.inr (.ext (0, 0, 2)))))
    ) else (
      bnd1 (chk .i64 (x8 + 1)) fun (x12 : Int) =>
      some (.inl x12)
    )
  ) else (
    some (.inr (.nrm ()))
  )
noncomputable def grid_fits_L2 (e1 : GGridEdit) (r1 : Int) (r3 : Int) (x5 : Int) : Option (Int ⊕ (Ctl Unit (Int × Int × Int))) :=
  if (decide (x5 < 2)) then (
    bnd1 (idx ([e1.Split, e1.Merge] : List (List GRect)) x5) fun (l1 : List GRect) =>
    ctl1 (iter (fun (a : Int) => grid_fits_L3 r1 r3 l1 a) 0) fun (u6 : Unit) =>
    bnd1 (chk .i64 (x5 + 1)) fun (x10 : Int) =>
    some (.inl x10)
  ) else (
    some (.inr (.nrm ()))
  )
noncomputable def grid_fits_L1 (e1 : GGridEdit) (r1 : Int) (r3 : Int) (x2 : Int) : Option (Int ⊕ (Ctl Unit (Int × Int × Int))) :=
  if (decide (x2 < (e1.Cells.length : Int))) then (
    bnd1 (idx e1.Cells x2) fun (x13 : GCell) =>
    if ((decide (r1 ≤ x13.Row)) || (decide (r3 ≤ x13.Col))) then (
      some (.inr (.ext (0, 0, 2)))
    ) else (
      bnd1 (chk .i64 (x2 + 1)) fun (x14 : Int) =>
      some (.inl x14)
    )
  ) else (
    some (.inr (.nrm ()))
  )
noncomputable def grid_fits (g1 : GGrid) (e1 : GGridEdit) : Option (Int × Int × Int) :=
  bnd1 (grid_Check g1) fun (f1 : Int) =>
  if (!decide (f1 = 0)) then (
    some (0, 0, f1)
  ) else (
    bnd1 (grid_CheckEdit e1) fun (f2 : Int) =>
    if (!decide (f2 = 0)) then (
      some (0, 0, f2)
    ) else (
      bnd2 (grid_size g1.Rows e1.Rows) fun (r1 : Int) (r2 : Bool) =>
      bnd2 (grid_size g1.Cols e1.Cols) fun (r3 : Int) (r4 : Bool) =>
      if ((!r2) || (!r4)) then (
        some (0, 0, 14)
      ) else (
        ctl1 (iter (fun (a : Int) => grid_fits_L1 e1 r1 r3 a) 0) fun (u2 : Unit) =>
        ctl1 (iter (fun (a : Int) => grid_fits_L2 e1 r1 r3 a) 0) fun (u4 : Unit) =>
        some (r1, r3, 0)
      )
    )
  )
noncomputable def grid_clone (c1 : GCell) : Option (GCell) :=
  bnd1 (app 32 [] c1.Attrs) fun (l1 : List GAttr) =>
  some (GCell.mk c1.Row c1.Col c1.Text c1.Ref l1)
noncomputable def grid_Moved_L1 (l1 : List GCell) (rows1 : List GAxisStep) (cols1 : List GAxisStep) (x2 : Int) (out2 : List GCell) : Option ((Int × (List GCell)) ⊕ (List GCell)) :=
  if (decide (x2 < (l1.length : Int))) then (
    bnd1 (
      bnd1 (idx l1 x2) fun (x5 : GCell) =>
      bnd1 (grid_clone x5) fun (r1 : GCell) =>
      ctl1 (
        if (decide (0 < (rows1.length : Int))) then (
          bnd2 (axis_Apply rows1 [r1.Row]) fun (r4 : List Int) (r5 : Int) =>
          bnd1 (gd ((!decide (r5 = 0)) == false) (idx r4 0)) fun (x8 : Int) =>
          if ((!decide (r5 = 0)) || (decide (x8 < 0))) then (
            some (.ext out2)
          ) else (
            bnd1 (idx r4 0) fun (x9 : Int) =>
            some (.nrm (GCell.mk x9 r1.Col r1.Text r1.Ref r1.Attrs))
          )
        ) else (
          some (.nrm r1)
        )
      ) fun (c1 : GCell) =>
      ctl1 (
        if (decide (0 < (cols1.length : Int))) then (
          bnd2 (axis_Apply cols1 [c1.Col]) fun (r2 : List Int) (r3 : Int) =>
          bnd1 (gd ((!decide (r3 = 0)) == false) (idx r2 0)) fun (x6 : Int) =>
          if ((!decide (r3 = 0)) || (decide (x6 < 0))) then (
            some (.ext out2)
          ) else (
            bnd1 (idx r2 0) fun (x7 : Int) =>
            some (.nrm (GCell.mk c1.Row x7 c1.Text c1.Ref c1.Attrs))
          )
        ) else (
          some (.nrm c1)
        )
      ) fun (c2 : GCell) =>
      bnd1 (app 64 out2 [c2]) fun (out6 : List GCell) =>
      some out6
    ) fun (out5 : List GCell) =>
    bnd1 (chk .i64 (x2 + 1)) fun (x4 : Int) =>
    some (.inl (x4, out5))
  ) else (
    some (.inr out2)
  )
noncomputable def grid_Moved (l1 : List GCell) (rows1 : List GAxisStep) (cols1 : List GAxisStep) : Option ((List GCell)) :=
  bnd1 (iter (fun (a : Int × (List GCell)) => grid_Moved_L1 l1 rows1 cols1 a.1 a.2) (0, [])) fun (out4 : List GCell) =>
  some out4
noncomputable def grid_put_L2 (l1 : List GCell) (x5 : GCell) (i15 : Int) (out7 : List GCell) : Option ((Int × (List GCell)) ⊕ (Int × (List GCell))) :=
  bnd1 (gd ((decide (i15 < (l1.length : Int))) == true) (idx l1 i15)) fun (x7 : GCell) =>
  bnd1 (gd ((decide (i15 < (l1.length : Int))) == true) (grid_order x7 x5)) fun (r4 : Int) =>
  if ((decide (i15 < (l1.length : Int))) && (decide (r4 < 0))) then (
    bnd1 (idx l1 i15) fun (x8 : GCell) =>
    bnd1 (app 64 out7 [x8]) fun (out11 : List GCell) =>
    bnd1 (chk .i64 (i15 + 1)) fun (i24 : Int) =>
    some (.inl (i24, out11))
  ) else (
    some (.inr (i15, out7))
  )
noncomputable def grid_put_L1 (l1 : List GCell) (news1 : List GCell) (i4 : Int) (x2 : Int) (out2 : List GCell) : Option ((Int × Int × (List GCell)) ⊕ (Int × (List GCell))) :=
  if (decide (x2 < (news1.length : Int))) then (
    bnd2 (
      bnd1 (idx news1 x2) fun (x5 : GCell) =>
      bnd2 (iter (fun (a : Int × (List GCell)) => grid_put_L2 l1 x5 a.1 a.2) (i4, out2)) fun (i19 : Int) (out9 : List GCell) =>
      bnd1 (gd ((decide (i19 < (l1.length : Int))) == true) (idx l1 i19)) fun (x6 : GCell) =>
      bnd1 (gd ((decide (i19 < (l1.length : Int))) == true) (grid_order x6 x5)) fun (r1 : Int) =>
      bnd1 (
        if ((decide (i19 < (l1.length : Int))) && (decide (r1 = 0))) then (
          bnd1 (chk .i64 (i19 + 1)) fun (i23 : Int) =>
          some i23
        ) else (
          some i19
        )
      ) fun (i21 : Int) =>
      bnd1 (grid_empty x5) fun (r2 : Bool) =>
      if (!r2) then (
        bnd1 (grid_clone x5) fun (r3 : GCell) =>
        bnd1 (app 64 out9 [r3]) fun (out10 : List GCell) =>
        some (i21, out10)
      ) else (
        some (i21, out9)
      )
    ) fun (i10 : Int) (out5 : List GCell) =>
    bnd1 (chk .i64 (x2 + 1)) fun (x4 : Int) =>
    some (.inl (i10, x4, out5))
  ) else (
    some (.inr (i4, out2))
  )
noncomputable def grid_put (l1 : List GCell) (news1 : List GCell) : Option ((List GCell)) :=
  bnd2 (iter (fun (a : Int × Int × (List GCell)) => grid_put_L1 l1 news1 a.1 a.2.1 a.2.2) (0, 0, [])) fun (i8 : Int) (out4 : List GCell) =>
  bnd1 (slc l1 i8 (l1.length : Int)) fun (l2 : List GCell) =>
  bnd1 (app 64 out4 l2) fun (l3 : List GCell) =>
  some l3
noncomputable def grid_through (r1 : GRect) (rows1 : List GAxisStep) (cols1 : List GAxisStep) : Option (GRect × Bool) :=
  bnd1 (
    if (decide (0 < (rows1.length : Int))) then (
      bnd1 (chk .i64 (r1.Row + r1.H)) fun (x4 : Int) =>
      bnd2 (axis_Hull rows1 r1.Row x4) fun (r6 : Int) (r7 : Int) =>
      bnd1 (chk .i64 (r7 - r6)) fun (x5 : Int) =>
      some (GRect.mk r6 r1.Col x5 r1.W)
    ) else (
      some r1
    )
  ) fun (r2 : GRect) =>
  bnd1 (
    if (decide (0 < (cols1.length : Int))) then (
      bnd1 (chk .i64 (r2.Col + r2.W)) fun (x2 : Int) =>
      bnd2 (axis_Hull cols1 r2.Col x2) fun (r4 : Int) (r5 : Int) =>
      bnd1 (chk .i64 (r5 - r4)) fun (x3 : Int) =>
      some (GRect.mk r2.Row r4 r2.H x3)
    ) else (
      some r2
    )
  ) fun (r3 : GRect) =>
  bnd1 (gd (((decide (0 < r3.H)) && (decide (0 < r3.W))) == true) (chk .i64 (r3.H + r3.W))) fun (x1 : Int) =>
  some (r3, (((decide (0 < r3.H)) && (decide (0 < r3.W))) && (decide (2 < x1))))
noncomputable def slices_Index_api_Rect_api_Rect_L1 (s1 : List GRect) (v1 : GRect) (x2 : Int) : Option (Int ⊕ (Ctl Unit Int)) :=
  if (decide (x2 < (s1.length : Int))) then (
    bnd1 (idx s1 x2) fun (x4 : GRect) =>
    if (decide (v1.Row = x4.Row) && (decide (v1.Col = x4.Col) && (decide (v1.H = x4.H) && (decide (v1.W = x4.W) && true)))) then (
      some (.inr (.ext x2))
    ) else (
      bnd1 (chk .i64 (x2 + 1)) fun (x5 : Int) =>
      some (.inl x5)
    )
  ) else (
    some (.inr (.nrm ()))
  )
noncomputable def slices_Index_api_Rect_api_Rect (s1 : List GRect) (v1 : GRect) : Option (Int) :=
  ctl1 (iter (fun (a : Int) => slices_Index_api_Rect_api_Rect_L1 s1 v1 a) 0) fun (u2 : Unit) =>
  some (-1)
noncomputable def slices_Contains_api_Rect_api_Rect (s1 : List GRect) (v1 : GRect) : Option (Bool) :=
  bnd1 (slices_Index_api_Rect_api_Rect s1 v1) fun (r1 : Int) =>
  some (decide (0 ≤ r1))
noncomputable def math_bits_Len64 (x1 : Int) : Option (Int) :=
  bnd2 (
    if (decide (4294967296 ≤ x1)) then (
      some ((shrC .u64 x1 32), 32)
    ) else (
      some (x1, 0)
    )
  ) fun (x2 : Int) (n1 : Int) =>
  bnd2 (
    if (decide (65536 ≤ x2)) then (
      bnd1 (chk .i64 (n1 + 16)) fun (n6 : Int) =>
      some ((shrC .u64 x2 16), n6)
    ) else (
      some (x2, n1)
    )
  ) fun (x3 : Int) (n2 : Int) =>
  bnd2 (
    if (decide (256 ≤ x3)) then (
      bnd1 (chk .i64 (n2 + 8)) fun (n5 : Int) =>
      some ((shrC .u64 x3 8), n5)
    ) else (
      some (x3, n2)
    )
  ) fun (x4 : Int) (n3 : Int) =>
  bnd1 (idx [0, 1, 2, 2, 3, 3, 3, 3, 4, 4, 4, 4, 4, 4, 4, 4, 5, 5, 5, 5, 5, 5, 5, 5, 5, 5, 5, 5, 5, 5, 5, 5, 6, 6, 6, 6, 6, 6, 6, 6, 6, 6, 6, 6, 6, 6, 6, 6, 6, 6, 6, 6, 6, 6, 6, 6, 6, 6, 6, 6, 6, 6, 6, 6, 7, 7, 7, 7, 7, 7, 7, 7, 7, 7, 7, 7, 7, 7, 7, 7, 7, 7, 7, 7, 7, 7, 7, 7, 7, 7, 7, 7, 7, 7, 7, 7, 7, 7, 7, 7, 7, 7, 7, 7, 7, 7, 7, 7, 7, 7, 7, 7, 7, 7, 7, 7, 7, 7, 7, 7, 7, 7, 7, 7, 7, 7, 7, 7, 8, 8, 8, 8, 8, 8, 8, 8, 8, 8, 8, 8, 8, 8, 8, 8, 8, 8, 8, 8, 8, 8, 8, 8, 8, 8, 8, 8, 8, 8, 8, 8, 8, 8, 8, 8, 8, 8, 8, 8, 8, 8, 8, 8, 8, 8, 8, 8, 8, 8, 8, 8, 8, 8, 8, 8, 8, 8, 8, 8, 8, 8, 8, 8, 8, 8, 8, 8, 8, 8, 8, 8, 8, 8, 8, 8, 8, 8, 8, 8, 8, 8, 8, 8, 8, 8, 8, 8, 8, 8, 8, 8, 8, 8, 8, 8, 8, 8, 8, 8, 8, 8, 8, 8, 8, 8, 8, 8, 8, 8, 8, 8, 8, 8, 8, 8, 8, 8, 8, 8, 8, 8, 8, 8, 8, 8, 8, 8] (IntKind.u8.wrap x4)) fun (ch1 : UInt8) =>
  bnd1 (chk .i64 (n3 + (IntKind.i64.wrap (ch1.toNat : Int)))) fun (n4 : Int) =>
  some n4
noncomputable def math_bits_Len (x1 : Int) : Option (Int) :=
  bnd1 (math_bits_Len64 x1) fun (r1 : Int) =>
  some r1
noncomputable def slices_insertionSortCmpFunc_api_Rect__Raw_f2_L1 (b1 : Int) (i1 : Int) (u1 : Unit) : Option (Unit ⊕ (Ctl Unit Unit)) :=
  if (decide (i1 < b1)) then (
    none
  ) else (
    some (.inr (.ext ()))
  )
noncomputable def slices_insertionSortCmpFunc_api_Rect__Raw_f2 (data1 : List GRect) (a1 : Int) (b1 : Int) : Option (Unit) :=
  bnd1 (chk .i64 (a1 + 1)) fun (i1 : Int) =>
  ctl1 (iter (fun (a : Unit) => slices_insertionSortCmpFunc_api_Rect__Raw_f2_L1 b1 i1 a) ()) fun (u3 : Unit) =>
  none
noncomputable def slices_pdqsortCmpFunc_api_Rect__Raw_f2_L1 (data1 : List GRect) (a1 : Int) (b1 : Int) (u1 : Unit) : Option (Unit ⊕ (Ctl Unit Unit)) :=
  bnd1 (chk .i64 (b1 - a1)) fun (length1 : Int) =>
  if (decide (length1 ≤ 12)) then (
    bnd1 (slices_insertionSortCmpFunc_api_Rect__Raw_f2 data1 a1 b1) fun (u4 : Unit) =>
    some (.inr (.ext ()))
  ) else (
    none
  )
noncomputable def slices_pdqsortCmpFunc_api_Rect__Raw_f2 (data1 : List GRect) (a1 : Int) (b1 : Int) (limit1 : Int) : Option (Unit) :=
  ctl1 (iter (fun (a : Unit) => slices_pdqsortCmpFunc_api_Rect__Raw_f2_L1 data1 a1 b1 a) ()) fun (u3 : Unit) =>
  none
noncomputable def slices_SortFunc_api_Rect_api_Rect__Raw_f2 (x1 : List GRect) : Option (Unit) :=
  bnd1 (math_bits_Len (IntKind.u64.wrap (x1.length : Int))) fun (r1 : Int) =>
  bnd1 (slices_pdqsortCmpFunc_api_Rect__Raw_f2 x1 0 (x1.length : Int) r1) fun (u1 : Unit) =>
  some ()
noncomputable def grid_Raw_L2 (e1 : GGridEdit) (u2 : Unit) : Option (Unit ⊕ Unit) :=
  if (decide (0 < (e1.Merge.length : Int))) then (
    none
  ) else (
    some (.inr ())
  )
noncomputable def grid_Raw_L1 (g1 : GGrid) (e1 : GGridEdit) (x2 : Int) (out2 : GGrid) : Option ((Int × GGrid) ⊕ GGrid) :=
  if (decide (x2 < (g1.Merges.length : Int))) then (
    bnd1 (
      bnd1 (idx g1.Merges x2) fun (x5 : GRect) =>
      bnd2 (grid_through x5 e1.Rows e1.Cols) fun (r7 : GRect) (r8 : Bool) =>
      bnd1 (gd (r8 == true) (slices_Contains_api_Rect_api_Rect e1.Split r7)) fun (r9 : Bool) =>
      if (r8 && (!r9)) then (
        bnd1 (app 32 out2.Merges [r7]) fun (l1 : List GRect) =>
        some (GGrid.mk out2.Rows out2.Cols out2.Cells l1)
      ) else (
        some out2
      )
    ) fun (out5 : GGrid) =>
    bnd1 (chk .i64 (x2 + 1)) fun (x4 : Int) =>
    some (.inl (x4, out5))
  ) else (
    some (.inr out2)
  )
noncomputable def grid_Raw (g1 : GGrid) (e1 : GGridEdit) : Option (GGrid) :=
  bnd2 (grid_size g1.Rows e1.Rows) fun (r1 : Int) (r2 : Bool) =>
  bnd2 (grid_size g1.Cols e1.Cols) fun (r3 : Int) (r4 : Bool) =>
  bnd1 (grid_Moved g1.Cells e1.Rows e1.Cols) fun (r5 : List GCell) =>
  bnd1 (grid_put r5 e1.Cells) fun (r6 : List GCell) =>
  bnd1 (iter (fun (a : Int × GGrid) => grid_Raw_L1 g1 e1 a.1 a.2) (0, (GGrid.mk r1 r3 r6 []))) fun (out4 : GGrid) =>
  bnd1 (iter (fun (a : Unit) => grid_Raw_L2 e1 a) ()) fun (u4 : Unit) =>
  bnd1 (slices_SortFunc_api_Rect_api_Rect__Raw_f2 out4.Merges) fun (u5 : Unit) =>
  some out4
noncomputable def grid_Apply (g1 : GGrid) (e1 : GGridEdit) : Option (GGrid × Int) :=
  bnd3 (grid_fits g1 e1) fun (r1 : Int) (r2 : Int) (r3 : Int) =>
  if (!decide (r3 = 0)) then (
    some ((GGrid.mk 0 0 [] []), r3)
  ) else (
    bnd1 (grid_Raw g1 e1) fun (r4 : GGrid) =>
    some (r4, 0)
  )
noncomputable def law_grids : Option (Bool) :=
  bnd2 (grid_Apply (GGrid.mk 2 1 [(GCell.mk 1 0 [120] 0 [])] []) (GGridEdit.mk [(GAxisStep.mk 1 1), (GAxisStep.mk 0 2)] [] [] [] [])) fun (r1 : GGrid) (r2 : Int) =>
  bnd1 (gd ((((decide (r2 = 0)) && (decide (r1.Rows = 3))) && (decide ((r1.Cells.length : Int) = 1))) == true) (idx r1.Cells 0)) fun (x1 : GCell) =>
  some ((((decide (r2 = 0)) && (decide (r1.Rows = 3))) && (decide ((r1.Cells.length : Int) = 1))) && (decide (x1.Row = 2)))
noncomputable def ref_EditError_L2 (e1 : GGridEdit) (x5 : Int) : Option (Int ⊕ (Ctl Unit Int)) :=
  if (decide (x5 < (e1.Merge.length : Int))) then (
    bnd1 (idx e1.Merge x5) fun (x7 : GRect) =>
    bnd1 (ref_Lies x7 2147483647 2147483647) fun (r1 : Bool) =>
    if (!r1) then (
      some (.inr (.ext 2))
    ) else (
      if ((decide (x7.H = 1)) && (decide (x7.W = 1))) then (
        some (.inr (.ext 4))
      ) else (
        bnd1 (chk .i64 (x5 + 1)) fun (x8 : Int) =>
        some (.inl x8)
      )
    )
  ) else (
    some (.inr (.nrm ()))
  )
noncomputable def ref_EditError_L1 (e1 : GGridEdit) (x2 : Int) : Option (Int ⊕ (Ctl Unit Int)) :=
  if (decide (x2 < (e1.Split.length : Int))) then (
    bnd1 (idx e1.Split x2) fun (x9 : GRect) =>
    bnd1 (ref_Lies x9 2147483647 2147483647) fun (r2 : Bool) =>
    if (!r2) then (
      some (.inr (.ext 2))
    ) else (
      bnd1 (chk .i64 (x2 + 1)) fun (x10 : Int) =>
      some (.inl x10)
    )
  ) else (
    some (.inr (.nrm ()))
  )
noncomputable def ref_EditError (e1 : GGridEdit) : Option (Int) :=
  bnd1 (ref_AxisError e1.Rows) fun (f1 : Int) =>
  if (!decide (f1 = 0)) then (
    some f1
  ) else (
    bnd1 (ref_AxisError e1.Cols) fun (f2 : Int) =>
    if (!decide (f2 = 0)) then (
      some f2
    ) else (
      bnd1 (ref_CellsError e1.Cells 2147483647 2147483647 true) fun (f3 : Int) =>
      if (!decide (f3 = 0)) then (
        some f3
      ) else (
        ctl1 (iter (fun (a : Int) => ref_EditError_L1 e1 a) 0) fun (u2 : Unit) =>
        ctl1 (iter (fun (a : Int) => ref_EditError_L2 e1 a) 0) fun (u4 : Unit) =>
        some 0
      )
    )
  )
noncomputable def slices_BinarySearchFunc_api_Cell_api_Cell_api_Cell__order_L1 (x1 : List GCell) (target1 : GCell) (i4 : Int) (j2 : Int) : Option ((Int × Int) ⊕ Int) :=
  if (decide (i4 < j2)) then (
    bnd1 (chk .i64 (i4 + j2)) fun (x3 : Int) =>
    bnd1 (idx x1 (IntKind.i64.wrap (shrC .u64 (IntKind.u64.wrap x3) 1))) fun (x4 : GCell) =>
    bnd1 (grid_order x4 target1) fun (r2 : Int) =>
    if (decide (r2 < 0)) then (
      bnd1 (chk .i64 ((IntKind.i64.wrap (shrC .u64 (IntKind.u64.wrap x3) 1)) + 1)) fun (i10 : Int) =>
      some (.inl (i10, j2))
    ) else (
      some (.inl (i4, (IntKind.i64.wrap (shrC .u64 (IntKind.u64.wrap x3) 1))))
    )
  ) else (
    some (.inr i4)
  )
noncomputable def slices_BinarySearchFunc_api_Cell_api_Cell_api_Cell__order (x1 : List GCell) (target1 : GCell) : Option (Int × Bool) :=
  bnd1 (iter (fun (a : Int × Int) => slices_BinarySearchFunc_api_Cell_api_Cell_api_Cell__order_L1 x1 target1 a.1 a.2) (0, (x1.length : Int))) fun (i8 : Int) =>
  bnd1 (gd ((decide (i8 < (x1.length : Int))) == true) (idx x1 i8)) fun (x2 : GCell) =>
  bnd1 (gd ((decide (i8 < (x1.length : Int))) == true) (grid_order x2 target1)) fun (r1 : Int) =>
  some (i8, ((decide (i8 < (x1.length : Int))) && (decide (r1 = 0))))
noncomputable def grid_find (l1 : List GCell) (row1 : Int) (col1 : Int) : Option (Int × Bool) :=
  bnd2 (slices_BinarySearchFunc_api_Cell_api_Cell_api_Cell__order l1 (GCell.mk row1 col1 [] 0 [])) fun (r1 : Int) (r2 : Bool) =>
  some (r1, r2)
noncomputable def grid_At (g1 : GGrid) (row1 : Int) (col1 : Int) : Option (GCell) :=
  bnd2 (grid_find g1.Cells row1 col1) fun (r1 : Int) (r2 : Bool) =>
  if (!r2) then (
    some (GCell.mk row1 col1 [] 0 [])
  ) else (
    bnd1 (idx g1.Cells r1) fun (x1 : GCell) =>
    bnd1 (grid_clone x1) fun (r3 : GCell) =>
    some r3
  )
noncomputable def grid_Cover_L1 (g1 : GGrid) (row1 : Int) (col1 : Int) (x2 : Int) : Option (Int ⊕ (Ctl Unit GRect)) :=
  if (decide (x2 < (g1.Merges.length : Int))) then (
    bnd1 (idx g1.Merges x2) fun (x4 : GRect) =>
    bnd1 (gd ((decide (x4.Row ≤ row1)) == true) (chk .i64 (row1 - x4.Row))) fun (x5 : Int) =>
    bnd1 (gd ((((decide (x4.Row ≤ row1)) && (decide (x5 < x4.H))) && (decide (x4.Col ≤ col1))) == true) (chk .i64 (col1 - x4.Col))) fun (x6 : Int) =>
    if ((((decide (x4.Row ≤ row1)) && (decide (x5 < x4.H))) && (decide (x4.Col ≤ col1))) && (decide (x6 < x4.W))) then (
      some (.inr (.ext x4))
    ) else (
      bnd1 (chk .i64 (x2 + 1)) fun (x7 : Int) =>
      some (.inl x7)
    )
  ) else (
    some (.inr (.nrm ()))
  )
noncomputable def grid_Cover (g1 : GGrid) (row1 : Int) (col1 : Int) : Option (GRect) :=
  ctl1 (iter (fun (a : Int) => grid_Cover_L1 g1 row1 col1 a) 0) fun (u2 : Unit) =>
  some (GRect.mk row1 col1 1 1)
noncomputable def ref_Cover_L1 (g1 : GGrid) (row1 : Int) (col1 : Int) (x2 : Int) : Option (Int ⊕ (Ctl Unit GRect)) :=
  if (decide (x2 < (g1.Merges.length : Int))) then (
    bnd1 (idx g1.Merges x2) fun (x4 : GRect) =>
    bnd1 (chk .i64 (x4.Row + x4.H)) fun (x5 : Int) =>
    bnd1 (chk .i64 (x5 - 1)) fun (x6 : Int) =>
    bnd1 (ref_In row1 x4.Row x6) fun (r1 : Bool) =>
    bnd1 (gd (r1 == true) (chk .i64 (x4.Col + x4.W))) fun (x7 : Int) =>
    bnd1 (gd (r1 == true) (chk .i64 (x7 - 1))) fun (x8 : Int) =>
    bnd1 (gd (r1 == true) (ref_In col1 x4.Col x8)) fun (r2 : Bool) =>
    if (r1 && r2) then (
      some (.inr (.ext x4))
    ) else (
      bnd1 (chk .i64 (x2 + 1)) fun (x9 : Int) =>
      some (.inl x9)
    )
  ) else (
    some (.inr (.nrm ()))
  )
noncomputable def ref_Cover (g1 : GGrid) (row1 : Int) (col1 : Int) : Option (GRect) :=
  ctl1 (iter (fun (a : Int) => ref_Cover_L1 g1 row1 col1 a) 0) fun (u2 : Unit) =>
  some (GRect.mk row1 col1 1 1)
noncomputable def law_GridCheckSays_L1 (g1 : GGrid) (row1 : Int) (col1 : Int) (x2 : Int) (want2 : GCell) : Option ((Int × GCell) ⊕ GCell) :=
  if (decide (x2 < (g1.Cells.length : Int))) then (
    bnd1 (
      bnd1 (idx g1.Cells x2) fun (x6 : GCell) =>
      if ((decide (x6.Row = row1)) && (decide (x6.Col = col1))) then (
        some x6
      ) else (
        some want2
      )
    ) fun (want5 : GCell) =>
    bnd1 (chk .i64 (x2 + 1)) fun (x5 : Int) =>
    some (.inl (x5, want5))
  ) else (
    some (.inr want2)
  )
noncomputable def law_GridCheckSays (g1 : GGrid) (e1 : GGridEdit) (row1 : Int) (col1 : Int) : Option (Bool) :=
  bnd1 (law_grids) fun (r1 : Bool) =>
  bnd1 (gd ((!r1) == false) (grid_Check g1)) fun (r2 : Int) =>
  bnd1 (gd ((!r1) == false) (ref_GridError g1)) fun (r3 : Int) =>
  bnd1 (gd (((!r1) || (!decide (r2 = r3))) == false) (grid_CheckEdit e1)) fun (r4 : Int) =>
  bnd1 (gd (((!r1) || (!decide (r2 = r3))) == false) (ref_EditError e1)) fun (r5 : Int) =>
  if (((!r1) || (!decide (r2 = r3))) || (!decide (r4 = r5))) then (
    some false
  ) else (
    bnd1 (ref_GridError g1) fun (r6 : Int) =>
    if (!decide (r6 = 0)) then (
      some true
    ) else (
      bnd1 (iter (fun (a : Int × GCell) => law_GridCheckSays_L1 g1 row1 col1 a.1 a.2) (0, (GCell.mk row1 col1 [] 0 []))) fun (want4 : GCell) =>
      bnd1 (grid_At g1 row1 col1) fun (r7 : GCell) =>
      bnd1 (ref_SameCell r7 want4) fun (r8 : Bool) =>
      bnd1 (gd (r8 == true) (grid_Cover g1 row1 col1)) fun (r9 : GRect) =>
      bnd1 (
        if (r8 == true) then (
          bnd1 (ref_Cover g1 row1 col1) fun (r10 : GRect) =>
          some (r8 && (decide (r9.Row = r10.Row) && (decide (r9.Col = r10.Col) && (decide (r9.H = r10.H) && (decide (r9.W = r10.W) && true)))))
        ) else (
          some (r8 && false)
        )
      ) fun (x4 : Bool) =>
      some x4
    )
  )
end Go.Proofs.YtfkolgjapajekaaDoor.Al

