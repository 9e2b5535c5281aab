/-
  PROVED: 'EditCheckSays' returns true whatever its arguments of bulk at most 1048576 are, and leaves them as they were (statement 'EditCheckSaysUptoCardSaid'). Conditions: none but the bulk.
-/
import Derived.Test.YthoepnnckmfipaaGreatDoorWlkECx3
import Derived.Deep.DeepHandedRow
import Derived.JoinedCond
import Derived.Lib.LaidTab
import Derived.OpenShut
import Derived.ProofKit
import Derived.Test.YthoepnnckmfipaaGreatDoorCards
import Derived.Test.YthoepnnckmfipaaGreatDoorChecked
import Derived.Test.YthoepnnckmfipaaGreatDoorRows
import Derived.Test.YthoepnnckmfipaaGreatDoorTie
import Derived.WalkKit
namespace Go.Proofs.YthoepnnckmfipaaGreatDoor.Al.REditCheck
open Go.Proofs Go.Proofs.Tryz Go.Proofs.YthoepnnckmfipaaGreatDoor.Al Go.Proofs.YthoepnnckmfipaaGreatDoor
open Go.ChangeShapes Go.WideShapes Go.ChangeAt Go.RowKit
set_option linter.unusedVariables false

theorem own : ownKnob prog.godebug = none := by kernel_rfl

theorem blk_all {H : Type} (l : List (DataW H)) : (l.map Rows.uptoBulk).sum = Rows.uptoBulkAll l := by
  induction l with
  | nil => simp [Rows.uptoBulkAll]
  | cons d l ih => rw [List.map_cons, List.sum_cons, ih, Rows.uptoBulkAll]
def blk (H : Type) : Blk H where
  B := Rows.uptoBulk
  one := fun d => by
    cases d with
    | lit l => cases l <;> simp [Rows.uptoBulk]
    | nil => simp [Rows.uptoBulk]
    | ptr d => simp [Rows.uptoBulk]
    | slice elems spare => simp [Rows.uptoBulk]
    | agg parts => simp [Rows.uptoBulk]
    | iface t d => simp [Rows.uptoBulk]
    | map entries => simp [Rows.uptoBulk]
    | held h => simp [Rows.uptoBulk]
  str := fun s => by simp [Rows.uptoBulk]
  sl := fun l r => by rw [blk_all, Rows.uptoBulk]; omega
  agg := fun l => by rw [blk_all, Rows.uptoBulk]; omega
def ok_67 (x : GAttr) : Prop := x.Name.length ≤ maxLen ∧ x.Value.length ≤ maxLen
def mu_67 (x : GAttr) : Nat := (x.Name.length + 1) + (x.Value.length + 1) + 1
theorem rd_67 {H : Type} {enc : TypeId × Value → H} {W : World} (K : Blk H) : Rdm K enc prog W 67 GAttr.row ok_67 mu_67 := by
  intro fuel cs x h
  obtain ⟨hlen, xs, hx, hxl, hf⟩ := struct_parts (n := 2) underlying67 (by kernel_rfl) h
  obtain ⟨y0, n0, g0, t0⟩ := hf 0 _ rfl
  obtain ⟨y1, n1, g1, t1⟩ := hf 1 _ rfl
  obtain rfl : xs = [y0, y1] := list_of_gets hxl (fun j y hj => by
    rcases j with _ | _ | j
    · cases hj; exact g0
    · cases hj; exact g1
    · cases hj)
  obtain ⟨a0, k0, r0, m0⟩ := ((Rdm.str K underlying9)) _ _ _ t0
  obtain ⟨a1, k1, r1, m1⟩ := ((Rdm.str K underlying9)) _ _ _ t1
  have m0 : a0.length + 1 ≤ K.B y0.1 := m0
  have m1 : a1.length + 1 ≤ K.B y1.1 := m1
  have hm := K.agg (List.map (fun z : DataW H × List MemPlace => z.1) [y0, y1])
  simp only [List.map_cons, List.map_nil, List.sum_cons, List.sum_nil] at hm
  refine ⟨⟨a0, a1⟩, ⟨k0, k1⟩, ⟨hlen, fun j d u h1 h2 => ?_⟩, ?_⟩
  · rcases j with _ | _ | j
    · exact r0.part (jj := 0) (by kernel_rfl) h1 h2
    · exact r1.part (jj := 0) (by kernel_rfl) h1 h2
    · cases h1
  · rw [hx]
    refine Nat.le_trans ?_ hm
    show (a0.length + 1) + (a1.length + 1) + 1 ≤ _
    omega

def ok_60 (x : GElem) : Prop := (Lit.int .i64 x.Char).wf = true ∧ (Lit.int .i64 x.Ref).wf = true ∧ (x.Attrs.length ≤ maxLen ∧ ∀ a ∈ x.Attrs, ok_67 a)
def mu_60 (x : GElem) : Nat := (1) + (1) + ((x.Attrs.map mu_67).sum + 1) + 1
theorem rd_60 {H : Type} {enc : TypeId × Value → H} {W : World} (K : Blk H) : Rdm K enc prog W 60 GElem.row ok_60 mu_60 := by
  intro fuel cs x h
  obtain ⟨hlen, xs, hx, hxl, hf⟩ := struct_parts (n := 3) underlying60 (by kernel_rfl) h
  obtain ⟨y0, n0, g0, t0⟩ := hf 0 _ rfl
  obtain ⟨y1, n1, g1, t1⟩ := hf 1 _ rfl
  obtain ⟨y2, n2, g2, t2⟩ := hf 2 _ rfl
  obtain rfl : xs = [y0, y1, y2] := list_of_gets hxl (fun j y hj => by
    rcases j with _ | _ | _ | j
    · cases hj; exact g0
    · cases hj; exact g1
    · cases hj; exact g2
    · cases hj)
  obtain ⟨a0, k0, r0, m0⟩ := ((Rdm.int K underlying3)) _ _ _ t0
  obtain ⟨a1, k1, r1, m1⟩ := ((Rdm.int K underlying3)) _ _ _ t1
  obtain ⟨a2, k2, r2, m2⟩ := ((Rdm.slice K (sz := 2) underlying26 (by kernel_rfl) (by decide) (rd_67 K) (fun _ => rfl))) _ _ _ t2
  have m0 : 1 ≤ K.B y0.1 := m0
  have m1 : 1 ≤ K.B y1.1 := m1
  have m2 : (a2.map mu_67).sum + 1 ≤ K.B y2.1 := m2
  have hm := K.agg (List.map (fun z : DataW H × List MemPlace => z.1) [y0, y1, y2])
  simp only [List.map_cons, List.map_nil, List.sum_cons, List.sum_nil] at hm
  refine ⟨⟨a0, a1, a2⟩, ⟨k0, k1, k2⟩, ⟨hlen, fun j d u h1 h2 => ?_⟩, ?_⟩
  · rcases j with _ | _ | _ | j
    · exact r0.part (jj := 0) (by kernel_rfl) h1 h2
    · exact r1.part (jj := 0) (by kernel_rfl) h1 h2
    · exact r2.part (jj := 0) (by kernel_rfl) h1 h2
    · cases h1
  · rw [hx]
    refine Nat.le_trans ?_ hm
    show (1) + (1) + ((a2.map mu_67).sum + 1) + 1 ≤ _
    omega

def ok_178 (x : GCell) : Prop := (Lit.int .i64 x.Row).wf = true ∧ (Lit.int .i64 x.Col).wf = true ∧ x.Text.length ≤ maxLen ∧ (Lit.int .i64 x.Ref).wf = true ∧ (x.Attrs.length ≤ maxLen ∧ ∀ a ∈ x.Attrs, ok_67 a)
def mu_178 (x : GCell) : Nat := (1) + (1) + (x.Text.length + 1) + (1) + ((x.Attrs.map mu_67).sum + 1) + 1
theorem rd_178 {H : Type} {enc : TypeId × Value → H} {W : World} (K : Blk H) : Rdm K enc prog W 178 GCell.row ok_178 mu_178 := by
  intro fuel cs x h
  obtain ⟨hlen, xs, hx, hxl, hf⟩ := struct_parts (n := 5) underlying178 (by kernel_rfl) h
  obtain ⟨y0, n0, g0, t0⟩ := hf 0 _ rfl
  obtain ⟨y1, n1, g1, t1⟩ := hf 1 _ rfl
  obtain ⟨y2, n2, g2, t2⟩ := hf 2 _ rfl
  obtain ⟨y3, n3, g3, t3⟩ := hf 3 _ rfl
  obtain ⟨y4, n4, g4, t4⟩ := hf 4 _ rfl
  obtain rfl : xs = [y0, y1, y2, y3, y4] := list_of_gets hxl (fun j y hj => by
    rcases j with _ | _ | _ | _ | _ | j
    · cases hj; exact g0
    · cases hj; exact g1
    · cases hj; exact g2
    · cases hj; exact g3
    · cases hj; exact g4
    · cases hj)
  obtain ⟨a0, k0, r0, m0⟩ := ((Rdm.int K underlying3)) _ _ _ t0
  obtain ⟨a1, k1, r1, m1⟩ := ((Rdm.int K underlying3)) _ _ _ t1
  obtain ⟨a2, k2, r2, m2⟩ := ((Rdm.str K underlying9)) _ _ _ t2
  obtain ⟨a3, k3, r3, m3⟩ := ((Rdm.int K underlying3)) _ _ _ t3
  obtain ⟨a4, k4, r4, m4⟩ := ((Rdm.slice K (sz := 2) underlying26 (by kernel_rfl) (by decide) (rd_67 K) (fun _ => rfl))) _ _ _ t4
  have m0 : 1 ≤ K.B y0.1 := m0
  have m1 : 1 ≤ K.B y1.1 := m1
  have m2 : a2.length + 1 ≤ K.B y2.1 := m2
  have m3 : 1 ≤ K.B y3.1 := m3
  have m4 : (a4.map mu_67).sum + 1 ≤ K.B y4.1 := m4
  have hm := K.agg (List.map (fun z : DataW H × List MemPlace => z.1) [y0, y1, y2, y3, y4])
  simp only [List.map_cons, List.map_nil, List.sum_cons, List.sum_nil] at hm
  refine ⟨⟨a0, a1, a2, a3, a4⟩, ⟨k0, k1, k2, k3, k4⟩, ⟨hlen, fun j d u h1 h2 => ?_⟩, ?_⟩
  · rcases j with _ | _ | _ | _ | _ | j
    · exact r0.part (jj := 0) (by kernel_rfl) h1 h2
    · exact r1.part (jj := 0) (by kernel_rfl) h1 h2
    · exact r2.part (jj := 0) (by kernel_rfl) h1 h2
    · exact r3.part (jj := 0) (by kernel_rfl) h1 h2
    · exact r4.part (jj := 0) (by kernel_rfl) h1 h2
    · cases h1
  · rw [hx]
    refine Nat.le_trans ?_ hm
    show (1) + (1) + (a2.length + 1) + (1) + ((a4.map mu_67).sum + 1) + 1 ≤ _
    omega

def ok_138 (x : GRect) : Prop := (Lit.int .i64 x.Row).wf = true ∧ (Lit.int .i64 x.Col).wf = true ∧ (Lit.int .i64 x.H).wf = true ∧ (Lit.int .i64 x.W).wf = true
def mu_138 (x : GRect) : Nat := (1) + (1) + (1) + (1) + 1
theorem rd_138 {H : Type} {enc : TypeId × Value → H} {W : World} (K : Blk H) : Rdm K enc prog W 138 GRect.row ok_138 mu_138 := by
  intro fuel cs x h
  obtain ⟨hlen, xs, hx, hxl, hf⟩ := struct_parts (n := 4) underlying138 (by kernel_rfl) h
  obtain ⟨y0, n0, g0, t0⟩ := hf 0 _ rfl
  obtain ⟨y1, n1, g1, t1⟩ := hf 1 _ rfl
  obtain ⟨y2, n2, g2, t2⟩ := hf 2 _ rfl
  obtain ⟨y3, n3, g3, t3⟩ := hf 3 _ rfl
  obtain rfl : xs = [y0, y1, y2, y3] := list_of_gets hxl (fun j y hj => by
    rcases j with _ | _ | _ | _ | j
    · cases hj; exact g0
    · cases hj; exact g1
    · cases hj; exact g2
    · cases hj; exact g3
    · cases hj)
  obtain ⟨a0, k0, r0, m0⟩ := ((Rdm.int K underlying3)) _ _ _ t0
  obtain ⟨a1, k1, r1, m1⟩ := ((Rdm.int K underlying3)) _ _ _ t1
  obtain ⟨a2, k2, r2, m2⟩ := ((Rdm.int K underlying3)) _ _ _ t2
  obtain ⟨a3, k3, r3, m3⟩ := ((Rdm.int K underlying3)) _ _ _ t3
  have m0 : 1 ≤ K.B y0.1 := m0
  have m1 : 1 ≤ K.B y1.1 := m1
  have m2 : 1 ≤ K.B y2.1 := m2
  have m3 : 1 ≤ K.B y3.1 := m3
  have hm := K.agg (List.map (fun z : DataW H × List MemPlace => z.1) [y0, y1, y2, y3])
  simp only [List.map_cons, List.map_nil, List.sum_cons, List.sum_nil] at hm
  refine ⟨⟨a0, a1, a2, a3⟩, ⟨k0, k1, k2, k3⟩, ⟨hlen, fun j d u h1 h2 => ?_⟩, ?_⟩
  · rcases j with _ | _ | _ | _ | j
    · exact r0.part (jj := 0) (by kernel_rfl) h1 h2
    · exact r1.part (jj := 0) (by kernel_rfl) h1 h2
    · exact r2.part (jj := 0) (by kernel_rfl) h1 h2
    · exact r3.part (jj := 0) (by kernel_rfl) h1 h2
    · cases h1
  · rw [hx]
    refine Nat.le_trans ?_ hm
    show (1) + (1) + (1) + (1) + 1 ≤ _
    omega

def ok_31 (x : GGrid) : Prop := (Lit.int .i64 x.Rows).wf = true ∧ (Lit.int .i64 x.Cols).wf = true ∧ (x.Cells.length ≤ maxLen ∧ ∀ a ∈ x.Cells, ok_178 a) ∧ (x.Merges.length ≤ maxLen ∧ ∀ a ∈ x.Merges, ok_138 a)
def mu_31 (x : GGrid) : Nat := (1) + (1) + ((x.Cells.map mu_178).sum + 1) + ((x.Merges.map mu_138).sum + 1) + 1
theorem rd_31 {H : Type} {enc : TypeId × Value → H} {W : World} (K : Blk H) : Rdm K enc prog W 31 GGrid.row ok_31 mu_31 := by
  intro fuel cs x h
  obtain ⟨hlen, xs, hx, hxl, hf⟩ := struct_parts (n := 4) underlying31 (by kernel_rfl) h
  obtain ⟨y0, n0, g0, t0⟩ := hf 0 _ rfl
  obtain ⟨y1, n1, g1, t1⟩ := hf 1 _ rfl
  obtain ⟨y2, n2, g2, t2⟩ := hf 2 _ rfl
  obtain ⟨y3, n3, g3, t3⟩ := hf 3 _ rfl
  obtain rfl : xs = [y0, y1, y2, y3] := list_of_gets hxl (fun j y hj => by
    rcases j with _ | _ | _ | _ | j
    · cases hj; exact g0
    · cases hj; exact g1
    · cases hj; exact g2
    · cases hj; exact g3
    · cases hj)
  obtain ⟨a0, k0, r0, m0⟩ := ((Rdm.int K underlying3)) _ _ _ t0
  obtain ⟨a1, k1, r1, m1⟩ := ((Rdm.int K underlying3)) _ _ _ t1
  obtain ⟨a2, k2, r2, m2⟩ := ((Rdm.slice K (sz := 5) underlying28 (by kernel_rfl) (by decide) (rd_178 K) (fun _ => rfl))) _ _ _ t2
  obtain ⟨a3, k3, r3, m3⟩ := ((Rdm.slice K (sz := 4) underlying29 (by kernel_rfl) (by decide) (rd_138 K) (fun _ => rfl))) _ _ _ t3
  have m0 : 1 ≤ K.B y0.1 := m0
  have m1 : 1 ≤ K.B y1.1 := m1
  have m2 : (a2.map mu_178).sum + 1 ≤ K.B y2.1 := m2
  have m3 : (a3.map mu_138).sum + 1 ≤ K.B y3.1 := m3
  have hm := K.agg (List.map (fun z : DataW H × List MemPlace => z.1) [y0, y1, y2, y3])
  simp only [List.map_cons, List.map_nil, List.sum_cons, List.sum_nil] at hm
  refine ⟨⟨a0, a1, a2, a3⟩, ⟨k0, k1, k2, k3⟩, ⟨hlen, fun j d u h1 h2 => ?_⟩, ?_⟩
  · rcases j with _ | _ | _ | _ | j
    · exact r0.part (jj := 0) (by kernel_rfl) h1 h2
    · exact r1.part (jj := 0) (by kernel_rfl) h1 h2
    · exact r2.part (jj := 0) (by kernel_rfl) h1 h2
    · exact r3.part (jj := 0) (by kernel_rfl) h1 h2
    · cases h1
  · rw [hx]
    refine Nat.le_trans ?_ hm
    show (1) + (1) + ((a2.map mu_178).sum + 1) + ((a3.map mu_138).sum + 1) + 1 ≤ _
    omega

def ok_140 (x : GDrawOp) : Prop := (Lit.int .i64 x.Clock).wf = true ∧ (Lit.int .i64 x.Site).wf = true ∧ (Lit.int .i64 x.Kind).wf = true ∧ (Lit.int .i64 x.Item).wf = true ∧ (Lit.int .i64 x.Parent).wf = true ∧ x.Place.length ≤ maxLen ∧ x.Name.length ≤ maxLen ∧ x.Value.length ≤ maxLen
def mu_140 (x : GDrawOp) : Nat := (1) + (1) + (1) + (1) + (1) + (x.Place.length + 1) + (x.Name.length + 1) + (x.Value.length + 1) + 1
theorem rd_140 {H : Type} {enc : TypeId × Value → H} {W : World} (K : Blk H) : Rdm K enc prog W 140 GDrawOp.row ok_140 mu_140 := by
  intro fuel cs x h
  obtain ⟨hlen, xs, hx, hxl, hf⟩ := struct_parts (n := 8) underlying140 (by kernel_rfl) h
  obtain ⟨y0, n0, g0, t0⟩ := hf 0 _ rfl
  obtain ⟨y1, n1, g1, t1⟩ := hf 1 _ rfl
  obtain ⟨y2, n2, g2, t2⟩ := hf 2 _ rfl
  obtain ⟨y3, n3, g3, t3⟩ := hf 3 _ rfl
  obtain ⟨y4, n4, g4, t4⟩ := hf 4 _ rfl
  obtain ⟨y5, n5, g5, t5⟩ := hf 5 _ rfl
  obtain ⟨y6, n6, g6, t6⟩ := hf 6 _ rfl
  obtain ⟨y7, n7, g7, t7⟩ := hf 7 _ rfl
  obtain rfl : xs = [y0, y1, y2, y3, y4, y5, y6, y7] := list_of_gets hxl (fun j y hj => by
    rcases j with _ | _ | _ | _ | _ | _ | _ | _ | j
    · cases hj; exact g0
    · cases hj; exact g1
    · cases hj; exact g2
    · cases hj; exact g3
    · cases hj; exact g4
    · cases hj; exact g5
    · cases hj; exact g6
    · cases hj; exact g7
    · cases hj)
  obtain ⟨a0, k0, r0, m0⟩ := ((Rdm.int K underlying3)) _ _ _ t0
  obtain ⟨a1, k1, r1, m1⟩ := ((Rdm.int K underlying3)) _ _ _ t1
  obtain ⟨a2, k2, r2, m2⟩ := ((Rdm.int K underlying3)) _ _ _ t2
  obtain ⟨a3, k3, r3, m3⟩ := ((Rdm.int K underlying3)) _ _ _ t3
  obtain ⟨a4, k4, r4, m4⟩ := ((Rdm.int K underlying3)) _ _ _ t4
  obtain ⟨a5, k5, r5, m5⟩ := ((Rdm.str K underlying9)) _ _ _ t5
  obtain ⟨a6, k6, r6, m6⟩ := ((Rdm.str K underlying9)) _ _ _ t6
  obtain ⟨a7, k7, r7, m7⟩ := ((Rdm.str K underlying9)) _ _ _ t7
  have m0 : 1 ≤ K.B y0.1 := m0
  have m1 : 1 ≤ K.B y1.1 := m1
  have m2 : 1 ≤ K.B y2.1 := m2
  have m3 : 1 ≤ K.B y3.1 := m3
  have m4 : 1 ≤ K.B y4.1 := m4
  have m5 : a5.length + 1 ≤ K.B y5.1 := m5
  have m6 : a6.length + 1 ≤ K.B y6.1 := m6
  have m7 : a7.length + 1 ≤ K.B y7.1 := m7
  have hm := K.agg (List.map (fun z : DataW H × List MemPlace => z.1) [y0, y1, y2, y3, y4, y5, y6, y7])
  simp only [List.map_cons, List.map_nil, List.sum_cons, List.sum_nil] at hm
  refine ⟨⟨a0, a1, a2, a3, a4, a5, a6, a7⟩, ⟨k0, k1, k2, k3, k4, k5, k6, k7⟩, ⟨hlen, fun j d u h1 h2 => ?_⟩, ?_⟩
  · rcases j with _ | _ | _ | _ | _ | _ | _ | _ | j
    · exact r0.part (jj := 0) (by kernel_rfl) h1 h2
    · exact r1.part (jj := 0) (by kernel_rfl) h1 h2
    · exact r2.part (jj := 0) (by kernel_rfl) h1 h2
    · exact r3.part (jj := 0) (by kernel_rfl) h1 h2
    · exact r4.part (jj := 0) (by kernel_rfl) h1 h2
    · exact r5.part (jj := 0) (by kernel_rfl) h1 h2
    · exact r6.part (jj := 0) (by kernel_rfl) h1 h2
    · exact r7.part (jj := 0) (by kernel_rfl) h1 h2
    · cases h1
  · rw [hx]
    refine Nat.le_trans ?_ hm
    show (1) + (1) + (1) + (1) + (1) + (a5.length + 1) + (a6.length + 1) + (a7.length + 1) + 1 ≤ _
    omega

def ok_34 (x : GNode) : Prop := (Lit.int .i64 x.ID).wf = true ∧ (Lit.int .i64 x.Kind).wf = true ∧ (x.Attrs.length ≤ maxLen ∧ ∀ a ∈ x.Attrs, ok_67 a) ∧ (x.Flow.length ≤ maxLen ∧ ∀ a ∈ x.Flow, ok_60 a) ∧ ok_31 x.Grid ∧ (x.Draw.length ≤ maxLen ∧ ∀ a ∈ x.Draw, ok_140 a)
def mu_34 (x : GNode) : Nat := (1) + (1) + ((x.Attrs.map mu_67).sum + 1) + ((x.Flow.map mu_60).sum + 1) + (mu_31 x.Grid) + ((x.Draw.map mu_140).sum + 1) + 1
theorem rd_34 {H : Type} {enc : TypeId × Value → H} {W : World} (K : Blk H) : Rdm K enc prog W 34 GNode.row ok_34 mu_34 := by
  intro fuel cs x h
  obtain ⟨hlen, xs, hx, hxl, hf⟩ := struct_parts (n := 9) underlying34 (by kernel_rfl) h
  obtain ⟨y0, n0, g0, t0⟩ := hf 0 _ rfl
  obtain ⟨y1, n1, g1, t1⟩ := hf 1 _ rfl
  obtain ⟨y2, n2, g2, t2⟩ := hf 2 _ rfl
  obtain ⟨y3, n3, g3, t3⟩ := hf 3 _ rfl
  obtain ⟨y4, n4, g4, t4⟩ := hf 4 _ rfl
  obtain ⟨y5, n5, g5, t5⟩ := hf 5 _ rfl
  obtain rfl : xs = [y0, y1, y2, y3, y4, y5] := list_of_gets hxl (fun j y hj => by
    rcases j with _ | _ | _ | _ | _ | _ | j
    · cases hj; exact g0
    · cases hj; exact g1
    · cases hj; exact g2
    · cases hj; exact g3
    · cases hj; exact g4
    · cases hj; exact g5
    · cases hj)
  obtain ⟨a0, k0, r0, m0⟩ := ((Rdm.int K underlying3)) _ _ _ t0
  obtain ⟨a1, k1, r1, m1⟩ := ((Rdm.int K underlying3)) _ _ _ t1
  obtain ⟨a2, k2, r2, m2⟩ := ((Rdm.slice K (sz := 2) underlying26 (by kernel_rfl) (by decide) (rd_67 K) (fun _ => rfl))) _ _ _ t2
  obtain ⟨a3, k3, r3, m3⟩ := ((Rdm.slice K (sz := 3) underlying27 (by kernel_rfl) (by decide) (rd_60 K) (fun _ => rfl))) _ _ _ t3
  obtain ⟨a4, k4, r4, m4⟩ := ((rd_31 K)) _ _ _ t4
  obtain ⟨a5, k5, r5, m5⟩ := ((Rdm.slice K (sz := 8) underlying32 (by kernel_rfl) (by decide) (rd_140 K) (fun _ => rfl))) _ _ _ t5
  have m0 : 1 ≤ K.B y0.1 := m0
  have m1 : 1 ≤ K.B y1.1 := m1
  have m2 : (a2.map mu_67).sum + 1 ≤ K.B y2.1 := m2
  have m3 : (a3.map mu_60).sum + 1 ≤ K.B y3.1 := m3
  have m4 : mu_31 a4 ≤ K.B y4.1 := m4
  have m5 : (a5.map mu_140).sum + 1 ≤ K.B y5.1 := m5
  have hm := K.agg (List.map (fun z : DataW H × List MemPlace => z.1) [y0, y1, y2, y3, y4, y5])
  simp only [List.map_cons, List.map_nil, List.sum_cons, List.sum_nil] at hm
  refine ⟨⟨a0, a1, a2, a3, a4, a5⟩, ⟨k0, k1, k2, k3, k4, k5⟩, ⟨hlen, fun j d u h1 h2 => ?_⟩, ?_⟩
  · rcases j with _ | _ | _ | _ | _ | _ | _ | _ | _ | j
    · exact r0.part (jj := 0) (by kernel_rfl) h1 h2
    · exact r1.part (jj := 0) (by kernel_rfl) h1 h2
    · exact r2.part (jj := 0) (by kernel_rfl) h1 h2
    · exact r3.part (jj := 0) (by kernel_rfl) h1 h2
    · exact r4.part (jj := 0) (by kernel_rfl) h1 h2
    · exact r4.part (jj := 1) (by kernel_rfl) h1 h2
    · exact r4.part (jj := 2) (by kernel_rfl) h1 h2
    · exact r4.part (jj := 3) (by kernel_rfl) h1 h2
    · exact r5.part (jj := 0) (by kernel_rfl) h1 h2
    · cases h1
  · rw [hx]
    refine Nat.le_trans ?_ hm
    show (1) + (1) + ((a2.map mu_67).sum + 1) + ((a3.map mu_60).sum + 1) + (mu_31 a4) + ((a5.map mu_140).sum + 1) + 1 ≤ _
    omega

def ok_98 (x : GStep) : Prop := (Lit.int .i64 x.Kind).wf = true ∧ (Lit.int .i64 x.N).wf = true ∧ (x.Attrs.length ≤ maxLen ∧ ∀ a ∈ x.Attrs, ok_67 a) ∧ (x.Elems.length ≤ maxLen ∧ ∀ a ∈ x.Elems, ok_60 a)
def mu_98 (x : GStep) : Nat := (1) + (1) + ((x.Attrs.map mu_67).sum + 1) + ((x.Elems.map mu_60).sum + 1) + 1
theorem rd_98 {H : Type} {enc : TypeId × Value → H} {W : World} (K : Blk H) : Rdm K enc prog W 98 GStep.row ok_98 mu_98 := by
  intro fuel cs x h
  obtain ⟨hlen, xs, hx, hxl, hf⟩ := struct_parts (n := 4) underlying98 (by kernel_rfl) h
  obtain ⟨y0, n0, g0, t0⟩ := hf 0 _ rfl
  obtain ⟨y1, n1, g1, t1⟩ := hf 1 _ rfl
  obtain ⟨y2, n2, g2, t2⟩ := hf 2 _ rfl
  obtain ⟨y3, n3, g3, t3⟩ := hf 3 _ rfl
  obtain rfl : xs = [y0, y1, y2, y3] := list_of_gets hxl (fun j y hj => by
    rcases j with _ | _ | _ | _ | j
    · cases hj; exact g0
    · cases hj; exact g1
    · cases hj; exact g2
    · cases hj; exact g3
    · cases hj)
  obtain ⟨a0, k0, r0, m0⟩ := ((Rdm.int K underlying3)) _ _ _ t0
  obtain ⟨a1, k1, r1, m1⟩ := ((Rdm.int K underlying3)) _ _ _ t1
  obtain ⟨a2, k2, r2, m2⟩ := ((Rdm.slice K (sz := 2) underlying26 (by kernel_rfl) (by decide) (rd_67 K) (fun _ => rfl))) _ _ _ t2
  obtain ⟨a3, k3, r3, m3⟩ := ((Rdm.slice K (sz := 3) underlying27 (by kernel_rfl) (by decide) (rd_60 K) (fun _ => rfl))) _ _ _ t3
  have m0 : 1 ≤ K.B y0.1 := m0
  have m1 : 1 ≤ K.B y1.1 := m1
  have m2 : (a2.map mu_67).sum + 1 ≤ K.B y2.1 := m2
  have m3 : (a3.map mu_60).sum + 1 ≤ K.B y3.1 := m3
  have hm := K.agg (List.map (fun z : DataW H × List MemPlace => z.1) [y0, y1, y2, y3])
  simp only [List.map_cons, List.map_nil, List.sum_cons, List.sum_nil] at hm
  refine ⟨⟨a0, a1, a2, a3⟩, ⟨k0, k1, k2, k3⟩, ⟨hlen, fun j d u h1 h2 => ?_⟩, ?_⟩
  · rcases j with _ | _ | _ | _ | j
    · exact r0.part (jj := 0) (by kernel_rfl) h1 h2
    · exact r1.part (jj := 0) (by kernel_rfl) h1 h2
    · exact r2.part (jj := 0) (by kernel_rfl) h1 h2
    · exact r3.part (jj := 0) (by kernel_rfl) h1 h2
    · cases h1
  · rw [hx]
    refine Nat.le_trans ?_ hm
    show (1) + (1) + ((a2.map mu_67).sum + 1) + ((a3.map mu_60).sum + 1) + 1 ≤ _
    omega

def ok_180 (x : GAxisStep) : Prop := (Lit.int .i64 x.Kind).wf = true ∧ (Lit.int .i64 x.N).wf = true
def mu_180 (x : GAxisStep) : Nat := (1) + (1) + 1
theorem rd_180 {H : Type} {enc : TypeId × Value → H} {W : World} (K : Blk H) : Rdm K enc prog W 180 GAxisStep.row ok_180 mu_180 := by
  intro fuel cs x h
  obtain ⟨hlen, xs, hx, hxl, hf⟩ := struct_parts (n := 2) underlying180 (by kernel_rfl) h
  obtain ⟨y0, n0, g0, t0⟩ := hf 0 _ rfl
  obtain ⟨y1, n1, g1, t1⟩ := hf 1 _ rfl
  obtain rfl : xs = [y0, y1] := list_of_gets hxl (fun j y hj => by
    rcases j with _ | _ | j
    · cases hj; exact g0
    · cases hj; exact g1
    · cases hj)
  obtain ⟨a0, k0, r0, m0⟩ := ((Rdm.int K underlying3)) _ _ _ t0
  obtain ⟨a1, k1, r1, m1⟩ := ((Rdm.int K underlying3)) _ _ _ t1
  have m0 : 1 ≤ K.B y0.1 := m0
  have m1 : 1 ≤ K.B y1.1 := m1
  have hm := K.agg (List.map (fun z : DataW H × List MemPlace => z.1) [y0, y1])
  simp only [List.map_cons, List.map_nil, List.sum_cons, List.sum_nil] at hm
  refine ⟨⟨a0, a1⟩, ⟨k0, k1⟩, ⟨hlen, fun j d u h1 h2 => ?_⟩, ?_⟩
  · rcases j with _ | _ | j
    · exact r0.part (jj := 0) (by kernel_rfl) h1 h2
    · exact r1.part (jj := 0) (by kernel_rfl) h1 h2
    · cases h1
  · rw [hx]
    refine Nat.le_trans ?_ hm
    show (1) + (1) + 1 ≤ _
    omega

def ok_38 (x : GGridEdit) : Prop := (x.Rows.length ≤ maxLen ∧ ∀ a ∈ x.Rows, ok_180 a) ∧ (x.Cols.length ≤ maxLen ∧ ∀ a ∈ x.Cols, ok_180 a) ∧ (x.Cells.length ≤ maxLen ∧ ∀ a ∈ x.Cells, ok_178 a) ∧ (x.Split.length ≤ maxLen ∧ ∀ a ∈ x.Split, ok_138 a) ∧ (x.Merge.length ≤ maxLen ∧ ∀ a ∈ x.Merge, ok_138 a)
def mu_38 (x : GGridEdit) : Nat := ((x.Rows.map mu_180).sum + 1) + ((x.Cols.map mu_180).sum + 1) + ((x.Cells.map mu_178).sum + 1) + ((x.Split.map mu_138).sum + 1) + ((x.Merge.map mu_138).sum + 1) + 1
theorem rd_38 {H : Type} {enc : TypeId × Value → H} {W : World} (K : Blk H) : Rdm K enc prog W 38 GGridEdit.row ok_38 mu_38 := by
  intro fuel cs x h
  obtain ⟨hlen, xs, hx, hxl, hf⟩ := struct_parts (n := 5) underlying38 (by kernel_rfl) h
  obtain ⟨y0, n0, g0, t0⟩ := hf 0 _ rfl
  obtain ⟨y1, n1, g1, t1⟩ := hf 1 _ rfl
  obtain ⟨y2, n2, g2, t2⟩ := hf 2 _ rfl
  obtain ⟨y3, n3, g3, t3⟩ := hf 3 _ rfl
  obtain ⟨y4, n4, g4, t4⟩ := hf 4 _ rfl
  obtain rfl : xs = [y0, y1, y2, y3, y4] := list_of_gets hxl (fun j y hj => by
    rcases j with _ | _ | _ | _ | _ | j
    · cases hj; exact g0
    · cases hj; exact g1
    · cases hj; exact g2
    · cases hj; exact g3
    · cases hj; exact g4
    · cases hj)
  obtain ⟨a0, k0, r0, m0⟩ := ((Rdm.slice K (sz := 2) underlying36 (by kernel_rfl) (by decide) (rd_180 K) (fun _ => rfl))) _ _ _ t0
  obtain ⟨a1, k1, r1, m1⟩ := ((Rdm.slice K (sz := 2) underlying36 (by kernel_rfl) (by decide) (rd_180 K) (fun _ => rfl))) _ _ _ t1
  obtain ⟨a2, k2, r2, m2⟩ := ((Rdm.slice K (sz := 5) underlying28 (by kernel_rfl) (by decide) (rd_178 K) (fun _ => rfl))) _ _ _ t2
  obtain ⟨a3, k3, r3, m3⟩ := ((Rdm.slice K (sz := 4) underlying29 (by kernel_rfl) (by decide) (rd_138 K) (fun _ => rfl))) _ _ _ t3
  obtain ⟨a4, k4, r4, m4⟩ := ((Rdm.slice K (sz := 4) underlying29 (by kernel_rfl) (by decide) (rd_138 K) (fun _ => rfl))) _ _ _ t4
  have m0 : (a0.map mu_180).sum + 1 ≤ K.B y0.1 := m0
  have m1 : (a1.map mu_180).sum + 1 ≤ K.B y1.1 := m1
  have m2 : (a2.map mu_178).sum + 1 ≤ K.B y2.1 := m2
  have m3 : (a3.map mu_138).sum + 1 ≤ K.B y3.1 := m3
  have m4 : (a4.map mu_138).sum + 1 ≤ K.B y4.1 := m4
  have hm := K.agg (List.map (fun z : DataW H × List MemPlace => z.1) [y0, y1, y2, y3, y4])
  simp only [List.map_cons, List.map_nil, List.sum_cons, List.sum_nil] at hm
  refine ⟨⟨a0, a1, a2, a3, a4⟩, ⟨k0, k1, k2, k3, k4⟩, ⟨hlen, fun j d u h1 h2 => ?_⟩, ?_⟩
  · rcases j with _ | _ | _ | _ | _ | j
    · exact r0.part (jj := 0) (by kernel_rfl) h1 h2
    · exact r1.part (jj := 0) (by kernel_rfl) h1 h2
    · exact r2.part (jj := 0) (by kernel_rfl) h1 h2
    · exact r3.part (jj := 0) (by kernel_rfl) h1 h2
    · exact r4.part (jj := 0) (by kernel_rfl) h1 h2
    · cases h1
  · rw [hx]
    refine Nat.le_trans ?_ hm
    show ((a0.map mu_180).sum + 1) + ((a1.map mu_180).sum + 1) + ((a2.map mu_178).sum + 1) + ((a3.map mu_138).sum + 1) + ((a4.map mu_138).sum + 1) + 1 ≤ _
    omega

def ok_40 (x : GOp) : Prop := (Lit.int .i64 x.Kind).wf = true ∧ (Lit.int .i64 x.Node).wf = true ∧ ok_34 x.New ∧ (x.Attrs.length ≤ maxLen ∧ ∀ a ∈ x.Attrs, ok_67 a) ∧ (x.Steps.length ≤ maxLen ∧ ∀ a ∈ x.Steps, ok_98 a) ∧ ok_38 x.Grid ∧ (x.Draw.length ≤ maxLen ∧ ∀ a ∈ x.Draw, ok_140 a)
def mu_40 (x : GOp) : Nat := (1) + (1) + (mu_34 x.New) + ((x.Attrs.map mu_67).sum + 1) + ((x.Steps.map mu_98).sum + 1) + (mu_38 x.Grid) + ((x.Draw.map mu_140).sum + 1) + 1
theorem rd_40 {H : Type} {enc : TypeId × Value → H} {W : World} (K : Blk H) : Rdm K enc prog W 40 GOp.row ok_40 mu_40 := by
  intro fuel cs x h
  obtain ⟨hlen, xs, hx, hxl, hf⟩ := struct_parts (n := 19) underlying40 (by kernel_rfl) h
  obtain ⟨y0, n0, g0, t0⟩ := hf 0 _ rfl
  obtain ⟨y1, n1, g1, t1⟩ := hf 1 _ rfl
  obtain ⟨y2, n2, g2, t2⟩ := hf 2 _ rfl
  obtain ⟨y3, n3, g3, t3⟩ := hf 3 _ rfl
  obtain ⟨y4, n4, g4, t4⟩ := hf 4 _ rfl
  obtain ⟨y5, n5, g5, t5⟩ := hf 5 _ rfl
  obtain ⟨y6, n6, g6, t6⟩ := hf 6 _ rfl
  obtain rfl : xs = [y0, y1, y2, y3, y4, y5, y6] := list_of_gets hxl (fun j y hj => by
    rcases j with _ | _ | _ | _ | _ | _ | _ | j
    · cases hj; exact g0
    · cases hj; exact g1
    · cases hj; exact g2
    · cases hj; exact g3
    · cases hj; exact g4
    · cases hj; exact g5
    · cases hj; exact g6
    · cases hj)
  obtain ⟨a0, k0, r0, m0⟩ := ((Rdm.int K underlying3)) _ _ _ t0
  obtain ⟨a1, k1, r1, m1⟩ := ((Rdm.int K underlying3)) _ _ _ t1
  obtain ⟨a2, k2, r2, m2⟩ := ((rd_34 K)) _ _ _ t2
  obtain ⟨a3, k3, r3, m3⟩ := ((Rdm.slice K (sz := 2) underlying26 (by kernel_rfl) (by decide) (rd_67 K) (fun _ => rfl))) _ _ _ t3
  obtain ⟨a4, k4, r4, m4⟩ := ((Rdm.slice K (sz := 4) underlying35 (by kernel_rfl) (by decide) (rd_98 K) (fun _ => rfl))) _ _ _ t4
  obtain ⟨a5, k5, r5, m5⟩ := ((rd_38 K)) _ _ _ t5
  obtain ⟨a6, k6, r6, m6⟩ := ((Rdm.slice K (sz := 8) underlying32 (by kernel_rfl) (by decide) (rd_140 K) (fun _ => rfl))) _ _ _ t6
  have m0 : 1 ≤ K.B y0.1 := m0
  have m1 : 1 ≤ K.B y1.1 := m1
  have m2 : mu_34 a2 ≤ K.B y2.1 := m2
  have m3 : (a3.map mu_67).sum + 1 ≤ K.B y3.1 := m3
  have m4 : (a4.map mu_98).sum + 1 ≤ K.B y4.1 := m4
  have m5 : mu_38 a5 ≤ K.B y5.1 := m5
  have m6 : (a6.map mu_140).sum + 1 ≤ K.B y6.1 := m6
  have hm := K.agg (List.map (fun z : DataW H × List MemPlace => z.1) [y0, y1, y2, y3, y4, y5, y6])
  simp only [List.map_cons, List.map_nil, List.sum_cons, List.sum_nil] at hm
  refine ⟨⟨a0, a1, a2, a3, a4, a5, a6⟩, ⟨k0, k1, k2, k3, k4, k5, k6⟩, ⟨hlen, fun j d u h1 h2 => ?_⟩, ?_⟩
  · rcases j with _ | _ | _ | _ | _ | _ | _ | _ | _ | _ | _ | _ | _ | _ | _ | _ | _ | _ | _ | j
    · exact r0.part (jj := 0) (by kernel_rfl) h1 h2
    · exact r1.part (jj := 0) (by kernel_rfl) h1 h2
    · exact r2.part (jj := 0) (by kernel_rfl) h1 h2
    · exact r2.part (jj := 1) (by kernel_rfl) h1 h2
    · exact r2.part (jj := 2) (by kernel_rfl) h1 h2
    · exact r2.part (jj := 3) (by kernel_rfl) h1 h2
    · exact r2.part (jj := 4) (by kernel_rfl) h1 h2
    · exact r2.part (jj := 5) (by kernel_rfl) h1 h2
    · exact r2.part (jj := 6) (by kernel_rfl) h1 h2
    · exact r2.part (jj := 7) (by kernel_rfl) h1 h2
    · exact r2.part (jj := 8) (by kernel_rfl) h1 h2
    · exact r3.part (jj := 0) (by kernel_rfl) h1 h2
    · exact r4.part (jj := 0) (by kernel_rfl) h1 h2
    · exact r5.part (jj := 0) (by kernel_rfl) h1 h2
    · exact r5.part (jj := 1) (by kernel_rfl) h1 h2
    · exact r5.part (jj := 2) (by kernel_rfl) h1 h2
    · exact r5.part (jj := 3) (by kernel_rfl) h1 h2
    · exact r5.part (jj := 4) (by kernel_rfl) h1 h2
    · exact r6.part (jj := 0) (by kernel_rfl) h1 h2
    · cases h1
  · rw [hx]
    refine Nat.le_trans ?_ hm
    show (1) + (1) + (mu_34 a2) + ((a3.map mu_67).sum + 1) + ((a4.map mu_98).sum + 1) + (mu_38 a5) + ((a6.map mu_140).sum + 1) + 1 ≤ _
    omega

theorem tabs {W : World} (h : laidMetH prog Rows.editCheckSaysUptoRow.laid W) : TabsOk (Cx.start W) := by
  have h' : laidMet prog Rows.editCheckSaysUptoRow.laid W := h
  refine tabs_start (d1 := Go.Pinned.utf8First) (d2 := Rows.laid_unicode_utf8_acceptRanges) (t1 := 210) (t2 := 214) (e1 := 5) (e2 := 213) (Go.Lib.laidMet.reads h' ?_) (by kernel_rfl) (by kernel_rfl) (by kernel_rfl) underlying210 underlying5 (by kernel_rfl) (by kernel_rfl)
    (Go.Lib.laidMet.reads h' ?_) (by kernel_rfl) (by kernel_rfl) (by kernel_rfl) underlying214 underlying213 (fun i f hf => ?_) rfl (by kernel_rfl)
  · exact .tail _ (.tail _ (.tail _ (.tail _ (.tail _ (.tail _ (.head _))))))
  · exact .tail _ (.tail _ (.tail _ (.head _)))
  · rcases i with _ | _ | i
    · cases hf; exact ⟨underlying5, rfl, by kernel_rfl⟩
    · cases hf; exact ⟨underlying5, rfl, by kernel_rfl⟩
    · cases hf

set_option maxRecDepth 100000 in
theorem contract (H : Type) (enc : TypeId × Value → H) (W : World) (base : Nat) (args : Array Value) (ds gs : List (DataW H)) (before : List MemPlace)
    (hval : ∀ (j : Nat) t v, Tryz.f3.params[j]? = some t → args[j]? = some v → Value.okWide prog W .any base t v)
    (hW : DataW.Whole enc prog Tryz.f3.params.toList Rows.editCheckSaysSpec.vars false W args.toList ds gs before) (hk0 : Rows.uptoSmall H (ds ++ gs) = true) (hL : laidMetH prog Rows.editCheckSaysUptoRow.laid W) :
    Calls prog 3 args W fun e W' => ∃ v, e = .returned v ∧ Rows.editCheckSaysSpec.post enc prog Tryz.f3 false true false false W args v W' := by
  have hW' := hW
  obtain ⟨p, q, hA0, hV, rfl, hfz, hnd⟩ := hW
  have hA : DataW.TrodAll enc prog W 0 (fun _ => true) true Tryz.f3.params.toList args.toList ds p := hA0
  rw [Tryz.params3] at hA hval
  obtain ⟨v0, vs0, d0, ds0, p0, q0, hargs, rfl, rfl, h0, e0⟩ := trodAll_cons hA
  obtain ⟨rfl, rfl, rfl⟩ := trodAll_nil e0
  obtain rfl : args = #[v0] := by cases args; simp_all
  obtain ⟨rfl, rfl⟩ := trodVars_none hV
  have hk : (blk H).B d0 ≤ 1048576 := by
    have := of_decide_eq_true hk0
    simp only [List.append_nil, Rows.uptoBulkAll] at this
    show Rows.uptoBulk d0 ≤ 1048576
    omega
  obtain ⟨x0, k0, r0, m0⟩ := topm_slice (blk H) underlying22 (Rdm.slice (blk H) (sz := 19) underlying22 (by kernel_rfl) (by decide) (rd_40 (blk H)) (fun _ => rfl)) (hval 0 22 v0 rfl rfl) h0
  clear hA0
  have h0 := okOps_bulk (π := mu_40) (η := mu_38) (σ := mu_180) (τ := mu_98) (μ := mu_34) (γ := mu_31) (ψ := mu_178) (ρ := mu_138) (δ := mu_140) (ν := mu_60) (κ := mu_67) (fun o => by unfold mu_40; omega) (fun e => by unfold mu_38; omega) (fun s => by unfold mu_180; omega) (fun s => by unfold mu_98; omega) (fun n => by unfold mu_34; omega) (fun g => by unfold mu_31; omega) (fun c => by unfold mu_178; omega) (fun r => by unfold mu_138; omega) (fun o => by unfold mu_140; omega) (fun e => by unfold mu_60; omega) (fun a => by unfold mu_67; omega) (c := x0) (by omega)
  have hp := law_EditCheck_true x0 h0
  obtain ⟨_, _, hc⟩ := w_law_EditCheckSays hp
  refine (hc (Cx.start W) #[v0] (Cx.start_ok W (tabs hL)) rfl ⟨rfl, fun i a u k1 k2 => ?_⟩).mono fun e W' ⟨u, y, he, hy, hle, hok, hr⟩ => ?_
  · rcases i with _ | i
    · cases k1; cases k2; exact .r r0
    · cases k1
  · subst he; subst hy
    obtain rfl := rep_bool hr
    exact ⟨_, rfl, close_row (by kernel_rfl) (by rw [Tryz.params3]; intro t ht; simp at ht; subst ht; exact ⟨by kernel_rfl, of_decide_eq_true (by kernel_rfl)⟩) rfl hW' hle rfl rfl
      (fun _ _ _ => trodAll_cons_mk (shut_bool underlying4 _) trodAll_mk0)⟩

/-- A world for the witness: the settled one, the two tables laid. -/
def lay (cs : List Value) : Obj → Obj
  | .cells _ t frozen => .cells cs.toArray t frozen
  | o => o
def litsOf : DataW Unit → List Value
  | .agg l => l.map fun d => match d with | .lit (.int k z) => Value.int k z | _ => undef
  | _ => []
def textOf : DataW Unit → Value
  | .iface _ (.ptr (.agg [.lit (.string s)])) => Value.string ⟨s.toArray⟩
  | _ => undef
noncomputable def holdW (os : Os) : World := World.holding prog os ⟨#[], #[], []⟩
noncomputable def laidWorld (os : Os) : World :=
  { holdW os with heap := ((((((((((holdW os).heap.modify 6 (lay (litsOf Rows.laid_math_bits_deBruijn32tab))).modify 7 (lay (litsOf Rows.laid_math_bits_deBruijn64tab))).modify 4 (lay (litsOf Rows.laid_internal_strconv_uint64pow10))).modify gAccept (lay (tabAccept0.flatMap fun p => [Value.int .u8 p.1, Value.int .u8 p.2]))).modify 3 (lay [Value.iface 393 (.pointer (some ⟨(holdW os).heap.size + 0, 0, none⟩))])).modify 2 (lay [Value.iface 393 (.pointer (some ⟨(holdW os).heap.size + 1, 0, none⟩))])).modify gFirst (lay (tabFirst.map fun z => Value.int .u8 z))).push (Obj.cells #[textOf Rows.laid_strconv_ErrRange] 395 (0, 0))).push (Obj.cells #[textOf Rows.laid_strconv_ErrSyntax] 395 (0, 0))) }
theorem laid_met (os : Os) : laidMet prog Rows.editCheckSaysUptoRow.laid ((laidWorld os).forCall (fun _ _ => 0) ⟨#[], #[.slice none 0 0], []⟩).memory :=
  laidMet_of_run' 8 (by kernel_rfl) (by kernel_rfl)
theorem reads (os : Os) {H : Type} (enc : TypeId × Value → H) : ∃ places, DataW.whole enc prog ((laidWorld os).forCall (fun _ _ => 0) ⟨#[], #[.slice none 0 0], []⟩).memory Tryz.f3.params.toList Rows.editCheckSaysSpec.vars false (#[.slice none 0 0] : Array Value).toList 8 = some ([.nil], [], places) :=
  ⟨[], by kernel_rfl⟩

set_option maxRecDepth 100000 in
theorem lifted (os : Os) (started : os.Started) (H : Type) (enc : TypeId × Value → H) (F : Stop.Interp) :
    ReturnsInHanded {} Tryz.checked os 3 .any ((Rows.OpenSpec.upto Rows.editCheckSaysSpec).preRow enc prog Tryz.f3 Rows.editCheckSaysUptoRow.domain false Rows.editCheckSaysUptoRow.laid) (((Rows.OpenSpec.upto Rows.editCheckSaysSpec).at F).post enc prog Tryz.f3 false true false false) := by
  obtain ⟨places, hx⟩ := reads os enc
  refine returnsInHanded_of_row (C := Tryz.checked) (s := Rows.OpenSpec.upto Rows.editCheckSaysSpec) own started (by kernel_rfl) func3
    (witness_row_at (enc := enc) (C := Tryz.checked) false (laidWorld os) #[.slice none 0 0] rfl (by kernel_rfl) (by kernel_rfl) (by kernel_rfl)
      (OpenSpec.preRow_of_cond 8 hx (by kernel_rfl) (fun k hk => by cases hk; kernel_rfl) (by kernel_rfl) (laid_met os))) ?_
  intro W base args ds gs before hval hW _ hk _ hL _ _
  exact contract H enc W base args ds gs before hval hW (hk _ rfl) hL

theorem and_tt {a b : Bool} (ha : a = true) (hb : b = true) : (a && b) = true := by rw [ha, hb]; rfl
set_option maxHeartbeats 4000000 in
theorem closed : joinedFacts prog 3 Tryz.f3 (Rows.OpenSpec.upto Rows.editCheckSaysSpec).bare Rows.editCheckSaysUptoRow = true := by
  unfold joinedFacts
  iterate 31 refine and_tt ?_ (by as_aux_lemma => kernel_rfl)
  kernel_rfl
theorem goes_apart {P : Program} {c : OpenClaim} (hs : c.start = .entering) (h : P.funcs.any Func.goes = false) : false = c.goesBy P := by
  have h' : ∀ g : FuncId, (P.funcs[g]?).any Func.goes = false := fun g => by
    cases e : P.funcs[g]? with
    | none => rfl
    | some x =>
      obtain ⟨hg, rfl⟩ := Array.getElem?_eq_some_iff.1 e
      exact Bool.eq_false_iff.2 fun hx => (Bool.eq_false_iff.1 h) (Array.any_eq_true.2 ⟨g, hg, hx⟩)
  unfold OpenClaim.goesBy Program.goesAt Program.goesFrom Program.goes
  rw [hs, h]
  cases P.funcNamed c.func with
  | none => rfl
  | some f => simp [h']
theorem goes_not : prog.funcs.any Func.goes = false := by kernel_rfl

theorem over : Rows.EditCheckSaysUptoSaid :=
  OpenClaim.holds_of_cond 3 Tryz.f3 rfl rfl rfl rfl rfl rfl rfl ⟨rfl, rfl, rfl, rfl, rfl⟩ rfl rfl rfl rfl rfl (by kernel_rfl) func3 closed
    (of_decide_eq_true (by kernel_rfl)) (by unfold Func.isWrapper; first | (rw [if_pos (by decide +kernel)]; kernel_rfl) | (rw [if_neg (by decide +kernel)]; exact ⟨rfl, rfl⟩))
    (fun os started H enc _ F => by rw [OpenClaim.pre_eq_preRow]; exact lifted os started H enc F)

theorem plain (f : FuncId) (fn : Func) (hf : Tryz.pinned.checked.prog.funcNamed "chancery/chancerylaw1.EditCheckSays" = some f) (hfn : Tryz.pinned.checked.prog.funcs[f]? = some fn) :
    true = Tryz.pinned.checked.prog.looks [] ∧ ∀ (j : Nat) t, fn.params[j]? = some t → Tryz.pinned.checked.prog.wantsStandIn t = false := by
  obtain rfl : f = 3 := Option.some.inj ((show prog.funcNamed "chancery/chancerylaw1.EditCheckSays" = some 3 by kernel_rfl).symm.trans hf) |>.symm
  obtain rfl : fn = Tryz.f3 := (Option.some.inj (func3.symm.trans hfn)).symm
  refine ⟨by kernel_rfl, fun j t ht => ?_⟩
  rw [Tryz.params3] at ht
  rcases j with _ | j
  · cases ht; exact (show prog.wantsStandIn 22 = false by kernel_rfl)
  · cases ht

theorem proved : Rows.EditCheckSaysUptoCardSaid :=
  Claim7.holds_tied_plain_at .later [] _ _ _ _ over (fun _ h => by cases h) (by kernel_rfl) (fun _ h => by cases h) editCheckSaysUpto_row_tie rfl ⟨rfl, rfl⟩ (by kernel_rfl) rfl plain (goes_apart rfl goes_not)
#print axioms proved
end Go.Proofs.YthoepnnckmfipaaGreatDoor.Al.REditCheck
