/-
  PROVED: 'DocCheckSays' returns true whatever its arguments of bulk at most 1048576 are, and leaves them as they were (statement 'DocCheckSaysUptoCardSaid'). Conditions: none but the bulk.
-/
import Derived.Test.YtfkolgjapajekaaDoorWlk61x3
import Derived.Deep.DeepHandedRow
import Derived.JoinedCond
import Derived.Lib.LaidTab
import Derived.OpenShut
import Derived.ProofKit
import Derived.Test.YtfkolgjapajekaaDoorCards
import Derived.Test.YtfkolgjapajekaaDoorChecked
import Derived.Test.YtfkolgjapajekaaDoorRows
import Derived.Test.YtfkolgjapajekaaDoorTie
import Derived.WalkKit
namespace Go.Proofs.YtfkolgjapajekaaDoor.Al.RDocCheck
open Go.Proofs Go.Proofs.YtfkolgjapajekaaDoor.Al Go.Proofs.YtfkolgjapajekaaDoor
open Go.ChangeShapes Go.WideShapes Go.ChangeAt Go.RowKit
set_option linter.unusedVariables false

theorem own : ownKnob Tryd.prog.godebug = none := by kernel_rfl

theorem blk_all {H : Type} (l : List (DataW H)) : (l.map Rows.uptoBulk).sum = Rows.uptoBulkAll l := by
  induction l with
  | nil => simp [Rows.uptoBulkAll]
  | cons d l ih => rw [List.map_cons, List.sum_cons, ih, Rows.uptoBulkAll]
def blk (H : Type) : Blk H where
  B := Rows.uptoBulk
  one := fun d => by
    cases d with
    | lit l => cases l <;> simp [Rows.uptoBulk]
    | nil => simp [Rows.uptoBulk]
    | ptr d => simp [Rows.uptoBulk]
    | slice elems spare => simp [Rows.uptoBulk]
    | agg parts => simp [Rows.uptoBulk]
    | iface t d => simp [Rows.uptoBulk]
    | map entries => simp [Rows.uptoBulk]
    | held h => simp [Rows.uptoBulk]
  str := fun s => by simp [Rows.uptoBulk]
  sl := fun l r => by rw [blk_all, Rows.uptoBulk]; omega
  agg := fun l => by rw [blk_all, Rows.uptoBulk]; omega
def ok_122 (x : GAttr) : Prop := x.Name.length ≤ maxLen ∧ x.Value.length ≤ maxLen
def mu_122 (x : GAttr) : Nat := (x.Name.length + 1) + (x.Value.length + 1) + 1
theorem rd_122 {H : Type} {enc : TypeId × Value → H} {W : World} (K : Blk H) : Rdm K enc Tryd.prog W 122 GAttr.row ok_122 mu_122 := by
  intro fuel cs x h
  obtain ⟨hlen, xs, hx, hxl, hf⟩ := struct_parts (n := 2) Tryd.underlying122 (by kernel_rfl) h
  obtain ⟨y0, n0, g0, t0⟩ := hf 0 _ rfl
  obtain ⟨y1, n1, g1, t1⟩ := hf 1 _ rfl
  obtain rfl : xs = [y0, y1] := list_of_gets hxl (fun j y hj => by
    rcases j with _ | _ | j
    · cases hj; exact g0
    · cases hj; exact g1
    · cases hj)
  obtain ⟨a0, k0, r0, m0⟩ := ((Rdm.str K Tryd.underlying9)) _ _ _ t0
  obtain ⟨a1, k1, r1, m1⟩ := ((Rdm.str K Tryd.underlying9)) _ _ _ t1
  have m0 : a0.length + 1 ≤ K.B y0.1 := m0
  have m1 : a1.length + 1 ≤ K.B y1.1 := m1
  have hm := K.agg (List.map (fun z : DataW H × List MemPlace => z.1) [y0, y1])
  simp only [List.map_cons, List.map_nil, List.sum_cons, List.sum_nil] at hm
  refine ⟨⟨a0, a1⟩, ⟨k0, k1⟩, ⟨hlen, fun j d u h1 h2 => ?_⟩, ?_⟩
  · rcases j with _ | _ | j
    · exact r0.part (jj := 0) (by kernel_rfl) h1 h2
    · exact r1.part (jj := 0) (by kernel_rfl) h1 h2
    · cases h1
  · rw [hx]
    refine Nat.le_trans ?_ hm
    show (a0.length + 1) + (a1.length + 1) + 1 ≤ _
    omega

def ok_70 (x : GElem) : Prop := (Lit.int .i64 x.Char).wf = true ∧ (Lit.int .i64 x.Ref).wf = true ∧ (x.Attrs.length ≤ maxLen ∧ ∀ a ∈ x.Attrs, ok_122 a)
def mu_70 (x : GElem) : Nat := (1) + (1) + ((x.Attrs.map mu_122).sum + 1) + 1
theorem rd_70 {H : Type} {enc : TypeId × Value → H} {W : World} (K : Blk H) : Rdm K enc Tryd.prog W 70 GElem.row ok_70 mu_70 := by
  intro fuel cs x h
  obtain ⟨hlen, xs, hx, hxl, hf⟩ := struct_parts (n := 3) Tryd.underlying70 (by kernel_rfl) h
  obtain ⟨y0, n0, g0, t0⟩ := hf 0 _ rfl
  obtain ⟨y1, n1, g1, t1⟩ := hf 1 _ rfl
  obtain ⟨y2, n2, g2, t2⟩ := hf 2 _ rfl
  obtain rfl : xs = [y0, y1, y2] := list_of_gets hxl (fun j y hj => by
    rcases j with _ | _ | _ | j
    · cases hj; exact g0
    · cases hj; exact g1
    · cases hj; exact g2
    · cases hj)
  obtain ⟨a0, k0, r0, m0⟩ := ((Rdm.int K Tryd.underlying3)) _ _ _ t0
  obtain ⟨a1, k1, r1, m1⟩ := ((Rdm.int K Tryd.underlying3)) _ _ _ t1
  obtain ⟨a2, k2, r2, m2⟩ := ((Rdm.slice K (sz := 2) Tryd.underlying27 (by kernel_rfl) (by decide) (rd_122 K) (fun _ => rfl))) _ _ _ t2
  have m0 : 1 ≤ K.B y0.1 := m0
  have m1 : 1 ≤ K.B y1.1 := m1
  have m2 : (a2.map mu_122).sum + 1 ≤ K.B y2.1 := m2
  have hm := K.agg (List.map (fun z : DataW H × List MemPlace => z.1) [y0, y1, y2])
  simp only [List.map_cons, List.map_nil, List.sum_cons, List.sum_nil] at hm
  refine ⟨⟨a0, a1, a2⟩, ⟨k0, k1, k2⟩, ⟨hlen, fun j d u h1 h2 => ?_⟩, ?_⟩
  · rcases j with _ | _ | _ | j
    · exact r0.part (jj := 0) (by kernel_rfl) h1 h2
    · exact r1.part (jj := 0) (by kernel_rfl) h1 h2
    · exact r2.part (jj := 0) (by kernel_rfl) h1 h2
    · cases h1
  · rw [hx]
    refine Nat.le_trans ?_ hm
    show (1) + (1) + ((a2.map mu_122).sum + 1) + 1 ≤ _
    omega

def ok_60 (x : GCell) : Prop := (Lit.int .i64 x.Row).wf = true ∧ (Lit.int .i64 x.Col).wf = true ∧ x.Text.length ≤ maxLen ∧ (Lit.int .i64 x.Ref).wf = true ∧ (x.Attrs.length ≤ maxLen ∧ ∀ a ∈ x.Attrs, ok_122 a)
def mu_60 (x : GCell) : Nat := (1) + (1) + (x.Text.length + 1) + (1) + ((x.Attrs.map mu_122).sum + 1) + 1
theorem rd_60 {H : Type} {enc : TypeId × Value → H} {W : World} (K : Blk H) : Rdm K enc Tryd.prog W 60 GCell.row ok_60 mu_60 := by
  intro fuel cs x h
  obtain ⟨hlen, xs, hx, hxl, hf⟩ := struct_parts (n := 5) Tryd.underlying60 (by kernel_rfl) h
  obtain ⟨y0, n0, g0, t0⟩ := hf 0 _ rfl
  obtain ⟨y1, n1, g1, t1⟩ := hf 1 _ rfl
  obtain ⟨y2, n2, g2, t2⟩ := hf 2 _ rfl
  obtain ⟨y3, n3, g3, t3⟩ := hf 3 _ rfl
  obtain ⟨y4, n4, g4, t4⟩ := hf 4 _ rfl
  obtain rfl : xs = [y0, y1, y2, y3, y4] := list_of_gets hxl (fun j y hj => by
    rcases j with _ | _ | _ | _ | _ | j
    · cases hj; exact g0
    · cases hj; exact g1
    · cases hj; exact g2
    · cases hj; exact g3
    · cases hj; exact g4
    · cases hj)
  obtain ⟨a0, k0, r0, m0⟩ := ((Rdm.int K Tryd.underlying3)) _ _ _ t0
  obtain ⟨a1, k1, r1, m1⟩ := ((Rdm.int K Tryd.underlying3)) _ _ _ t1
  obtain ⟨a2, k2, r2, m2⟩ := ((Rdm.str K Tryd.underlying9)) _ _ _ t2
  obtain ⟨a3, k3, r3, m3⟩ := ((Rdm.int K Tryd.underlying3)) _ _ _ t3
  obtain ⟨a4, k4, r4, m4⟩ := ((Rdm.slice K (sz := 2) Tryd.underlying27 (by kernel_rfl) (by decide) (rd_122 K) (fun _ => rfl))) _ _ _ t4
  have m0 : 1 ≤ K.B y0.1 := m0
  have m1 : 1 ≤ K.B y1.1 := m1
  have m2 : a2.length + 1 ≤ K.B y2.1 := m2
  have m3 : 1 ≤ K.B y3.1 := m3
  have m4 : (a4.map mu_122).sum + 1 ≤ K.B y4.1 := m4
  have hm := K.agg (List.map (fun z : DataW H × List MemPlace => z.1) [y0, y1, y2, y3, y4])
  simp only [List.map_cons, List.map_nil, List.sum_cons, List.sum_nil] at hm
  refine ⟨⟨a0, a1, a2, a3, a4⟩, ⟨k0, k1, k2, k3, k4⟩, ⟨hlen, fun j d u h1 h2 => ?_⟩, ?_⟩
  · rcases j with _ | _ | _ | _ | _ | j
    · exact r0.part (jj := 0) (by kernel_rfl) h1 h2
    · exact r1.part (jj := 0) (by kernel_rfl) h1 h2
    · exact r2.part (jj := 0) (by kernel_rfl) h1 h2
    · exact r3.part (jj := 0) (by kernel_rfl) h1 h2
    · exact r4.part (jj := 0) (by kernel_rfl) h1 h2
    · cases h1
  · rw [hx]
    refine Nat.le_trans ?_ hm
    show (1) + (1) + (a2.length + 1) + (1) + ((a4.map mu_122).sum + 1) + 1 ≤ _
    omega

def ok_64 (x : GRect) : Prop := (Lit.int .i64 x.Row).wf = true ∧ (Lit.int .i64 x.Col).wf = true ∧ (Lit.int .i64 x.H).wf = true ∧ (Lit.int .i64 x.W).wf = true
def mu_64 (x : GRect) : Nat := (1) + (1) + (1) + (1) + 1
theorem rd_64 {H : Type} {enc : TypeId × Value → H} {W : World} (K : Blk H) : Rdm K enc Tryd.prog W 64 GRect.row ok_64 mu_64 := by
  intro fuel cs x h
  obtain ⟨hlen, xs, hx, hxl, hf⟩ := struct_parts (n := 4) Tryd.underlying64 (by kernel_rfl) h
  obtain ⟨y0, n0, g0, t0⟩ := hf 0 _ rfl
  obtain ⟨y1, n1, g1, t1⟩ := hf 1 _ rfl
  obtain ⟨y2, n2, g2, t2⟩ := hf 2 _ rfl
  obtain ⟨y3, n3, g3, t3⟩ := hf 3 _ rfl
  obtain rfl : xs = [y0, y1, y2, y3] := list_of_gets hxl (fun j y hj => by
    rcases j with _ | _ | _ | _ | j
    · cases hj; exact g0
    · cases hj; exact g1
    · cases hj; exact g2
    · cases hj; exact g3
    · cases hj)
  obtain ⟨a0, k0, r0, m0⟩ := ((Rdm.int K Tryd.underlying3)) _ _ _ t0
  obtain ⟨a1, k1, r1, m1⟩ := ((Rdm.int K Tryd.underlying3)) _ _ _ t1
  obtain ⟨a2, k2, r2, m2⟩ := ((Rdm.int K Tryd.underlying3)) _ _ _ t2
  obtain ⟨a3, k3, r3, m3⟩ := ((Rdm.int K Tryd.underlying3)) _ _ _ t3
  have m0 : 1 ≤ K.B y0.1 := m0
  have m1 : 1 ≤ K.B y1.1 := m1
  have m2 : 1 ≤ K.B y2.1 := m2
  have m3 : 1 ≤ K.B y3.1 := m3
  have hm := K.agg (List.map (fun z : DataW H × List MemPlace => z.1) [y0, y1, y2, y3])
  simp only [List.map_cons, List.map_nil, List.sum_cons, List.sum_nil] at hm
  refine ⟨⟨a0, a1, a2, a3⟩, ⟨k0, k1, k2, k3⟩, ⟨hlen, fun j d u h1 h2 => ?_⟩, ?_⟩
  · rcases j with _ | _ | _ | _ | j
    · exact r0.part (jj := 0) (by kernel_rfl) h1 h2
    · exact r1.part (jj := 0) (by kernel_rfl) h1 h2
    · exact r2.part (jj := 0) (by kernel_rfl) h1 h2
    · exact r3.part (jj := 0) (by kernel_rfl) h1 h2
    · cases h1
  · rw [hx]
    refine Nat.le_trans ?_ hm
    show (1) + (1) + (1) + (1) + 1 ≤ _
    omega

def ok_32 (x : GGrid) : Prop := (Lit.int .i64 x.Rows).wf = true ∧ (Lit.int .i64 x.Cols).wf = true ∧ (x.Cells.length ≤ maxLen ∧ ∀ a ∈ x.Cells, ok_60 a) ∧ (x.Merges.length ≤ maxLen ∧ ∀ a ∈ x.Merges, ok_64 a)
def mu_32 (x : GGrid) : Nat := (1) + (1) + ((x.Cells.map mu_60).sum + 1) + ((x.Merges.map mu_64).sum + 1) + 1
theorem rd_32 {H : Type} {enc : TypeId × Value → H} {W : World} (K : Blk H) : Rdm K enc Tryd.prog W 32 GGrid.row ok_32 mu_32 := by
  intro fuel cs x h
  obtain ⟨hlen, xs, hx, hxl, hf⟩ := struct_parts (n := 4) Tryd.underlying32 (by kernel_rfl) h
  obtain ⟨y0, n0, g0, t0⟩ := hf 0 _ rfl
  obtain ⟨y1, n1, g1, t1⟩ := hf 1 _ rfl
  obtain ⟨y2, n2, g2, t2⟩ := hf 2 _ rfl
  obtain ⟨y3, n3, g3, t3⟩ := hf 3 _ rfl
  obtain rfl : xs = [y0, y1, y2, y3] := list_of_gets hxl (fun j y hj => by
    rcases j with _ | _ | _ | _ | j
    · cases hj; exact g0
    · cases hj; exact g1
    · cases hj; exact g2
    · cases hj; exact g3
    · cases hj)
  obtain ⟨a0, k0, r0, m0⟩ := ((Rdm.int K Tryd.underlying3)) _ _ _ t0
  obtain ⟨a1, k1, r1, m1⟩ := ((Rdm.int K Tryd.underlying3)) _ _ _ t1
  obtain ⟨a2, k2, r2, m2⟩ := ((Rdm.slice K (sz := 5) Tryd.underlying29 (by kernel_rfl) (by decide) (rd_60 K) (fun _ => rfl))) _ _ _ t2
  obtain ⟨a3, k3, r3, m3⟩ := ((Rdm.slice K (sz := 4) Tryd.underlying30 (by kernel_rfl) (by decide) (rd_64 K) (fun _ => rfl))) _ _ _ t3
  have m0 : 1 ≤ K.B y0.1 := m0
  have m1 : 1 ≤ K.B y1.1 := m1
  have m2 : (a2.map mu_60).sum + 1 ≤ K.B y2.1 := m2
  have m3 : (a3.map mu_64).sum + 1 ≤ K.B y3.1 := m3
  have hm := K.agg (List.map (fun z : DataW H × List MemPlace => z.1) [y0, y1, y2, y3])
  simp only [List.map_cons, List.map_nil, List.sum_cons, List.sum_nil] at hm
  refine ⟨⟨a0, a1, a2, a3⟩, ⟨k0, k1, k2, k3⟩, ⟨hlen, fun j d u h1 h2 => ?_⟩, ?_⟩
  · rcases j with _ | _ | _ | _ | j
    · exact r0.part (jj := 0) (by kernel_rfl) h1 h2
    · exact r1.part (jj := 0) (by kernel_rfl) h1 h2
    · exact r2.part (jj := 0) (by kernel_rfl) h1 h2
    · exact r3.part (jj := 0) (by kernel_rfl) h1 h2
    · cases h1
  · rw [hx]
    refine Nat.le_trans ?_ hm
    show (1) + (1) + ((a2.map mu_60).sum + 1) + ((a3.map mu_64).sum + 1) + 1 ≤ _
    omega

def ok_119 (x : GDrawOp) : Prop := (Lit.int .i64 x.Clock).wf = true ∧ (Lit.int .i64 x.Site).wf = true ∧ (Lit.int .i64 x.Kind).wf = true ∧ (Lit.int .i64 x.Item).wf = true ∧ (Lit.int .i64 x.Parent).wf = true ∧ x.Place.length ≤ maxLen ∧ x.Name.length ≤ maxLen ∧ x.Value.length ≤ maxLen
def mu_119 (x : GDrawOp) : Nat := (1) + (1) + (1) + (1) + (1) + (x.Place.length + 1) + (x.Name.length + 1) + (x.Value.length + 1) + 1
theorem rd_119 {H : Type} {enc : TypeId × Value → H} {W : World} (K : Blk H) : Rdm K enc Tryd.prog W 119 GDrawOp.row ok_119 mu_119 := by
  intro fuel cs x h
  obtain ⟨hlen, xs, hx, hxl, hf⟩ := struct_parts (n := 8) Tryd.underlying119 (by kernel_rfl) h
  obtain ⟨y0, n0, g0, t0⟩ := hf 0 _ rfl
  obtain ⟨y1, n1, g1, t1⟩ := hf 1 _ rfl
  obtain ⟨y2, n2, g2, t2⟩ := hf 2 _ rfl
  obtain ⟨y3, n3, g3, t3⟩ := hf 3 _ rfl
  obtain ⟨y4, n4, g4, t4⟩ := hf 4 _ rfl
  obtain ⟨y5, n5, g5, t5⟩ := hf 5 _ rfl
  obtain ⟨y6, n6, g6, t6⟩ := hf 6 _ rfl
  obtain ⟨y7, n7, g7, t7⟩ := hf 7 _ rfl
  obtain rfl : xs = [y0, y1, y2, y3, y4, y5, y6, y7] := list_of_gets hxl (fun j y hj => by
    rcases j with _ | _ | _ | _ | _ | _ | _ | _ | j
    · cases hj; exact g0
    · cases hj; exact g1
    · cases hj; exact g2
    · cases hj; exact g3
    · cases hj; exact g4
    · cases hj; exact g5
    · cases hj; exact g6
    · cases hj; exact g7
    · cases hj)
  obtain ⟨a0, k0, r0, m0⟩ := ((Rdm.int K Tryd.underlying3)) _ _ _ t0
  obtain ⟨a1, k1, r1, m1⟩ := ((Rdm.int K Tryd.underlying3)) _ _ _ t1
  obtain ⟨a2, k2, r2, m2⟩ := ((Rdm.int K Tryd.underlying3)) _ _ _ t2
  obtain ⟨a3, k3, r3, m3⟩ := ((Rdm.int K Tryd.underlying3)) _ _ _ t3
  obtain ⟨a4, k4, r4, m4⟩ := ((Rdm.int K Tryd.underlying3)) _ _ _ t4
  obtain ⟨a5, k5, r5, m5⟩ := ((Rdm.str K Tryd.underlying9)) _ _ _ t5
  obtain ⟨a6, k6, r6, m6⟩ := ((Rdm.str K Tryd.underlying9)) _ _ _ t6
  obtain ⟨a7, k7, r7, m7⟩ := ((Rdm.str K Tryd.underlying9)) _ _ _ t7
  have m0 : 1 ≤ K.B y0.1 := m0
  have m1 : 1 ≤ K.B y1.1 := m1
  have m2 : 1 ≤ K.B y2.1 := m2
  have m3 : 1 ≤ K.B y3.1 := m3
  have m4 : 1 ≤ K.B y4.1 := m4
  have m5 : a5.length + 1 ≤ K.B y5.1 := m5
  have m6 : a6.length + 1 ≤ K.B y6.1 := m6
  have m7 : a7.length + 1 ≤ K.B y7.1 := m7
  have hm := K.agg (List.map (fun z : DataW H × List MemPlace => z.1) [y0, y1, y2, y3, y4, y5, y6, y7])
  simp only [List.map_cons, List.map_nil, List.sum_cons, List.sum_nil] at hm
  refine ⟨⟨a0, a1, a2, a3, a4, a5, a6, a7⟩, ⟨k0, k1, k2, k3, k4, k5, k6, k7⟩, ⟨hlen, fun j d u h1 h2 => ?_⟩, ?_⟩
  · rcases j with _ | _ | _ | _ | _ | _ | _ | _ | j
    · exact r0.part (jj := 0) (by kernel_rfl) h1 h2
    · exact r1.part (jj := 0) (by kernel_rfl) h1 h2
    · exact r2.part (jj := 0) (by kernel_rfl) h1 h2
    · exact r3.part (jj := 0) (by kernel_rfl) h1 h2
    · exact r4.part (jj := 0) (by kernel_rfl) h1 h2
    · exact r5.part (jj := 0) (by kernel_rfl) h1 h2
    · exact r6.part (jj := 0) (by kernel_rfl) h1 h2
    · exact r7.part (jj := 0) (by kernel_rfl) h1 h2
    · cases h1
  · rw [hx]
    refine Nat.le_trans ?_ hm
    show (1) + (1) + (1) + (1) + (1) + (a5.length + 1) + (a6.length + 1) + (a7.length + 1) + 1 ≤ _
    omega

def ok_35 (x : GNode) : Prop := (Lit.int .i64 x.ID).wf = true ∧ (Lit.int .i64 x.Kind).wf = true ∧ (x.Attrs.length ≤ maxLen ∧ ∀ a ∈ x.Attrs, ok_122 a) ∧ (x.Flow.length ≤ maxLen ∧ ∀ a ∈ x.Flow, ok_70 a) ∧ ok_32 x.Grid ∧ (x.Draw.length ≤ maxLen ∧ ∀ a ∈ x.Draw, ok_119 a)
def mu_35 (x : GNode) : Nat := (1) + (1) + ((x.Attrs.map mu_122).sum + 1) + ((x.Flow.map mu_70).sum + 1) + (mu_32 x.Grid) + ((x.Draw.map mu_119).sum + 1) + 1
theorem rd_35 {H : Type} {enc : TypeId × Value → H} {W : World} (K : Blk H) : Rdm K enc Tryd.prog W 35 GNode.row ok_35 mu_35 := by
  intro fuel cs x h
  obtain ⟨hlen, xs, hx, hxl, hf⟩ := struct_parts (n := 9) Tryd.underlying35 (by kernel_rfl) h
  obtain ⟨y0, n0, g0, t0⟩ := hf 0 _ rfl
  obtain ⟨y1, n1, g1, t1⟩ := hf 1 _ rfl
  obtain ⟨y2, n2, g2, t2⟩ := hf 2 _ rfl
  obtain ⟨y3, n3, g3, t3⟩ := hf 3 _ rfl
  obtain ⟨y4, n4, g4, t4⟩ := hf 4 _ rfl
  obtain ⟨y5, n5, g5, t5⟩ := hf 5 _ rfl
  obtain rfl : xs = [y0, y1, y2, y3, y4, y5] := list_of_gets hxl (fun j y hj => by
    rcases j with _ | _ | _ | _ | _ | _ | j
    · cases hj; exact g0
    · cases hj; exact g1
    · cases hj; exact g2
    · cases hj; exact g3
    · cases hj; exact g4
    · cases hj; exact g5
    · cases hj)
  obtain ⟨a0, k0, r0, m0⟩ := ((Rdm.int K Tryd.underlying3)) _ _ _ t0
  obtain ⟨a1, k1, r1, m1⟩ := ((Rdm.int K Tryd.underlying3)) _ _ _ t1
  obtain ⟨a2, k2, r2, m2⟩ := ((Rdm.slice K (sz := 2) Tryd.underlying27 (by kernel_rfl) (by decide) (rd_122 K) (fun _ => rfl))) _ _ _ t2
  obtain ⟨a3, k3, r3, m3⟩ := ((Rdm.slice K (sz := 3) Tryd.underlying28 (by kernel_rfl) (by decide) (rd_70 K) (fun _ => rfl))) _ _ _ t3
  obtain ⟨a4, k4, r4, m4⟩ := ((rd_32 K)) _ _ _ t4
  obtain ⟨a5, k5, r5, m5⟩ := ((Rdm.slice K (sz := 8) Tryd.underlying33 (by kernel_rfl) (by decide) (rd_119 K) (fun _ => rfl))) _ _ _ t5
  have m0 : 1 ≤ K.B y0.1 := m0
  have m1 : 1 ≤ K.B y1.1 := m1
  have m2 : (a2.map mu_122).sum + 1 ≤ K.B y2.1 := m2
  have m3 : (a3.map mu_70).sum + 1 ≤ K.B y3.1 := m3
  have m4 : mu_32 a4 ≤ K.B y4.1 := m4
  have m5 : (a5.map mu_119).sum + 1 ≤ K.B y5.1 := m5
  have hm := K.agg (List.map (fun z : DataW H × List MemPlace => z.1) [y0, y1, y2, y3, y4, y5])
  simp only [List.map_cons, List.map_nil, List.sum_cons, List.sum_nil] at hm
  refine ⟨⟨a0, a1, a2, a3, a4, a5⟩, ⟨k0, k1, k2, k3, k4, k5⟩, ⟨hlen, fun j d u h1 h2 => ?_⟩, ?_⟩
  · rcases j with _ | _ | _ | _ | _ | _ | _ | _ | _ | j
    · exact r0.part (jj := 0) (by kernel_rfl) h1 h2
    · exact r1.part (jj := 0) (by kernel_rfl) h1 h2
    · exact r2.part (jj := 0) (by kernel_rfl) h1 h2
    · exact r3.part (jj := 0) (by kernel_rfl) h1 h2
    · exact r4.part (jj := 0) (by kernel_rfl) h1 h2
    · exact r4.part (jj := 1) (by kernel_rfl) h1 h2
    · exact r4.part (jj := 2) (by kernel_rfl) h1 h2
    · exact r4.part (jj := 3) (by kernel_rfl) h1 h2
    · exact r5.part (jj := 0) (by kernel_rfl) h1 h2
    · cases h1
  · rw [hx]
    refine Nat.le_trans ?_ hm
    show (1) + (1) + ((a2.map mu_122).sum + 1) + ((a3.map mu_70).sum + 1) + (mu_32 a4) + ((a5.map mu_119).sum + 1) + 1 ≤ _
    omega

def ok_24 (x : GDoc) : Prop := (x.Nodes.length ≤ maxLen ∧ ∀ a ∈ x.Nodes, ok_35 a)
def mu_24 (x : GDoc) : Nat := ((x.Nodes.map mu_35).sum + 1) + 1
theorem rd_24 {H : Type} {enc : TypeId × Value → H} {W : World} (K : Blk H) : Rdm K enc Tryd.prog W 24 GDoc.row ok_24 mu_24 := by
  intro fuel cs x h
  obtain ⟨hlen, xs, hx, hxl, hf⟩ := struct_parts (n := 1) Tryd.underlying24 (by kernel_rfl) h
  obtain ⟨y0, n0, g0, t0⟩ := hf 0 _ rfl
  obtain rfl : xs = [y0] := list_of_gets hxl (fun j y hj => by
    rcases j with _ | j
    · cases hj; exact g0
    · cases hj)
  obtain ⟨a0, k0, r0, m0⟩ := ((Rdm.slice K (sz := 9) Tryd.underlying22 (by kernel_rfl) (by decide) (rd_35 K) (fun _ => rfl))) _ _ _ t0
  have m0 : (a0.map mu_35).sum + 1 ≤ K.B y0.1 := m0
  have hm := K.agg (List.map (fun z : DataW H × List MemPlace => z.1) [y0])
  simp only [List.map_cons, List.map_nil, List.sum_cons, List.sum_nil] at hm
  refine ⟨⟨a0⟩, k0, ⟨hlen, fun j d u h1 h2 => ?_⟩, ?_⟩
  · rcases j with _ | j
    · exact r0.part (jj := 0) (by kernel_rfl) h1 h2
    · cases h1
  · rw [hx]
    refine Nat.le_trans ?_ hm
    show ((a0.map mu_35).sum + 1) + 1 ≤ _
    omega

theorem tabs {W : World} (h : laidMetH Tryd.prog Rows.docCheckSaysUptoRow.laid W) : TabsOk (Cx.start W) := by
  have h' : laidMet Tryd.prog Rows.docCheckSaysUptoRow.laid W := h
  refine tabs_start (d1 := Go.Pinned.utf8First) (d2 := Rows.laid_unicode_utf8_acceptRanges) (t1 := 146) (t2 := 149) (e1 := 5) (e2 := 148) (Go.Lib.laidMet.reads h' ?_) (by kernel_rfl) (by kernel_rfl) (by kernel_rfl) Tryd.underlying146 Tryd.underlying5 (by kernel_rfl) (by kernel_rfl)
    (Go.Lib.laidMet.reads h' ?_) (by kernel_rfl) (by kernel_rfl) (by kernel_rfl) Tryd.underlying149 Tryd.underlying148 (fun i f hf => ?_) rfl (by kernel_rfl)
  · exact .tail _ (.head _)
  · exact .head _
  · rcases i with _ | _ | i
    · cases hf; exact ⟨Tryd.underlying5, rfl, by kernel_rfl⟩
    · cases hf; exact ⟨Tryd.underlying5, rfl, by kernel_rfl⟩
    · cases hf

set_option maxRecDepth 100000 in
theorem contract (H : Type) (enc : TypeId × Value → H) (W : World) (base : Nat) (args : Array Value) (ds gs : List (DataW H)) (before : List MemPlace)
    (hval : ∀ (j : Nat) t v, Tryd.f4.params[j]? = some t → args[j]? = some v → Value.okWide Tryd.prog W .any base t v)
    (hW : DataW.Whole enc Tryd.prog Tryd.f4.params.toList Rows.docCheckSaysSpec.vars false W args.toList ds gs before) (hk0 : Rows.uptoSmall H (ds ++ gs) = true) (hL : laidMetH Tryd.prog Rows.docCheckSaysUptoRow.laid W) :
    Calls Tryd.prog 4 args W fun e W' => ∃ v, e = .returned v ∧ Rows.docCheckSaysSpec.post enc Tryd.prog Tryd.f4 false true false false W args v W' := by
  have hW' := hW
  obtain ⟨p, q, hA0, hV, rfl, hfz, hnd⟩ := hW
  have hA : DataW.TrodAll enc Tryd.prog W 0 (fun _ => true) true Tryd.f4.params.toList args.toList ds p := hA0
  rw [Tryd.params4] at hA hval
  obtain ⟨v0, vs0, d0, ds0, p0, q0, hargs, rfl, rfl, h0, e0⟩ := trodAll_cons hA
  obtain ⟨v1, vs1, d1, ds1, p1, q1, rfl, rfl, rfl, h1, e1⟩ := trodAll_cons e0
  obtain ⟨v2, vs2, d2, ds2, p2, q2, rfl, rfl, rfl, h2, e2⟩ := trodAll_cons e1
  obtain ⟨rfl, rfl, rfl⟩ := trodAll_nil e2
  obtain rfl : args = #[v0, v1, v2] := by cases args; simp_all
  obtain ⟨rfl, rfl⟩ := trodVars_none hV
  have hk : (blk H).B d0 + (blk H).B d1 + (blk H).B d2 ≤ 1048576 := by
    have := of_decide_eq_true hk0
    simp only [List.append_nil, Rows.uptoBulkAll] at this
    show Rows.uptoBulk d0 + Rows.uptoBulk d1 + Rows.uptoBulk d2 ≤ 1048576
    omega
  obtain ⟨x0, k0, r0, m0⟩ := topm_struct (blk H) Tryd.underlying24 (rd_24 (blk H)) (hval 0 24 v0 rfl rfl) h0
  obtain ⟨x1, k1, r1, m1⟩ := topm_int (blk H) Tryd.underlying3 (hval 1 3 v1 rfl rfl) h1
  obtain ⟨x2, k2, r2, m2⟩ := topm_int (blk H) Tryd.underlying3 (hval 2 3 v2 rfl rfl) h2
  clear hA0
  have h0 := okDoc2_bulk (μ := mu_35) (γ := mu_32) (ψ := mu_60) (ρ := mu_64) (δ := mu_119) (ν := mu_70) (κ := mu_122) (fun n => by unfold mu_35; omega) (fun g => by unfold mu_32; omega) (fun c => by unfold mu_60; omega) (fun r => by unfold mu_64; omega) (fun o => by unfold mu_119; omega) (fun e => by unfold mu_70; omega) (fun a => by unfold mu_122; omega) (d := x0) (by have m0' := m0; unfold mu_24 at m0'; omega)
  have hp := law_DocCheck_true x0 x1 x2 h0
  obtain ⟨_, _, hc⟩ := w_law_DocCheckSays hp
  refine (hc (Cx.start W) #[v0, v1, v2] (Cx.start_ok W (tabs hL)) rfl ⟨rfl, fun i a u k1 k2 => ?_⟩).mono fun e W' ⟨u, y, he, hy, hle, hok, hr⟩ => ?_
  · rcases i with _ | _ | _ | i
    · cases k1; cases k2; exact r0
    · cases k1; cases k2; exact .r r1
    · cases k1; cases k2; exact .r r2
    · cases k1
  · subst he; subst hy
    obtain rfl := rep_bool hr
    exact ⟨_, rfl, close_row (by kernel_rfl) (by rw [Tryd.params4]; intro t ht; simp at ht; rcases ht with rfl | rfl <;> exact ⟨by kernel_rfl, of_decide_eq_true (by kernel_rfl)⟩) rfl hW' hle rfl rfl
      (fun _ _ _ => trodAll_cons_mk (shut_bool Tryd.underlying4 _) trodAll_mk0)⟩

/-- A world for the witness: the settled one, the two tables laid. -/
def lay (cs : List Value) : Obj → Obj
  | .cells _ t frozen => .cells cs.toArray t frozen
  | o => o
noncomputable def laidWorld (os : Os) : World :=
  { World.holding Tryd.prog os ⟨#[], #[], []⟩ with heap := ((World.holding Tryd.prog os ⟨#[], #[], []⟩).heap.modify gFirst (lay (tabFirst.map fun z => Value.int .u8 z))).modify gAccept (lay (tabAccept0.flatMap fun p => [Value.int .u8 p.1, Value.int .u8 p.2])) }
theorem laid_met (os : Os) : laidMet Tryd.prog Rows.docCheckSaysUptoRow.laid ((laidWorld os).forCall (fun _ _ => 0) ⟨#[], #[.agg #[.slice none 0 0], .int .i64 0, .int .i64 0], []⟩).memory :=
  laidMet_of_run' 8 (by kernel_rfl) (by kernel_rfl)
theorem reads (os : Os) {H : Type} (enc : TypeId × Value → H) : ∃ places, DataW.whole enc Tryd.prog ((laidWorld os).forCall (fun _ _ => 0) ⟨#[], #[.agg #[.slice none 0 0], .int .i64 0, .int .i64 0], []⟩).memory Tryd.f4.params.toList Rows.docCheckSaysSpec.vars false (#[.agg #[.slice none 0 0], .int .i64 0, .int .i64 0] : Array Value).toList 8 = some ([.agg [.nil], .lit (.int .i64 0), .lit (.int .i64 0)], [], places) :=
  ⟨[], by kernel_rfl⟩

set_option maxRecDepth 100000 in
theorem lifted (os : Os) (started : os.Started) (H : Type) (enc : TypeId × Value → H) (F : Stop.Interp) :
    ReturnsInHanded {} Tryd.checked os 4 .any ((Rows.OpenSpec.upto Rows.docCheckSaysSpec).preRow enc Tryd.prog Tryd.f4 Rows.docCheckSaysUptoRow.domain false Rows.docCheckSaysUptoRow.laid) (((Rows.OpenSpec.upto Rows.docCheckSaysSpec).at F).post enc Tryd.prog Tryd.f4 false true false false) := by
  obtain ⟨places, hx⟩ := reads os enc
  refine returnsInHanded_of_row (C := Tryd.checked) (s := Rows.OpenSpec.upto Rows.docCheckSaysSpec) own started (by kernel_rfl) Tryd.func4
    (witness_row_at (enc := enc) (C := Tryd.checked) false (laidWorld os) #[.agg #[.slice none 0 0], .int .i64 0, .int .i64 0] rfl (by kernel_rfl) (by kernel_rfl) (by kernel_rfl)
      (OpenSpec.preRow_of_cond 8 hx (by kernel_rfl) (fun k hk => by cases hk; kernel_rfl) (by kernel_rfl) (laid_met os))) ?_
  intro W base args ds gs before hval hW _ hk _ hL _ _
  exact contract H enc W base args ds gs before hval hW (hk _ rfl) hL

theorem over : Rows.DocCheckSaysUptoSaid :=
  OpenClaim.holds_of_cond 4 Tryd.f4 rfl rfl rfl rfl rfl rfl rfl ⟨rfl, rfl, rfl, rfl, rfl⟩ rfl rfl rfl rfl rfl (by kernel_rfl) Tryd.func4 (by kernel_rfl)
    (of_decide_eq_true (by kernel_rfl)) (by unfold Func.isWrapper; first | (rw [if_pos (by decide +kernel)]; kernel_rfl) | (rw [if_neg (by decide +kernel)]; exact ⟨rfl, rfl⟩))
    (fun os started H enc _ F => by rw [OpenClaim.pre_eq_preRow]; exact lifted os started H enc F)

theorem plain (f : FuncId) (fn : Func) (hf : Tryd.pinned.checked.prog.funcNamed "chancery/chancerylaw1.DocCheckSays" = some f) (hfn : Tryd.pinned.checked.prog.funcs[f]? = some fn) :
    false = Tryd.pinned.checked.prog.looks [] ∧ ∀ (j : Nat) t, fn.params[j]? = some t → Tryd.pinned.checked.prog.wantsStandIn t = false := by
  obtain rfl : f = 4 := Option.some.inj ((show Tryd.prog.funcNamed "chancery/chancerylaw1.DocCheckSays" = some 4 by kernel_rfl).symm.trans hf) |>.symm
  obtain rfl : fn = Tryd.f4 := (Option.some.inj (Tryd.func4.symm.trans hfn)).symm
  refine ⟨by kernel_rfl, fun j t ht => ?_⟩
  rw [Tryd.params4] at ht
  rcases j with _ | _ | _ | j
  · cases ht; exact (show Tryd.prog.wantsStandIn 24 = false by kernel_rfl)
  · cases ht; exact (show Tryd.prog.wantsStandIn 3 = false by kernel_rfl)
  · cases ht; exact (show Tryd.prog.wantsStandIn 3 = false by kernel_rfl)
  · cases ht

theorem proved : Rows.DocCheckSaysUptoCardSaid :=
  Claim7.holds_tied_plain_at .later [] _ _ _ _ over (fun _ h => by cases h) (by kernel_rfl) (fun _ h => by cases h) docCheckSaysUpto_row_tie rfl ⟨rfl, rfl⟩ (by kernel_rfl) rfl plain (by kernel_rfl)
#print axioms proved
end Go.Proofs.YtfkolgjapajekaaDoor.Al.RDocCheck
