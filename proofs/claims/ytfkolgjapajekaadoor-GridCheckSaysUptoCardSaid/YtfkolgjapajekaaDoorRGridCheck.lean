/-
  PROVED: 'GridCheckSays' returns true whatever its arguments of bulk at most 1048576 are, and leaves them as they were (statement 'GridCheckSaysUptoCardSaid'). Conditions: none but the bulk.
-/
import Derived.Test.YtfkolgjapajekaaDoorWlkGCx3
import Derived.Deep.DeepHandedRow
import Derived.JoinedCond
import Derived.Lib.LaidTab
import Derived.OpenShut
import Derived.ProofKit
import Derived.Test.YtfkolgjapajekaaDoorCards
import Derived.Test.YtfkolgjapajekaaDoorChecked
import Derived.Test.YtfkolgjapajekaaDoorRows
import Derived.Test.YtfkolgjapajekaaDoorTie
import Derived.WalkKit
namespace Go.Proofs.YtfkolgjapajekaaDoor.Al.RGridCheck
open Go.Proofs Go.Proofs.YtfkolgjapajekaaDoor.Al Go.Proofs.YtfkolgjapajekaaDoor
open Go.ChangeShapes Go.WideShapes Go.ChangeAt Go.RowKit
set_option linter.unusedVariables false

theorem own : ownKnob Tryd.prog.godebug = none := by kernel_rfl

theorem blk_all {H : Type} (l : List (DataW H)) : (l.map Rows.uptoBulk).sum = Rows.uptoBulkAll l := by
  induction l with
  | nil => simp [Rows.uptoBulkAll]
  | cons d l ih => rw [List.map_cons, List.sum_cons, ih, Rows.uptoBulkAll]
def blk (H : Type) : Blk H where
  B := Rows.uptoBulk
  one := fun d => by
    cases d with
    | lit l => cases l <;> simp [Rows.uptoBulk]
    | nil => simp [Rows.uptoBulk]
    | ptr d => simp [Rows.uptoBulk]
    | slice elems spare => simp [Rows.uptoBulk]
    | agg parts => simp [Rows.uptoBulk]
    | iface t d => simp [Rows.uptoBulk]
    | map entries => simp [Rows.uptoBulk]
    | held h => simp [Rows.uptoBulk]
  str := fun s => by simp [Rows.uptoBulk]
  sl := fun l r => by rw [blk_all, Rows.uptoBulk]; omega
  agg := fun l => by rw [blk_all, Rows.uptoBulk]; omega
def ok_122 (x : GAttr) : Prop := x.Name.length ≤ maxLen ∧ x.Value.length ≤ maxLen
def mu_122 (x : GAttr) : Nat := (x.Name.length + 1) + (x.Value.length + 1) + 1
theorem rd_122 {H : Type} {enc : TypeId × Value → H} {W : World} (K : Blk H) : Rdm K enc Tryd.prog W 122 GAttr.row ok_122 mu_122 := by
  intro fuel cs x h
  obtain ⟨hlen, xs, hx, hxl, hf⟩ := struct_parts (n := 2) Tryd.underlying122 (by kernel_rfl) h
  obtain ⟨y0, n0, g0, t0⟩ := hf 0 _ rfl
  obtain ⟨y1, n1, g1, t1⟩ := hf 1 _ rfl
  obtain rfl : xs = [y0, y1] := list_of_gets hxl (fun j y hj => by
    rcases j with _ | _ | j
    · cases hj; exact g0
    · cases hj; exact g1
    · cases hj)
  obtain ⟨a0, k0, r0, m0⟩ := ((Rdm.str K Tryd.underlying9)) _ _ _ t0
  obtain ⟨a1, k1, r1, m1⟩ := ((Rdm.str K Tryd.underlying9)) _ _ _ t1
  have m0 : a0.length + 1 ≤ K.B y0.1 := m0
  have m1 : a1.length + 1 ≤ K.B y1.1 := m1
  have hm := K.agg (List.map (fun z : DataW H × List MemPlace => z.1) [y0, y1])
  simp only [List.map_cons, List.map_nil, List.sum_cons, List.sum_nil] at hm
  refine ⟨⟨a0, a1⟩, ⟨k0, k1⟩, ⟨hlen, fun j d u h1 h2 => ?_⟩, ?_⟩
  · rcases j with _ | _ | j
    · exact r0.part (jj := 0) (by kernel_rfl) h1 h2
    · exact r1.part (jj := 0) (by kernel_rfl) h1 h2
    · cases h1
  · rw [hx]
    refine Nat.le_trans ?_ hm
    show (a0.length + 1) + (a1.length + 1) + 1 ≤ _
    omega

def ok_60 (x : GCell) : Prop := (Lit.int .i64 x.Row).wf = true ∧ (Lit.int .i64 x.Col).wf = true ∧ x.Text.length ≤ maxLen ∧ (Lit.int .i64 x.Ref).wf = true ∧ (x.Attrs.length ≤ maxLen ∧ ∀ a ∈ x.Attrs, ok_122 a)
def mu_60 (x : GCell) : Nat := (1) + (1) + (x.Text.length + 1) + (1) + ((x.Attrs.map mu_122).sum + 1) + 1
theorem rd_60 {H : Type} {enc : TypeId × Value → H} {W : World} (K : Blk H) : Rdm K enc Tryd.prog W 60 GCell.row ok_60 mu_60 := by
  intro fuel cs x h
  obtain ⟨hlen, xs, hx, hxl, hf⟩ := struct_parts (n := 5) Tryd.underlying60 (by kernel_rfl) h
  obtain ⟨y0, n0, g0, t0⟩ := hf 0 _ rfl
  obtain ⟨y1, n1, g1, t1⟩ := hf 1 _ rfl
  obtain ⟨y2, n2, g2, t2⟩ := hf 2 _ rfl
  obtain ⟨y3, n3, g3, t3⟩ := hf 3 _ rfl
  obtain ⟨y4, n4, g4, t4⟩ := hf 4 _ rfl
  obtain rfl : xs = [y0, y1, y2, y3, y4] := list_of_gets hxl (fun j y hj => by
    rcases j with _ | _ | _ | _ | _ | j
    · cases hj; exact g0
    · cases hj; exact g1
    · cases hj; exact g2
    · cases hj; exact g3
    · cases hj; exact g4
    · cases hj)
  obtain ⟨a0, k0, r0, m0⟩ := ((Rdm.int K Tryd.underlying3)) _ _ _ t0
  obtain ⟨a1, k1, r1, m1⟩ := ((Rdm.int K Tryd.underlying3)) _ _ _ t1
  obtain ⟨a2, k2, r2, m2⟩ := ((Rdm.str K Tryd.underlying9)) _ _ _ t2
  obtain ⟨a3, k3, r3, m3⟩ := ((Rdm.int K Tryd.underlying3)) _ _ _ t3
  obtain ⟨a4, k4, r4, m4⟩ := ((Rdm.slice K (sz := 2) Tryd.underlying27 (by kernel_rfl) (by decide) (rd_122 K) (fun _ => rfl))) _ _ _ t4
  have m0 : 1 ≤ K.B y0.1 := m0
  have m1 : 1 ≤ K.B y1.1 := m1
  have m2 : a2.length + 1 ≤ K.B y2.1 := m2
  have m3 : 1 ≤ K.B y3.1 := m3
  have m4 : (a4.map mu_122).sum + 1 ≤ K.B y4.1 := m4
  have hm := K.agg (List.map (fun z : DataW H × List MemPlace => z.1) [y0, y1, y2, y3, y4])
  simp only [List.map_cons, List.map_nil, List.sum_cons, List.sum_nil] at hm
  refine ⟨⟨a0, a1, a2, a3, a4⟩, ⟨k0, k1, k2, k3, k4⟩, ⟨hlen, fun j d u h1 h2 => ?_⟩, ?_⟩
  · rcases j with _ | _ | _ | _ | _ | j
    · exact r0.part (jj := 0) (by kernel_rfl) h1 h2
    · exact r1.part (jj := 0) (by kernel_rfl) h1 h2
    · exact r2.part (jj := 0) (by kernel_rfl) h1 h2
    · exact r3.part (jj := 0) (by kernel_rfl) h1 h2
    · exact r4.part (jj := 0) (by kernel_rfl) h1 h2
    · cases h1
  · rw [hx]
    refine Nat.le_trans ?_ hm
    show (1) + (1) + (a2.length + 1) + (1) + ((a4.map mu_122).sum + 1) + 1 ≤ _
    omega

def ok_64 (x : GRect) : Prop := (Lit.int .i64 x.Row).wf = true ∧ (Lit.int .i64 x.Col).wf = true ∧ (Lit.int .i64 x.H).wf = true ∧ (Lit.int .i64 x.W).wf = true
def mu_64 (x : GRect) : Nat := (1) + (1) + (1) + (1) + 1
theorem rd_64 {H : Type} {enc : TypeId × Value → H} {W : World} (K : Blk H) : Rdm K enc Tryd.prog W 64 GRect.row ok_64 mu_64 := by
  intro fuel cs x h
  obtain ⟨hlen, xs, hx, hxl, hf⟩ := struct_parts (n := 4) Tryd.underlying64 (by kernel_rfl) h
  obtain ⟨y0, n0, g0, t0⟩ := hf 0 _ rfl
  obtain ⟨y1, n1, g1, t1⟩ := hf 1 _ rfl
  obtain ⟨y2, n2, g2, t2⟩ := hf 2 _ rfl
  obtain ⟨y3, n3, g3, t3⟩ := hf 3 _ rfl
  obtain rfl : xs = [y0, y1, y2, y3] := list_of_gets hxl (fun j y hj => by
    rcases j with _ | _ | _ | _ | j
    · cases hj; exact g0
    · cases hj; exact g1
    · cases hj; exact g2
    · cases hj; exact g3
    · cases hj)
  obtain ⟨a0, k0, r0, m0⟩ := ((Rdm.int K Tryd.underlying3)) _ _ _ t0
  obtain ⟨a1, k1, r1, m1⟩ := ((Rdm.int K Tryd.underlying3)) _ _ _ t1
  obtain ⟨a2, k2, r2, m2⟩ := ((Rdm.int K Tryd.underlying3)) _ _ _ t2
  obtain ⟨a3, k3, r3, m3⟩ := ((Rdm.int K Tryd.underlying3)) _ _ _ t3
  have m0 : 1 ≤ K.B y0.1 := m0
  have m1 : 1 ≤ K.B y1.1 := m1
  have m2 : 1 ≤ K.B y2.1 := m2
  have m3 : 1 ≤ K.B y3.1 := m3
  have hm := K.agg (List.map (fun z : DataW H × List MemPlace => z.1) [y0, y1, y2, y3])
  simp only [List.map_cons, List.map_nil, List.sum_cons, List.sum_nil] at hm
  refine ⟨⟨a0, a1, a2, a3⟩, ⟨k0, k1, k2, k3⟩, ⟨hlen, fun j d u h1 h2 => ?_⟩, ?_⟩
  · rcases j with _ | _ | _ | _ | j
    · exact r0.part (jj := 0) (by kernel_rfl) h1 h2
    · exact r1.part (jj := 0) (by kernel_rfl) h1 h2
    · exact r2.part (jj := 0) (by kernel_rfl) h1 h2
    · exact r3.part (jj := 0) (by kernel_rfl) h1 h2
    · cases h1
  · rw [hx]
    refine Nat.le_trans ?_ hm
    show (1) + (1) + (1) + (1) + 1 ≤ _
    omega

def ok_32 (x : GGrid) : Prop := (Lit.int .i64 x.Rows).wf = true ∧ (Lit.int .i64 x.Cols).wf = true ∧ (x.Cells.length ≤ maxLen ∧ ∀ a ∈ x.Cells, ok_60 a) ∧ (x.Merges.length ≤ maxLen ∧ ∀ a ∈ x.Merges, ok_64 a)
def mu_32 (x : GGrid) : Nat := (1) + (1) + ((x.Cells.map mu_60).sum + 1) + ((x.Merges.map mu_64).sum + 1) + 1
theorem rd_32 {H : Type} {enc : TypeId × Value → H} {W : World} (K : Blk H) : Rdm K enc Tryd.prog W 32 GGrid.row ok_32 mu_32 := by
  intro fuel cs x h
  obtain ⟨hlen, xs, hx, hxl, hf⟩ := struct_parts (n := 4) Tryd.underlying32 (by kernel_rfl) h
  obtain ⟨y0, n0, g0, t0⟩ := hf 0 _ rfl
  obtain ⟨y1, n1, g1, t1⟩ := hf 1 _ rfl
  obtain ⟨y2, n2, g2, t2⟩ := hf 2 _ rfl
  obtain ⟨y3, n3, g3, t3⟩ := hf 3 _ rfl
  obtain rfl : xs = [y0, y1, y2, y3] := list_of_gets hxl (fun j y hj => by
    rcases j with _ | _ | _ | _ | j
    · cases hj; exact g0
    · cases hj; exact g1
    · cases hj; exact g2
    · cases hj; exact g3
    · cases hj)
  obtain ⟨a0, k0, r0, m0⟩ := ((Rdm.int K Tryd.underlying3)) _ _ _ t0
  obtain ⟨a1, k1, r1, m1⟩ := ((Rdm.int K Tryd.underlying3)) _ _ _ t1
  obtain ⟨a2, k2, r2, m2⟩ := ((Rdm.slice K (sz := 5) Tryd.underlying29 (by kernel_rfl) (by decide) (rd_60 K) (fun _ => rfl))) _ _ _ t2
  obtain ⟨a3, k3, r3, m3⟩ := ((Rdm.slice K (sz := 4) Tryd.underlying30 (by kernel_rfl) (by decide) (rd_64 K) (fun _ => rfl))) _ _ _ t3
  have m0 : 1 ≤ K.B y0.1 := m0
  have m1 : 1 ≤ K.B y1.1 := m1
  have m2 : (a2.map mu_60).sum + 1 ≤ K.B y2.1 := m2
  have m3 : (a3.map mu_64).sum + 1 ≤ K.B y3.1 := m3
  have hm := K.agg (List.map (fun z : DataW H × List MemPlace => z.1) [y0, y1, y2, y3])
  simp only [List.map_cons, List.map_nil, List.sum_cons, List.sum_nil] at hm
  refine ⟨⟨a0, a1, a2, a3⟩, ⟨k0, k1, k2, k3⟩, ⟨hlen, fun j d u h1 h2 => ?_⟩, ?_⟩
  · rcases j with _ | _ | _ | _ | j
    · exact r0.part (jj := 0) (by kernel_rfl) h1 h2
    · exact r1.part (jj := 0) (by kernel_rfl) h1 h2
    · exact r2.part (jj := 0) (by kernel_rfl) h1 h2
    · exact r3.part (jj := 0) (by kernel_rfl) h1 h2
    · cases h1
  · rw [hx]
    refine Nat.le_trans ?_ hm
    show (1) + (1) + ((a2.map mu_60).sum + 1) + ((a3.map mu_64).sum + 1) + 1 ≤ _
    omega

def ok_91 (x : GAxisStep) : Prop := (Lit.int .i64 x.Kind).wf = true ∧ (Lit.int .i64 x.N).wf = true
def mu_91 (x : GAxisStep) : Nat := (1) + (1) + 1
theorem rd_91 {H : Type} {enc : TypeId × Value → H} {W : World} (K : Blk H) : Rdm K enc Tryd.prog W 91 GAxisStep.row ok_91 mu_91 := by
  intro fuel cs x h
  obtain ⟨hlen, xs, hx, hxl, hf⟩ := struct_parts (n := 2) Tryd.underlying91 (by kernel_rfl) h
  obtain ⟨y0, n0, g0, t0⟩ := hf 0 _ rfl
  obtain ⟨y1, n1, g1, t1⟩ := hf 1 _ rfl
  obtain rfl : xs = [y0, y1] := list_of_gets hxl (fun j y hj => by
    rcases j with _ | _ | j
    · cases hj; exact g0
    · cases hj; exact g1
    · cases hj)
  obtain ⟨a0, k0, r0, m0⟩ := ((Rdm.int K Tryd.underlying3)) _ _ _ t0
  obtain ⟨a1, k1, r1, m1⟩ := ((Rdm.int K Tryd.underlying3)) _ _ _ t1
  have m0 : 1 ≤ K.B y0.1 := m0
  have m1 : 1 ≤ K.B y1.1 := m1
  have hm := K.agg (List.map (fun z : DataW H × List MemPlace => z.1) [y0, y1])
  simp only [List.map_cons, List.map_nil, List.sum_cons, List.sum_nil] at hm
  refine ⟨⟨a0, a1⟩, ⟨k0, k1⟩, ⟨hlen, fun j d u h1 h2 => ?_⟩, ?_⟩
  · rcases j with _ | _ | j
    · exact r0.part (jj := 0) (by kernel_rfl) h1 h2
    · exact r1.part (jj := 0) (by kernel_rfl) h1 h2
    · cases h1
  · rw [hx]
    refine Nat.le_trans ?_ hm
    show (1) + (1) + 1 ≤ _
    omega

def ok_49 (x : GGridEdit) : Prop := (x.Rows.length ≤ maxLen ∧ ∀ a ∈ x.Rows, ok_91 a) ∧ (x.Cols.length ≤ maxLen ∧ ∀ a ∈ x.Cols, ok_91 a) ∧ (x.Cells.length ≤ maxLen ∧ ∀ a ∈ x.Cells, ok_60 a) ∧ (x.Split.length ≤ maxLen ∧ ∀ a ∈ x.Split, ok_64 a) ∧ (x.Merge.length ≤ maxLen ∧ ∀ a ∈ x.Merge, ok_64 a)
def mu_49 (x : GGridEdit) : Nat := ((x.Rows.map mu_91).sum + 1) + ((x.Cols.map mu_91).sum + 1) + ((x.Cells.map mu_60).sum + 1) + ((x.Split.map mu_64).sum + 1) + ((x.Merge.map mu_64).sum + 1) + 1
theorem rd_49 {H : Type} {enc : TypeId × Value → H} {W : World} (K : Blk H) : Rdm K enc Tryd.prog W 49 GGridEdit.row ok_49 mu_49 := by
  intro fuel cs x h
  obtain ⟨hlen, xs, hx, hxl, hf⟩ := struct_parts (n := 5) Tryd.underlying49 (by kernel_rfl) h
  obtain ⟨y0, n0, g0, t0⟩ := hf 0 _ rfl
  obtain ⟨y1, n1, g1, t1⟩ := hf 1 _ rfl
  obtain ⟨y2, n2, g2, t2⟩ := hf 2 _ rfl
  obtain ⟨y3, n3, g3, t3⟩ := hf 3 _ rfl
  obtain ⟨y4, n4, g4, t4⟩ := hf 4 _ rfl
  obtain rfl : xs = [y0, y1, y2, y3, y4] := list_of_gets hxl (fun j y hj => by
    rcases j with _ | _ | _ | _ | _ | j
    · cases hj; exact g0
    · cases hj; exact g1
    · cases hj; exact g2
    · cases hj; exact g3
    · cases hj; exact g4
    · cases hj)
  obtain ⟨a0, k0, r0, m0⟩ := ((Rdm.slice K (sz := 2) Tryd.underlying47 (by kernel_rfl) (by decide) (rd_91 K) (fun _ => rfl))) _ _ _ t0
  obtain ⟨a1, k1, r1, m1⟩ := ((Rdm.slice K (sz := 2) Tryd.underlying47 (by kernel_rfl) (by decide) (rd_91 K) (fun _ => rfl))) _ _ _ t1
  obtain ⟨a2, k2, r2, m2⟩ := ((Rdm.slice K (sz := 5) Tryd.underlying29 (by kernel_rfl) (by decide) (rd_60 K) (fun _ => rfl))) _ _ _ t2
  obtain ⟨a3, k3, r3, m3⟩ := ((Rdm.slice K (sz := 4) Tryd.underlying30 (by kernel_rfl) (by decide) (rd_64 K) (fun _ => rfl))) _ _ _ t3
  obtain ⟨a4, k4, r4, m4⟩ := ((Rdm.slice K (sz := 4) Tryd.underlying30 (by kernel_rfl) (by decide) (rd_64 K) (fun _ => rfl))) _ _ _ t4
  have m0 : (a0.map mu_91).sum + 1 ≤ K.B y0.1 := m0
  have m1 : (a1.map mu_91).sum + 1 ≤ K.B y1.1 := m1
  have m2 : (a2.map mu_60).sum + 1 ≤ K.B y2.1 := m2
  have m3 : (a3.map mu_64).sum + 1 ≤ K.B y3.1 := m3
  have m4 : (a4.map mu_64).sum + 1 ≤ K.B y4.1 := m4
  have hm := K.agg (List.map (fun z : DataW H × List MemPlace => z.1) [y0, y1, y2, y3, y4])
  simp only [List.map_cons, List.map_nil, List.sum_cons, List.sum_nil] at hm
  refine ⟨⟨a0, a1, a2, a3, a4⟩, ⟨k0, k1, k2, k3, k4⟩, ⟨hlen, fun j d u h1 h2 => ?_⟩, ?_⟩
  · rcases j with _ | _ | _ | _ | _ | j
    · exact r0.part (jj := 0) (by kernel_rfl) h1 h2
    · exact r1.part (jj := 0) (by kernel_rfl) h1 h2
    · exact r2.part (jj := 0) (by kernel_rfl) h1 h2
    · exact r3.part (jj := 0) (by kernel_rfl) h1 h2
    · exact r4.part (jj := 0) (by kernel_rfl) h1 h2
    · cases h1
  · rw [hx]
    refine Nat.le_trans ?_ hm
    show ((a0.map mu_91).sum + 1) + ((a1.map mu_91).sum + 1) + ((a2.map mu_60).sum + 1) + ((a3.map mu_64).sum + 1) + ((a4.map mu_64).sum + 1) + 1 ≤ _
    omega

theorem tabs {W : World} (h : laidMetH Tryd.prog Rows.gridCheckSaysUptoRow.laid W) : TabsOk (Cx.start W) := by
  have h' : laidMet Tryd.prog Rows.gridCheckSaysUptoRow.laid W := h
  refine tabs_start (d1 := Go.Pinned.utf8First) (d2 := Rows.laid_unicode_utf8_acceptRanges) (t1 := 146) (t2 := 149) (e1 := 5) (e2 := 148) (Go.Lib.laidMet.reads h' ?_) (by kernel_rfl) (by kernel_rfl) (by kernel_rfl) Tryd.underlying146 Tryd.underlying5 (by kernel_rfl) (by kernel_rfl)
    (Go.Lib.laidMet.reads h' ?_) (by kernel_rfl) (by kernel_rfl) (by kernel_rfl) Tryd.underlying149 Tryd.underlying148 (fun i f hf => ?_) rfl (by kernel_rfl)
  · exact .tail _ (.head _)
  · exact .head _
  · rcases i with _ | _ | i
    · cases hf; exact ⟨Tryd.underlying5, rfl, by kernel_rfl⟩
    · cases hf; exact ⟨Tryd.underlying5, rfl, by kernel_rfl⟩
    · cases hf

set_option maxRecDepth 100000 in
theorem contract (H : Type) (enc : TypeId × Value → H) (W : World) (base : Nat) (args : Array Value) (ds gs : List (DataW H)) (before : List MemPlace)
    (hval : ∀ (j : Nat) t v, Tryd.f7.params[j]? = some t → args[j]? = some v → Value.okWide Tryd.prog W .any base t v)
    (hW : DataW.Whole enc Tryd.prog Tryd.f7.params.toList Rows.gridCheckSaysSpec.vars false W args.toList ds gs before) (hk0 : Rows.uptoSmall H (ds ++ gs) = true) (hL : laidMetH Tryd.prog Rows.gridCheckSaysUptoRow.laid W) :
    Calls Tryd.prog 7 args W fun e W' => ∃ v, e = .returned v ∧ Rows.gridCheckSaysSpec.post enc Tryd.prog Tryd.f7 false true false false W args v W' := by
  have hW' := hW
  obtain ⟨p, q, hA0, hV, rfl, hfz, hnd⟩ := hW
  have hA : DataW.TrodAll enc Tryd.prog W 0 (fun _ => true) true Tryd.f7.params.toList args.toList ds p := hA0
  rw [Tryd.params7] at hA hval
  obtain ⟨v0, vs0, d0, ds0, p0, q0, hargs, rfl, rfl, h0, e0⟩ := trodAll_cons hA
  obtain ⟨v1, vs1, d1, ds1, p1, q1, rfl, rfl, rfl, h1, e1⟩ := trodAll_cons e0
  obtain ⟨v2, vs2, d2, ds2, p2, q2, rfl, rfl, rfl, h2, e2⟩ := trodAll_cons e1
  obtain ⟨v3, vs3, d3, ds3, p3, q3, rfl, rfl, rfl, h3, e3⟩ := trodAll_cons e2
  obtain ⟨rfl, rfl, rfl⟩ := trodAll_nil e3
  obtain rfl : args = #[v0, v1, v2, v3] := by cases args; simp_all
  obtain ⟨rfl, rfl⟩ := trodVars_none hV
  have hk : (blk H).B d0 + (blk H).B d1 + (blk H).B d2 + (blk H).B d3 ≤ 1048576 := by
    have := of_decide_eq_true hk0
    simp only [List.append_nil, Rows.uptoBulkAll] at this
    show Rows.uptoBulk d0 + Rows.uptoBulk d1 + Rows.uptoBulk d2 + Rows.uptoBulk d3 ≤ 1048576
    omega
  obtain ⟨x0, k0, r0, m0⟩ := topm_struct (blk H) Tryd.underlying32 (rd_32 (blk H)) (hval 0 32 v0 rfl rfl) h0
  obtain ⟨x1, k1, r1, m1⟩ := topm_struct (blk H) Tryd.underlying49 (rd_49 (blk H)) (hval 1 49 v1 rfl rfl) h1
  obtain ⟨x2, k2, r2, m2⟩ := topm_int (blk H) Tryd.underlying3 (hval 2 3 v2 rfl rfl) h2
  obtain ⟨x3, k3, r3, m3⟩ := topm_int (blk H) Tryd.underlying3 (hval 3 3 v3 rfl rfl) h3
  clear hA0
  have h0 := okGd_bulk (γ := mu_32) (ψ := mu_60) (ρ := mu_64) (κ := mu_122) (fun g => by unfold mu_32; omega) (fun c => by unfold mu_60; omega) (fun r => by unfold mu_64; omega) (fun a => by unfold mu_122; omega) (g := x0) (by omega)
  have h1 := okEd_bulk (η := mu_49) (σ := mu_91) (ψ := mu_60) (ρ := mu_64) (κ := mu_122) (fun e => by unfold mu_49; omega) (fun s => by unfold mu_91; omega) (fun c => by unfold mu_60; omega) (fun r => by unfold mu_64; omega) (fun a => by unfold mu_122; omega) (e := x1) (by omega)
  have hr : x2 ≤ 9223372036854775807 := by simp only [Lit.wf, Bool.and_eq_true, decide_eq_true_eq] at k2; exact k2.2
  have hc : x3 ≤ 9223372036854775807 := by simp only [Lit.wf, Bool.and_eq_true, decide_eq_true_eq] at k3; exact k3.2
  have hp := law_GridCheck_true x0 x1 x2 x3 h0 h1 hr hc
  obtain ⟨_, _, hc⟩ := w_law_GridCheckSays hp
  refine (hc (Cx.start W) #[v0, v1, v2, v3] (Cx.start_ok W (tabs hL)) rfl ⟨rfl, fun i a u k1 k2 => ?_⟩).mono fun e W' ⟨u, y, he, hy, hle, hok, hr⟩ => ?_
  · rcases i with _ | _ | _ | _ | i
    · cases k1; cases k2; exact r0
    · cases k1; cases k2; exact r1
    · cases k1; cases k2; exact .r r2
    · cases k1; cases k2; exact .r r3
    · cases k1
  · subst he; subst hy
    obtain rfl := rep_bool hr
    exact ⟨_, rfl, close_row (by kernel_rfl) (by rw [Tryd.params7]; intro t ht; simp at ht; rcases ht with rfl | rfl | rfl <;> exact ⟨by kernel_rfl, of_decide_eq_true (by kernel_rfl)⟩) rfl hW' hle rfl rfl
      (fun _ _ _ => trodAll_cons_mk (shut_bool Tryd.underlying4 _) trodAll_mk0)⟩

/-- A world for the witness: the settled one, the two tables laid. -/
def lay (cs : List Value) : Obj → Obj
  | .cells _ t frozen => .cells cs.toArray t frozen
  | o => o
noncomputable def laidWorld (os : Os) : World :=
  { World.holding Tryd.prog os ⟨#[], #[], []⟩ with heap := ((World.holding Tryd.prog os ⟨#[], #[], []⟩).heap.modify gFirst (lay (tabFirst.map fun z => Value.int .u8 z))).modify gAccept (lay (tabAccept0.flatMap fun p => [Value.int .u8 p.1, Value.int .u8 p.2])) }
theorem laid_met (os : Os) : laidMet Tryd.prog Rows.gridCheckSaysUptoRow.laid ((laidWorld os).forCall (fun _ _ => 0) ⟨#[], #[.agg #[.int .i64 0, .int .i64 0, .slice none 0 0, .slice none 0 0], .agg #[.slice none 0 0, .slice none 0 0, .slice none 0 0, .slice none 0 0, .slice none 0 0], .int .i64 0, .int .i64 0], []⟩).memory :=
  laidMet_of_run' 8 (by kernel_rfl) (by kernel_rfl)
theorem reads (os : Os) {H : Type} (enc : TypeId × Value → H) : ∃ places, DataW.whole enc Tryd.prog ((laidWorld os).forCall (fun _ _ => 0) ⟨#[], #[.agg #[.int .i64 0, .int .i64 0, .slice none 0 0, .slice none 0 0], .agg #[.slice none 0 0, .slice none 0 0, .slice none 0 0, .slice none 0 0, .slice none 0 0], .int .i64 0, .int .i64 0], []⟩).memory Tryd.f7.params.toList Rows.gridCheckSaysSpec.vars false (#[.agg #[.int .i64 0, .int .i64 0, .slice none 0 0, .slice none 0 0], .agg #[.slice none 0 0, .slice none 0 0, .slice none 0 0, .slice none 0 0, .slice none 0 0], .int .i64 0, .int .i64 0] : Array Value).toList 8 = some ([.agg [.lit (.int .i64 0), .lit (.int .i64 0), .nil, .nil], .agg [.nil, .nil, .nil, .nil, .nil], .lit (.int .i64 0), .lit (.int .i64 0)], [], places) :=
  ⟨[], by kernel_rfl⟩

set_option maxRecDepth 100000 in
theorem lifted (os : Os) (started : os.Started) (H : Type) (enc : TypeId × Value → H) (F : Stop.Interp) :
    ReturnsInHanded {} Tryd.checked os 7 .any ((Rows.OpenSpec.upto Rows.gridCheckSaysSpec).preRow enc Tryd.prog Tryd.f7 Rows.gridCheckSaysUptoRow.domain false Rows.gridCheckSaysUptoRow.laid) (((Rows.OpenSpec.upto Rows.gridCheckSaysSpec).at F).post enc Tryd.prog Tryd.f7 false true false false) := by
  obtain ⟨places, hx⟩ := reads os enc
  refine returnsInHanded_of_row (C := Tryd.checked) (s := Rows.OpenSpec.upto Rows.gridCheckSaysSpec) own started (by kernel_rfl) Tryd.func7
    (witness_row_at (enc := enc) (C := Tryd.checked) false (laidWorld os) #[.agg #[.int .i64 0, .int .i64 0, .slice none 0 0, .slice none 0 0], .agg #[.slice none 0 0, .slice none 0 0, .slice none 0 0, .slice none 0 0, .slice none 0 0], .int .i64 0, .int .i64 0] rfl (by kernel_rfl) (by kernel_rfl) (by kernel_rfl)
      (OpenSpec.preRow_of_cond 8 hx (by kernel_rfl) (fun k hk => by cases hk; kernel_rfl) (by kernel_rfl) (laid_met os))) ?_
  intro W base args ds gs before hval hW _ hk _ hL _ _
  exact contract H enc W base args ds gs before hval hW (hk _ rfl) hL

theorem over : Rows.GridCheckSaysUptoSaid :=
  OpenClaim.holds_of_cond 7 Tryd.f7 rfl rfl rfl rfl rfl rfl rfl ⟨rfl, rfl, rfl, rfl, rfl⟩ rfl rfl rfl rfl rfl (by kernel_rfl) Tryd.func7 (by kernel_rfl)
    (of_decide_eq_true (by kernel_rfl)) (by unfold Func.isWrapper; first | (rw [if_pos (by decide +kernel)]; kernel_rfl) | (rw [if_neg (by decide +kernel)]; exact ⟨rfl, rfl⟩))
    (fun os started H enc _ F => by rw [OpenClaim.pre_eq_preRow]; exact lifted os started H enc F)

theorem plain (f : FuncId) (fn : Func) (hf : Tryd.pinned.checked.prog.funcNamed "chancery/chancerylaw1.GridCheckSays" = some f) (hfn : Tryd.pinned.checked.prog.funcs[f]? = some fn) :
    false = Tryd.pinned.checked.prog.looks [] ∧ ∀ (j : Nat) t, fn.params[j]? = some t → Tryd.pinned.checked.prog.wantsStandIn t = false := by
  obtain rfl : f = 7 := Option.some.inj ((show Tryd.prog.funcNamed "chancery/chancerylaw1.GridCheckSays" = some 7 by kernel_rfl).symm.trans hf) |>.symm
  obtain rfl : fn = Tryd.f7 := (Option.some.inj (Tryd.func7.symm.trans hfn)).symm
  refine ⟨by kernel_rfl, fun j t ht => ?_⟩
  rw [Tryd.params7] at ht
  rcases j with _ | _ | _ | _ | j
  · cases ht; exact (show Tryd.prog.wantsStandIn 32 = false by kernel_rfl)
  · cases ht; exact (show Tryd.prog.wantsStandIn 49 = false by kernel_rfl)
  · cases ht; exact (show Tryd.prog.wantsStandIn 3 = false by kernel_rfl)
  · cases ht; exact (show Tryd.prog.wantsStandIn 3 = false by kernel_rfl)
  · cases ht

theorem proved : Rows.GridCheckSaysUptoCardSaid :=
  Claim7.holds_tied_plain_at .later [] _ _ _ _ over (fun _ h => by cases h) (by kernel_rfl) (fun _ h => by cases h) gridCheckSaysUpto_row_tie rfl ⟨rfl, rfl⟩ (by kernel_rfl) rfl plain (by kernel_rfl)
#print axioms proved
end Go.Proofs.YtfkolgjapajekaaDoor.Al.RGridCheck
