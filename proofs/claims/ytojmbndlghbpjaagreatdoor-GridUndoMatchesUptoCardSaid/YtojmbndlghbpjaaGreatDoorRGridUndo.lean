/-
  PROVED: 'GridUndoMatches' returns true whatever its arguments of bulk at most 1048576 are, and leaves them as they were (statement 'GridUndoMatchesUptoCardSaid'). Conditions: none but the bulk.
-/
import Derived.Test.YtojmbndlghbpjaaGreatDoorWlk261x2
import Derived.Deep.DeepHandedRow
import Derived.JoinedCond
import Derived.Lib.LaidTab
import Derived.OpenShut
import Derived.ProofKit
import Derived.Test.YtojmbndlghbpjaaGreatDoorCards
import Derived.Test.YtojmbndlghbpjaaGreatDoorChecked
import Derived.Test.YtojmbndlghbpjaaGreatDoorRows
import Derived.Test.YtojmbndlghbpjaaGreatDoorTie
import Derived.WalkKit
set_option linter.all false
namespace Go.Proofs.YtojmbndlghbpjaaGreatDoor.Al.RGridUndo
open Go.Proofs Go.Proofs.YtojmbndlghbpjaaGreatDoor.Al Go.Proofs.YtojmbndlghbpjaaGreatDoor
open Go.ChangeShapes Go.WideShapes Go.ChangeAt Go.RowKit
set_option linter.unusedVariables false

theorem own : ownKnob Tryz.prog.godebug = none := by kernel_rfl

theorem blk_all {H : Type} (l : List (DataW H)) : (l.map Rows.uptoBulk).sum = Rows.uptoBulkAll l := by
  induction l with
  | nil => simp [Rows.uptoBulkAll]
  | cons d l ih => rw [List.map_cons, List.sum_cons, ih, Rows.uptoBulkAll]
def blk (H : Type) : F5 H where
  B := Rows.uptoBulk
  one := fun d => by
    cases d with
    | lit l => cases l <;> simp [Rows.uptoBulk]
    | nil => simp [Rows.uptoBulk]
    | ptr d => simp [Rows.uptoBulk]
    | slice elems spare => simp [Rows.uptoBulk]
    | agg parts => simp [Rows.uptoBulk]
    | iface t d => simp [Rows.uptoBulk]
    | map entries => simp [Rows.uptoBulk]
    | held h => simp [Rows.uptoBulk]
  str := fun s => by simp [Rows.uptoBulk]
  sl := fun l r => by rw [blk_all, Rows.uptoBulk]; omega
  agg := fun l => by rw [blk_all, Rows.uptoBulk]; omega
def ok_103 (x : Ak) : Prop := x.Name.length ≤ maxLen ∧ x.Value.length ≤ maxLen
def mu_103 (x : Ak) : Nat := (x.Name.length + 1) + (x.Value.length + 1) + 1
theorem rd_103 {H : Type} {enc : TypeId × Value → H} {W : World} (K : F5 H) : Bc K enc Tryz.prog W 103 Ak.row ok_103 mu_103 := by
  intro fuel cs x h
  obtain ⟨hlen, xs, hx, hxl, hf⟩ := Jb (n := 2) Tryz.underlying103 (by kernel_rfl) h
  obtain ⟨y0, n0, g0, t0⟩ := hf 0 _ rfl
  obtain ⟨y1, n1, g1, t1⟩ := hf 1 _ rfl
  obtain rfl : xs = [y0, y1] := Ir hxl (fun j y hj => by
    rcases j with _ | _ | j
    · cases hj; exact g0
    · cases hj; exact g1
    · cases hj)
  obtain ⟨a0, k0, r0, m0⟩ := ((Bc.str K Tryz.underlying9)) _ _ _ t0
  obtain ⟨a1, k1, r1, m1⟩ := ((Bc.str K Tryz.underlying9)) _ _ _ t1
  have m0 : a0.length + 1 ≤ K.B y0.1 := m0
  have m1 : a1.length + 1 ≤ K.B y1.1 := m1
  have hm := K.agg (List.map (fun z : DataW H × List MemPlace => z.1) [y0, y1])
  simp only [List.map_cons, List.map_nil, List.sum_cons, List.sum_nil] at hm
  refine ⟨⟨a0, a1⟩, ⟨k0, k1⟩, ⟨hlen, fun j d u h1 h2 => ?_⟩, ?_⟩
  · rcases j with _ | _ | j
    · exact r0.part (jj := 0) (by kernel_rfl) h1 h2
    · exact r1.part (jj := 0) (by kernel_rfl) h1 h2
    · cases h1
  · rw [hx]
    refine Nat.le_trans ?_ hm
    show (a0.length + 1) + (a1.length + 1) + 1 ≤ _
    omega

def ok_43 (x : AC) : Prop := (Lit.int .i64 x.Row).wf = true ∧ (Lit.int .i64 x.Col).wf = true ∧ x.Text.length ≤ maxLen ∧ (Lit.int .i64 x.Ref).wf = true ∧ (x.Attrs.length ≤ maxLen ∧ ∀ a ∈ x.Attrs, ok_103 a)
def mu_43 (x : AC) : Nat := (1) + (1) + (x.Text.length + 1) + (1) + ((x.Attrs.map mu_103).sum + 1) + 1
theorem rd_43 {H : Type} {enc : TypeId × Value → H} {W : World} (K : F5 H) : Bc K enc Tryz.prog W 43 AC.row ok_43 mu_43 := by
  intro fuel cs x h
  obtain ⟨hlen, xs, hx, hxl, hf⟩ := Jb (n := 5) Tryz.underlying43 (by kernel_rfl) h
  obtain ⟨y0, n0, g0, t0⟩ := hf 0 _ rfl
  obtain ⟨y1, n1, g1, t1⟩ := hf 1 _ rfl
  obtain ⟨y2, n2, g2, t2⟩ := hf 2 _ rfl
  obtain ⟨y3, n3, g3, t3⟩ := hf 3 _ rfl
  obtain ⟨y4, n4, g4, t4⟩ := hf 4 _ rfl
  obtain rfl : xs = [y0, y1, y2, y3, y4] := Ir hxl (fun j y hj => by
    rcases j with _ | _ | _ | _ | _ | j
    · cases hj; exact g0
    · cases hj; exact g1
    · cases hj; exact g2
    · cases hj; exact g3
    · cases hj; exact g4
    · cases hj)
  obtain ⟨a0, k0, r0, m0⟩ := ((Bc.int K Tryz.underlying3)) _ _ _ t0
  obtain ⟨a1, k1, r1, m1⟩ := ((Bc.int K Tryz.underlying3)) _ _ _ t1
  obtain ⟨a2, k2, r2, m2⟩ := ((Bc.str K Tryz.underlying9)) _ _ _ t2
  obtain ⟨a3, k3, r3, m3⟩ := ((Bc.int K Tryz.underlying3)) _ _ _ t3
  obtain ⟨a4, k4, r4, m4⟩ := ((Bc.slice K (sz := 2) Tryz.underlying41 (by kernel_rfl) (by decide) (rd_103 K) (fun _ => rfl))) _ _ _ t4
  have m0 : 1 ≤ K.B y0.1 := m0
  have m1 : 1 ≤ K.B y1.1 := m1
  have m2 : a2.length + 1 ≤ K.B y2.1 := m2
  have m3 : 1 ≤ K.B y3.1 := m3
  have m4 : (a4.map mu_103).sum + 1 ≤ K.B y4.1 := m4
  have hm := K.agg (List.map (fun z : DataW H × List MemPlace => z.1) [y0, y1, y2, y3, y4])
  simp only [List.map_cons, List.map_nil, List.sum_cons, List.sum_nil] at hm
  refine ⟨⟨a0, a1, a2, a3, a4⟩, ⟨k0, k1, k2, k3, k4⟩, ⟨hlen, fun j d u h1 h2 => ?_⟩, ?_⟩
  · rcases j with _ | _ | _ | _ | _ | j
    · exact r0.part (jj := 0) (by kernel_rfl) h1 h2
    · exact r1.part (jj := 0) (by kernel_rfl) h1 h2
    · exact r2.part (jj := 0) (by kernel_rfl) h1 h2
    · exact r3.part (jj := 0) (by kernel_rfl) h1 h2
    · exact r4.part (jj := 0) (by kernel_rfl) h1 h2
    · cases h1
  · rw [hx]
    refine Nat.le_trans ?_ hm
    show (1) + (1) + (a2.length + 1) + (1) + ((a4.map mu_103).sum + 1) + 1 ≤ _
    omega

def ok_47 (x : AD) : Prop := (Lit.int .i64 x.Row).wf = true ∧ (Lit.int .i64 x.Col).wf = true ∧ (Lit.int .i64 x.H).wf = true ∧ (Lit.int .i64 x.W).wf = true
def mu_47 (x : AD) : Nat := (1) + (1) + (1) + (1) + 1
theorem rd_47 {H : Type} {enc : TypeId × Value → H} {W : World} (K : F5 H) : Bc K enc Tryz.prog W 47 AD.row ok_47 mu_47 := by
  intro fuel cs x h
  obtain ⟨hlen, xs, hx, hxl, hf⟩ := Jb (n := 4) Tryz.underlying47 (by kernel_rfl) h
  obtain ⟨y0, n0, g0, t0⟩ := hf 0 _ rfl
  obtain ⟨y1, n1, g1, t1⟩ := hf 1 _ rfl
  obtain ⟨y2, n2, g2, t2⟩ := hf 2 _ rfl
  obtain ⟨y3, n3, g3, t3⟩ := hf 3 _ rfl
  obtain rfl : xs = [y0, y1, y2, y3] := Ir hxl (fun j y hj => by
    rcases j with _ | _ | _ | _ | j
    · cases hj; exact g0
    · cases hj; exact g1
    · cases hj; exact g2
    · cases hj; exact g3
    · cases hj)
  obtain ⟨a0, k0, r0, m0⟩ := ((Bc.int K Tryz.underlying3)) _ _ _ t0
  obtain ⟨a1, k1, r1, m1⟩ := ((Bc.int K Tryz.underlying3)) _ _ _ t1
  obtain ⟨a2, k2, r2, m2⟩ := ((Bc.int K Tryz.underlying3)) _ _ _ t2
  obtain ⟨a3, k3, r3, m3⟩ := ((Bc.int K Tryz.underlying3)) _ _ _ t3
  have m0 : 1 ≤ K.B y0.1 := m0
  have m1 : 1 ≤ K.B y1.1 := m1
  have m2 : 1 ≤ K.B y2.1 := m2
  have m3 : 1 ≤ K.B y3.1 := m3
  have hm := K.agg (List.map (fun z : DataW H × List MemPlace => z.1) [y0, y1, y2, y3])
  simp only [List.map_cons, List.map_nil, List.sum_cons, List.sum_nil] at hm
  refine ⟨⟨a0, a1, a2, a3⟩, ⟨k0, k1, k2, k3⟩, ⟨hlen, fun j d u h1 h2 => ?_⟩, ?_⟩
  · rcases j with _ | _ | _ | _ | j
    · exact r0.part (jj := 0) (by kernel_rfl) h1 h2
    · exact r1.part (jj := 0) (by kernel_rfl) h1 h2
    · exact r2.part (jj := 0) (by kernel_rfl) h1 h2
    · exact r3.part (jj := 0) (by kernel_rfl) h1 h2
    · cases h1
  · rw [hx]
    refine Nat.le_trans ?_ hm
    show (1) + (1) + (1) + (1) + 1 ≤ _
    omega

def ok_25 (x : AJ) : Prop := (Lit.int .i64 x.Rows).wf = true ∧ (Lit.int .i64 x.Cols).wf = true ∧ (x.Cells.length ≤ maxLen ∧ ∀ a ∈ x.Cells, ok_43 a) ∧ (x.Merges.length ≤ maxLen ∧ ∀ a ∈ x.Merges, ok_47 a)
def mu_25 (x : AJ) : Nat := (1) + (1) + ((x.Cells.map mu_43).sum + 1) + ((x.Merges.map mu_47).sum + 1) + 1
theorem rd_25 {H : Type} {enc : TypeId × Value → H} {W : World} (K : F5 H) : Bc K enc Tryz.prog W 25 AJ.row ok_25 mu_25 := by
  intro fuel cs x h
  obtain ⟨hlen, xs, hx, hxl, hf⟩ := Jb (n := 4) Tryz.underlying25 (by kernel_rfl) h
  obtain ⟨y0, n0, g0, t0⟩ := hf 0 _ rfl
  obtain ⟨y1, n1, g1, t1⟩ := hf 1 _ rfl
  obtain ⟨y2, n2, g2, t2⟩ := hf 2 _ rfl
  obtain ⟨y3, n3, g3, t3⟩ := hf 3 _ rfl
  obtain rfl : xs = [y0, y1, y2, y3] := Ir hxl (fun j y hj => by
    rcases j with _ | _ | _ | _ | j
    · cases hj; exact g0
    · cases hj; exact g1
    · cases hj; exact g2
    · cases hj; exact g3
    · cases hj)
  obtain ⟨a0, k0, r0, m0⟩ := ((Bc.int K Tryz.underlying3)) _ _ _ t0
  obtain ⟨a1, k1, r1, m1⟩ := ((Bc.int K Tryz.underlying3)) _ _ _ t1
  obtain ⟨a2, k2, r2, m2⟩ := ((Bc.slice K (sz := 5) Tryz.underlying22 (by kernel_rfl) (by decide) (rd_43 K) (fun _ => rfl))) _ _ _ t2
  obtain ⟨a3, k3, r3, m3⟩ := ((Bc.slice K (sz := 4) Tryz.underlying23 (by kernel_rfl) (by decide) (rd_47 K) (fun _ => rfl))) _ _ _ t3
  have m0 : 1 ≤ K.B y0.1 := m0
  have m1 : 1 ≤ K.B y1.1 := m1
  have m2 : (a2.map mu_43).sum + 1 ≤ K.B y2.1 := m2
  have m3 : (a3.map mu_47).sum + 1 ≤ K.B y3.1 := m3
  have hm := K.agg (List.map (fun z : DataW H × List MemPlace => z.1) [y0, y1, y2, y3])
  simp only [List.map_cons, List.map_nil, List.sum_cons, List.sum_nil] at hm
  refine ⟨⟨a0, a1, a2, a3⟩, ⟨k0, k1, k2, k3⟩, ⟨hlen, fun j d u h1 h2 => ?_⟩, ?_⟩
  · rcases j with _ | _ | _ | _ | j
    · exact r0.part (jj := 0) (by kernel_rfl) h1 h2
    · exact r1.part (jj := 0) (by kernel_rfl) h1 h2
    · exact r2.part (jj := 0) (by kernel_rfl) h1 h2
    · exact r3.part (jj := 0) (by kernel_rfl) h1 h2
    · cases h1
  · rw [hx]
    refine Nat.le_trans ?_ hm
    show (1) + (1) + ((a2.map mu_43).sum + 1) + ((a3.map mu_47).sum + 1) + 1 ≤ _
    omega

def ok_52 (x : AG) : Prop := (Lit.int .i64 x.Kind).wf = true ∧ (Lit.int .i64 x.N).wf = true
def mu_52 (x : AG) : Nat := (1) + (1) + 1
theorem rd_52 {H : Type} {enc : TypeId × Value → H} {W : World} (K : F5 H) : Bc K enc Tryz.prog W 52 AG.row ok_52 mu_52 := by
  intro fuel cs x h
  obtain ⟨hlen, xs, hx, hxl, hf⟩ := Jb (n := 2) Tryz.underlying52 (by kernel_rfl) h
  obtain ⟨y0, n0, g0, t0⟩ := hf 0 _ rfl
  obtain ⟨y1, n1, g1, t1⟩ := hf 1 _ rfl
  obtain rfl : xs = [y0, y1] := Ir hxl (fun j y hj => by
    rcases j with _ | _ | j
    · cases hj; exact g0
    · cases hj; exact g1
    · cases hj)
  obtain ⟨a0, k0, r0, m0⟩ := ((Bc.int K Tryz.underlying3)) _ _ _ t0
  obtain ⟨a1, k1, r1, m1⟩ := ((Bc.int K Tryz.underlying3)) _ _ _ t1
  have m0 : 1 ≤ K.B y0.1 := m0
  have m1 : 1 ≤ K.B y1.1 := m1
  have hm := K.agg (List.map (fun z : DataW H × List MemPlace => z.1) [y0, y1])
  simp only [List.map_cons, List.map_nil, List.sum_cons, List.sum_nil] at hm
  refine ⟨⟨a0, a1⟩, ⟨k0, k1⟩, ⟨hlen, fun j d u h1 h2 => ?_⟩, ?_⟩
  · rcases j with _ | _ | j
    · exact r0.part (jj := 0) (by kernel_rfl) h1 h2
    · exact r1.part (jj := 0) (by kernel_rfl) h1 h2
    · cases h1
  · rw [hx]
    refine Nat.le_trans ?_ hm
    show (1) + (1) + 1 ≤ _
    omega

def ok_28 (x : AK) : Prop := (x.Rows.length ≤ maxLen ∧ ∀ a ∈ x.Rows, ok_52 a) ∧ (x.Cols.length ≤ maxLen ∧ ∀ a ∈ x.Cols, ok_52 a) ∧ (x.Cells.length ≤ maxLen ∧ ∀ a ∈ x.Cells, ok_43 a) ∧ (x.Split.length ≤ maxLen ∧ ∀ a ∈ x.Split, ok_47 a) ∧ (x.Merge.length ≤ maxLen ∧ ∀ a ∈ x.Merge, ok_47 a)
def mu_28 (x : AK) : Nat := ((x.Rows.map mu_52).sum + 1) + ((x.Cols.map mu_52).sum + 1) + ((x.Cells.map mu_43).sum + 1) + ((x.Split.map mu_47).sum + 1) + ((x.Merge.map mu_47).sum + 1) + 1
theorem rd_28 {H : Type} {enc : TypeId × Value → H} {W : World} (K : F5 H) : Bc K enc Tryz.prog W 28 AK.row ok_28 mu_28 := by
  intro fuel cs x h
  obtain ⟨hlen, xs, hx, hxl, hf⟩ := Jb (n := 5) Tryz.underlying28 (by kernel_rfl) h
  obtain ⟨y0, n0, g0, t0⟩ := hf 0 _ rfl
  obtain ⟨y1, n1, g1, t1⟩ := hf 1 _ rfl
  obtain ⟨y2, n2, g2, t2⟩ := hf 2 _ rfl
  obtain ⟨y3, n3, g3, t3⟩ := hf 3 _ rfl
  obtain ⟨y4, n4, g4, t4⟩ := hf 4 _ rfl
  obtain rfl : xs = [y0, y1, y2, y3, y4] := Ir hxl (fun j y hj => by
    rcases j with _ | _ | _ | _ | _ | j
    · cases hj; exact g0
    · cases hj; exact g1
    · cases hj; exact g2
    · cases hj; exact g3
    · cases hj; exact g4
    · cases hj)
  obtain ⟨a0, k0, r0, m0⟩ := ((Bc.slice K (sz := 2) Tryz.underlying26 (by kernel_rfl) (by decide) (rd_52 K) (fun _ => rfl))) _ _ _ t0
  obtain ⟨a1, k1, r1, m1⟩ := ((Bc.slice K (sz := 2) Tryz.underlying26 (by kernel_rfl) (by decide) (rd_52 K) (fun _ => rfl))) _ _ _ t1
  obtain ⟨a2, k2, r2, m2⟩ := ((Bc.slice K (sz := 5) Tryz.underlying22 (by kernel_rfl) (by decide) (rd_43 K) (fun _ => rfl))) _ _ _ t2
  obtain ⟨a3, k3, r3, m3⟩ := ((Bc.slice K (sz := 4) Tryz.underlying23 (by kernel_rfl) (by decide) (rd_47 K) (fun _ => rfl))) _ _ _ t3
  obtain ⟨a4, k4, r4, m4⟩ := ((Bc.slice K (sz := 4) Tryz.underlying23 (by kernel_rfl) (by decide) (rd_47 K) (fun _ => rfl))) _ _ _ t4
  have m0 : (a0.map mu_52).sum + 1 ≤ K.B y0.1 := m0
  have m1 : (a1.map mu_52).sum + 1 ≤ K.B y1.1 := m1
  have m2 : (a2.map mu_43).sum + 1 ≤ K.B y2.1 := m2
  have m3 : (a3.map mu_47).sum + 1 ≤ K.B y3.1 := m3
  have m4 : (a4.map mu_47).sum + 1 ≤ K.B y4.1 := m4
  have hm := K.agg (List.map (fun z : DataW H × List MemPlace => z.1) [y0, y1, y2, y3, y4])
  simp only [List.map_cons, List.map_nil, List.sum_cons, List.sum_nil] at hm
  refine ⟨⟨a0, a1, a2, a3, a4⟩, ⟨k0, k1, k2, k3, k4⟩, ⟨hlen, fun j d u h1 h2 => ?_⟩, ?_⟩
  · rcases j with _ | _ | _ | _ | _ | j
    · exact r0.part (jj := 0) (by kernel_rfl) h1 h2
    · exact r1.part (jj := 0) (by kernel_rfl) h1 h2
    · exact r2.part (jj := 0) (by kernel_rfl) h1 h2
    · exact r3.part (jj := 0) (by kernel_rfl) h1 h2
    · exact r4.part (jj := 0) (by kernel_rfl) h1 h2
    · cases h1
  · rw [hx]
    refine Nat.le_trans ?_ hm
    show ((a0.map mu_52).sum + 1) + ((a1.map mu_52).sum + 1) + ((a2.map mu_43).sum + 1) + ((a3.map mu_47).sum + 1) + ((a4.map mu_47).sum + 1) + 1 ≤ _
    omega

theorem tabs {W : World} (h : laidMetH Tryz.prog Rows.gridUndoMatchesUptoRow.laid W) : ED (E2 W) := by
  have h' : laidMet Tryz.prog Rows.gridUndoMatchesUptoRow.laid W := h
  refine bm (d1 := Go.Pinned.utf8First) (d2 := Rows.laid_unicode_utf8_acceptRanges) (t1 := 131) (t2 := 134) (e1 := 5) (e2 := 133) (Go.Lib.laidMet.reads h' ?_) (by kernel_rfl) (by kernel_rfl) (by kernel_rfl) Tryz.underlying131 Tryz.underlying5 (by kernel_rfl) (by kernel_rfl)
    (Go.Lib.laidMet.reads h' ?_) (by kernel_rfl) (by kernel_rfl) (by kernel_rfl) Tryz.underlying134 Tryz.underlying133 (fun i f hf => ?_) rfl (by kernel_rfl)
  · exact .tail _ (.head _)
  · exact .head _
  · rcases i with _ | _ | i
    · cases hf; exact ⟨Tryz.underlying5, rfl, by kernel_rfl⟩
    · cases hf; exact ⟨Tryz.underlying5, rfl, by kernel_rfl⟩
    · cases hf

set_option maxRecDepth 100000 in
theorem contract (H : Type) (enc : TypeId × Value → H) (W : World) (base : Nat) (args : Array Value) (ds gs : List (DataW H)) (before : List MemPlace)
    (hval : ∀ (j : Nat) t v, Tryz.f3.params[j]? = some t → args[j]? = some v → Value.okWide Tryz.prog W .any base t v)
    (hW : DataW.Whole enc Tryz.prog Tryz.f3.params.toList Rows.gridUndoMatchesSpec.vars false W args.toList ds gs before) (hk0 : Rows.uptoSmall H (ds ++ gs) = true) (hL : laidMetH Tryz.prog Rows.gridUndoMatchesUptoRow.laid W) :
    Calls Tryz.prog 3 args W fun e W' => ∃ v, e = .returned v ∧ Rows.gridUndoMatchesSpec.post enc Tryz.prog Tryz.f3 false true false false W args v W' := by
  have hW' := hW
  obtain ⟨p, q, hA0, hV, rfl, hfz, hnd⟩ := hW
  have hA : DataW.TrodAll enc Tryz.prog W 0 (fun _ => true) true Tryz.f3.params.toList args.toList ds p := hA0
  rw [Tryz.params3] at hA hval
  obtain ⟨v0, vs0, d0, ds0, p0, q0, hargs, rfl, rfl, h0, e0⟩ := trodAll_cons hA
  obtain ⟨v1, vs1, d1, ds1, p1, q1, rfl, rfl, rfl, h1, e1⟩ := trodAll_cons e0
  obtain ⟨rfl, rfl, rfl⟩ := trodAll_nil e1
  obtain rfl : args = #[v0, v1] := by cases args; simp_all
  obtain ⟨rfl, rfl⟩ := trodVars_none hV
  have hk : (blk H).B d0 + (blk H).B d1 ≤ 1048576 := by
    have := of_decide_eq_true hk0
    simp only [List.append_nil, Rows.uptoBulkAll] at this
    show Rows.uptoBulk d0 + Rows.uptoBulk d1 ≤ 1048576
    omega
  obtain ⟨x0, k0, r0, m0⟩ := Q0 (blk H) Tryz.underlying25 (rd_25 (blk H)) (hval 0 25 v0 rfl rfl) h0
  obtain ⟨x1, k1, r1, m1⟩ := Q0 (blk H) Tryz.underlying28 (rd_28 (blk H)) (hval 1 28 v1 rfl rfl) h1
  clear hA0
  have h0 := Vw (γ := mu_25) (ψ := mu_43) (ρ := mu_47) (κ := mu_103) (fun g => by unfold mu_25; omega) (fun c => by unfold mu_43; omega) (fun r => by unfold mu_47; omega) (fun a => by unfold mu_103; omega) (g := x0) (by omega)
  have h1 := WN (η := mu_28) (σ := mu_52) (ψ := mu_43) (ρ := mu_47) (κ := mu_103) (fun e => by unfold mu_28; omega) (fun s => by unfold mu_52; omega) (fun c => by unfold mu_43; omega) (fun r => by unfold mu_47; omega) (fun a => by unfold mu_103; omega) (e := x1) (by omega)
  have hS := Uh (γ := mu_25) (ψ := mu_43) (ρ := mu_47) (η := mu_28) (σ := mu_52) (κ := mu_103) (fun g => by unfold mu_25; omega) (fun e => by unfold mu_28; omega) (fun c => by unfold mu_43; omega) (fun r => by unfold mu_47; omega) (g := x0) (e := x1) (by omega)
  have hp := Z0 x0 x1 h0 h1 hS.1 hS.2
  obtain ⟨_, _, hc⟩ := V8 hp
  refine (hc (E2 W) #[v0, v1] (cr W (tabs hL)) rfl ⟨rfl, fun i a u k1 k2 => ?_⟩).mono fun e W' ⟨u, y, he, hy, hle, hok, hr⟩ => ?_
  · rcases i with _ | _ | i
    · cases k1; cases k2; exact r0
    · cases k1; cases k2; exact r1
    · cases k1
  · subst he; subst hy
    obtain rfl := E6 hr
    exact ⟨_, rfl, ZC (by kernel_rfl) (by rw [Tryz.params3]; intro t ht; simp at ht; rcases ht with rfl | rfl <;> exact ⟨by kernel_rfl, of_decide_eq_true (by kernel_rfl)⟩) rfl hW' hle rfl rfl
      (fun _ _ _ => trodAll_cons_mk (shut_bool Tryz.underlying4 _) trodAll_mk0)⟩

/-- A world for the witness: the settled one, the two tables laid. -/
def lay (cs : List Value) : Obj → Obj
  | .cells _ t frozen => .cells cs.toArray t frozen
  | o => o
noncomputable def laidWorld (os : Os) : World :=
  { World.holding Tryz.prog os ⟨#[], #[], []⟩ with heap := ((World.holding Tryz.prog os ⟨#[], #[], []⟩).heap.modify GI (lay (Ed.map fun z => Value.int .u8 z))).modify Gj (lay (HT.flatMap fun p => [Value.int .u8 p.1, Value.int .u8 p.2])) }
theorem laid_met (os : Os) : laidMet Tryz.prog Rows.gridUndoMatchesUptoRow.laid ((laidWorld os).forCall (fun _ _ => 0) ⟨#[], #[.agg #[.int .i64 0, .int .i64 0, .slice none 0 0, .slice none 0 0], .agg #[.slice none 0 0, .slice none 0 0, .slice none 0 0, .slice none 0 0, .slice none 0 0]], []⟩).memory :=
  laidMet_of_run' 8 (by kernel_rfl) (by kernel_rfl)
theorem reads (os : Os) {H : Type} (enc : TypeId × Value → H) : ∃ places, DataW.whole enc Tryz.prog ((laidWorld os).forCall (fun _ _ => 0) ⟨#[], #[.agg #[.int .i64 0, .int .i64 0, .slice none 0 0, .slice none 0 0], .agg #[.slice none 0 0, .slice none 0 0, .slice none 0 0, .slice none 0 0, .slice none 0 0]], []⟩).memory Tryz.f3.params.toList Rows.gridUndoMatchesSpec.vars false (#[.agg #[.int .i64 0, .int .i64 0, .slice none 0 0, .slice none 0 0], .agg #[.slice none 0 0, .slice none 0 0, .slice none 0 0, .slice none 0 0, .slice none 0 0]] : Array Value).toList 8 = some ([.agg [.lit (.int .i64 0), .lit (.int .i64 0), .nil, .nil], .agg [.nil, .nil, .nil, .nil, .nil]], [], places) :=
  ⟨[], by kernel_rfl⟩

set_option maxRecDepth 100000 in
theorem lifted (os : Os) (started : os.Started) (H : Type) (enc : TypeId × Value → H) (F : Stop.Interp) :
    ReturnsInHanded {} Tryz.checked os 3 .any ((Rows.OpenSpec.upto Rows.gridUndoMatchesSpec).preRow enc Tryz.prog Tryz.f3 Rows.gridUndoMatchesUptoRow.domain false Rows.gridUndoMatchesUptoRow.laid) (((Rows.OpenSpec.upto Rows.gridUndoMatchesSpec).at F).post enc Tryz.prog Tryz.f3 false true false false) := by
  obtain ⟨places, hx⟩ := reads os enc
  refine returnsInHanded_of_row (C := Tryz.checked) (s := Rows.OpenSpec.upto Rows.gridUndoMatchesSpec) own started (by kernel_rfl) Tryz.func3
    (witness_row_at (enc := enc) (C := Tryz.checked) false (laidWorld os) #[.agg #[.int .i64 0, .int .i64 0, .slice none 0 0, .slice none 0 0], .agg #[.slice none 0 0, .slice none 0 0, .slice none 0 0, .slice none 0 0, .slice none 0 0]] rfl (by kernel_rfl) (by kernel_rfl) (by kernel_rfl)
      (OpenSpec.preRow_of_cond 8 hx (by kernel_rfl) (fun k hk => by cases hk; kernel_rfl) (by kernel_rfl) (laid_met os))) ?_
  intro W base args ds gs before hval hW _ hk _ hL _ _
  exact contract H enc W base args ds gs before hval hW (hk _ rfl) hL

theorem over : Rows.GridUndoMatchesUptoSaid :=
  OpenClaim.holds_of_cond 3 Tryz.f3 rfl rfl rfl rfl rfl rfl rfl ⟨rfl, rfl, rfl, rfl, rfl⟩ rfl rfl rfl rfl rfl (by kernel_rfl) Tryz.func3 (by kernel_rfl)
    (of_decide_eq_true (by kernel_rfl)) (by unfold Func.isWrapper; first | (rw [if_pos (by decide +kernel)]; kernel_rfl) | (rw [if_neg (by decide +kernel)]; exact ⟨rfl, rfl⟩))
    (fun os started H enc _ F => by rw [OpenClaim.pre_eq_preRow]; exact lifted os started H enc F)

theorem plain (f : FuncId) (fn : Func) (hf : Tryz.pinned.checked.prog.funcNamed "chancery/chancerylaw1.GridUndoMatches" = some f) (hfn : Tryz.pinned.checked.prog.funcs[f]? = some fn) :
    false = Tryz.pinned.checked.prog.looks [] ∧ ∀ (j : Nat) t, fn.params[j]? = some t → Tryz.pinned.checked.prog.wantsStandIn t = false := by
  obtain rfl : f = 3 := Option.some.inj ((show Tryz.prog.funcNamed "chancery/chancerylaw1.GridUndoMatches" = some 3 by kernel_rfl).symm.trans hf) |>.symm
  obtain rfl : fn = Tryz.f3 := (Option.some.inj (Tryz.func3.symm.trans hfn)).symm
  refine ⟨by kernel_rfl, fun j t ht => ?_⟩
  rw [Tryz.params3] at ht
  rcases j with _ | _ | j
  · cases ht; exact (show Tryz.prog.wantsStandIn 25 = false by kernel_rfl)
  · cases ht; exact (show Tryz.prog.wantsStandIn 28 = false by kernel_rfl)
  · cases ht

theorem proved : Rows.GridUndoMatchesUptoCardSaid :=
  Claim7.holds_tied_plain_at .later [] _ _ _ _ over (fun _ h => by cases h) (by kernel_rfl) (fun _ h => by cases h) gridUndoMatchesUpto_row_tie rfl ⟨rfl, rfl⟩ (by kernel_rfl) rfl plain (by kernel_rfl)
#print axioms proved
end Go.Proofs.YtojmbndlghbpjaaGreatDoor.Al.RGridUndo
