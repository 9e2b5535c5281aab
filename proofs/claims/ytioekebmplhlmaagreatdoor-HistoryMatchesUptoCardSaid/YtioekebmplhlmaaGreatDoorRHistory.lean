/-
  PROVED: 'HistoryMatches' returns true whatever its arguments of bulk at most 1048576 are, and leaves them as they were (statement 'HistoryMatchesUptoCardSaid'). Conditions: none but the bulk.
-/
import Derived.Test.YtioekebmplhlmaaGreatDoorWlk372x2
import Derived.Deep.DeepHandedRow
import Derived.JoinedCond
import Derived.Lib.LaidTab
import Derived.OpenShut
import Derived.ProofKit
import Derived.Test.YtioekebmplhlmaaGreatDoorCards
import Derived.Test.YtioekebmplhlmaaGreatDoorChecked
import Derived.Test.YtioekebmplhlmaaGreatDoorRows
import Derived.Test.YtioekebmplhlmaaGreatDoorTie
import Derived.WalkKit
set_option linter.all false
namespace Go.Proofs.YtioekebmplhlmaaGreatDoor.Al.RHistory
open Go.Proofs Go.Proofs.YtioekebmplhlmaaGreatDoor.Al Go.Proofs.YtioekebmplhlmaaGreatDoor
open Go.ChangeShapes Go.WideShapes Go.ChangeAt Go.RowKit
set_option linter.unusedVariables false

theorem own : ownKnob Tryz.prog.godebug = none := by kernel_rfl

theorem blk_all {H : Type} (l : List (DataW H)) : (l.map Rows.uptoBulk).sum = Rows.uptoBulkAll l := by
  induction l with
  | nil => simp [Rows.uptoBulkAll]
  | cons d l ih => rw [List.map_cons, List.sum_cons, ih, Rows.uptoBulkAll]
def blk (H : Type) : Ej H where
  B := Rows.uptoBulk
  one := fun d => by
    cases d with
    | lit l => cases l <;> simp [Rows.uptoBulk]
    | nil => simp [Rows.uptoBulk]
    | ptr d => simp [Rows.uptoBulk]
    | slice elems spare => simp [Rows.uptoBulk]
    | agg parts => simp [Rows.uptoBulk]
    | iface t d => simp [Rows.uptoBulk]
    | map entries => simp [Rows.uptoBulk]
    | held h => simp [Rows.uptoBulk]
  str := fun s => by simp [Rows.uptoBulk]
  sl := fun l r => by rw [blk_all, Rows.uptoBulk]; omega
  agg := fun l => by rw [blk_all, Rows.uptoBulk]; omega
def ok_111 (x : Ab) : Prop := x.Name.length ≤ maxLen ∧ x.Value.length ≤ maxLen
def mu_111 (x : Ab) : Nat := (x.Name.length + 1) + (x.Value.length + 1) + 1
theorem rd_111 {H : Type} {enc : TypeId × Value → H} {W : World} (K : Ej H) : Ax K enc Tryz.prog W 111 Ab.row ok_111 mu_111 := by
  intro fuel cs x h
  obtain ⟨hlen, xs, hx, hxl, hf⟩ := Fg (n := 2) Tryz.underlying111 (by kernel_rfl) h
  obtain ⟨y0, n0, g0, t0⟩ := hf 0 _ rfl
  obtain ⟨y1, n1, g1, t1⟩ := hf 1 _ rfl
  obtain rfl : xs = [y0, y1] := Fs hxl (fun j y hj => by
    rcases j with _ | _ | j
    · cases hj; exact g0
    · cases hj; exact g1
    · cases hj)
  obtain ⟨a0, k0, r0, m0⟩ := ((Ax.str K Tryz.underlying9)) _ _ _ t0
  obtain ⟨a1, k1, r1, m1⟩ := ((Ax.str K Tryz.underlying9)) _ _ _ t1
  have m0 : a0.length + 1 ≤ K.B y0.1 := m0
  have m1 : a1.length + 1 ≤ K.B y1.1 := m1
  have hm := K.agg (List.map (fun z : DataW H × List MemPlace => z.1) [y0, y1])
  simp only [List.map_cons, List.map_nil, List.sum_cons, List.sum_nil] at hm
  refine ⟨⟨a0, a1⟩, ⟨k0, k1⟩, ⟨hlen, fun j d u h1 h2 => ?_⟩, ?_⟩
  · rcases j with _ | _ | j
    · exact r0.part (jj := 0) (by kernel_rfl) h1 h2
    · exact r1.part (jj := 0) (by kernel_rfl) h1 h2
    · cases h1
  · rw [hx]
    refine Nat.le_trans ?_ hm
    show (a0.length + 1) + (a1.length + 1) + 1 ≤ _
    omega

def ok_81 (x : AO) : Prop := (Lit.int .i64 x.Char).wf = true ∧ (Lit.int .i64 x.Ref).wf = true ∧ (x.Attrs.length ≤ maxLen ∧ ∀ a ∈ x.Attrs, ok_111 a)
def mu_81 (x : AO) : Nat := (1) + (1) + ((x.Attrs.map mu_111).sum + 1) + 1
theorem rd_81 {H : Type} {enc : TypeId × Value → H} {W : World} (K : Ej H) : Ax K enc Tryz.prog W 81 AO.row ok_81 mu_81 := by
  intro fuel cs x h
  obtain ⟨hlen, xs, hx, hxl, hf⟩ := Fg (n := 3) Tryz.underlying81 (by kernel_rfl) h
  obtain ⟨y0, n0, g0, t0⟩ := hf 0 _ rfl
  obtain ⟨y1, n1, g1, t1⟩ := hf 1 _ rfl
  obtain ⟨y2, n2, g2, t2⟩ := hf 2 _ rfl
  obtain rfl : xs = [y0, y1, y2] := Fs hxl (fun j y hj => by
    rcases j with _ | _ | _ | j
    · cases hj; exact g0
    · cases hj; exact g1
    · cases hj; exact g2
    · cases hj)
  obtain ⟨a0, k0, r0, m0⟩ := ((Ax.int K Tryz.underlying3)) _ _ _ t0
  obtain ⟨a1, k1, r1, m1⟩ := ((Ax.int K Tryz.underlying3)) _ _ _ t1
  obtain ⟨a2, k2, r2, m2⟩ := ((Ax.slice K (sz := 2) Tryz.underlying63 (by kernel_rfl) (by decide) (rd_111 K) (fun _ => rfl))) _ _ _ t2
  have m0 : 1 ≤ K.B y0.1 := m0
  have m1 : 1 ≤ K.B y1.1 := m1
  have m2 : (a2.map mu_111).sum + 1 ≤ K.B y2.1 := m2
  have hm := K.agg (List.map (fun z : DataW H × List MemPlace => z.1) [y0, y1, y2])
  simp only [List.map_cons, List.map_nil, List.sum_cons, List.sum_nil] at hm
  refine ⟨⟨a0, a1, a2⟩, ⟨k0, k1, k2⟩, ⟨hlen, fun j d u h1 h2 => ?_⟩, ?_⟩
  · rcases j with _ | _ | _ | j
    · exact r0.part (jj := 0) (by kernel_rfl) h1 h2
    · exact r1.part (jj := 0) (by kernel_rfl) h1 h2
    · exact r2.part (jj := 0) (by kernel_rfl) h1 h2
    · cases h1
  · rw [hx]
    refine Nat.le_trans ?_ hm
    show (1) + (1) + ((a2.map mu_111).sum + 1) + 1 ≤ _
    omega

def ok_95 (x : Ae) : Prop := (Lit.int .i64 x.Row).wf = true ∧ (Lit.int .i64 x.Col).wf = true ∧ x.Text.length ≤ maxLen ∧ (Lit.int .i64 x.Ref).wf = true ∧ (x.Attrs.length ≤ maxLen ∧ ∀ a ∈ x.Attrs, ok_111 a)
def mu_95 (x : Ae) : Nat := (1) + (1) + (x.Text.length + 1) + (1) + ((x.Attrs.map mu_111).sum + 1) + 1
theorem rd_95 {H : Type} {enc : TypeId × Value → H} {W : World} (K : Ej H) : Ax K enc Tryz.prog W 95 Ae.row ok_95 mu_95 := by
  intro fuel cs x h
  obtain ⟨hlen, xs, hx, hxl, hf⟩ := Fg (n := 5) Tryz.underlying95 (by kernel_rfl) h
  obtain ⟨y0, n0, g0, t0⟩ := hf 0 _ rfl
  obtain ⟨y1, n1, g1, t1⟩ := hf 1 _ rfl
  obtain ⟨y2, n2, g2, t2⟩ := hf 2 _ rfl
  obtain ⟨y3, n3, g3, t3⟩ := hf 3 _ rfl
  obtain ⟨y4, n4, g4, t4⟩ := hf 4 _ rfl
  obtain rfl : xs = [y0, y1, y2, y3, y4] := Fs hxl (fun j y hj => by
    rcases j with _ | _ | _ | _ | _ | j
    · cases hj; exact g0
    · cases hj; exact g1
    · cases hj; exact g2
    · cases hj; exact g3
    · cases hj; exact g4
    · cases hj)
  obtain ⟨a0, k0, r0, m0⟩ := ((Ax.int K Tryz.underlying3)) _ _ _ t0
  obtain ⟨a1, k1, r1, m1⟩ := ((Ax.int K Tryz.underlying3)) _ _ _ t1
  obtain ⟨a2, k2, r2, m2⟩ := ((Ax.str K Tryz.underlying9)) _ _ _ t2
  obtain ⟨a3, k3, r3, m3⟩ := ((Ax.int K Tryz.underlying3)) _ _ _ t3
  obtain ⟨a4, k4, r4, m4⟩ := ((Ax.slice K (sz := 2) Tryz.underlying63 (by kernel_rfl) (by decide) (rd_111 K) (fun _ => rfl))) _ _ _ t4
  have m0 : 1 ≤ K.B y0.1 := m0
  have m1 : 1 ≤ K.B y1.1 := m1
  have m2 : a2.length + 1 ≤ K.B y2.1 := m2
  have m3 : 1 ≤ K.B y3.1 := m3
  have m4 : (a4.map mu_111).sum + 1 ≤ K.B y4.1 := m4
  have hm := K.agg (List.map (fun z : DataW H × List MemPlace => z.1) [y0, y1, y2, y3, y4])
  simp only [List.map_cons, List.map_nil, List.sum_cons, List.sum_nil] at hm
  refine ⟨⟨a0, a1, a2, a3, a4⟩, ⟨k0, k1, k2, k3, k4⟩, ⟨hlen, fun j d u h1 h2 => ?_⟩, ?_⟩
  · rcases j with _ | _ | _ | _ | _ | j
    · exact r0.part (jj := 0) (by kernel_rfl) h1 h2
    · exact r1.part (jj := 0) (by kernel_rfl) h1 h2
    · exact r2.part (jj := 0) (by kernel_rfl) h1 h2
    · exact r3.part (jj := 0) (by kernel_rfl) h1 h2
    · exact r4.part (jj := 0) (by kernel_rfl) h1 h2
    · cases h1
  · rw [hx]
    refine Nat.le_trans ?_ hm
    show (1) + (1) + (a2.length + 1) + (1) + ((a4.map mu_111).sum + 1) + 1 ≤ _
    omega

def ok_116 (x : Ag) : Prop := (Lit.int .i64 x.Row).wf = true ∧ (Lit.int .i64 x.Col).wf = true ∧ (Lit.int .i64 x.H).wf = true ∧ (Lit.int .i64 x.W).wf = true
def mu_116 (x : Ag) : Nat := (1) + (1) + (1) + (1) + 1
theorem rd_116 {H : Type} {enc : TypeId × Value → H} {W : World} (K : Ej H) : Ax K enc Tryz.prog W 116 Ag.row ok_116 mu_116 := by
  intro fuel cs x h
  obtain ⟨hlen, xs, hx, hxl, hf⟩ := Fg (n := 4) Tryz.underlying116 (by kernel_rfl) h
  obtain ⟨y0, n0, g0, t0⟩ := hf 0 _ rfl
  obtain ⟨y1, n1, g1, t1⟩ := hf 1 _ rfl
  obtain ⟨y2, n2, g2, t2⟩ := hf 2 _ rfl
  obtain ⟨y3, n3, g3, t3⟩ := hf 3 _ rfl
  obtain rfl : xs = [y0, y1, y2, y3] := Fs hxl (fun j y hj => by
    rcases j with _ | _ | _ | _ | j
    · cases hj; exact g0
    · cases hj; exact g1
    · cases hj; exact g2
    · cases hj; exact g3
    · cases hj)
  obtain ⟨a0, k0, r0, m0⟩ := ((Ax.int K Tryz.underlying3)) _ _ _ t0
  obtain ⟨a1, k1, r1, m1⟩ := ((Ax.int K Tryz.underlying3)) _ _ _ t1
  obtain ⟨a2, k2, r2, m2⟩ := ((Ax.int K Tryz.underlying3)) _ _ _ t2
  obtain ⟨a3, k3, r3, m3⟩ := ((Ax.int K Tryz.underlying3)) _ _ _ t3
  have m0 : 1 ≤ K.B y0.1 := m0
  have m1 : 1 ≤ K.B y1.1 := m1
  have m2 : 1 ≤ K.B y2.1 := m2
  have m3 : 1 ≤ K.B y3.1 := m3
  have hm := K.agg (List.map (fun z : DataW H × List MemPlace => z.1) [y0, y1, y2, y3])
  simp only [List.map_cons, List.map_nil, List.sum_cons, List.sum_nil] at hm
  refine ⟨⟨a0, a1, a2, a3⟩, ⟨k0, k1, k2, k3⟩, ⟨hlen, fun j d u h1 h2 => ?_⟩, ?_⟩
  · rcases j with _ | _ | _ | _ | j
    · exact r0.part (jj := 0) (by kernel_rfl) h1 h2
    · exact r1.part (jj := 0) (by kernel_rfl) h1 h2
    · exact r2.part (jj := 0) (by kernel_rfl) h1 h2
    · exact r3.part (jj := 0) (by kernel_rfl) h1 h2
    · cases h1
  · rw [hx]
    refine Nat.le_trans ?_ hm
    show (1) + (1) + (1) + (1) + 1 ≤ _
    omega

def ok_68 (x : Au) : Prop := (Lit.int .i64 x.Rows).wf = true ∧ (Lit.int .i64 x.Cols).wf = true ∧ (x.Cells.length ≤ maxLen ∧ ∀ a ∈ x.Cells, ok_95 a) ∧ (x.Merges.length ≤ maxLen ∧ ∀ a ∈ x.Merges, ok_116 a)
def mu_68 (x : Au) : Nat := (1) + (1) + ((x.Cells.map mu_95).sum + 1) + ((x.Merges.map mu_116).sum + 1) + 1
theorem rd_68 {H : Type} {enc : TypeId × Value → H} {W : World} (K : Ej H) : Ax K enc Tryz.prog W 68 Au.row ok_68 mu_68 := by
  intro fuel cs x h
  obtain ⟨hlen, xs, hx, hxl, hf⟩ := Fg (n := 4) Tryz.underlying68 (by kernel_rfl) h
  obtain ⟨y0, n0, g0, t0⟩ := hf 0 _ rfl
  obtain ⟨y1, n1, g1, t1⟩ := hf 1 _ rfl
  obtain ⟨y2, n2, g2, t2⟩ := hf 2 _ rfl
  obtain ⟨y3, n3, g3, t3⟩ := hf 3 _ rfl
  obtain rfl : xs = [y0, y1, y2, y3] := Fs hxl (fun j y hj => by
    rcases j with _ | _ | _ | _ | j
    · cases hj; exact g0
    · cases hj; exact g1
    · cases hj; exact g2
    · cases hj; exact g3
    · cases hj)
  obtain ⟨a0, k0, r0, m0⟩ := ((Ax.int K Tryz.underlying3)) _ _ _ t0
  obtain ⟨a1, k1, r1, m1⟩ := ((Ax.int K Tryz.underlying3)) _ _ _ t1
  obtain ⟨a2, k2, r2, m2⟩ := ((Ax.slice K (sz := 5) Tryz.underlying65 (by kernel_rfl) (by decide) (rd_95 K) (fun _ => rfl))) _ _ _ t2
  obtain ⟨a3, k3, r3, m3⟩ := ((Ax.slice K (sz := 4) Tryz.underlying66 (by kernel_rfl) (by decide) (rd_116 K) (fun _ => rfl))) _ _ _ t3
  have m0 : 1 ≤ K.B y0.1 := m0
  have m1 : 1 ≤ K.B y1.1 := m1
  have m2 : (a2.map mu_95).sum + 1 ≤ K.B y2.1 := m2
  have m3 : (a3.map mu_116).sum + 1 ≤ K.B y3.1 := m3
  have hm := K.agg (List.map (fun z : DataW H × List MemPlace => z.1) [y0, y1, y2, y3])
  simp only [List.map_cons, List.map_nil, List.sum_cons, List.sum_nil] at hm
  refine ⟨⟨a0, a1, a2, a3⟩, ⟨k0, k1, k2, k3⟩, ⟨hlen, fun j d u h1 h2 => ?_⟩, ?_⟩
  · rcases j with _ | _ | _ | _ | j
    · exact r0.part (jj := 0) (by kernel_rfl) h1 h2
    · exact r1.part (jj := 0) (by kernel_rfl) h1 h2
    · exact r2.part (jj := 0) (by kernel_rfl) h1 h2
    · exact r3.part (jj := 0) (by kernel_rfl) h1 h2
    · cases h1
  · rw [hx]
    refine Nat.le_trans ?_ hm
    show (1) + (1) + ((a2.map mu_95).sum + 1) + ((a3.map mu_116).sum + 1) + 1 ≤ _
    omega

def ok_107 (x : Aq) : Prop := (Lit.int .i64 x.Clock).wf = true ∧ (Lit.int .i64 x.Site).wf = true ∧ (Lit.int .i64 x.Kind).wf = true ∧ (Lit.int .i64 x.Item).wf = true ∧ (Lit.int .i64 x.Parent).wf = true ∧ x.Place.length ≤ maxLen ∧ x.Name.length ≤ maxLen ∧ x.Value.length ≤ maxLen
def mu_107 (x : Aq) : Nat := (1) + (1) + (1) + (1) + (1) + (x.Place.length + 1) + (x.Name.length + 1) + (x.Value.length + 1) + 1
theorem rd_107 {H : Type} {enc : TypeId × Value → H} {W : World} (K : Ej H) : Ax K enc Tryz.prog W 107 Aq.row ok_107 mu_107 := by
  intro fuel cs x h
  obtain ⟨hlen, xs, hx, hxl, hf⟩ := Fg (n := 8) Tryz.underlying107 (by kernel_rfl) h
  obtain ⟨y0, n0, g0, t0⟩ := hf 0 _ rfl
  obtain ⟨y1, n1, g1, t1⟩ := hf 1 _ rfl
  obtain ⟨y2, n2, g2, t2⟩ := hf 2 _ rfl
  obtain ⟨y3, n3, g3, t3⟩ := hf 3 _ rfl
  obtain ⟨y4, n4, g4, t4⟩ := hf 4 _ rfl
  obtain ⟨y5, n5, g5, t5⟩ := hf 5 _ rfl
  obtain ⟨y6, n6, g6, t6⟩ := hf 6 _ rfl
  obtain ⟨y7, n7, g7, t7⟩ := hf 7 _ rfl
  obtain rfl : xs = [y0, y1, y2, y3, y4, y5, y6, y7] := Fs hxl (fun j y hj => by
    rcases j with _ | _ | _ | _ | _ | _ | _ | _ | j
    · cases hj; exact g0
    · cases hj; exact g1
    · cases hj; exact g2
    · cases hj; exact g3
    · cases hj; exact g4
    · cases hj; exact g5
    · cases hj; exact g6
    · cases hj; exact g7
    · cases hj)
  obtain ⟨a0, k0, r0, m0⟩ := ((Ax.int K Tryz.underlying3)) _ _ _ t0
  obtain ⟨a1, k1, r1, m1⟩ := ((Ax.int K Tryz.underlying3)) _ _ _ t1
  obtain ⟨a2, k2, r2, m2⟩ := ((Ax.int K Tryz.underlying3)) _ _ _ t2
  obtain ⟨a3, k3, r3, m3⟩ := ((Ax.int K Tryz.underlying3)) _ _ _ t3
  obtain ⟨a4, k4, r4, m4⟩ := ((Ax.int K Tryz.underlying3)) _ _ _ t4
  obtain ⟨a5, k5, r5, m5⟩ := ((Ax.str K Tryz.underlying9)) _ _ _ t5
  obtain ⟨a6, k6, r6, m6⟩ := ((Ax.str K Tryz.underlying9)) _ _ _ t6
  obtain ⟨a7, k7, r7, m7⟩ := ((Ax.str K Tryz.underlying9)) _ _ _ t7
  have m0 : 1 ≤ K.B y0.1 := m0
  have m1 : 1 ≤ K.B y1.1 := m1
  have m2 : 1 ≤ K.B y2.1 := m2
  have m3 : 1 ≤ K.B y3.1 := m3
  have m4 : 1 ≤ K.B y4.1 := m4
  have m5 : a5.length + 1 ≤ K.B y5.1 := m5
  have m6 : a6.length + 1 ≤ K.B y6.1 := m6
  have m7 : a7.length + 1 ≤ K.B y7.1 := m7
  have hm := K.agg (List.map (fun z : DataW H × List MemPlace => z.1) [y0, y1, y2, y3, y4, y5, y6, y7])
  simp only [List.map_cons, List.map_nil, List.sum_cons, List.sum_nil] at hm
  refine ⟨⟨a0, a1, a2, a3, a4, a5, a6, a7⟩, ⟨k0, k1, k2, k3, k4, k5, k6, k7⟩, ⟨hlen, fun j d u h1 h2 => ?_⟩, ?_⟩
  · rcases j with _ | _ | _ | _ | _ | _ | _ | _ | j
    · exact r0.part (jj := 0) (by kernel_rfl) h1 h2
    · exact r1.part (jj := 0) (by kernel_rfl) h1 h2
    · exact r2.part (jj := 0) (by kernel_rfl) h1 h2
    · exact r3.part (jj := 0) (by kernel_rfl) h1 h2
    · exact r4.part (jj := 0) (by kernel_rfl) h1 h2
    · exact r5.part (jj := 0) (by kernel_rfl) h1 h2
    · exact r6.part (jj := 0) (by kernel_rfl) h1 h2
    · exact r7.part (jj := 0) (by kernel_rfl) h1 h2
    · cases h1
  · rw [hx]
    refine Nat.le_trans ?_ hm
    show (1) + (1) + (1) + (1) + (1) + (a5.length + 1) + (a6.length + 1) + (a7.length + 1) + 1 ≤ _
    omega

def ok_71 (x : AE) : Prop := (Lit.int .i64 x.ID).wf = true ∧ (Lit.int .i64 x.Kind).wf = true ∧ (x.Attrs.length ≤ maxLen ∧ ∀ a ∈ x.Attrs, ok_111 a) ∧ (x.Flow.length ≤ maxLen ∧ ∀ a ∈ x.Flow, ok_81 a) ∧ ok_68 x.Grid ∧ (x.Draw.length ≤ maxLen ∧ ∀ a ∈ x.Draw, ok_107 a)
def mu_71 (x : AE) : Nat := (1) + (1) + ((x.Attrs.map mu_111).sum + 1) + ((x.Flow.map mu_81).sum + 1) + (mu_68 x.Grid) + ((x.Draw.map mu_107).sum + 1) + 1
theorem rd_71 {H : Type} {enc : TypeId × Value → H} {W : World} (K : Ej H) : Ax K enc Tryz.prog W 71 AE.row ok_71 mu_71 := by
  intro fuel cs x h
  obtain ⟨hlen, xs, hx, hxl, hf⟩ := Fg (n := 9) Tryz.underlying71 (by kernel_rfl) h
  obtain ⟨y0, n0, g0, t0⟩ := hf 0 _ rfl
  obtain ⟨y1, n1, g1, t1⟩ := hf 1 _ rfl
  obtain ⟨y2, n2, g2, t2⟩ := hf 2 _ rfl
  obtain ⟨y3, n3, g3, t3⟩ := hf 3 _ rfl
  obtain ⟨y4, n4, g4, t4⟩ := hf 4 _ rfl
  obtain ⟨y5, n5, g5, t5⟩ := hf 5 _ rfl
  obtain rfl : xs = [y0, y1, y2, y3, y4, y5] := Fs hxl (fun j y hj => by
    rcases j with _ | _ | _ | _ | _ | _ | j
    · cases hj; exact g0
    · cases hj; exact g1
    · cases hj; exact g2
    · cases hj; exact g3
    · cases hj; exact g4
    · cases hj; exact g5
    · cases hj)
  obtain ⟨a0, k0, r0, m0⟩ := ((Ax.int K Tryz.underlying3)) _ _ _ t0
  obtain ⟨a1, k1, r1, m1⟩ := ((Ax.int K Tryz.underlying3)) _ _ _ t1
  obtain ⟨a2, k2, r2, m2⟩ := ((Ax.slice K (sz := 2) Tryz.underlying63 (by kernel_rfl) (by decide) (rd_111 K) (fun _ => rfl))) _ _ _ t2
  obtain ⟨a3, k3, r3, m3⟩ := ((Ax.slice K (sz := 3) Tryz.underlying64 (by kernel_rfl) (by decide) (rd_81 K) (fun _ => rfl))) _ _ _ t3
  obtain ⟨a4, k4, r4, m4⟩ := ((rd_68 K)) _ _ _ t4
  obtain ⟨a5, k5, r5, m5⟩ := ((Ax.slice K (sz := 8) Tryz.underlying69 (by kernel_rfl) (by decide) (rd_107 K) (fun _ => rfl))) _ _ _ t5
  have m0 : 1 ≤ K.B y0.1 := m0
  have m1 : 1 ≤ K.B y1.1 := m1
  have m2 : (a2.map mu_111).sum + 1 ≤ K.B y2.1 := m2
  have m3 : (a3.map mu_81).sum + 1 ≤ K.B y3.1 := m3
  have m4 : mu_68 a4 ≤ K.B y4.1 := m4
  have m5 : (a5.map mu_107).sum + 1 ≤ K.B y5.1 := m5
  have hm := K.agg (List.map (fun z : DataW H × List MemPlace => z.1) [y0, y1, y2, y3, y4, y5])
  simp only [List.map_cons, List.map_nil, List.sum_cons, List.sum_nil] at hm
  refine ⟨⟨a0, a1, a2, a3, a4, a5⟩, ⟨k0, k1, k2, k3, k4, k5⟩, ⟨hlen, fun j d u h1 h2 => ?_⟩, ?_⟩
  · rcases j with _ | _ | _ | _ | _ | _ | _ | _ | _ | j
    · exact r0.part (jj := 0) (by kernel_rfl) h1 h2
    · exact r1.part (jj := 0) (by kernel_rfl) h1 h2
    · exact r2.part (jj := 0) (by kernel_rfl) h1 h2
    · exact r3.part (jj := 0) (by kernel_rfl) h1 h2
    · exact r4.part (jj := 0) (by kernel_rfl) h1 h2
    · exact r4.part (jj := 1) (by kernel_rfl) h1 h2
    · exact r4.part (jj := 2) (by kernel_rfl) h1 h2
    · exact r4.part (jj := 3) (by kernel_rfl) h1 h2
    · exact r5.part (jj := 0) (by kernel_rfl) h1 h2
    · cases h1
  · rw [hx]
    refine Nat.le_trans ?_ hm
    show (1) + (1) + ((a2.map mu_111).sum + 1) + ((a3.map mu_81).sum + 1) + (mu_68 a4) + ((a5.map mu_107).sum + 1) + 1 ≤ _
    omega

def ok_34 (x : AP) : Prop := (x.Nodes.length ≤ maxLen ∧ ∀ a ∈ x.Nodes, ok_71 a)
def mu_34 (x : AP) : Nat := ((x.Nodes.map mu_71).sum + 1) + 1
theorem rd_34 {H : Type} {enc : TypeId × Value → H} {W : World} (K : Ej H) : Ax K enc Tryz.prog W 34 AP.row ok_34 mu_34 := by
  intro fuel cs x h
  obtain ⟨hlen, xs, hx, hxl, hf⟩ := Fg (n := 1) Tryz.underlying34 (by kernel_rfl) h
  obtain ⟨y0, n0, g0, t0⟩ := hf 0 _ rfl
  obtain rfl : xs = [y0] := Fs hxl (fun j y hj => by
    rcases j with _ | j
    · cases hj; exact g0
    · cases hj)
  obtain ⟨a0, k0, r0, m0⟩ := ((Ax.slice K (sz := 9) Tryz.underlying32 (by kernel_rfl) (by decide) (rd_71 K) (fun _ => rfl))) _ _ _ t0
  have m0 : (a0.map mu_71).sum + 1 ≤ K.B y0.1 := m0
  have hm := K.agg (List.map (fun z : DataW H × List MemPlace => z.1) [y0])
  simp only [List.map_cons, List.map_nil, List.sum_cons, List.sum_nil] at hm
  refine ⟨⟨a0⟩, k0, ⟨hlen, fun j d u h1 h2 => ?_⟩, ?_⟩
  · rcases j with _ | j
    · exact r0.part (jj := 0) (by kernel_rfl) h1 h2
    · cases h1
  · rw [hx]
    refine Nat.le_trans ?_ hm
    show ((a0.map mu_71).sum + 1) + 1 ≤ _
    omega

theorem tabs {W : World} (h : laidMetH Tryz.prog Rows.historyMatchesUptoRow.laid W) : EK (Eh W) := by
  have h' : laidMet Tryz.prog Rows.historyMatchesUptoRow.laid W := h
  refine Vd (d1 := Go.Pinned.utf8First) (d2 := Rows.laid_unicode_utf8_acceptRanges) (t1 := 139) (t2 := 142) (e1 := 5) (e2 := 141) (Go.Lib.laidMet.reads h' ?_) (by kernel_rfl) (by kernel_rfl) (by kernel_rfl) Tryz.underlying139 Tryz.underlying5 (by kernel_rfl) (by kernel_rfl)
    (Go.Lib.laidMet.reads h' ?_) (by kernel_rfl) (by kernel_rfl) (by kernel_rfl) Tryz.underlying142 Tryz.underlying141 (fun i f hf => ?_) rfl (by kernel_rfl)
  · exact .tail _ (.head _)
  · exact .head _
  · rcases i with _ | _ | i
    · cases hf; exact ⟨Tryz.underlying5, rfl, by kernel_rfl⟩
    · cases hf; exact ⟨Tryz.underlying5, rfl, by kernel_rfl⟩
    · cases hf

set_option maxRecDepth 100000 in
theorem contract (H : Type) (enc : TypeId × Value → H) (W : World) (base : Nat) (args : Array Value) (ds gs : List (DataW H)) (before : List MemPlace)
    (hval : ∀ (j : Nat) t v, Tryz.f3.params[j]? = some t → args[j]? = some v → Value.okWide Tryz.prog W .any base t v)
    (hW : DataW.Whole enc Tryz.prog Tryz.f3.params.toList Rows.historyMatchesSpec.vars false W args.toList ds gs before) (hk0 : Rows.uptoSmall H (ds ++ gs) = true) (hL : laidMetH Tryz.prog Rows.historyMatchesUptoRow.laid W) :
    Calls Tryz.prog 3 args W fun e W' => ∃ v, e = .returned v ∧ Rows.historyMatchesSpec.post enc Tryz.prog Tryz.f3 false true false false W args v W' := by
  have hW' := hW
  obtain ⟨p, q, hA0, hV, rfl, hfz, hnd⟩ := hW
  have hA : DataW.TrodAll enc Tryz.prog W 0 (fun _ => true) true Tryz.f3.params.toList args.toList ds p := hA0
  rw [Tryz.params3] at hA hval
  obtain ⟨v0, vs0, d0, ds0, p0, q0, hargs, rfl, rfl, h0, e0⟩ := trodAll_cons hA
  obtain ⟨v1, vs1, d1, ds1, p1, q1, rfl, rfl, rfl, h1, e1⟩ := trodAll_cons e0
  obtain ⟨v2, vs2, d2, ds2, p2, q2, rfl, rfl, rfl, h2, e2⟩ := trodAll_cons e1
  obtain ⟨v3, vs3, d3, ds3, p3, q3, rfl, rfl, rfl, h3, e3⟩ := trodAll_cons e2
  obtain ⟨v4, vs4, d4, ds4, p4, q4, rfl, rfl, rfl, h4, e4⟩ := trodAll_cons e3
  obtain ⟨rfl, rfl, rfl⟩ := trodAll_nil e4
  obtain rfl : args = #[v0, v1, v2, v3, v4] := by cases args; simp_all
  obtain ⟨rfl, rfl⟩ := trodVars_none hV
  have hk : (blk H).B d0 + (blk H).B d1 + (blk H).B d2 + (blk H).B d3 + (blk H).B d4 ≤ 1048576 := by
    have := of_decide_eq_true hk0
    simp only [List.append_nil, Rows.uptoBulkAll] at this
    show Rows.uptoBulk d0 + Rows.uptoBulk d1 + Rows.uptoBulk d2 + Rows.uptoBulk d3 + Rows.uptoBulk d4 ≤ 1048576
    omega
  obtain ⟨x0, k0, r0, m0⟩ := Nr (blk H) Tryz.underlying22 (Ax.slice (blk H) (sz := 1) Tryz.underlying22 (by kernel_rfl) (by decide) (rd_34 (blk H)) (fun _ => rfl)) (hval 0 22 v0 rfl rfl) h0
  obtain ⟨x1, k1, r1, m1⟩ := Nr (blk H) Tryz.underlying23 (Ax.slice (blk H) (sz := 1) Tryz.underlying23 (by kernel_rfl) (by decide) (Ax.str (blk H) Tryz.underlying9) (fun _ => rfl)) (hval 1 23 v1 rfl rfl) h1
  obtain ⟨x2, k2, r2, m2⟩ := Nr (blk H) Tryz.underlying24 (Ax.slice (blk H) (sz := 1) Tryz.underlying24 (by kernel_rfl) (by decide) (Ax.slice (blk H) (sz := 1) Tryz.underlying28 (by kernel_rfl) (by decide) (Ax.int (blk H) Tryz.underlying3) (fun _ => rfl)) (fun _ => rfl)) (hval 2 24 v2 rfl rfl) h2
  obtain ⟨x3, k3, r3, m3⟩ := Pt (blk H) Tryz.underlying3 (hval 3 3 v3 rfl rfl) h3
  obtain ⟨x4, k4, r4, m4⟩ := Pt (blk H) Tryz.underlying3 (hval 4 3 v4 rfl rfl) h4
  clear hA0
  have hx0 : (x0.map mu_34).sum + 1 ≤ (blk H).B d0 := m0
  have h0 : ∀ d ∈ x0, D9 d := fun d hd => Sy (μ := mu_71) (γ := mu_68) (ψ := mu_95) (ρ := mu_116) (δ := mu_107) (ν := mu_81) (κ := mu_111) (fun n => by unfold mu_71; omega) (fun g => by unfold mu_68; omega) (fun c => by unfold mu_95; omega) (fun r => by unfold mu_116; omega) (fun o => by unfold mu_107; omega) (fun e => by unfold mu_81; omega) (fun a => by unfold mu_111; omega) (d := d) (by have := Eu (μ := mu_34) hd; unfold mu_34 at this hx0; omega)
  have hx1 : (x1.map fun s : List UInt8 => s.length + 1).sum + 1 ≤ (blk H).B d1 := m1
  have h1 : ∀ s ∈ x1, s.length ≤ 1048576 := fun s hs => by have := Eu (μ := fun s : List UInt8 => s.length + 1) hs; omega
  have hx2 : (x2.map fun p : List Int => (p.map fun _ : Int => 1).sum + 1).sum + 1 ≤ (blk H).B d2 := m2
  have e2 : ∀ p : List Int, (p.map fun _ : Int => (1 : Nat)).sum = p.length := fun p => by
    induction p with
    | nil => rfl
    | cons a l ih => rw [List.map_cons, List.sum_cons, ih, List.length_cons]; omega
  have h2 : ∀ p ∈ x2, p.length ≤ 1048576 := fun p hs => by have := Eu (μ := fun p : List Int => (p.map fun _ : Int => 1).sum + 1) hs; have e := e2 p; omega
  have hp := Re x0 x1 x2 x3 x4 h0 h1 h2
  obtain ⟨_, _, hc⟩ := Xg hp
  refine (hc (Eh W) #[v0, v1, v2, v3, v4] (YV W (tabs hL)) rfl ⟨rfl, fun i a u k1 k2 => ?_⟩).mono fun e W' ⟨u, y, he, hy, hle, hok, hr⟩ => ?_
  · rcases i with _ | _ | _ | _ | _ | i
    · cases k1; cases k2; exact .r r0
    · cases k1; cases k2; exact .r r1
    · cases k1; cases k2; exact .r r2
    · cases k1; cases k2; exact .r r3
    · cases k1; cases k2; exact .r r4
    · cases k1
  · subst he; subst hy
    obtain rfl := EJ hr
    exact ⟨_, rfl, U3 (by kernel_rfl) (by rw [Tryz.params3]; intro t ht; simp at ht; rcases ht with rfl | rfl | rfl | rfl <;> exact ⟨by kernel_rfl, of_decide_eq_true (by kernel_rfl)⟩) rfl hW' hle rfl rfl
      (fun _ _ _ => trodAll_cons_mk (shut_bool Tryz.underlying4 _) trodAll_mk0)⟩

/-- A world for the witness: the settled one, the two tables laid. -/
def lay (cs : List Value) : Obj → Obj
  | .cells _ t frozen => .cells cs.toArray t frozen
  | o => o
noncomputable def laidWorld (os : Os) : World :=
  { World.holding Tryz.prog os ⟨#[], #[], []⟩ with heap := ((World.holding Tryz.prog os ⟨#[], #[], []⟩).heap.modify FM (lay (D7.map fun z => Value.int .u8 z))).modify Fb (lay (GB.flatMap fun p => [Value.int .u8 p.1, Value.int .u8 p.2])) }
theorem laid_met (os : Os) : laidMet Tryz.prog Rows.historyMatchesUptoRow.laid ((laidWorld os).forCall (fun _ _ => 0) ⟨#[], #[.slice none 0 0, .slice none 0 0, .slice none 0 0, .int .i64 0, .int .i64 0], []⟩).memory :=
  laidMet_of_run' 8 (by kernel_rfl) (by kernel_rfl)
theorem reads (os : Os) {H : Type} (enc : TypeId × Value → H) : ∃ places, DataW.whole enc Tryz.prog ((laidWorld os).forCall (fun _ _ => 0) ⟨#[], #[.slice none 0 0, .slice none 0 0, .slice none 0 0, .int .i64 0, .int .i64 0], []⟩).memory Tryz.f3.params.toList Rows.historyMatchesSpec.vars false (#[.slice none 0 0, .slice none 0 0, .slice none 0 0, .int .i64 0, .int .i64 0] : Array Value).toList 8 = some ([.nil, .nil, .nil, .lit (.int .i64 0), .lit (.int .i64 0)], [], places) :=
  ⟨[], by kernel_rfl⟩

set_option maxRecDepth 100000 in
theorem lifted (os : Os) (started : os.Started) (H : Type) (enc : TypeId × Value → H) (F : Stop.Interp) :
    ReturnsInHanded {} Tryz.checked os 3 .any ((Rows.OpenSpec.upto Rows.historyMatchesSpec).preRow enc Tryz.prog Tryz.f3 Rows.historyMatchesUptoRow.domain false Rows.historyMatchesUptoRow.laid) (((Rows.OpenSpec.upto Rows.historyMatchesSpec).at F).post enc Tryz.prog Tryz.f3 false true false false) := by
  obtain ⟨places, hx⟩ := reads os enc
  refine returnsInHanded_of_row (C := Tryz.checked) (s := Rows.OpenSpec.upto Rows.historyMatchesSpec) own started (by kernel_rfl) Tryz.func3
    (witness_row_at (enc := enc) (C := Tryz.checked) false (laidWorld os) #[.slice none 0 0, .slice none 0 0, .slice none 0 0, .int .i64 0, .int .i64 0] rfl (by kernel_rfl) (by kernel_rfl) (by kernel_rfl)
      (OpenSpec.preRow_of_cond 8 hx (by kernel_rfl) (fun k hk => by cases hk; kernel_rfl) (by kernel_rfl) (laid_met os))) ?_
  intro W base args ds gs before hval hW _ hk _ hL _ _
  exact contract H enc W base args ds gs before hval hW (hk _ rfl) hL

theorem over : Rows.HistoryMatchesUptoSaid :=
  OpenClaim.holds_of_cond 3 Tryz.f3 rfl rfl rfl rfl rfl rfl rfl ⟨rfl, rfl, rfl, rfl, rfl⟩ rfl rfl rfl rfl rfl (by kernel_rfl) Tryz.func3 (by kernel_rfl)
    (of_decide_eq_true (by kernel_rfl)) (by unfold Func.isWrapper; first | (rw [if_pos (by decide +kernel)]; kernel_rfl) | (rw [if_neg (by decide +kernel)]; exact ⟨rfl, rfl⟩))
    (fun os started H enc _ F => by rw [OpenClaim.pre_eq_preRow]; exact lifted os started H enc F)

theorem plain (f : FuncId) (fn : Func) (hf : Tryz.pinned.checked.prog.funcNamed "chancery/chancerylaw1.HistoryMatches" = some f) (hfn : Tryz.pinned.checked.prog.funcs[f]? = some fn) :
    false = Tryz.pinned.checked.prog.looks [] ∧ ∀ (j : Nat) t, fn.params[j]? = some t → Tryz.pinned.checked.prog.wantsStandIn t = false := by
  obtain rfl : f = 3 := Option.some.inj ((show Tryz.prog.funcNamed "chancery/chancerylaw1.HistoryMatches" = some 3 by kernel_rfl).symm.trans hf) |>.symm
  obtain rfl : fn = Tryz.f3 := (Option.some.inj (Tryz.func3.symm.trans hfn)).symm
  refine ⟨by kernel_rfl, fun j t ht => ?_⟩
  rw [Tryz.params3] at ht
  rcases j with _ | _ | _ | _ | _ | j
  · cases ht; exact (show Tryz.prog.wantsStandIn 22 = false by kernel_rfl)
  · cases ht; exact (show Tryz.prog.wantsStandIn 23 = false by kernel_rfl)
  · cases ht; exact (show Tryz.prog.wantsStandIn 24 = false by kernel_rfl)
  · cases ht; exact (show Tryz.prog.wantsStandIn 3 = false by kernel_rfl)
  · cases ht; exact (show Tryz.prog.wantsStandIn 3 = false by kernel_rfl)
  · cases ht

theorem proved : Rows.HistoryMatchesUptoCardSaid :=
  Claim7.holds_tied_plain_at .later [] _ _ _ _ over (fun _ h => by cases h) (by kernel_rfl) (fun _ h => by cases h) historyMatchesUpto_row_tie rfl ⟨rfl, rfl⟩ (by kernel_rfl) rfl plain (by kernel_rfl)
#print axioms proved
end Go.Proofs.YtioekebmplhlmaaGreatDoor.Al.RHistory
