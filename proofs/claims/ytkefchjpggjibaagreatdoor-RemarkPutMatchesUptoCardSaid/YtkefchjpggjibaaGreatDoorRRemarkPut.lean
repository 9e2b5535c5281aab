/-
  PROVED: 'RemarkPutMatches' returns true whatever its arguments of bulk at most 1048576 are, and leaves them as they were (statement 'RemarkPutMatchesUptoCardSaid'). Conditions: none but the bulk.
-/
import Derived.Test.YtkefchjpggjibaaGreatDoorWlk121x2
import Derived.Deep.DeepHandedRow
import Derived.JoinedCond
import Derived.Lib.LaidTab
import Derived.OpenShut
import Derived.ProofKit
import Derived.Test.YtkefchjpggjibaaGreatDoorCards
import Derived.Test.YtkefchjpggjibaaGreatDoorChecked
import Derived.Test.YtkefchjpggjibaaGreatDoorRows
import Derived.Test.YtkefchjpggjibaaGreatDoorTie
import Derived.WalkKit
namespace Go.Proofs.YtkefchjpggjibaaGreatDoor.Al.RRemarkPut
open Go.Proofs Go.Proofs.YtkefchjpggjibaaGreatDoor.Al Go.Proofs.YtkefchjpggjibaaGreatDoor
open Go.ChangeShapes Go.WideShapes Go.ChangeAt Go.RowKit
set_option linter.unusedVariables false

theorem own : ownKnob Tryz.prog.godebug = none := by kernel_rfl

theorem blk_all {H : Type} (l : List (DataW H)) : (l.map Rows.uptoBulk).sum = Rows.uptoBulkAll l := by
  induction l with
  | nil => simp [Rows.uptoBulkAll]
  | cons d l ih => rw [List.map_cons, List.sum_cons, ih, Rows.uptoBulkAll]
def blk (H : Type) : Blk H where
  B := Rows.uptoBulk
  one := fun d => by
    cases d with
    | lit l => cases l <;> simp [Rows.uptoBulk]
    | nil => simp [Rows.uptoBulk]
    | ptr d => simp [Rows.uptoBulk]
    | slice elems spare => simp [Rows.uptoBulk]
    | agg parts => simp [Rows.uptoBulk]
    | iface t d => simp [Rows.uptoBulk]
    | map entries => simp [Rows.uptoBulk]
    | held h => simp [Rows.uptoBulk]
  str := fun s => by simp [Rows.uptoBulk]
  sl := fun l r => by rw [blk_all, Rows.uptoBulk]; omega
  agg := fun l => by rw [blk_all, Rows.uptoBulk]; omega
def ok_36 (x : YAD) : Prop := x.Name.length ≤ maxLen ∧ x.Value.length ≤ maxLen
def mu_36 (x : YAD) : Nat := (x.Name.length + 1) + (x.Value.length + 1) + 1
theorem rd_36 {H : Type} {enc : TypeId × Value → H} {W : World} (K : Blk H) : Rdm K enc Tryz.prog W 36 YAD.row ok_36 mu_36 := by
  intro fuel cs x h
  obtain ⟨hlen, xs, hx, hxl, hf⟩ := YBy (n := 2) Tryz.underlying36 (by kernel_rfl) h
  obtain ⟨y0, n0, g0, t0⟩ := hf 0 _ rfl
  obtain ⟨y1, n1, g1, t1⟩ := hf 1 _ rfl
  obtain rfl : xs = [y0, y1] := YB1 hxl (fun j y hj => by
    rcases j with _ | _ | j
    · cases hj; exact g0
    · cases hj; exact g1
    · cases hj)
  obtain ⟨a0, k0, r0, m0⟩ := ((Rdm.str K Tryz.underlying9)) _ _ _ t0
  obtain ⟨a1, k1, r1, m1⟩ := ((Rdm.str K Tryz.underlying9)) _ _ _ t1
  have m0 : a0.length + 1 ≤ K.B y0.1 := m0
  have m1 : a1.length + 1 ≤ K.B y1.1 := m1
  have hm := K.agg (List.map (fun z : DataW H × List MemPlace => z.1) [y0, y1])
  simp only [List.map_cons, List.map_nil, List.sum_cons, List.sum_nil] at hm
  refine ⟨⟨a0, a1⟩, ⟨k0, k1⟩, ⟨hlen, fun j d u h1 h2 => ?_⟩, ?_⟩
  · rcases j with _ | _ | j
    · exact r0.part (jj := 0) (by kernel_rfl) h1 h2
    · exact r1.part (jj := 0) (by kernel_rfl) h1 h2
    · cases h1
  · rw [hx]
    refine Nat.le_trans ?_ hm
    show (a0.length + 1) + (a1.length + 1) + 1 ≤ _
    omega

def ok_78 (x : YAB) : Prop := (Lit.int .i64 x.Char).wf = true ∧ (Lit.int .i64 x.Ref).wf = true ∧ (x.Attrs.length ≤ maxLen ∧ ∀ a ∈ x.Attrs, ok_36 a)
def mu_78 (x : YAB) : Nat := (1) + (1) + ((x.Attrs.map mu_36).sum + 1) + 1
theorem rd_78 {H : Type} {enc : TypeId × Value → H} {W : World} (K : Blk H) : Rdm K enc Tryz.prog W 78 YAB.row ok_78 mu_78 := by
  intro fuel cs x h
  obtain ⟨hlen, xs, hx, hxl, hf⟩ := YBy (n := 3) Tryz.underlying78 (by kernel_rfl) h
  obtain ⟨y0, n0, g0, t0⟩ := hf 0 _ rfl
  obtain ⟨y1, n1, g1, t1⟩ := hf 1 _ rfl
  obtain ⟨y2, n2, g2, t2⟩ := hf 2 _ rfl
  obtain rfl : xs = [y0, y1, y2] := YB1 hxl (fun j y hj => by
    rcases j with _ | _ | _ | j
    · cases hj; exact g0
    · cases hj; exact g1
    · cases hj; exact g2
    · cases hj)
  obtain ⟨a0, k0, r0, m0⟩ := ((Rdm.int K Tryz.underlying3)) _ _ _ t0
  obtain ⟨a1, k1, r1, m1⟩ := ((Rdm.int K Tryz.underlying3)) _ _ _ t1
  obtain ⟨a2, k2, r2, m2⟩ := ((Rdm.slice K (sz := 2) Tryz.underlying37 (by kernel_rfl) (by decide) (rd_36 K) (fun _ => rfl))) _ _ _ t2
  have m0 : 1 ≤ K.B y0.1 := m0
  have m1 : 1 ≤ K.B y1.1 := m1
  have m2 : (a2.map mu_36).sum + 1 ≤ K.B y2.1 := m2
  have hm := K.agg (List.map (fun z : DataW H × List MemPlace => z.1) [y0, y1, y2])
  simp only [List.map_cons, List.map_nil, List.sum_cons, List.sum_nil] at hm
  refine ⟨⟨a0, a1, a2⟩, ⟨k0, k1, k2⟩, ⟨hlen, fun j d u h1 h2 => ?_⟩, ?_⟩
  · rcases j with _ | _ | _ | j
    · exact r0.part (jj := 0) (by kernel_rfl) h1 h2
    · exact r1.part (jj := 0) (by kernel_rfl) h1 h2
    · exact r2.part (jj := 0) (by kernel_rfl) h1 h2
    · cases h1
  · rw [hx]
    refine Nat.le_trans ?_ hm
    show (1) + (1) + ((a2.map mu_36).sum + 1) + 1 ≤ _
    omega

def ok_144 (x : YAd) : Prop := (Lit.int .i64 x.Row).wf = true ∧ (Lit.int .i64 x.Col).wf = true ∧ x.Text.length ≤ maxLen ∧ (Lit.int .i64 x.Ref).wf = true ∧ (x.Attrs.length ≤ maxLen ∧ ∀ a ∈ x.Attrs, ok_36 a)
def mu_144 (x : YAd) : Nat := (1) + (1) + (x.Text.length + 1) + (1) + ((x.Attrs.map mu_36).sum + 1) + 1
theorem rd_144 {H : Type} {enc : TypeId × Value → H} {W : World} (K : Blk H) : Rdm K enc Tryz.prog W 144 YAd.row ok_144 mu_144 := by
  intro fuel cs x h
  obtain ⟨hlen, xs, hx, hxl, hf⟩ := YBy (n := 5) Tryz.underlying144 (by kernel_rfl) h
  obtain ⟨y0, n0, g0, t0⟩ := hf 0 _ rfl
  obtain ⟨y1, n1, g1, t1⟩ := hf 1 _ rfl
  obtain ⟨y2, n2, g2, t2⟩ := hf 2 _ rfl
  obtain ⟨y3, n3, g3, t3⟩ := hf 3 _ rfl
  obtain ⟨y4, n4, g4, t4⟩ := hf 4 _ rfl
  obtain rfl : xs = [y0, y1, y2, y3, y4] := YB1 hxl (fun j y hj => by
    rcases j with _ | _ | _ | _ | _ | j
    · cases hj; exact g0
    · cases hj; exact g1
    · cases hj; exact g2
    · cases hj; exact g3
    · cases hj; exact g4
    · cases hj)
  obtain ⟨a0, k0, r0, m0⟩ := ((Rdm.int K Tryz.underlying3)) _ _ _ t0
  obtain ⟨a1, k1, r1, m1⟩ := ((Rdm.int K Tryz.underlying3)) _ _ _ t1
  obtain ⟨a2, k2, r2, m2⟩ := ((Rdm.str K Tryz.underlying9)) _ _ _ t2
  obtain ⟨a3, k3, r3, m3⟩ := ((Rdm.int K Tryz.underlying3)) _ _ _ t3
  obtain ⟨a4, k4, r4, m4⟩ := ((Rdm.slice K (sz := 2) Tryz.underlying37 (by kernel_rfl) (by decide) (rd_36 K) (fun _ => rfl))) _ _ _ t4
  have m0 : 1 ≤ K.B y0.1 := m0
  have m1 : 1 ≤ K.B y1.1 := m1
  have m2 : a2.length + 1 ≤ K.B y2.1 := m2
  have m3 : 1 ≤ K.B y3.1 := m3
  have m4 : (a4.map mu_36).sum + 1 ≤ K.B y4.1 := m4
  have hm := K.agg (List.map (fun z : DataW H × List MemPlace => z.1) [y0, y1, y2, y3, y4])
  simp only [List.map_cons, List.map_nil, List.sum_cons, List.sum_nil] at hm
  refine ⟨⟨a0, a1, a2, a3, a4⟩, ⟨k0, k1, k2, k3, k4⟩, ⟨hlen, fun j d u h1 h2 => ?_⟩, ?_⟩
  · rcases j with _ | _ | _ | _ | _ | j
    · exact r0.part (jj := 0) (by kernel_rfl) h1 h2
    · exact r1.part (jj := 0) (by kernel_rfl) h1 h2
    · exact r2.part (jj := 0) (by kernel_rfl) h1 h2
    · exact r3.part (jj := 0) (by kernel_rfl) h1 h2
    · exact r4.part (jj := 0) (by kernel_rfl) h1 h2
    · cases h1
  · rw [hx]
    refine Nat.le_trans ?_ hm
    show (1) + (1) + (a2.length + 1) + (1) + ((a4.map mu_36).sum + 1) + 1 ≤ _
    omega

def ok_174 (x : YAW) : Prop := (Lit.int .i64 x.Row).wf = true ∧ (Lit.int .i64 x.Col).wf = true ∧ (Lit.int .i64 x.H).wf = true ∧ (Lit.int .i64 x.W).wf = true
def mu_174 (x : YAW) : Nat := (1) + (1) + (1) + (1) + 1
theorem rd_174 {H : Type} {enc : TypeId × Value → H} {W : World} (K : Blk H) : Rdm K enc Tryz.prog W 174 YAW.row ok_174 mu_174 := by
  intro fuel cs x h
  obtain ⟨hlen, xs, hx, hxl, hf⟩ := YBy (n := 4) Tryz.underlying174 (by kernel_rfl) h
  obtain ⟨y0, n0, g0, t0⟩ := hf 0 _ rfl
  obtain ⟨y1, n1, g1, t1⟩ := hf 1 _ rfl
  obtain ⟨y2, n2, g2, t2⟩ := hf 2 _ rfl
  obtain ⟨y3, n3, g3, t3⟩ := hf 3 _ rfl
  obtain rfl : xs = [y0, y1, y2, y3] := YB1 hxl (fun j y hj => by
    rcases j with _ | _ | _ | _ | j
    · cases hj; exact g0
    · cases hj; exact g1
    · cases hj; exact g2
    · cases hj; exact g3
    · cases hj)
  obtain ⟨a0, k0, r0, m0⟩ := ((Rdm.int K Tryz.underlying3)) _ _ _ t0
  obtain ⟨a1, k1, r1, m1⟩ := ((Rdm.int K Tryz.underlying3)) _ _ _ t1
  obtain ⟨a2, k2, r2, m2⟩ := ((Rdm.int K Tryz.underlying3)) _ _ _ t2
  obtain ⟨a3, k3, r3, m3⟩ := ((Rdm.int K Tryz.underlying3)) _ _ _ t3
  have m0 : 1 ≤ K.B y0.1 := m0
  have m1 : 1 ≤ K.B y1.1 := m1
  have m2 : 1 ≤ K.B y2.1 := m2
  have m3 : 1 ≤ K.B y3.1 := m3
  have hm := K.agg (List.map (fun z : DataW H × List MemPlace => z.1) [y0, y1, y2, y3])
  simp only [List.map_cons, List.map_nil, List.sum_cons, List.sum_nil] at hm
  refine ⟨⟨a0, a1, a2, a3⟩, ⟨k0, k1, k2, k3⟩, ⟨hlen, fun j d u h1 h2 => ?_⟩, ?_⟩
  · rcases j with _ | _ | _ | _ | j
    · exact r0.part (jj := 0) (by kernel_rfl) h1 h2
    · exact r1.part (jj := 0) (by kernel_rfl) h1 h2
    · exact r2.part (jj := 0) (by kernel_rfl) h1 h2
    · exact r3.part (jj := 0) (by kernel_rfl) h1 h2
    · cases h1
  · rw [hx]
    refine Nat.le_trans ?_ hm
    show (1) + (1) + (1) + (1) + 1 ≤ _
    omega

def ok_59 (x : YAy) : Prop := (Lit.int .i64 x.Rows).wf = true ∧ (Lit.int .i64 x.Cols).wf = true ∧ (x.Cells.length ≤ maxLen ∧ ∀ a ∈ x.Cells, ok_144 a) ∧ (x.Merges.length ≤ maxLen ∧ ∀ a ∈ x.Merges, ok_174 a)
def mu_59 (x : YAy) : Nat := (1) + (1) + ((x.Cells.map mu_144).sum + 1) + ((x.Merges.map mu_174).sum + 1) + 1
theorem rd_59 {H : Type} {enc : TypeId × Value → H} {W : World} (K : Blk H) : Rdm K enc Tryz.prog W 59 YAy.row ok_59 mu_59 := by
  intro fuel cs x h
  obtain ⟨hlen, xs, hx, hxl, hf⟩ := YBy (n := 4) Tryz.underlying59 (by kernel_rfl) h
  obtain ⟨y0, n0, g0, t0⟩ := hf 0 _ rfl
  obtain ⟨y1, n1, g1, t1⟩ := hf 1 _ rfl
  obtain ⟨y2, n2, g2, t2⟩ := hf 2 _ rfl
  obtain ⟨y3, n3, g3, t3⟩ := hf 3 _ rfl
  obtain rfl : xs = [y0, y1, y2, y3] := YB1 hxl (fun j y hj => by
    rcases j with _ | _ | _ | _ | j
    · cases hj; exact g0
    · cases hj; exact g1
    · cases hj; exact g2
    · cases hj; exact g3
    · cases hj)
  obtain ⟨a0, k0, r0, m0⟩ := ((Rdm.int K Tryz.underlying3)) _ _ _ t0
  obtain ⟨a1, k1, r1, m1⟩ := ((Rdm.int K Tryz.underlying3)) _ _ _ t1
  obtain ⟨a2, k2, r2, m2⟩ := ((Rdm.slice K (sz := 5) Tryz.underlying56 (by kernel_rfl) (by decide) (rd_144 K) (fun _ => rfl))) _ _ _ t2
  obtain ⟨a3, k3, r3, m3⟩ := ((Rdm.slice K (sz := 4) Tryz.underlying57 (by kernel_rfl) (by decide) (rd_174 K) (fun _ => rfl))) _ _ _ t3
  have m0 : 1 ≤ K.B y0.1 := m0
  have m1 : 1 ≤ K.B y1.1 := m1
  have m2 : (a2.map mu_144).sum + 1 ≤ K.B y2.1 := m2
  have m3 : (a3.map mu_174).sum + 1 ≤ K.B y3.1 := m3
  have hm := K.agg (List.map (fun z : DataW H × List MemPlace => z.1) [y0, y1, y2, y3])
  simp only [List.map_cons, List.map_nil, List.sum_cons, List.sum_nil] at hm
  refine ⟨⟨a0, a1, a2, a3⟩, ⟨k0, k1, k2, k3⟩, ⟨hlen, fun j d u h1 h2 => ?_⟩, ?_⟩
  · rcases j with _ | _ | _ | _ | j
    · exact r0.part (jj := 0) (by kernel_rfl) h1 h2
    · exact r1.part (jj := 0) (by kernel_rfl) h1 h2
    · exact r2.part (jj := 0) (by kernel_rfl) h1 h2
    · exact r3.part (jj := 0) (by kernel_rfl) h1 h2
    · cases h1
  · rw [hx]
    refine Nat.le_trans ?_ hm
    show (1) + (1) + ((a2.map mu_144).sum + 1) + ((a3.map mu_174).sum + 1) + 1 ≤ _
    omega

def ok_154 (x : YAP) : Prop := (Lit.int .i64 x.Clock).wf = true ∧ (Lit.int .i64 x.Site).wf = true ∧ (Lit.int .i64 x.Kind).wf = true ∧ (Lit.int .i64 x.Item).wf = true ∧ (Lit.int .i64 x.Parent).wf = true ∧ x.Place.length ≤ maxLen ∧ x.Name.length ≤ maxLen ∧ x.Value.length ≤ maxLen
def mu_154 (x : YAP) : Nat := (1) + (1) + (1) + (1) + (1) + (x.Place.length + 1) + (x.Name.length + 1) + (x.Value.length + 1) + 1
theorem rd_154 {H : Type} {enc : TypeId × Value → H} {W : World} (K : Blk H) : Rdm K enc Tryz.prog W 154 YAP.row ok_154 mu_154 := by
  intro fuel cs x h
  obtain ⟨hlen, xs, hx, hxl, hf⟩ := YBy (n := 8) Tryz.underlying154 (by kernel_rfl) h
  obtain ⟨y0, n0, g0, t0⟩ := hf 0 _ rfl
  obtain ⟨y1, n1, g1, t1⟩ := hf 1 _ rfl
  obtain ⟨y2, n2, g2, t2⟩ := hf 2 _ rfl
  obtain ⟨y3, n3, g3, t3⟩ := hf 3 _ rfl
  obtain ⟨y4, n4, g4, t4⟩ := hf 4 _ rfl
  obtain ⟨y5, n5, g5, t5⟩ := hf 5 _ rfl
  obtain ⟨y6, n6, g6, t6⟩ := hf 6 _ rfl
  obtain ⟨y7, n7, g7, t7⟩ := hf 7 _ rfl
  obtain rfl : xs = [y0, y1, y2, y3, y4, y5, y6, y7] := YB1 hxl (fun j y hj => by
    rcases j with _ | _ | _ | _ | _ | _ | _ | _ | j
    · cases hj; exact g0
    · cases hj; exact g1
    · cases hj; exact g2
    · cases hj; exact g3
    · cases hj; exact g4
    · cases hj; exact g5
    · cases hj; exact g6
    · cases hj; exact g7
    · cases hj)
  obtain ⟨a0, k0, r0, m0⟩ := ((Rdm.int K Tryz.underlying3)) _ _ _ t0
  obtain ⟨a1, k1, r1, m1⟩ := ((Rdm.int K Tryz.underlying3)) _ _ _ t1
  obtain ⟨a2, k2, r2, m2⟩ := ((Rdm.int K Tryz.underlying3)) _ _ _ t2
  obtain ⟨a3, k3, r3, m3⟩ := ((Rdm.int K Tryz.underlying3)) _ _ _ t3
  obtain ⟨a4, k4, r4, m4⟩ := ((Rdm.int K Tryz.underlying3)) _ _ _ t4
  obtain ⟨a5, k5, r5, m5⟩ := ((Rdm.str K Tryz.underlying9)) _ _ _ t5
  obtain ⟨a6, k6, r6, m6⟩ := ((Rdm.str K Tryz.underlying9)) _ _ _ t6
  obtain ⟨a7, k7, r7, m7⟩ := ((Rdm.str K Tryz.underlying9)) _ _ _ t7
  have m0 : 1 ≤ K.B y0.1 := m0
  have m1 : 1 ≤ K.B y1.1 := m1
  have m2 : 1 ≤ K.B y2.1 := m2
  have m3 : 1 ≤ K.B y3.1 := m3
  have m4 : 1 ≤ K.B y4.1 := m4
  have m5 : a5.length + 1 ≤ K.B y5.1 := m5
  have m6 : a6.length + 1 ≤ K.B y6.1 := m6
  have m7 : a7.length + 1 ≤ K.B y7.1 := m7
  have hm := K.agg (List.map (fun z : DataW H × List MemPlace => z.1) [y0, y1, y2, y3, y4, y5, y6, y7])
  simp only [List.map_cons, List.map_nil, List.sum_cons, List.sum_nil] at hm
  refine ⟨⟨a0, a1, a2, a3, a4, a5, a6, a7⟩, ⟨k0, k1, k2, k3, k4, k5, k6, k7⟩, ⟨hlen, fun j d u h1 h2 => ?_⟩, ?_⟩
  · rcases j with _ | _ | _ | _ | _ | _ | _ | _ | j
    · exact r0.part (jj := 0) (by kernel_rfl) h1 h2
    · exact r1.part (jj := 0) (by kernel_rfl) h1 h2
    · exact r2.part (jj := 0) (by kernel_rfl) h1 h2
    · exact r3.part (jj := 0) (by kernel_rfl) h1 h2
    · exact r4.part (jj := 0) (by kernel_rfl) h1 h2
    · exact r5.part (jj := 0) (by kernel_rfl) h1 h2
    · exact r6.part (jj := 0) (by kernel_rfl) h1 h2
    · exact r7.part (jj := 0) (by kernel_rfl) h1 h2
    · cases h1
  · rw [hx]
    refine Nat.le_trans ?_ hm
    show (1) + (1) + (1) + (1) + (1) + (a5.length + 1) + (a6.length + 1) + (a7.length + 1) + 1 ≤ _
    omega

def ok_62 (x : YAR) : Prop := (Lit.int .i64 x.ID).wf = true ∧ (Lit.int .i64 x.Kind).wf = true ∧ (x.Attrs.length ≤ maxLen ∧ ∀ a ∈ x.Attrs, ok_36 a) ∧ (x.Flow.length ≤ maxLen ∧ ∀ a ∈ x.Flow, ok_78 a) ∧ ok_59 x.Grid ∧ (x.Draw.length ≤ maxLen ∧ ∀ a ∈ x.Draw, ok_154 a)
def mu_62 (x : YAR) : Nat := (1) + (1) + ((x.Attrs.map mu_36).sum + 1) + ((x.Flow.map mu_78).sum + 1) + (mu_59 x.Grid) + ((x.Draw.map mu_154).sum + 1) + 1
theorem rd_62 {H : Type} {enc : TypeId × Value → H} {W : World} (K : Blk H) : Rdm K enc Tryz.prog W 62 YAR.row ok_62 mu_62 := by
  intro fuel cs x h
  obtain ⟨hlen, xs, hx, hxl, hf⟩ := YBy (n := 9) Tryz.underlying62 (by kernel_rfl) h
  obtain ⟨y0, n0, g0, t0⟩ := hf 0 _ rfl
  obtain ⟨y1, n1, g1, t1⟩ := hf 1 _ rfl
  obtain ⟨y2, n2, g2, t2⟩ := hf 2 _ rfl
  obtain ⟨y3, n3, g3, t3⟩ := hf 3 _ rfl
  obtain ⟨y4, n4, g4, t4⟩ := hf 4 _ rfl
  obtain ⟨y5, n5, g5, t5⟩ := hf 5 _ rfl
  obtain rfl : xs = [y0, y1, y2, y3, y4, y5] := YB1 hxl (fun j y hj => by
    rcases j with _ | _ | _ | _ | _ | _ | j
    · cases hj; exact g0
    · cases hj; exact g1
    · cases hj; exact g2
    · cases hj; exact g3
    · cases hj; exact g4
    · cases hj; exact g5
    · cases hj)
  obtain ⟨a0, k0, r0, m0⟩ := ((Rdm.int K Tryz.underlying3)) _ _ _ t0
  obtain ⟨a1, k1, r1, m1⟩ := ((Rdm.int K Tryz.underlying3)) _ _ _ t1
  obtain ⟨a2, k2, r2, m2⟩ := ((Rdm.slice K (sz := 2) Tryz.underlying37 (by kernel_rfl) (by decide) (rd_36 K) (fun _ => rfl))) _ _ _ t2
  obtain ⟨a3, k3, r3, m3⟩ := ((Rdm.slice K (sz := 3) Tryz.underlying55 (by kernel_rfl) (by decide) (rd_78 K) (fun _ => rfl))) _ _ _ t3
  obtain ⟨a4, k4, r4, m4⟩ := ((rd_59 K)) _ _ _ t4
  obtain ⟨a5, k5, r5, m5⟩ := ((Rdm.slice K (sz := 8) Tryz.underlying60 (by kernel_rfl) (by decide) (rd_154 K) (fun _ => rfl))) _ _ _ t5
  have m0 : 1 ≤ K.B y0.1 := m0
  have m1 : 1 ≤ K.B y1.1 := m1
  have m2 : (a2.map mu_36).sum + 1 ≤ K.B y2.1 := m2
  have m3 : (a3.map mu_78).sum + 1 ≤ K.B y3.1 := m3
  have m4 : mu_59 a4 ≤ K.B y4.1 := m4
  have m5 : (a5.map mu_154).sum + 1 ≤ K.B y5.1 := m5
  have hm := K.agg (List.map (fun z : DataW H × List MemPlace => z.1) [y0, y1, y2, y3, y4, y5])
  simp only [List.map_cons, List.map_nil, List.sum_cons, List.sum_nil] at hm
  refine ⟨⟨a0, a1, a2, a3, a4, a5⟩, ⟨k0, k1, k2, k3, k4, k5⟩, ⟨hlen, fun j d u h1 h2 => ?_⟩, ?_⟩
  · rcases j with _ | _ | _ | _ | _ | _ | _ | _ | _ | j
    · exact r0.part (jj := 0) (by kernel_rfl) h1 h2
    · exact r1.part (jj := 0) (by kernel_rfl) h1 h2
    · exact r2.part (jj := 0) (by kernel_rfl) h1 h2
    · exact r3.part (jj := 0) (by kernel_rfl) h1 h2
    · exact r4.part (jj := 0) (by kernel_rfl) h1 h2
    · exact r4.part (jj := 1) (by kernel_rfl) h1 h2
    · exact r4.part (jj := 2) (by kernel_rfl) h1 h2
    · exact r4.part (jj := 3) (by kernel_rfl) h1 h2
    · exact r5.part (jj := 0) (by kernel_rfl) h1 h2
    · cases h1
  · rw [hx]
    refine Nat.le_trans ?_ hm
    show (1) + (1) + ((a2.map mu_36).sum + 1) + ((a3.map mu_78).sum + 1) + (mu_59 a4) + ((a5.map mu_154).sum + 1) + 1 ≤ _
    omega

def ok_43 (x : GDoc) : Prop := (x.Nodes.length ≤ maxLen ∧ ∀ a ∈ x.Nodes, ok_62 a)
def mu_43 (x : GDoc) : Nat := ((x.Nodes.map mu_62).sum + 1) + 1
theorem rd_43 {H : Type} {enc : TypeId × Value → H} {W : World} (K : Blk H) : Rdm K enc Tryz.prog W 43 GDoc.row ok_43 mu_43 := by
  intro fuel cs x h
  obtain ⟨hlen, xs, hx, hxl, hf⟩ := YBy (n := 1) Tryz.underlying43 (by kernel_rfl) h
  obtain ⟨y0, n0, g0, t0⟩ := hf 0 _ rfl
  obtain rfl : xs = [y0] := YB1 hxl (fun j y hj => by
    rcases j with _ | j
    · cases hj; exact g0
    · cases hj)
  obtain ⟨a0, k0, r0, m0⟩ := ((Rdm.slice K (sz := 9) Tryz.underlying41 (by kernel_rfl) (by decide) (rd_62 K) (fun _ => rfl))) _ _ _ t0
  have m0 : (a0.map mu_62).sum + 1 ≤ K.B y0.1 := m0
  have hm := K.agg (List.map (fun z : DataW H × List MemPlace => z.1) [y0])
  simp only [List.map_cons, List.map_nil, List.sum_cons, List.sum_nil] at hm
  refine ⟨⟨a0⟩, k0, ⟨hlen, fun j d u h1 h2 => ?_⟩, ?_⟩
  · rcases j with _ | j
    · exact r0.part (jj := 0) (by kernel_rfl) h1 h2
    · cases h1
  · rw [hx]
    refine Nat.le_trans ?_ hm
    show ((a0.map mu_62).sum + 1) + 1 ≤ _
    omega

def ok_45 (x : GSel) : Prop := (Lit.int .i64 x.Node).wf = true ∧ (Lit.int .i64 x.From).wf = true ∧ (Lit.int .i64 x.To).wf = true
def mu_45 (x : GSel) : Nat := (1) + (1) + (1) + 1
theorem rd_45 {H : Type} {enc : TypeId × Value → H} {W : World} (K : Blk H) : Rdm K enc Tryz.prog W 45 GSel.row ok_45 mu_45 := by
  intro fuel cs x h
  obtain ⟨hlen, xs, hx, hxl, hf⟩ := YBy (n := 3) Tryz.underlying45 (by kernel_rfl) h
  obtain ⟨y0, n0, g0, t0⟩ := hf 0 _ rfl
  obtain ⟨y1, n1, g1, t1⟩ := hf 1 _ rfl
  obtain ⟨y2, n2, g2, t2⟩ := hf 2 _ rfl
  obtain rfl : xs = [y0, y1, y2] := YB1 hxl (fun j y hj => by
    rcases j with _ | _ | _ | j
    · cases hj; exact g0
    · cases hj; exact g1
    · cases hj; exact g2
    · cases hj)
  obtain ⟨a0, k0, r0, m0⟩ := ((Rdm.int K Tryz.underlying3)) _ _ _ t0
  obtain ⟨a1, k1, r1, m1⟩ := ((Rdm.int K Tryz.underlying3)) _ _ _ t1
  obtain ⟨a2, k2, r2, m2⟩ := ((Rdm.int K Tryz.underlying3)) _ _ _ t2
  have m0 : 1 ≤ K.B y0.1 := m0
  have m1 : 1 ≤ K.B y1.1 := m1
  have m2 : 1 ≤ K.B y2.1 := m2
  have hm := K.agg (List.map (fun z : DataW H × List MemPlace => z.1) [y0, y1, y2])
  simp only [List.map_cons, List.map_nil, List.sum_cons, List.sum_nil] at hm
  refine ⟨⟨a0, a1, a2⟩, ⟨k0, k1, k2⟩, ⟨hlen, fun j d u h1 h2 => ?_⟩, ?_⟩
  · rcases j with _ | _ | _ | j
    · exact r0.part (jj := 0) (by kernel_rfl) h1 h2
    · exact r1.part (jj := 0) (by kernel_rfl) h1 h2
    · exact r2.part (jj := 0) (by kernel_rfl) h1 h2
    · cases h1
  · rw [hx]
    refine Nat.le_trans ?_ hm
    show (1) + (1) + (1) + 1 ≤ _
    omega

theorem tabs {W : World} (h : laidMetH Tryz.prog Rows.remarkPutMatchesUptoRow.laid W) : YGi (Cx.start W) := by
  have h' : laidMet Tryz.prog Rows.remarkPutMatchesUptoRow.laid W := h
  refine YSG (d1 := Go.Pinned.utf8First) (d2 := Rows.laid_unicode_utf8_acceptRanges) (t1 := 212) (t2 := 215) (e1 := 5) (e2 := 214) (Go.Lib.laidMet.reads h' ?_) (by kernel_rfl) (by kernel_rfl) (by kernel_rfl) Tryz.underlying212 Tryz.underlying5 (by kernel_rfl) (by kernel_rfl)
    (Go.Lib.laidMet.reads h' ?_) (by kernel_rfl) (by kernel_rfl) (by kernel_rfl) Tryz.underlying215 Tryz.underlying214 (fun i f hf => ?_) rfl (by kernel_rfl) (hw := fun g cs hg => ?_)
  · exact .tail _ (.tail _ (.tail _ (.tail _ (.tail _ (.tail _ (.head _))))))
  · exact .tail _ (.tail _ (.tail _ (.head _)))
  · rcases i with _ | _ | i
    · cases hf; exact ⟨Tryz.underlying5, rfl, by kernel_rfl⟩
    · cases hf; exact ⟨Tryz.underlying5, rfl, by kernel_rfl⟩
    · cases hf
  · unfold YKc at hg
    split at hg
    · rename_i hgp
      cases hg
      subst hgp
      exact ⟨by decide, YL9 (Go.Lib.laidMet.reads h' (.tail _ (.tail _ (.head _)))) (by kernel_rfl) (by kernel_rfl) (by kernel_rfl) Tryz.underlying256 Tryz.underlying207 (by kernel_rfl) (by kernel_rfl)⟩
    · cases hg

set_option maxRecDepth 100000 in
theorem contract (H : Type) (enc : TypeId × Value → H) (W : World) (base : Nat) (args : Array Value) (ds gs : List (DataW H)) (before : List MemPlace)
    (hval : ∀ (j : Nat) t v, Tryz.f4.params[j]? = some t → args[j]? = some v → Value.okWide Tryz.prog W .any base t v)
    (hW : DataW.Whole enc Tryz.prog Tryz.f4.params.toList Rows.remarkPutMatchesSpec.vars false W args.toList ds gs before) (hk0 : Rows.uptoSmall H (ds ++ gs) = true) (hL : laidMetH Tryz.prog Rows.remarkPutMatchesUptoRow.laid W) :
    Calls Tryz.prog 4 args W fun e W' => ∃ v, e = .returned v ∧ Rows.remarkPutMatchesSpec.post enc Tryz.prog Tryz.f4 false true false false W args v W' := by
  have hW' := hW
  obtain ⟨p, q, hA0, hV, rfl, hfz, hnd⟩ := hW
  have hA : DataW.TrodAll enc Tryz.prog W 0 (fun _ => true) true Tryz.f4.params.toList args.toList ds p := hA0
  rw [Tryz.params4] at hA hval
  obtain ⟨v0, vs0, d0, ds0, p0, q0, hargs, rfl, rfl, h0, e0⟩ := trodAll_cons hA
  obtain ⟨v1, vs1, d1, ds1, p1, q1, rfl, rfl, rfl, h1, e1⟩ := trodAll_cons e0
  obtain ⟨v2, vs2, d2, ds2, p2, q2, rfl, rfl, rfl, h2, e2⟩ := trodAll_cons e1
  obtain ⟨v3, vs3, d3, ds3, p3, q3, rfl, rfl, rfl, h3, e3⟩ := trodAll_cons e2
  obtain ⟨v4, vs4, d4, ds4, p4, q4, rfl, rfl, rfl, h4, e4⟩ := trodAll_cons e3
  obtain ⟨v5, vs5, d5, ds5, p5, q5, rfl, rfl, rfl, h5, e5⟩ := trodAll_cons e4
  obtain ⟨rfl, rfl, rfl⟩ := trodAll_nil e5
  obtain rfl : args = #[v0, v1, v2, v3, v4, v5] := by cases args; simp_all
  obtain ⟨rfl, rfl⟩ := trodVars_none hV
  have hk : (blk H).B d0 + (blk H).B d1 + (blk H).B d2 + (blk H).B d3 + (blk H).B d4 + (blk H).B d5 ≤ 1048576 := by
    have := of_decide_eq_true hk0
    simp only [List.append_nil, Rows.uptoBulkAll] at this
    show Rows.uptoBulk d0 + Rows.uptoBulk d1 + Rows.uptoBulk d2 + Rows.uptoBulk d3 + Rows.uptoBulk d4 + Rows.uptoBulk d5 ≤ 1048576
    omega
  obtain ⟨x0, k0, r0, m0⟩ := YLK (blk H) Tryz.underlying43 (rd_43 (blk H)) (hval 0 43 v0 rfl rfl) h0
  obtain ⟨x1, k1, r1, m1⟩ := YLK (blk H) Tryz.underlying45 (rd_45 (blk H)) (hval 1 45 v1 rfl rfl) h1
  obtain ⟨x2, k2, r2, m2⟩ := YRC (blk H) Tryz.underlying3 (hval 2 3 v2 rfl rfl) h2
  obtain ⟨x3, k3, r3, m3⟩ := YRB (blk H) Tryz.underlying9 (hval 3 9 v3 rfl rfl) h3
  obtain ⟨x4, k4, r4, m4⟩ := YRB (blk H) Tryz.underlying9 (hval 4 9 v4 rfl rfl) h4
  obtain ⟨x5, k5, r5, m5⟩ := YRC (blk H) Tryz.underlying3 (hval 5 3 v5 rfl rfl) h5
  clear hA0
  have h0 := YQc (μ := mu_62) (γ := mu_59) (ψ := mu_144) (ρ := mu_174) (δ := mu_154) (ν := mu_78) (κ := mu_36) (fun n => by unfold mu_62; omega) (fun g => by unfold mu_59; omega) (fun c => by unfold mu_144; omega) (fun r => by unfold mu_174; omega) (fun o => by unfold mu_154; omega) (fun e => by unfold mu_78; omega) (fun a => by unfold mu_36; omega) (d := x0) (by have m0' := m0; unfold mu_43 at m0'; omega)
  have hid : -9223372036854775808 ≤ x2 ∧ x2 ≤ 9223372036854775807 := by simp only [Lit.wf, Bool.and_eq_true, decide_eq_true_eq] at k2; exact k2
  have hp := YJB x0 x1 x2 x3 x4 x5 h0 hid (by omega) (by omega)
  obtain ⟨_, _, hc⟩ := YHF hp
  refine (hc (Cx.start W) #[v0, v1, v2, v3, v4, v5] (Cx.start_ok W (tabs hL)) rfl ⟨rfl, fun i a u k1 k2 => ?_⟩).mono fun e W' ⟨u, y, he, hy, hle, hok, hr⟩ => ?_
  · rcases i with _ | _ | _ | _ | _ | _ | i
    · cases k1; cases k2; exact r0
    · cases k1; cases k2; exact r1
    · cases k1; cases k2; exact .r r2
    · cases k1; cases k2; exact .r r3
    · cases k1; cases k2; exact .r r4
    · cases k1; cases k2; exact .r r5
    · cases k1
  · subst he; subst hy
    obtain rfl := YEC hr
    exact ⟨_, rfl, YUv (by kernel_rfl) (by rw [Tryz.params4]; intro t ht; simp at ht; rcases ht with rfl | rfl | rfl | rfl | rfl <;> exact ⟨by kernel_rfl, of_decide_eq_true (by kernel_rfl)⟩) rfl hW' hle rfl rfl
      (fun _ _ _ => trodAll_cons_mk (shut_bool Tryz.underlying4 _) trodAll_mk0)⟩

/-- A world for the witness: the settled one, the two tables laid. -/
def lay (cs : List Value) : Obj → Obj
  | .cells _ t frozen => .cells cs.toArray t frozen
  | o => o
def litsOf : DataW Unit → List Value
  | .agg l => l.map fun d => match d with | .lit (.int k z) => Value.int k z | _ => undef
  | _ => []
def textOf : DataW Unit → Value
  | .iface _ (.ptr (.agg [.lit (.string s)])) => Value.string ⟨s.toArray⟩
  | _ => undef
noncomputable def holdW (os : Os) : World := World.holding Tryz.prog os ⟨#[], #[], []⟩
noncomputable def laidWorld (os : Os) : World :=
  { holdW os with heap := ((((((((((holdW os).heap.modify 4 (lay (litsOf Rows.laid_math_bits_deBruijn32tab))).modify 5 (lay (litsOf Rows.laid_math_bits_deBruijn64tab))).modify 3 (lay (litsOf Rows.laid_internal_strconv_uint64pow10))).modify YGy (lay (YDn.flatMap fun p => [Value.int .u8 p.1, Value.int .u8 p.2]))).modify 7 (lay [Value.iface 394 (.pointer (some ⟨(holdW os).heap.size + 0, 0, none⟩))])).modify 6 (lay [Value.iface 394 (.pointer (some ⟨(holdW os).heap.size + 1, 0, none⟩))])).modify YJG (lay (YCV.map fun z => Value.int .u8 z))).push (Obj.cells #[textOf Rows.laid_strconv_ErrRange] 396 (0, 0))).push (Obj.cells #[textOf Rows.laid_strconv_ErrSyntax] 396 (0, 0))) }
theorem laid_met (os : Os) : laidMet Tryz.prog Rows.remarkPutMatchesUptoRow.laid ((laidWorld os).forCall (fun _ _ => 0) ⟨#[], #[.agg #[.slice none 0 0], .agg #[.int .i64 0, .int .i64 0, .int .i64 0], .int .i64 0, .string ⟨#[]⟩, .string ⟨#[]⟩, .int .i64 0], []⟩).memory :=
  laidMet_of_run' 8 (by kernel_rfl) (by kernel_rfl)
theorem reads (os : Os) {H : Type} (enc : TypeId × Value → H) : ∃ places, DataW.whole enc Tryz.prog ((laidWorld os).forCall (fun _ _ => 0) ⟨#[], #[.agg #[.slice none 0 0], .agg #[.int .i64 0, .int .i64 0, .int .i64 0], .int .i64 0, .string ⟨#[]⟩, .string ⟨#[]⟩, .int .i64 0], []⟩).memory Tryz.f4.params.toList Rows.remarkPutMatchesSpec.vars false (#[.agg #[.slice none 0 0], .agg #[.int .i64 0, .int .i64 0, .int .i64 0], .int .i64 0, .string ⟨#[]⟩, .string ⟨#[]⟩, .int .i64 0] : Array Value).toList 8 = some ([.agg [.nil], .agg [.lit (.int .i64 0), .lit (.int .i64 0), .lit (.int .i64 0)], .lit (.int .i64 0), .lit (.string []), .lit (.string []), .lit (.int .i64 0)], [], places) :=
  ⟨[], by kernel_rfl⟩

set_option maxRecDepth 100000 in
theorem lifted (os : Os) (started : os.Started) (H : Type) (enc : TypeId × Value → H) (F : Stop.Interp) :
    ReturnsInHanded {} Tryz.checked os 4 .any ((Rows.OpenSpec.upto Rows.remarkPutMatchesSpec).preRow enc Tryz.prog Tryz.f4 Rows.remarkPutMatchesUptoRow.domain false Rows.remarkPutMatchesUptoRow.laid) (((Rows.OpenSpec.upto Rows.remarkPutMatchesSpec).at F).post enc Tryz.prog Tryz.f4 false true false false) := by
  obtain ⟨places, hx⟩ := reads os enc
  refine returnsInHanded_of_row (C := Tryz.checked) (s := Rows.OpenSpec.upto Rows.remarkPutMatchesSpec) own started (by kernel_rfl) Tryz.func4
    (witness_row_at (enc := enc) (C := Tryz.checked) false (laidWorld os) #[.agg #[.slice none 0 0], .agg #[.int .i64 0, .int .i64 0, .int .i64 0], .int .i64 0, .string ⟨#[]⟩, .string ⟨#[]⟩, .int .i64 0] rfl (by kernel_rfl) (by kernel_rfl) (by kernel_rfl)
      (OpenSpec.preRow_of_cond 8 hx (by kernel_rfl) (fun k hk => by cases hk; kernel_rfl) (by kernel_rfl) (laid_met os))) ?_
  intro W base args ds gs before hval hW _ hk _ hL _ _
  exact contract H enc W base args ds gs before hval hW (hk _ rfl) hL

theorem and_tt {a b : Bool} (ha : a = true) (hb : b = true) : (a && b) = true := by rw [ha, hb]; rfl
set_option maxHeartbeats 4000000 in
theorem closed : joinedFacts Tryz.prog 4 Tryz.f4 (Rows.OpenSpec.upto Rows.remarkPutMatchesSpec).bare Rows.remarkPutMatchesUptoRow = true := by
  unfold joinedFacts
  refine and_tt ?_ (by as_aux_lemma => kernel_rfl)
  refine and_tt ?_ (by as_aux_lemma => kernel_rfl)
  refine and_tt ?_ (by as_aux_lemma => kernel_rfl)
  refine and_tt ?_ (by as_aux_lemma => kernel_rfl)
  refine and_tt ?_ (by as_aux_lemma => kernel_rfl)
  refine and_tt ?_ (by as_aux_lemma => kernel_rfl)
  refine and_tt ?_ (by as_aux_lemma => kernel_rfl)
  refine and_tt ?_ (by as_aux_lemma => kernel_rfl)
  refine and_tt ?_ (by as_aux_lemma => kernel_rfl)
  refine and_tt ?_ (by as_aux_lemma => kernel_rfl)
  refine and_tt ?_ (by as_aux_lemma => kernel_rfl)
  refine and_tt ?_ (by as_aux_lemma => kernel_rfl)
  refine and_tt ?_ (by as_aux_lemma => kernel_rfl)
  refine and_tt ?_ (by as_aux_lemma => kernel_rfl)
  refine and_tt ?_ (by as_aux_lemma => kernel_rfl)
  refine and_tt ?_ (by as_aux_lemma => kernel_rfl)
  refine and_tt ?_ (by as_aux_lemma => kernel_rfl)
  refine and_tt ?_ (by as_aux_lemma => kernel_rfl)
  refine and_tt ?_ (by as_aux_lemma => kernel_rfl)
  refine and_tt ?_ (by as_aux_lemma => kernel_rfl)
  refine and_tt ?_ (by as_aux_lemma => kernel_rfl)
  refine and_tt ?_ (by as_aux_lemma => kernel_rfl)
  refine and_tt ?_ (by as_aux_lemma => kernel_rfl)
  refine and_tt ?_ (by as_aux_lemma => kernel_rfl)
  refine and_tt ?_ (by as_aux_lemma => kernel_rfl)
  refine and_tt ?_ (by as_aux_lemma => kernel_rfl)
  refine and_tt ?_ (by as_aux_lemma => kernel_rfl)
  refine and_tt ?_ (by as_aux_lemma => kernel_rfl)
  refine and_tt ?_ (by as_aux_lemma => kernel_rfl)
  refine and_tt ?_ (by as_aux_lemma => kernel_rfl)
  refine and_tt ?_ (by as_aux_lemma => kernel_rfl)
  kernel_rfl
theorem goes_apart {P : Program} {c : OpenClaim} (hs : c.start = .entering) (h : P.funcs.any Func.goes = false) : false = c.goesBy P := by
  have h' : ∀ g : FuncId, (P.funcs[g]?).any Func.goes = false := fun g => by
    cases e : P.funcs[g]? with
    | none => rfl
    | some x =>
      obtain ⟨hg, rfl⟩ := Array.getElem?_eq_some_iff.1 e
      exact Bool.eq_false_iff.2 fun hx => (Bool.eq_false_iff.1 h) (Array.any_eq_true.2 ⟨g, hg, hx⟩)
  unfold OpenClaim.goesBy Program.goesAt Program.goesFrom Program.goes
  rw [hs, h]
  cases P.funcNamed c.func with
  | none => rfl
  | some f => simp [h']
theorem goes_not : Tryz.prog.funcs.any Func.goes = false := by kernel_rfl

theorem over : Rows.RemarkPutMatchesUptoSaid :=
  OpenClaim.holds_of_cond 4 Tryz.f4 rfl rfl rfl rfl rfl rfl rfl ⟨rfl, rfl, rfl, rfl, rfl⟩ rfl rfl rfl rfl rfl (by kernel_rfl) Tryz.func4 closed
    (of_decide_eq_true (by kernel_rfl)) (by unfold Func.isWrapper; first | (rw [if_pos (by decide +kernel)]; kernel_rfl) | (rw [if_neg (by decide +kernel)]; exact ⟨rfl, rfl⟩))
    (fun os started H enc _ F => by rw [OpenClaim.pre_eq_preRow]; exact lifted os started H enc F)

theorem plain (f : FuncId) (fn : Func) (hf : Tryz.pinned.checked.prog.funcNamed "chancery/chancerylaw1.RemarkPutMatches" = some f) (hfn : Tryz.pinned.checked.prog.funcs[f]? = some fn) :
    true = Tryz.pinned.checked.prog.looks [] ∧ ∀ (j : Nat) t, fn.params[j]? = some t → Tryz.pinned.checked.prog.wantsStandIn t = false := by
  obtain rfl : f = 4 := Option.some.inj ((show Tryz.prog.funcNamed "chancery/chancerylaw1.RemarkPutMatches" = some 4 by kernel_rfl).symm.trans hf) |>.symm
  obtain rfl : fn = Tryz.f4 := (Option.some.inj (Tryz.func4.symm.trans hfn)).symm
  refine ⟨by kernel_rfl, fun j t ht => ?_⟩
  rw [Tryz.params4] at ht
  rcases j with _ | _ | _ | _ | _ | _ | j
  · cases ht; exact (show Tryz.prog.wantsStandIn 43 = false by kernel_rfl)
  · cases ht; exact (show Tryz.prog.wantsStandIn 45 = false by kernel_rfl)
  · cases ht; exact (show Tryz.prog.wantsStandIn 3 = false by kernel_rfl)
  · cases ht; exact (show Tryz.prog.wantsStandIn 9 = false by kernel_rfl)
  · cases ht; exact (show Tryz.prog.wantsStandIn 9 = false by kernel_rfl)
  · cases ht; exact (show Tryz.prog.wantsStandIn 3 = false by kernel_rfl)
  · cases ht

theorem proved : Rows.RemarkPutMatchesUptoCardSaid :=
  Claim7.holds_tied_plain_at .later [] _ _ _ _ over (fun _ h => by cases h) (by kernel_rfl) (fun _ h => by cases h) remarkPutMatchesUpto_row_tie rfl ⟨rfl, rfl⟩ (by kernel_rfl) rfl plain (goes_apart rfl goes_not)
#print axioms proved
end Go.Proofs.YtkefchjpggjibaaGreatDoor.Al.RRemarkPut
