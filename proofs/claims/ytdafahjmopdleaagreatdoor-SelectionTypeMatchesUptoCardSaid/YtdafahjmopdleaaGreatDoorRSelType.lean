/-
  PROVED: 'SelectionTypeMatches' returns true whatever its arguments of bulk at most 1048576 are, and leaves them as they were (statement 'SelectionTypeMatchesUptoCardSaid'). Conditions: none but the bulk.
-/
import Derived.Test.YtdafahjmopdleaaGreatDoorWlk131x2
import Derived.Deep.DeepHandedRow
import Derived.JoinedCond
import Derived.Lib.LaidTab
import Derived.OpenShut
import Derived.ProofKit
import Derived.Test.YtdafahjmopdleaaGreatDoorCards
import Derived.Test.YtdafahjmopdleaaGreatDoorChecked
import Derived.Test.YtdafahjmopdleaaGreatDoorRows
import Derived.Test.YtdafahjmopdleaaGreatDoorTie
import Derived.WalkKit
set_option linter.all false
namespace Go.Proofs.YtdafahjmopdleaaGreatDoor.Al.RSelType
open Go.Proofs Go.Proofs.Tryz Go.Proofs.YtdafahjmopdleaaGreatDoor.Al Go.Proofs.YtdafahjmopdleaaGreatDoor
open Go.ChangeShapes Go.WideShapes Go.ChangeAt Go.RowKit
set_option linter.unusedVariables false

theorem own : ownKnob prog.godebug = none := by kernel_rfl

theorem blk_all {H : Type} (l : List (DataW H)) : (l.map Rows.uptoBulk).sum = Rows.uptoBulkAll l := by
  induction l with
  | nil => simp [Rows.uptoBulkAll]
  | cons d l ih => rw [wS, xK, ih, Rows.uptoBulkAll]
def blk (H : Type) : Gj H where
  B := Rows.uptoBulk
  one := fun d => by
    cases d with
    | lit l => cases l <;> simp [Rows.uptoBulk]
    | nil => simp [Rows.uptoBulk]
    | ptr d => simp [Rows.uptoBulk]
    | slice elems spare => simp [Rows.uptoBulk]
    | agg parts => simp [Rows.uptoBulk]
    | iface t d => simp [Rows.uptoBulk]
    | map entries => simp [Rows.uptoBulk]
    | held h => simp [Rows.uptoBulk]
  str := fun s => by simp [Rows.uptoBulk]
  sl := fun l r => by rw [blk_all, Rows.uptoBulk]; omega
  agg := fun l => by rw [blk_all, Rows.uptoBulk]; omega
def ok_58 (x : AC) : Prop := x.Name.length ≤ maxLen ∧ x.Value.length ≤ maxLen
def mu_58 (x : AC) : Nat := (x.Name.length + 1) + (x.Value.length + 1) + 1
theorem rd_58 {H : Type} {enc : TypeId × Value → H} {W : World} (K : Gj H) : Bb K enc prog W 58 AC.row ok_58 mu_58 := by
  intro fuel cs x h
  obtain ⟨hlen, xs, hx, hxl, hf⟩ := Ix (n := 2) underlying58 (by kernel_rfl) h
  obtain ⟨y0, n0, g0, t0⟩ := hf 0 _ rfl
  obtain ⟨y1, n1, g1, t1⟩ := hf 1 _ rfl
  obtain rfl : xs = [y0, y1] := I1 hxl (fun j y hj => by
    rcases j with _ | _ | j
    · cases hj; exact g0
    · cases hj; exact g1
    · cases hj)
  obtain ⟨a0, k0, r0, m0⟩ := ((Bb.str K underlying9)) _ _ _ t0
  obtain ⟨a1, k1, r1, m1⟩ := ((Bb.str K underlying9)) _ _ _ t1
  have m0 : a0.length + 1 ≤ K.B y0.1 := m0
  have m1 : a1.length + 1 ≤ K.B y1.1 := m1
  have hm := K.agg (List.map (fun z : DataW H × List MemPlace => z.1) [y0, y1])
  simp only [wS, yD, xK, yX] at hm
  refine ⟨⟨a0, a1⟩, ⟨k0, k1⟩, ⟨hlen, fun j d u h1 h2 => ?_⟩, ?_⟩
  · rcases j with _ | _ | j
    · exact r0.part (jj := 0) (by kernel_rfl) h1 h2
    · exact r1.part (jj := 0) (by kernel_rfl) h1 h2
    · cases h1
  · rw [hx]
    refine w0 ?_ hm
    show (a0.length + 1) + (a1.length + 1) + 1 ≤ _
    omega

def ok_51 (x : AD) : Prop := (Lit.int .i64 x.Char).wf = true ∧ (Lit.int .i64 x.Ref).wf = true ∧ (x.Attrs.length ≤ maxLen ∧ ∀ a ∈ x.Attrs, ok_58 a)
def mu_51 (x : AD) : Nat := (1) + (1) + ((x.Attrs.map mu_58).sum + 1) + 1
theorem rd_51 {H : Type} {enc : TypeId × Value → H} {W : World} (K : Gj H) : Bb K enc prog W 51 AD.row ok_51 mu_51 := by
  intro fuel cs x h
  obtain ⟨hlen, xs, hx, hxl, hf⟩ := Ix (n := 3) underlying51 (by kernel_rfl) h
  obtain ⟨y0, n0, g0, t0⟩ := hf 0 _ rfl
  obtain ⟨y1, n1, g1, t1⟩ := hf 1 _ rfl
  obtain ⟨y2, n2, g2, t2⟩ := hf 2 _ rfl
  obtain rfl : xs = [y0, y1, y2] := I1 hxl (fun j y hj => by
    rcases j with _ | _ | _ | j
    · cases hj; exact g0
    · cases hj; exact g1
    · cases hj; exact g2
    · cases hj)
  obtain ⟨a0, k0, r0, m0⟩ := ((Bb.int K underlying3)) _ _ _ t0
  obtain ⟨a1, k1, r1, m1⟩ := ((Bb.int K underlying3)) _ _ _ t1
  obtain ⟨a2, k2, r2, m2⟩ := ((Bb.slice K (sz := 2) underlying39 (by kernel_rfl) (by decide) (rd_58 K) (fun _ => rfl))) _ _ _ t2
  have m0 : 1 ≤ K.B y0.1 := m0
  have m1 : 1 ≤ K.B y1.1 := m1
  have m2 : (a2.map mu_58).sum + 1 ≤ K.B y2.1 := m2
  have hm := K.agg (List.map (fun z : DataW H × List MemPlace => z.1) [y0, y1, y2])
  simp only [wS, yD, xK, yX] at hm
  refine ⟨⟨a0, a1, a2⟩, ⟨k0, k1, k2⟩, ⟨hlen, fun j d u h1 h2 => ?_⟩, ?_⟩
  · rcases j with _ | _ | _ | j
    · exact r0.part (jj := 0) (by kernel_rfl) h1 h2
    · exact r1.part (jj := 0) (by kernel_rfl) h1 h2
    · exact r2.part (jj := 0) (by kernel_rfl) h1 h2
    · cases h1
  · rw [hx]
    refine w0 ?_ hm
    show (1) + (1) + ((a2.map mu_58).sum + 1) + 1 ≤ _
    omega

def ok_140 (x : Aw) : Prop := (Lit.int .i64 x.Row).wf = true ∧ (Lit.int .i64 x.Col).wf = true ∧ x.Text.length ≤ maxLen ∧ (Lit.int .i64 x.Ref).wf = true ∧ (x.Attrs.length ≤ maxLen ∧ ∀ a ∈ x.Attrs, ok_58 a)
def mu_140 (x : Aw) : Nat := (1) + (1) + (x.Text.length + 1) + (1) + ((x.Attrs.map mu_58).sum + 1) + 1
theorem rd_140 {H : Type} {enc : TypeId × Value → H} {W : World} (K : Gj H) : Bb K enc prog W 140 Aw.row ok_140 mu_140 := by
  intro fuel cs x h
  obtain ⟨hlen, xs, hx, hxl, hf⟩ := Ix (n := 5) underlying140 (by kernel_rfl) h
  obtain ⟨y0, n0, g0, t0⟩ := hf 0 _ rfl
  obtain ⟨y1, n1, g1, t1⟩ := hf 1 _ rfl
  obtain ⟨y2, n2, g2, t2⟩ := hf 2 _ rfl
  obtain ⟨y3, n3, g3, t3⟩ := hf 3 _ rfl
  obtain ⟨y4, n4, g4, t4⟩ := hf 4 _ rfl
  obtain rfl : xs = [y0, y1, y2, y3, y4] := I1 hxl (fun j y hj => by
    rcases j with _ | _ | _ | _ | _ | j
    · cases hj; exact g0
    · cases hj; exact g1
    · cases hj; exact g2
    · cases hj; exact g3
    · cases hj; exact g4
    · cases hj)
  obtain ⟨a0, k0, r0, m0⟩ := ((Bb.int K underlying3)) _ _ _ t0
  obtain ⟨a1, k1, r1, m1⟩ := ((Bb.int K underlying3)) _ _ _ t1
  obtain ⟨a2, k2, r2, m2⟩ := ((Bb.str K underlying9)) _ _ _ t2
  obtain ⟨a3, k3, r3, m3⟩ := ((Bb.int K underlying3)) _ _ _ t3
  obtain ⟨a4, k4, r4, m4⟩ := ((Bb.slice K (sz := 2) underlying39 (by kernel_rfl) (by decide) (rd_58 K) (fun _ => rfl))) _ _ _ t4
  have m0 : 1 ≤ K.B y0.1 := m0
  have m1 : 1 ≤ K.B y1.1 := m1
  have m2 : a2.length + 1 ≤ K.B y2.1 := m2
  have m3 : 1 ≤ K.B y3.1 := m3
  have m4 : (a4.map mu_58).sum + 1 ≤ K.B y4.1 := m4
  have hm := K.agg (List.map (fun z : DataW H × List MemPlace => z.1) [y0, y1, y2, y3, y4])
  simp only [wS, yD, xK, yX] at hm
  refine ⟨⟨a0, a1, a2, a3, a4⟩, ⟨k0, k1, k2, k3, k4⟩, ⟨hlen, fun j d u h1 h2 => ?_⟩, ?_⟩
  · rcases j with _ | _ | _ | _ | _ | j
    · exact r0.part (jj := 0) (by kernel_rfl) h1 h2
    · exact r1.part (jj := 0) (by kernel_rfl) h1 h2
    · exact r2.part (jj := 0) (by kernel_rfl) h1 h2
    · exact r3.part (jj := 0) (by kernel_rfl) h1 h2
    · exact r4.part (jj := 0) (by kernel_rfl) h1 h2
    · cases h1
  · rw [hx]
    refine w0 ?_ hm
    show (1) + (1) + (a2.length + 1) + (1) + ((a4.map mu_58).sum + 1) + 1 ≤ _
    omega

def ok_211 (x : As) : Prop := (Lit.int .i64 x.Row).wf = true ∧ (Lit.int .i64 x.Col).wf = true ∧ (Lit.int .i64 x.H).wf = true ∧ (Lit.int .i64 x.W).wf = true
def mu_211 (x : As) : Nat := (1) + (1) + (1) + (1) + 1
theorem rd_211 {H : Type} {enc : TypeId × Value → H} {W : World} (K : Gj H) : Bb K enc prog W 211 As.row ok_211 mu_211 := by
  intro fuel cs x h
  obtain ⟨hlen, xs, hx, hxl, hf⟩ := Ix (n := 4) underlying211 (by kernel_rfl) h
  obtain ⟨y0, n0, g0, t0⟩ := hf 0 _ rfl
  obtain ⟨y1, n1, g1, t1⟩ := hf 1 _ rfl
  obtain ⟨y2, n2, g2, t2⟩ := hf 2 _ rfl
  obtain ⟨y3, n3, g3, t3⟩ := hf 3 _ rfl
  obtain rfl : xs = [y0, y1, y2, y3] := I1 hxl (fun j y hj => by
    rcases j with _ | _ | _ | _ | j
    · cases hj; exact g0
    · cases hj; exact g1
    · cases hj; exact g2
    · cases hj; exact g3
    · cases hj)
  obtain ⟨a0, k0, r0, m0⟩ := ((Bb.int K underlying3)) _ _ _ t0
  obtain ⟨a1, k1, r1, m1⟩ := ((Bb.int K underlying3)) _ _ _ t1
  obtain ⟨a2, k2, r2, m2⟩ := ((Bb.int K underlying3)) _ _ _ t2
  obtain ⟨a3, k3, r3, m3⟩ := ((Bb.int K underlying3)) _ _ _ t3
  have m0 : 1 ≤ K.B y0.1 := m0
  have m1 : 1 ≤ K.B y1.1 := m1
  have m2 : 1 ≤ K.B y2.1 := m2
  have m3 : 1 ≤ K.B y3.1 := m3
  have hm := K.agg (List.map (fun z : DataW H × List MemPlace => z.1) [y0, y1, y2, y3])
  simp only [wS, yD, xK, yX] at hm
  refine ⟨⟨a0, a1, a2, a3⟩, ⟨k0, k1, k2, k3⟩, ⟨hlen, fun j d u h1 h2 => ?_⟩, ?_⟩
  · rcases j with _ | _ | _ | _ | j
    · exact r0.part (jj := 0) (by kernel_rfl) h1 h2
    · exact r1.part (jj := 0) (by kernel_rfl) h1 h2
    · exact r2.part (jj := 0) (by kernel_rfl) h1 h2
    · exact r3.part (jj := 0) (by kernel_rfl) h1 h2
    · cases h1
  · rw [hx]
    refine w0 ?_ hm
    show (1) + (1) + (1) + (1) + 1 ≤ _
    omega

def ok_43 (x : BW) : Prop := (Lit.int .i64 x.Rows).wf = true ∧ (Lit.int .i64 x.Cols).wf = true ∧ (x.Cells.length ≤ maxLen ∧ ∀ a ∈ x.Cells, ok_140 a) ∧ (x.Merges.length ≤ maxLen ∧ ∀ a ∈ x.Merges, ok_211 a)
def mu_43 (x : BW) : Nat := (1) + (1) + ((x.Cells.map mu_140).sum + 1) + ((x.Merges.map mu_211).sum + 1) + 1
theorem rd_43 {H : Type} {enc : TypeId × Value → H} {W : World} (K : Gj H) : Bb K enc prog W 43 BW.row ok_43 mu_43 := by
  intro fuel cs x h
  obtain ⟨hlen, xs, hx, hxl, hf⟩ := Ix (n := 4) underlying43 (by kernel_rfl) h
  obtain ⟨y0, n0, g0, t0⟩ := hf 0 _ rfl
  obtain ⟨y1, n1, g1, t1⟩ := hf 1 _ rfl
  obtain ⟨y2, n2, g2, t2⟩ := hf 2 _ rfl
  obtain ⟨y3, n3, g3, t3⟩ := hf 3 _ rfl
  obtain rfl : xs = [y0, y1, y2, y3] := I1 hxl (fun j y hj => by
    rcases j with _ | _ | _ | _ | j
    · cases hj; exact g0
    · cases hj; exact g1
    · cases hj; exact g2
    · cases hj; exact g3
    · cases hj)
  obtain ⟨a0, k0, r0, m0⟩ := ((Bb.int K underlying3)) _ _ _ t0
  obtain ⟨a1, k1, r1, m1⟩ := ((Bb.int K underlying3)) _ _ _ t1
  obtain ⟨a2, k2, r2, m2⟩ := ((Bb.slice K (sz := 5) underlying40 (by kernel_rfl) (by decide) (rd_140 K) (fun _ => rfl))) _ _ _ t2
  obtain ⟨a3, k3, r3, m3⟩ := ((Bb.slice K (sz := 4) underlying41 (by kernel_rfl) (by decide) (rd_211 K) (fun _ => rfl))) _ _ _ t3
  have m0 : 1 ≤ K.B y0.1 := m0
  have m1 : 1 ≤ K.B y1.1 := m1
  have m2 : (a2.map mu_140).sum + 1 ≤ K.B y2.1 := m2
  have m3 : (a3.map mu_211).sum + 1 ≤ K.B y3.1 := m3
  have hm := K.agg (List.map (fun z : DataW H × List MemPlace => z.1) [y0, y1, y2, y3])
  simp only [wS, yD, xK, yX] at hm
  refine ⟨⟨a0, a1, a2, a3⟩, ⟨k0, k1, k2, k3⟩, ⟨hlen, fun j d u h1 h2 => ?_⟩, ?_⟩
  · rcases j with _ | _ | _ | _ | j
    · exact r0.part (jj := 0) (by kernel_rfl) h1 h2
    · exact r1.part (jj := 0) (by kernel_rfl) h1 h2
    · exact r2.part (jj := 0) (by kernel_rfl) h1 h2
    · exact r3.part (jj := 0) (by kernel_rfl) h1 h2
    · cases h1
  · rw [hx]
    refine w0 ?_ hm
    show (1) + (1) + ((a2.map mu_140).sum + 1) + ((a3.map mu_211).sum + 1) + 1 ≤ _
    omega

def ok_176 (x : BN) : Prop := (Lit.int .i64 x.Clock).wf = true ∧ (Lit.int .i64 x.Site).wf = true ∧ (Lit.int .i64 x.Kind).wf = true ∧ (Lit.int .i64 x.Item).wf = true ∧ (Lit.int .i64 x.Parent).wf = true ∧ x.Place.length ≤ maxLen ∧ x.Name.length ≤ maxLen ∧ x.Value.length ≤ maxLen
def mu_176 (x : BN) : Nat := (1) + (1) + (1) + (1) + (1) + (x.Place.length + 1) + (x.Name.length + 1) + (x.Value.length + 1) + 1
theorem rd_176 {H : Type} {enc : TypeId × Value → H} {W : World} (K : Gj H) : Bb K enc prog W 176 BN.row ok_176 mu_176 := by
  intro fuel cs x h
  obtain ⟨hlen, xs, hx, hxl, hf⟩ := Ix (n := 8) underlying176 (by kernel_rfl) h
  obtain ⟨y0, n0, g0, t0⟩ := hf 0 _ rfl
  obtain ⟨y1, n1, g1, t1⟩ := hf 1 _ rfl
  obtain ⟨y2, n2, g2, t2⟩ := hf 2 _ rfl
  obtain ⟨y3, n3, g3, t3⟩ := hf 3 _ rfl
  obtain ⟨y4, n4, g4, t4⟩ := hf 4 _ rfl
  obtain ⟨y5, n5, g5, t5⟩ := hf 5 _ rfl
  obtain ⟨y6, n6, g6, t6⟩ := hf 6 _ rfl
  obtain ⟨y7, n7, g7, t7⟩ := hf 7 _ rfl
  obtain rfl : xs = [y0, y1, y2, y3, y4, y5, y6, y7] := I1 hxl (fun j y hj => by
    rcases j with _ | _ | _ | _ | _ | _ | _ | _ | j
    · cases hj; exact g0
    · cases hj; exact g1
    · cases hj; exact g2
    · cases hj; exact g3
    · cases hj; exact g4
    · cases hj; exact g5
    · cases hj; exact g6
    · cases hj; exact g7
    · cases hj)
  obtain ⟨a0, k0, r0, m0⟩ := ((Bb.int K underlying3)) _ _ _ t0
  obtain ⟨a1, k1, r1, m1⟩ := ((Bb.int K underlying3)) _ _ _ t1
  obtain ⟨a2, k2, r2, m2⟩ := ((Bb.int K underlying3)) _ _ _ t2
  obtain ⟨a3, k3, r3, m3⟩ := ((Bb.int K underlying3)) _ _ _ t3
  obtain ⟨a4, k4, r4, m4⟩ := ((Bb.int K underlying3)) _ _ _ t4
  obtain ⟨a5, k5, r5, m5⟩ := ((Bb.str K underlying9)) _ _ _ t5
  obtain ⟨a6, k6, r6, m6⟩ := ((Bb.str K underlying9)) _ _ _ t6
  obtain ⟨a7, k7, r7, m7⟩ := ((Bb.str K underlying9)) _ _ _ t7
  have m0 : 1 ≤ K.B y0.1 := m0
  have m1 : 1 ≤ K.B y1.1 := m1
  have m2 : 1 ≤ K.B y2.1 := m2
  have m3 : 1 ≤ K.B y3.1 := m3
  have m4 : 1 ≤ K.B y4.1 := m4
  have m5 : a5.length + 1 ≤ K.B y5.1 := m5
  have m6 : a6.length + 1 ≤ K.B y6.1 := m6
  have m7 : a7.length + 1 ≤ K.B y7.1 := m7
  have hm := K.agg (List.map (fun z : DataW H × List MemPlace => z.1) [y0, y1, y2, y3, y4, y5, y6, y7])
  simp only [wS, yD, xK, yX] at hm
  refine ⟨⟨a0, a1, a2, a3, a4, a5, a6, a7⟩, ⟨k0, k1, k2, k3, k4, k5, k6, k7⟩, ⟨hlen, fun j d u h1 h2 => ?_⟩, ?_⟩
  · rcases j with _ | _ | _ | _ | _ | _ | _ | _ | j
    · exact r0.part (jj := 0) (by kernel_rfl) h1 h2
    · exact r1.part (jj := 0) (by kernel_rfl) h1 h2
    · exact r2.part (jj := 0) (by kernel_rfl) h1 h2
    · exact r3.part (jj := 0) (by kernel_rfl) h1 h2
    · exact r4.part (jj := 0) (by kernel_rfl) h1 h2
    · exact r5.part (jj := 0) (by kernel_rfl) h1 h2
    · exact r6.part (jj := 0) (by kernel_rfl) h1 h2
    · exact r7.part (jj := 0) (by kernel_rfl) h1 h2
    · cases h1
  · rw [hx]
    refine w0 ?_ hm
    show (1) + (1) + (1) + (1) + (1) + (a5.length + 1) + (a6.length + 1) + (a7.length + 1) + 1 ≤ _
    omega

def ok_46 (x : Ag) : Prop := (Lit.int .i64 x.ID).wf = true ∧ (Lit.int .i64 x.Kind).wf = true ∧ (x.Attrs.length ≤ maxLen ∧ ∀ a ∈ x.Attrs, ok_58 a) ∧ (x.Flow.length ≤ maxLen ∧ ∀ a ∈ x.Flow, ok_51 a) ∧ ok_43 x.Grid ∧ (x.Draw.length ≤ maxLen ∧ ∀ a ∈ x.Draw, ok_176 a)
def mu_46 (x : Ag) : Nat := (1) + (1) + ((x.Attrs.map mu_58).sum + 1) + ((x.Flow.map mu_51).sum + 1) + (mu_43 x.Grid) + ((x.Draw.map mu_176).sum + 1) + 1
theorem rd_46 {H : Type} {enc : TypeId × Value → H} {W : World} (K : Gj H) : Bb K enc prog W 46 Ag.row ok_46 mu_46 := by
  intro fuel cs x h
  obtain ⟨hlen, xs, hx, hxl, hf⟩ := Ix (n := 9) underlying46 (by kernel_rfl) h
  obtain ⟨y0, n0, g0, t0⟩ := hf 0 _ rfl
  obtain ⟨y1, n1, g1, t1⟩ := hf 1 _ rfl
  obtain ⟨y2, n2, g2, t2⟩ := hf 2 _ rfl
  obtain ⟨y3, n3, g3, t3⟩ := hf 3 _ rfl
  obtain ⟨y4, n4, g4, t4⟩ := hf 4 _ rfl
  obtain ⟨y5, n5, g5, t5⟩ := hf 5 _ rfl
  obtain rfl : xs = [y0, y1, y2, y3, y4, y5] := I1 hxl (fun j y hj => by
    rcases j with _ | _ | _ | _ | _ | _ | j
    · cases hj; exact g0
    · cases hj; exact g1
    · cases hj; exact g2
    · cases hj; exact g3
    · cases hj; exact g4
    · cases hj; exact g5
    · cases hj)
  obtain ⟨a0, k0, r0, m0⟩ := ((Bb.int K underlying3)) _ _ _ t0
  obtain ⟨a1, k1, r1, m1⟩ := ((Bb.int K underlying3)) _ _ _ t1
  obtain ⟨a2, k2, r2, m2⟩ := ((Bb.slice K (sz := 2) underlying39 (by kernel_rfl) (by decide) (rd_58 K) (fun _ => rfl))) _ _ _ t2
  obtain ⟨a3, k3, r3, m3⟩ := ((Bb.slice K (sz := 3) underlying36 (by kernel_rfl) (by decide) (rd_51 K) (fun _ => rfl))) _ _ _ t3
  obtain ⟨a4, k4, r4, m4⟩ := ((rd_43 K)) _ _ _ t4
  obtain ⟨a5, k5, r5, m5⟩ := ((Bb.slice K (sz := 8) underlying44 (by kernel_rfl) (by decide) (rd_176 K) (fun _ => rfl))) _ _ _ t5
  have m0 : 1 ≤ K.B y0.1 := m0
  have m1 : 1 ≤ K.B y1.1 := m1
  have m2 : (a2.map mu_58).sum + 1 ≤ K.B y2.1 := m2
  have m3 : (a3.map mu_51).sum + 1 ≤ K.B y3.1 := m3
  have m4 : mu_43 a4 ≤ K.B y4.1 := m4
  have m5 : (a5.map mu_176).sum + 1 ≤ K.B y5.1 := m5
  have hm := K.agg (List.map (fun z : DataW H × List MemPlace => z.1) [y0, y1, y2, y3, y4, y5])
  simp only [wS, yD, xK, yX] at hm
  refine ⟨⟨a0, a1, a2, a3, a4, a5⟩, ⟨k0, k1, k2, k3, k4, k5⟩, ⟨hlen, fun j d u h1 h2 => ?_⟩, ?_⟩
  · rcases j with _ | _ | _ | _ | _ | _ | _ | _ | _ | j
    · exact r0.part (jj := 0) (by kernel_rfl) h1 h2
    · exact r1.part (jj := 0) (by kernel_rfl) h1 h2
    · exact r2.part (jj := 0) (by kernel_rfl) h1 h2
    · exact r3.part (jj := 0) (by kernel_rfl) h1 h2
    · exact r4.part (jj := 0) (by kernel_rfl) h1 h2
    · exact r4.part (jj := 1) (by kernel_rfl) h1 h2
    · exact r4.part (jj := 2) (by kernel_rfl) h1 h2
    · exact r4.part (jj := 3) (by kernel_rfl) h1 h2
    · exact r5.part (jj := 0) (by kernel_rfl) h1 h2
    · cases h1
  · rw [hx]
    refine w0 ?_ hm
    show (1) + (1) + ((a2.map mu_58).sum + 1) + ((a3.map mu_51).sum + 1) + (mu_43 a4) + ((a5.map mu_176).sum + 1) + 1 ≤ _
    omega

def ok_24 (x : B0) : Prop := (x.Nodes.length ≤ maxLen ∧ ∀ a ∈ x.Nodes, ok_46 a)
def mu_24 (x : B0) : Nat := ((x.Nodes.map mu_46).sum + 1) + 1
theorem rd_24 {H : Type} {enc : TypeId × Value → H} {W : World} (K : Gj H) : Bb K enc prog W 24 B0.row ok_24 mu_24 := by
  intro fuel cs x h
  obtain ⟨hlen, xs, hx, hxl, hf⟩ := Ix (n := 1) underlying24 (by kernel_rfl) h
  obtain ⟨y0, n0, g0, t0⟩ := hf 0 _ rfl
  obtain rfl : xs = [y0] := I1 hxl (fun j y hj => by
    rcases j with _ | j
    · cases hj; exact g0
    · cases hj)
  obtain ⟨a0, k0, r0, m0⟩ := ((Bb.slice K (sz := 9) underlying22 (by kernel_rfl) (by decide) (rd_46 K) (fun _ => rfl))) _ _ _ t0
  have m0 : (a0.map mu_46).sum + 1 ≤ K.B y0.1 := m0
  have hm := K.agg (List.map (fun z : DataW H × List MemPlace => z.1) [y0])
  simp only [wS, yD, xK, yX] at hm
  refine ⟨⟨a0⟩, k0, ⟨hlen, fun j d u h1 h2 => ?_⟩, ?_⟩
  · rcases j with _ | j
    · exact r0.part (jj := 0) (by kernel_rfl) h1 h2
    · cases h1
  · rw [hx]
    refine w0 ?_ hm
    show ((a0.map mu_46).sum + 1) + 1 ≤ _
    omega

def ok_26 (x : BK) : Prop := (Lit.int .i64 x.Node).wf = true ∧ (Lit.int .i64 x.From).wf = true ∧ (Lit.int .i64 x.To).wf = true
def mu_26 (x : BK) : Nat := (1) + (1) + (1) + 1
theorem rd_26 {H : Type} {enc : TypeId × Value → H} {W : World} (K : Gj H) : Bb K enc prog W 26 BK.row ok_26 mu_26 := by
  intro fuel cs x h
  obtain ⟨hlen, xs, hx, hxl, hf⟩ := Ix (n := 3) underlying26 (by kernel_rfl) h
  obtain ⟨y0, n0, g0, t0⟩ := hf 0 _ rfl
  obtain ⟨y1, n1, g1, t1⟩ := hf 1 _ rfl
  obtain ⟨y2, n2, g2, t2⟩ := hf 2 _ rfl
  obtain rfl : xs = [y0, y1, y2] := I1 hxl (fun j y hj => by
    rcases j with _ | _ | _ | j
    · cases hj; exact g0
    · cases hj; exact g1
    · cases hj; exact g2
    · cases hj)
  obtain ⟨a0, k0, r0, m0⟩ := ((Bb.int K underlying3)) _ _ _ t0
  obtain ⟨a1, k1, r1, m1⟩ := ((Bb.int K underlying3)) _ _ _ t1
  obtain ⟨a2, k2, r2, m2⟩ := ((Bb.int K underlying3)) _ _ _ t2
  have m0 : 1 ≤ K.B y0.1 := m0
  have m1 : 1 ≤ K.B y1.1 := m1
  have m2 : 1 ≤ K.B y2.1 := m2
  have hm := K.agg (List.map (fun z : DataW H × List MemPlace => z.1) [y0, y1, y2])
  simp only [wS, yD, xK, yX] at hm
  refine ⟨⟨a0, a1, a2⟩, ⟨k0, k1, k2⟩, ⟨hlen, fun j d u h1 h2 => ?_⟩, ?_⟩
  · rcases j with _ | _ | _ | j
    · exact r0.part (jj := 0) (by kernel_rfl) h1 h2
    · exact r1.part (jj := 0) (by kernel_rfl) h1 h2
    · exact r2.part (jj := 0) (by kernel_rfl) h1 h2
    · cases h1
  · rw [hx]
    refine w0 ?_ hm
    show (1) + (1) + (1) + 1 ≤ _
    omega

theorem tabs {W : World} (h : laidMetH prog Rows.selectionTypeMatchesUptoRow.laid W) : GB (Cx.start W) := by
  have h' : laidMet prog Rows.selectionTypeMatchesUptoRow.laid W := h
  refine rM (d1 := Go.Pinned.utf8First) (d2 := Rows.laid_unicode_utf8_acceptRanges) (t1 := 203) (t2 := 206) (e1 := 5) (e2 := 205) (Go.Lib.laidMet.reads h' ?_) (by kernel_rfl) (by kernel_rfl) (by kernel_rfl) underlying203 underlying5 (by kernel_rfl) (by kernel_rfl)
    (Go.Lib.laidMet.reads h' ?_) (by kernel_rfl) (by kernel_rfl) (by kernel_rfl) underlying206 underlying205 (fun i f hf => ?_) rfl (by kernel_rfl)
  · exact .tail _ (.tail _ (.tail _ (.tail _ (.tail _ (.tail _ (.head _))))))
  · exact .tail _ (.tail _ (.tail _ (.head _)))
  · rcases i with _ | _ | i
    · cases hf; exact ⟨underlying5, rfl, by kernel_rfl⟩
    · cases hf; exact ⟨underlying5, rfl, by kernel_rfl⟩
    · cases hf

set_option maxRecDepth 100000 in
theorem contract (H : Type) (enc : TypeId × Value → H) (W : World) (base : Nat) (args : Array Value) (ds gs : List (DataW H)) (before : List MemPlace)
    (hval : ∀ (j : Nat) t v, Tryz.f3.params[j]? = some t → args[j]? = some v → Value.okWide prog W .any base t v)
    (hW : DataW.Whole enc prog Tryz.f3.params.toList Rows.selectionTypeMatchesSpec.vars false W args.toList ds gs before) (hk0 : Rows.uptoSmall H (ds ++ gs) = true) (hL : laidMetH prog Rows.selectionTypeMatchesUptoRow.laid W) :
    Calls prog 3 args W fun e W' => ∃ v, e = .returned v ∧ Rows.selectionTypeMatchesSpec.post enc prog Tryz.f3 false true false false W args v W' := by
  have hW' := hW
  obtain ⟨p, q, hA0, hV, rfl, hfz, hnd⟩ := hW
  have hA : DataW.TrodAll enc prog W 0 (fun _ => true) true Tryz.f3.params.toList args.toList ds p := hA0
  rw [Tryz.params3] at hA hval
  obtain ⟨v0, vs0, d0, ds0, p0, q0, hargs, rfl, rfl, h0, e0⟩ := trodAll_cons hA
  obtain ⟨v1, vs1, d1, ds1, p1, q1, rfl, rfl, rfl, h1, e1⟩ := trodAll_cons e0
  obtain ⟨v2, vs2, d2, ds2, p2, q2, rfl, rfl, rfl, h2, e2⟩ := trodAll_cons e1
  obtain ⟨v3, vs3, d3, ds3, p3, q3, rfl, rfl, rfl, h3, e3⟩ := trodAll_cons e2
  obtain ⟨rfl, rfl, rfl⟩ := trodAll_nil e3
  obtain rfl : args = #[v0, v1, v2, v3] := by cases args; simp_all
  obtain ⟨rfl, rfl⟩ := trodVars_none hV
  have hk : (blk H).B d0 + (blk H).B d1 + (blk H).B d2 + (blk H).B d3 ≤ 1048576 := by
    have := xu hk0
    simp only [wR, Rows.uptoBulkAll] at this
    show Rows.uptoBulk d0 + Rows.uptoBulk d1 + Rows.uptoBulk d2 + Rows.uptoBulk d3 ≤ 1048576
    omega
  obtain ⟨x0, k0, r0, m0⟩ := eq (blk H) underlying24 (rd_24 (blk H)) (hval 0 24 v0 rfl rfl) h0
  obtain ⟨x1, k1, r1, m1⟩ := eq (blk H) underlying26 (rd_26 (blk H)) (hval 1 26 v1 rfl rfl) h1
  obtain ⟨x2, k2, r2, m2⟩ := Z3 (blk H) underlying9 (hval 2 9 v2 rfl rfl) h2
  obtain ⟨x3, k3, r3, m3⟩ := Z3 (blk H) underlying9 (hval 3 9 v3 rfl rfl) h3
  clear hA0
  have h0 := mI (μ := mu_46) (γ := mu_43) (ψ := mu_140) (ρ := mu_211) (δ := mu_176) (ν := mu_51) (κ := mu_58) (fun n => by unfold mu_46; omega) (fun g => by unfold mu_43; omega) (fun c => by unfold mu_140; omega) (fun r => by unfold mu_211; omega) (fun o => by unfold mu_176; omega) (fun e => by unfold mu_51; omega) (fun a => by unfold mu_58; omega) (d := x0) (by have m0' := m0; unfold mu_24 at m0'; omega)
  have h5 := ph (μ := mu_46) (ν := mu_51) (κ := mu_58) (fun n => by unfold mu_46; omega) (fun e => by unfold mu_51; omega) (fun a => by unfold mu_58; omega) (d := x0) (by have m0' := m0; unfold mu_24 at m0'; omega)
  have hp := tX x0 x1 x2 x3 h0 h5 (by omega) (by omega)
  obtain ⟨_, _, hc⟩ := jS hp
  refine (hc (Cx.start W) #[v0, v1, v2, v3] (vi W (tabs hL)) rfl ⟨rfl, fun i a u k1 k2 => ?_⟩).mono fun e W' ⟨u, y, he, hy, hle, hok, hr⟩ => ?_
  · rcases i with _ | _ | _ | _ | i
    · cases k1; cases k2; exact r0
    · cases k1; cases k2; exact r1
    · cases k1; cases k2; exact .r r2
    · cases k1; cases k2; exact .r r3
    · cases k1
  · subst he; subst hy
    obtain rfl := HC hr
    exact ⟨_, rfl, pz (by kernel_rfl) (by rw [Tryz.params3]; intro t ht; simp at ht; rcases ht with rfl | rfl | rfl <;> exact ⟨by kernel_rfl, xu (by kernel_rfl)⟩) rfl hW' hle rfl rfl
      (fun _ _ _ => trodAll_cons_mk (shut_bool underlying4 _) trodAll_mk0)⟩

/-- A world for the witness: the settled one, the two tables laid. -/
def lay (cs : List Value) : Obj → Obj
  | .cells _ t frozen => .cells cs.toArray t frozen
  | o => o
def litsOf : DataW Unit → List Value
  | .agg l => l.map fun d => match d with | .lit (.int k z) => Value.int k z | _ => undef
  | _ => []
def textOf : DataW Unit → Value
  | .iface _ (.ptr (.agg [.lit (.string s)])) => Value.string ⟨s.toArray⟩
  | _ => undef
noncomputable def holdW (os : Os) : World := World.holding prog os ⟨#[], #[], []⟩
noncomputable def laidWorld (os : Os) : World :=
  { holdW os with heap := ((((((((((holdW os).heap.modify 6 (lay (litsOf Rows.laid_math_bits_deBruijn32tab))).modify 7 (lay (litsOf Rows.laid_math_bits_deBruijn64tab))).modify 4 (lay (litsOf Rows.laid_internal_strconv_uint64pow10))).modify JA (lay (JV.flatMap fun p => [Value.int .u8 p.1, Value.int .u8 p.2]))).modify 3 (lay [Value.iface 412 (.pointer (some ⟨(holdW os).heap.size + 0, 0, none⟩))])).modify 2 (lay [Value.iface 412 (.pointer (some ⟨(holdW os).heap.size + 1, 0, none⟩))])).modify Ig (lay (Fe.map fun z => Value.int .u8 z))).push (Obj.cells #[textOf Rows.laid_strconv_ErrRange] 414 (0, 0))).push (Obj.cells #[textOf Rows.laid_strconv_ErrSyntax] 414 (0, 0))) }
theorem laid_met (os : Os) : laidMet prog Rows.selectionTypeMatchesUptoRow.laid ((laidWorld os).forCall (fun _ _ => 0) ⟨#[], #[.agg #[.slice none 0 0], .agg #[.int .i64 0, .int .i64 0, .int .i64 0], .string ⟨#[]⟩, .string ⟨#[]⟩], []⟩).memory :=
  laidMet_of_run' 8 (by kernel_rfl) (by kernel_rfl)
theorem reads (os : Os) {H : Type} (enc : TypeId × Value → H) : ∃ places, DataW.whole enc prog ((laidWorld os).forCall (fun _ _ => 0) ⟨#[], #[.agg #[.slice none 0 0], .agg #[.int .i64 0, .int .i64 0, .int .i64 0], .string ⟨#[]⟩, .string ⟨#[]⟩], []⟩).memory Tryz.f3.params.toList Rows.selectionTypeMatchesSpec.vars false (#[.agg #[.slice none 0 0], .agg #[.int .i64 0, .int .i64 0, .int .i64 0], .string ⟨#[]⟩, .string ⟨#[]⟩] : Array Value).toList 8 = some ([.agg [.nil], .agg [.lit (.int .i64 0), .lit (.int .i64 0), .lit (.int .i64 0)], .lit (.string []), .lit (.string [])], [], places) :=
  ⟨[], by kernel_rfl⟩

set_option maxRecDepth 100000 in
theorem lifted (os : Os) (started : os.Started) (H : Type) (enc : TypeId × Value → H) (F : Stop.Interp) :
    ReturnsInHanded {} Tryz.checked os 3 .any ((Rows.OpenSpec.upto Rows.selectionTypeMatchesSpec).preRow enc prog Tryz.f3 Rows.selectionTypeMatchesUptoRow.domain false Rows.selectionTypeMatchesUptoRow.laid) (((Rows.OpenSpec.upto Rows.selectionTypeMatchesSpec).at F).post enc prog Tryz.f3 false true false false) := by
  obtain ⟨places, hx⟩ := reads os enc
  refine returnsInHanded_of_row (C := Tryz.checked) (s := Rows.OpenSpec.upto Rows.selectionTypeMatchesSpec) own started (by kernel_rfl) func3
    (witness_row_at (enc := enc) (C := Tryz.checked) false (laidWorld os) #[.agg #[.slice none 0 0], .agg #[.int .i64 0, .int .i64 0, .int .i64 0], .string ⟨#[]⟩, .string ⟨#[]⟩] rfl (by kernel_rfl) (by kernel_rfl) (by kernel_rfl)
      (OpenSpec.preRow_of_cond 8 hx (by kernel_rfl) (fun k hk => by cases hk; kernel_rfl) (by kernel_rfl) (laid_met os))) ?_
  intro W base args ds gs before hval hW _ hk _ hL _ _
  exact contract H enc W base args ds gs before hval hW (hk _ rfl) hL

theorem and_tt {a b : Bool} (ha : a = true) (hb : b = true) : (a && b) = true := by rw [ha, hb]; rfl
set_option maxHeartbeats 4000000 in
theorem closed : joinedFacts prog 3 Tryz.f3 (Rows.OpenSpec.upto Rows.selectionTypeMatchesSpec).bare Rows.selectionTypeMatchesUptoRow = true := by
  unfold joinedFacts
  iterate 31 refine and_tt ?_ (by as_aux_lemma => kernel_rfl)
  kernel_rfl
theorem goes_apart {P : Program} {c : OpenClaim} (hs : c.start = .entering) (h : P.funcs.any Func.goes = false) : false = c.goesBy P := by
  have h' : ∀ g : FuncId, (P.funcs[g]?).any Func.goes = false := fun g => by
    cases e : P.funcs[g]? with
    | none => rfl
    | some x =>
      obtain ⟨hg, rfl⟩ := ww.1 e
      exact xt.2 fun hx => (xt.1 h) (Array.any_eq_true.2 ⟨g, hg, hx⟩)
  unfold OpenClaim.goesBy Program.goesAt Program.goesFrom Program.goes
  rw [hs, h]
  cases P.funcNamed c.func with
  | none => rfl
  | some f => simp [h']
theorem goes_not : prog.funcs.any Func.goes = false := by kernel_rfl

theorem over : Rows.SelectionTypeMatchesUptoSaid :=
  OpenClaim.holds_of_cond 3 Tryz.f3 rfl rfl rfl rfl rfl rfl rfl ⟨rfl, rfl, rfl, rfl, rfl⟩ rfl rfl rfl rfl rfl (by kernel_rfl) func3 closed
    (xu (by kernel_rfl)) (by unfold Func.isWrapper; first | (rw [vx (by decide +kernel)]; kernel_rfl) | (rw [ne (by decide +kernel)]; exact ⟨rfl, rfl⟩))
    (fun os started H enc _ F => by rw [OpenClaim.pre_eq_preRow]; exact lifted os started H enc F)

theorem plain (f : FuncId) (fn : Func) (hf : Tryz.pinned.checked.prog.funcNamed "chancery/chancerylaw1.SelectionTypeMatches" = some f) (hfn : Tryz.pinned.checked.prog.funcs[f]? = some fn) :
    true = Tryz.pinned.checked.prog.looks [] ∧ ∀ (j : Nat) t, fn.params[j]? = some t → Tryz.pinned.checked.prog.wantsStandIn t = false := by
  obtain rfl : f = 3 := wo ((show prog.funcNamed "chancery/chancerylaw1.SelectionTypeMatches" = some 3 by kernel_rfl).symm.trans hf) |>.symm
  obtain rfl : fn = Tryz.f3 := (wo (func3.symm.trans hfn)).symm
  refine ⟨by kernel_rfl, fun j t ht => ?_⟩
  rw [Tryz.params3] at ht
  rcases j with _ | _ | _ | _ | j
  · cases ht; exact (show prog.wantsStandIn 24 = false by kernel_rfl)
  · cases ht; exact (show prog.wantsStandIn 26 = false by kernel_rfl)
  · cases ht; exact (show prog.wantsStandIn 9 = false by kernel_rfl)
  · cases ht; exact (show prog.wantsStandIn 9 = false by kernel_rfl)
  · cases ht

theorem proved : Rows.SelectionTypeMatchesUptoCardSaid :=
  Claim7.holds_tied_plain_at .later [] _ _ _ _ over (fun _ h => by cases h) (by kernel_rfl) (fun _ h => by cases h) selectionTypeMatchesUpto_row_tie rfl ⟨rfl, rfl⟩ (by kernel_rfl) rfl plain (goes_apart rfl goes_not)
#print axioms proved
end Go.Proofs.YtdafahjmopdleaaGreatDoor.Al.RSelType
