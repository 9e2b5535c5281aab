/-
  PROVED: 'EditNameMatches' returns true whatever its arguments of bulk at most 1048576 are, and leaves them as they were (statement 'EditNameMatchesUptoCardSaid'). Conditions: none but the bulk.
-/
import Derived.Test.YtmeadkhpiobenaaGreatDoorWlk301x2
import Derived.Deep.DeepHandedRow
import Derived.JoinedCond
import Derived.Lib.LaidTab
import Derived.OpenShut
import Derived.ProofKit
import Derived.Test.YtmeadkhpiobenaaGreatDoorCards
import Derived.Test.YtmeadkhpiobenaaGreatDoorChecked
import Derived.Test.YtmeadkhpiobenaaGreatDoorRows
import Derived.Test.YtmeadkhpiobenaaGreatDoorTie
import Derived.WalkKit
set_option linter.all false
namespace Go.Proofs.YtmeadkhpiobenaaGreatDoor.Al.REditName
open Go.Proofs Go.Proofs.Tryz Go.Proofs.YtmeadkhpiobenaaGreatDoor.Al Go.Proofs.YtmeadkhpiobenaaGreatDoor
open Go.ChangeShapes Go.WideShapes Go.ChangeAt Go.RowKit
set_option linter.unusedVariables false

theorem own : ownKnob prog.godebug = none := by kernel_rfl

theorem blk_all {H : Type} (l : List (DataW H)) : (l.map Rows.uptoBulk).sum = Rows.uptoBulkAll l := by
  induction l with
  | nil => simp [Rows.uptoBulkAll]
  | cons d l ih => rw [rq, sv, ih, Rows.uptoBulkAll]
def blk (H : Type) : GN H where
  B := Rows.uptoBulk
  one := fun d => by
    cases d with
    | lit l => cases l <;> simp [Rows.uptoBulk]
    | nil => simp [Rows.uptoBulk]
    | ptr d => simp [Rows.uptoBulk]
    | slice elems spare => simp [Rows.uptoBulk]
    | agg parts => simp [Rows.uptoBulk]
    | iface t d => simp [Rows.uptoBulk]
    | map entries => simp [Rows.uptoBulk]
    | held h => simp [Rows.uptoBulk]
  str := fun s => by simp [Rows.uptoBulk]
  sl := fun l r => by rw [blk_all, Rows.uptoBulk]; omega
  agg := fun l => by rw [blk_all, Rows.uptoBulk]; omega
def ok_91 (x : AE) : Prop := x.Name.length ≤ maxLen ∧ x.Value.length ≤ maxLen
def mu_91 (x : AE) : Nat := (x.Name.length + 1) + (x.Value.length + 1) + 1
theorem rd_91 {H : Type} {enc : TypeId × Value → H} {W : World} (K : GN H) : BW K enc prog W 91 AE.row ok_91 mu_91 := by
  intro fuel cs x h
  obtain ⟨hlen, xs, hx, hxl, hf⟩ := Io (n := 2) underlying91 (by kernel_rfl) h
  obtain ⟨y0, n0, g0, t0⟩ := hf 0 _ rfl
  obtain ⟨y1, n1, g1, t1⟩ := hf 1 _ rfl
  obtain rfl : xs = [y0, y1] := JI hxl (fun j y hj => by
    rcases j with _ | _ | j
    · cases hj; exact g0
    · cases hj; exact g1
    · cases hj)
  obtain ⟨a0, k0, r0, m0⟩ := ((BW.str K underlying9)) _ _ _ t0
  obtain ⟨a1, k1, r1, m1⟩ := ((BW.str K underlying9)) _ _ _ t1
  have m0 : a0.length + 1 ≤ K.B y0.1 := m0
  have m1 : a1.length + 1 ≤ K.B y1.1 := m1
  have hm := K.agg (List.map (fun z : DataW H × List MemPlace => z.1) [y0, y1])
  simp only [rq, s7, sv, tl] at hm
  refine ⟨⟨a0, a1⟩, ⟨k0, k1⟩, ⟨hlen, fun j d u h1 h2 => ?_⟩, ?_⟩
  · rcases j with _ | _ | j
    · exact r0.part (jj := 0) (by kernel_rfl) h1 h2
    · exact r1.part (jj := 0) (by kernel_rfl) h1 h2
    · cases h1
  · rw [hx]
    refine rZ ?_ hm
    show (a0.length + 1) + (a1.length + 1) + 1 ≤ _
    omega

def ok_69 (x : An) : Prop := (Lit.int .i64 x.Char).wf = true ∧ (Lit.int .i64 x.Ref).wf = true ∧ (x.Attrs.length ≤ maxLen ∧ ∀ a ∈ x.Attrs, ok_91 a)
def mu_69 (x : An) : Nat := (1) + (1) + ((x.Attrs.map mu_91).sum + 1) + 1
theorem rd_69 {H : Type} {enc : TypeId × Value → H} {W : World} (K : GN H) : BW K enc prog W 69 An.row ok_69 mu_69 := by
  intro fuel cs x h
  obtain ⟨hlen, xs, hx, hxl, hf⟩ := Io (n := 3) underlying69 (by kernel_rfl) h
  obtain ⟨y0, n0, g0, t0⟩ := hf 0 _ rfl
  obtain ⟨y1, n1, g1, t1⟩ := hf 1 _ rfl
  obtain ⟨y2, n2, g2, t2⟩ := hf 2 _ rfl
  obtain rfl : xs = [y0, y1, y2] := JI hxl (fun j y hj => by
    rcases j with _ | _ | _ | j
    · cases hj; exact g0
    · cases hj; exact g1
    · cases hj; exact g2
    · cases hj)
  obtain ⟨a0, k0, r0, m0⟩ := ((BW.int K underlying3)) _ _ _ t0
  obtain ⟨a1, k1, r1, m1⟩ := ((BW.int K underlying3)) _ _ _ t1
  obtain ⟨a2, k2, r2, m2⟩ := ((BW.slice K (sz := 2) underlying32 (by kernel_rfl) (by decide) (rd_91 K) (fun _ => rfl))) _ _ _ t2
  have m0 : 1 ≤ K.B y0.1 := m0
  have m1 : 1 ≤ K.B y1.1 := m1
  have m2 : (a2.map mu_91).sum + 1 ≤ K.B y2.1 := m2
  have hm := K.agg (List.map (fun z : DataW H × List MemPlace => z.1) [y0, y1, y2])
  simp only [rq, s7, sv, tl] at hm
  refine ⟨⟨a0, a1, a2⟩, ⟨k0, k1, k2⟩, ⟨hlen, fun j d u h1 h2 => ?_⟩, ?_⟩
  · rcases j with _ | _ | _ | j
    · exact r0.part (jj := 0) (by kernel_rfl) h1 h2
    · exact r1.part (jj := 0) (by kernel_rfl) h1 h2
    · exact r2.part (jj := 0) (by kernel_rfl) h1 h2
    · cases h1
  · rw [hx]
    refine rZ ?_ hm
    show (1) + (1) + ((a2.map mu_91).sum + 1) + 1 ≤ _
    omega

def ok_104 (x : Ao) : Prop := (Lit.int .i64 x.Row).wf = true ∧ (Lit.int .i64 x.Col).wf = true ∧ x.Text.length ≤ maxLen ∧ (Lit.int .i64 x.Ref).wf = true ∧ (x.Attrs.length ≤ maxLen ∧ ∀ a ∈ x.Attrs, ok_91 a)
def mu_104 (x : Ao) : Nat := (1) + (1) + (x.Text.length + 1) + (1) + ((x.Attrs.map mu_91).sum + 1) + 1
theorem rd_104 {H : Type} {enc : TypeId × Value → H} {W : World} (K : GN H) : BW K enc prog W 104 Ao.row ok_104 mu_104 := by
  intro fuel cs x h
  obtain ⟨hlen, xs, hx, hxl, hf⟩ := Io (n := 5) underlying104 (by kernel_rfl) h
  obtain ⟨y0, n0, g0, t0⟩ := hf 0 _ rfl
  obtain ⟨y1, n1, g1, t1⟩ := hf 1 _ rfl
  obtain ⟨y2, n2, g2, t2⟩ := hf 2 _ rfl
  obtain ⟨y3, n3, g3, t3⟩ := hf 3 _ rfl
  obtain ⟨y4, n4, g4, t4⟩ := hf 4 _ rfl
  obtain rfl : xs = [y0, y1, y2, y3, y4] := JI hxl (fun j y hj => by
    rcases j with _ | _ | _ | _ | _ | j
    · cases hj; exact g0
    · cases hj; exact g1
    · cases hj; exact g2
    · cases hj; exact g3
    · cases hj; exact g4
    · cases hj)
  obtain ⟨a0, k0, r0, m0⟩ := ((BW.int K underlying3)) _ _ _ t0
  obtain ⟨a1, k1, r1, m1⟩ := ((BW.int K underlying3)) _ _ _ t1
  obtain ⟨a2, k2, r2, m2⟩ := ((BW.str K underlying9)) _ _ _ t2
  obtain ⟨a3, k3, r3, m3⟩ := ((BW.int K underlying3)) _ _ _ t3
  obtain ⟨a4, k4, r4, m4⟩ := ((BW.slice K (sz := 2) underlying32 (by kernel_rfl) (by decide) (rd_91 K) (fun _ => rfl))) _ _ _ t4
  have m0 : 1 ≤ K.B y0.1 := m0
  have m1 : 1 ≤ K.B y1.1 := m1
  have m2 : a2.length + 1 ≤ K.B y2.1 := m2
  have m3 : 1 ≤ K.B y3.1 := m3
  have m4 : (a4.map mu_91).sum + 1 ≤ K.B y4.1 := m4
  have hm := K.agg (List.map (fun z : DataW H × List MemPlace => z.1) [y0, y1, y2, y3, y4])
  simp only [rq, s7, sv, tl] at hm
  refine ⟨⟨a0, a1, a2, a3, a4⟩, ⟨k0, k1, k2, k3, k4⟩, ⟨hlen, fun j d u h1 h2 => ?_⟩, ?_⟩
  · rcases j with _ | _ | _ | _ | _ | j
    · exact r0.part (jj := 0) (by kernel_rfl) h1 h2
    · exact r1.part (jj := 0) (by kernel_rfl) h1 h2
    · exact r2.part (jj := 0) (by kernel_rfl) h1 h2
    · exact r3.part (jj := 0) (by kernel_rfl) h1 h2
    · exact r4.part (jj := 0) (by kernel_rfl) h1 h2
    · cases h1
  · rw [hx]
    refine rZ ?_ hm
    show (1) + (1) + (a2.length + 1) + (1) + ((a4.map mu_91).sum + 1) + 1 ≤ _
    omega

def ok_154 (x : Ak) : Prop := (Lit.int .i64 x.Row).wf = true ∧ (Lit.int .i64 x.Col).wf = true ∧ (Lit.int .i64 x.H).wf = true ∧ (Lit.int .i64 x.W).wf = true
def mu_154 (x : Ak) : Nat := (1) + (1) + (1) + (1) + 1
theorem rd_154 {H : Type} {enc : TypeId × Value → H} {W : World} (K : GN H) : BW K enc prog W 154 Ak.row ok_154 mu_154 := by
  intro fuel cs x h
  obtain ⟨hlen, xs, hx, hxl, hf⟩ := Io (n := 4) underlying154 (by kernel_rfl) h
  obtain ⟨y0, n0, g0, t0⟩ := hf 0 _ rfl
  obtain ⟨y1, n1, g1, t1⟩ := hf 1 _ rfl
  obtain ⟨y2, n2, g2, t2⟩ := hf 2 _ rfl
  obtain ⟨y3, n3, g3, t3⟩ := hf 3 _ rfl
  obtain rfl : xs = [y0, y1, y2, y3] := JI hxl (fun j y hj => by
    rcases j with _ | _ | _ | _ | j
    · cases hj; exact g0
    · cases hj; exact g1
    · cases hj; exact g2
    · cases hj; exact g3
    · cases hj)
  obtain ⟨a0, k0, r0, m0⟩ := ((BW.int K underlying3)) _ _ _ t0
  obtain ⟨a1, k1, r1, m1⟩ := ((BW.int K underlying3)) _ _ _ t1
  obtain ⟨a2, k2, r2, m2⟩ := ((BW.int K underlying3)) _ _ _ t2
  obtain ⟨a3, k3, r3, m3⟩ := ((BW.int K underlying3)) _ _ _ t3
  have m0 : 1 ≤ K.B y0.1 := m0
  have m1 : 1 ≤ K.B y1.1 := m1
  have m2 : 1 ≤ K.B y2.1 := m2
  have m3 : 1 ≤ K.B y3.1 := m3
  have hm := K.agg (List.map (fun z : DataW H × List MemPlace => z.1) [y0, y1, y2, y3])
  simp only [rq, s7, sv, tl] at hm
  refine ⟨⟨a0, a1, a2, a3⟩, ⟨k0, k1, k2, k3⟩, ⟨hlen, fun j d u h1 h2 => ?_⟩, ?_⟩
  · rcases j with _ | _ | _ | _ | j
    · exact r0.part (jj := 0) (by kernel_rfl) h1 h2
    · exact r1.part (jj := 0) (by kernel_rfl) h1 h2
    · exact r2.part (jj := 0) (by kernel_rfl) h1 h2
    · exact r3.part (jj := 0) (by kernel_rfl) h1 h2
    · cases h1
  · rw [hx]
    refine rZ ?_ hm
    show (1) + (1) + (1) + (1) + 1 ≤ _
    omega

def ok_37 (x : BF) : Prop := (Lit.int .i64 x.Rows).wf = true ∧ (Lit.int .i64 x.Cols).wf = true ∧ (x.Cells.length ≤ maxLen ∧ ∀ a ∈ x.Cells, ok_104 a) ∧ (x.Merges.length ≤ maxLen ∧ ∀ a ∈ x.Merges, ok_154 a)
def mu_37 (x : BF) : Nat := (1) + (1) + ((x.Cells.map mu_104).sum + 1) + ((x.Merges.map mu_154).sum + 1) + 1
theorem rd_37 {H : Type} {enc : TypeId × Value → H} {W : World} (K : GN H) : BW K enc prog W 37 BF.row ok_37 mu_37 := by
  intro fuel cs x h
  obtain ⟨hlen, xs, hx, hxl, hf⟩ := Io (n := 4) underlying37 (by kernel_rfl) h
  obtain ⟨y0, n0, g0, t0⟩ := hf 0 _ rfl
  obtain ⟨y1, n1, g1, t1⟩ := hf 1 _ rfl
  obtain ⟨y2, n2, g2, t2⟩ := hf 2 _ rfl
  obtain ⟨y3, n3, g3, t3⟩ := hf 3 _ rfl
  obtain rfl : xs = [y0, y1, y2, y3] := JI hxl (fun j y hj => by
    rcases j with _ | _ | _ | _ | j
    · cases hj; exact g0
    · cases hj; exact g1
    · cases hj; exact g2
    · cases hj; exact g3
    · cases hj)
  obtain ⟨a0, k0, r0, m0⟩ := ((BW.int K underlying3)) _ _ _ t0
  obtain ⟨a1, k1, r1, m1⟩ := ((BW.int K underlying3)) _ _ _ t1
  obtain ⟨a2, k2, r2, m2⟩ := ((BW.slice K (sz := 5) underlying34 (by kernel_rfl) (by decide) (rd_104 K) (fun _ => rfl))) _ _ _ t2
  obtain ⟨a3, k3, r3, m3⟩ := ((BW.slice K (sz := 4) underlying35 (by kernel_rfl) (by decide) (rd_154 K) (fun _ => rfl))) _ _ _ t3
  have m0 : 1 ≤ K.B y0.1 := m0
  have m1 : 1 ≤ K.B y1.1 := m1
  have m2 : (a2.map mu_104).sum + 1 ≤ K.B y2.1 := m2
  have m3 : (a3.map mu_154).sum + 1 ≤ K.B y3.1 := m3
  have hm := K.agg (List.map (fun z : DataW H × List MemPlace => z.1) [y0, y1, y2, y3])
  simp only [rq, s7, sv, tl] at hm
  refine ⟨⟨a0, a1, a2, a3⟩, ⟨k0, k1, k2, k3⟩, ⟨hlen, fun j d u h1 h2 => ?_⟩, ?_⟩
  · rcases j with _ | _ | _ | _ | j
    · exact r0.part (jj := 0) (by kernel_rfl) h1 h2
    · exact r1.part (jj := 0) (by kernel_rfl) h1 h2
    · exact r2.part (jj := 0) (by kernel_rfl) h1 h2
    · exact r3.part (jj := 0) (by kernel_rfl) h1 h2
    · cases h1
  · rw [hx]
    refine rZ ?_ hm
    show (1) + (1) + ((a2.map mu_104).sum + 1) + ((a3.map mu_154).sum + 1) + 1 ≤ _
    omega

def ok_119 (x : A3) : Prop := (Lit.int .i64 x.Clock).wf = true ∧ (Lit.int .i64 x.Site).wf = true ∧ (Lit.int .i64 x.Kind).wf = true ∧ (Lit.int .i64 x.Item).wf = true ∧ (Lit.int .i64 x.Parent).wf = true ∧ x.Place.length ≤ maxLen ∧ x.Name.length ≤ maxLen ∧ x.Value.length ≤ maxLen
def mu_119 (x : A3) : Nat := (1) + (1) + (1) + (1) + (1) + (x.Place.length + 1) + (x.Name.length + 1) + (x.Value.length + 1) + 1
theorem rd_119 {H : Type} {enc : TypeId × Value → H} {W : World} (K : GN H) : BW K enc prog W 119 A3.row ok_119 mu_119 := by
  intro fuel cs x h
  obtain ⟨hlen, xs, hx, hxl, hf⟩ := Io (n := 8) underlying119 (by kernel_rfl) h
  obtain ⟨y0, n0, g0, t0⟩ := hf 0 _ rfl
  obtain ⟨y1, n1, g1, t1⟩ := hf 1 _ rfl
  obtain ⟨y2, n2, g2, t2⟩ := hf 2 _ rfl
  obtain ⟨y3, n3, g3, t3⟩ := hf 3 _ rfl
  obtain ⟨y4, n4, g4, t4⟩ := hf 4 _ rfl
  obtain ⟨y5, n5, g5, t5⟩ := hf 5 _ rfl
  obtain ⟨y6, n6, g6, t6⟩ := hf 6 _ rfl
  obtain ⟨y7, n7, g7, t7⟩ := hf 7 _ rfl
  obtain rfl : xs = [y0, y1, y2, y3, y4, y5, y6, y7] := JI hxl (fun j y hj => by
    rcases j with _ | _ | _ | _ | _ | _ | _ | _ | j
    · cases hj; exact g0
    · cases hj; exact g1
    · cases hj; exact g2
    · cases hj; exact g3
    · cases hj; exact g4
    · cases hj; exact g5
    · cases hj; exact g6
    · cases hj; exact g7
    · cases hj)
  obtain ⟨a0, k0, r0, m0⟩ := ((BW.int K underlying3)) _ _ _ t0
  obtain ⟨a1, k1, r1, m1⟩ := ((BW.int K underlying3)) _ _ _ t1
  obtain ⟨a2, k2, r2, m2⟩ := ((BW.int K underlying3)) _ _ _ t2
  obtain ⟨a3, k3, r3, m3⟩ := ((BW.int K underlying3)) _ _ _ t3
  obtain ⟨a4, k4, r4, m4⟩ := ((BW.int K underlying3)) _ _ _ t4
  obtain ⟨a5, k5, r5, m5⟩ := ((BW.str K underlying9)) _ _ _ t5
  obtain ⟨a6, k6, r6, m6⟩ := ((BW.str K underlying9)) _ _ _ t6
  obtain ⟨a7, k7, r7, m7⟩ := ((BW.str K underlying9)) _ _ _ t7
  have m0 : 1 ≤ K.B y0.1 := m0
  have m1 : 1 ≤ K.B y1.1 := m1
  have m2 : 1 ≤ K.B y2.1 := m2
  have m3 : 1 ≤ K.B y3.1 := m3
  have m4 : 1 ≤ K.B y4.1 := m4
  have m5 : a5.length + 1 ≤ K.B y5.1 := m5
  have m6 : a6.length + 1 ≤ K.B y6.1 := m6
  have m7 : a7.length + 1 ≤ K.B y7.1 := m7
  have hm := K.agg (List.map (fun z : DataW H × List MemPlace => z.1) [y0, y1, y2, y3, y4, y5, y6, y7])
  simp only [rq, s7, sv, tl] at hm
  refine ⟨⟨a0, a1, a2, a3, a4, a5, a6, a7⟩, ⟨k0, k1, k2, k3, k4, k5, k6, k7⟩, ⟨hlen, fun j d u h1 h2 => ?_⟩, ?_⟩
  · rcases j with _ | _ | _ | _ | _ | _ | _ | _ | j
    · exact r0.part (jj := 0) (by kernel_rfl) h1 h2
    · exact r1.part (jj := 0) (by kernel_rfl) h1 h2
    · exact r2.part (jj := 0) (by kernel_rfl) h1 h2
    · exact r3.part (jj := 0) (by kernel_rfl) h1 h2
    · exact r4.part (jj := 0) (by kernel_rfl) h1 h2
    · exact r5.part (jj := 0) (by kernel_rfl) h1 h2
    · exact r6.part (jj := 0) (by kernel_rfl) h1 h2
    · exact r7.part (jj := 0) (by kernel_rfl) h1 h2
    · cases h1
  · rw [hx]
    refine rZ ?_ hm
    show (1) + (1) + (1) + (1) + (1) + (a5.length + 1) + (a6.length + 1) + (a7.length + 1) + 1 ≤ _
    omega

def ok_40 (x : Ac) : Prop := (Lit.int .i64 x.ID).wf = true ∧ (Lit.int .i64 x.Kind).wf = true ∧ (x.Attrs.length ≤ maxLen ∧ ∀ a ∈ x.Attrs, ok_91 a) ∧ (x.Flow.length ≤ maxLen ∧ ∀ a ∈ x.Flow, ok_69 a) ∧ ok_37 x.Grid ∧ (x.Draw.length ≤ maxLen ∧ ∀ a ∈ x.Draw, ok_119 a)
def mu_40 (x : Ac) : Nat := (1) + (1) + ((x.Attrs.map mu_91).sum + 1) + ((x.Flow.map mu_69).sum + 1) + (mu_37 x.Grid) + ((x.Draw.map mu_119).sum + 1) + 1
theorem rd_40 {H : Type} {enc : TypeId × Value → H} {W : World} (K : GN H) : BW K enc prog W 40 Ac.row ok_40 mu_40 := by
  intro fuel cs x h
  obtain ⟨hlen, xs, hx, hxl, hf⟩ := Io (n := 9) underlying40 (by kernel_rfl) h
  obtain ⟨y0, n0, g0, t0⟩ := hf 0 _ rfl
  obtain ⟨y1, n1, g1, t1⟩ := hf 1 _ rfl
  obtain ⟨y2, n2, g2, t2⟩ := hf 2 _ rfl
  obtain ⟨y3, n3, g3, t3⟩ := hf 3 _ rfl
  obtain ⟨y4, n4, g4, t4⟩ := hf 4 _ rfl
  obtain ⟨y5, n5, g5, t5⟩ := hf 5 _ rfl
  obtain rfl : xs = [y0, y1, y2, y3, y4, y5] := JI hxl (fun j y hj => by
    rcases j with _ | _ | _ | _ | _ | _ | j
    · cases hj; exact g0
    · cases hj; exact g1
    · cases hj; exact g2
    · cases hj; exact g3
    · cases hj; exact g4
    · cases hj; exact g5
    · cases hj)
  obtain ⟨a0, k0, r0, m0⟩ := ((BW.int K underlying3)) _ _ _ t0
  obtain ⟨a1, k1, r1, m1⟩ := ((BW.int K underlying3)) _ _ _ t1
  obtain ⟨a2, k2, r2, m2⟩ := ((BW.slice K (sz := 2) underlying32 (by kernel_rfl) (by decide) (rd_91 K) (fun _ => rfl))) _ _ _ t2
  obtain ⟨a3, k3, r3, m3⟩ := ((BW.slice K (sz := 3) underlying33 (by kernel_rfl) (by decide) (rd_69 K) (fun _ => rfl))) _ _ _ t3
  obtain ⟨a4, k4, r4, m4⟩ := ((rd_37 K)) _ _ _ t4
  obtain ⟨a5, k5, r5, m5⟩ := ((BW.slice K (sz := 8) underlying38 (by kernel_rfl) (by decide) (rd_119 K) (fun _ => rfl))) _ _ _ t5
  have m0 : 1 ≤ K.B y0.1 := m0
  have m1 : 1 ≤ K.B y1.1 := m1
  have m2 : (a2.map mu_91).sum + 1 ≤ K.B y2.1 := m2
  have m3 : (a3.map mu_69).sum + 1 ≤ K.B y3.1 := m3
  have m4 : mu_37 a4 ≤ K.B y4.1 := m4
  have m5 : (a5.map mu_119).sum + 1 ≤ K.B y5.1 := m5
  have hm := K.agg (List.map (fun z : DataW H × List MemPlace => z.1) [y0, y1, y2, y3, y4, y5])
  simp only [rq, s7, sv, tl] at hm
  refine ⟨⟨a0, a1, a2, a3, a4, a5⟩, ⟨k0, k1, k2, k3, k4, k5⟩, ⟨hlen, fun j d u h1 h2 => ?_⟩, ?_⟩
  · rcases j with _ | _ | _ | _ | _ | _ | _ | _ | _ | j
    · exact r0.part (jj := 0) (by kernel_rfl) h1 h2
    · exact r1.part (jj := 0) (by kernel_rfl) h1 h2
    · exact r2.part (jj := 0) (by kernel_rfl) h1 h2
    · exact r3.part (jj := 0) (by kernel_rfl) h1 h2
    · exact r4.part (jj := 0) (by kernel_rfl) h1 h2
    · exact r4.part (jj := 1) (by kernel_rfl) h1 h2
    · exact r4.part (jj := 2) (by kernel_rfl) h1 h2
    · exact r4.part (jj := 3) (by kernel_rfl) h1 h2
    · exact r5.part (jj := 0) (by kernel_rfl) h1 h2
    · cases h1
  · rw [hx]
    refine rZ ?_ hm
    show (1) + (1) + ((a2.map mu_91).sum + 1) + ((a3.map mu_69).sum + 1) + (mu_37 a4) + ((a5.map mu_119).sum + 1) + 1 ≤ _
    omega

def ok_24 (x : Aa) : Prop := (x.Nodes.length ≤ maxLen ∧ ∀ a ∈ x.Nodes, ok_40 a)
def mu_24 (x : Aa) : Nat := ((x.Nodes.map mu_40).sum + 1) + 1
theorem rd_24 {H : Type} {enc : TypeId × Value → H} {W : World} (K : GN H) : BW K enc prog W 24 Aa.row ok_24 mu_24 := by
  intro fuel cs x h
  obtain ⟨hlen, xs, hx, hxl, hf⟩ := Io (n := 1) underlying24 (by kernel_rfl) h
  obtain ⟨y0, n0, g0, t0⟩ := hf 0 _ rfl
  obtain rfl : xs = [y0] := JI hxl (fun j y hj => by
    rcases j with _ | j
    · cases hj; exact g0
    · cases hj)
  obtain ⟨a0, k0, r0, m0⟩ := ((BW.slice K (sz := 9) underlying22 (by kernel_rfl) (by decide) (rd_40 K) (fun _ => rfl))) _ _ _ t0
  have m0 : (a0.map mu_40).sum + 1 ≤ K.B y0.1 := m0
  have hm := K.agg (List.map (fun z : DataW H × List MemPlace => z.1) [y0])
  simp only [rq, s7, sv, tl] at hm
  refine ⟨⟨a0⟩, k0, ⟨hlen, fun j d u h1 h2 => ?_⟩, ?_⟩
  · rcases j with _ | j
    · exact r0.part (jj := 0) (by kernel_rfl) h1 h2
    · cases h1
  · rw [hx]
    refine rZ ?_ hm
    show ((a0.map mu_40).sum + 1) + 1 ≤ _
    omega

theorem tabs {W : World} (h : laidMetH prog Rows.editNameMatchesUptoRow.laid W) : D4 (Cx.start W) := by
  have h' : laidMet prog Rows.editNameMatchesUptoRow.laid W := h
  refine bQ (d1 := Go.Pinned.utf8First) (d2 := Rows.laid_unicode_utf8_acceptRanges) (t1 := 322) (t2 := 325) (e1 := 5) (e2 := 324) (Go.Lib.laidMet.reads h' ?_) (by kernel_rfl) (by kernel_rfl) (by kernel_rfl) underlying322 underlying5 (by kernel_rfl) (by kernel_rfl)
    (Go.Lib.laidMet.reads h' ?_) (by kernel_rfl) (by kernel_rfl) (by kernel_rfl) underlying325 underlying324 (fun i f hf => ?_) rfl (by kernel_rfl) (hw := fun g cs hg => ?_) (hF := ?_)
  · exact .tail _ (.tail _ (.tail _ (.tail _ (.tail _ (.tail _ (.head _))))))
  · exact .tail _ (.tail _ (.tail _ (.head _)))
  · rcases i with _ | _ | i
    · cases hf; exact ⟨underlying5, rfl, by kernel_rfl⟩
    · cases hf; exact ⟨underlying5, rfl, by kernel_rfl⟩
    · cases hf
  · unfold Qk at hg
    split at hg
    · rename_i hgp
      cases hg
      subst hgp
      exact ⟨by decide, pg (Go.Lib.laidMet.reads h' (.tail _ (.tail _ (.head _)))) (by kernel_rfl) (by kernel_rfl) (by kernel_rfl) underlying340 underlying289 (by kernel_rfl) (by kernel_rfl)⟩
    · cases hg
  · exact ⟨W2 (Go.Lib.laidMet.reads h' (.tail _ (.tail _ (.tail _ (.tail _ (.tail _ (.head _))))))) rfl (by kernel_rfl) (by kernel_rfl) underlying129, W2 (Go.Lib.laidMet.reads h' (.tail _ (.tail _ (.tail _ (.tail _ (.head _)))))) rfl (by kernel_rfl) (by kernel_rfl) underlying129⟩

set_option maxRecDepth 100000 in
theorem contract (H : Type) (enc : TypeId × Value → H) (W : World) (base : Nat) (args : Array Value) (ds gs : List (DataW H)) (before : List MemPlace)
    (hval : ∀ (j : Nat) t v, Tryz.f3.params[j]? = some t → args[j]? = some v → Value.okWide prog W .any base t v)
    (hW : DataW.Whole enc prog Tryz.f3.params.toList Rows.editNameMatchesSpec.vars false W args.toList ds gs before) (hk0 : Rows.uptoSmall H (ds ++ gs) = true) (hL : laidMetH prog Rows.editNameMatchesUptoRow.laid W) :
    Calls prog 3 args W fun e W' => ∃ v, e = .returned v ∧ Rows.editNameMatchesSpec.post enc prog Tryz.f3 false true false false W args v W' := by
  have hW' := hW
  obtain ⟨p, q, hA0, hV, rfl, hfz, hnd⟩ := hW
  have hA : DataW.TrodAll enc prog W 0 (fun _ => true) true Tryz.f3.params.toList args.toList ds p := hA0
  rw [Tryz.params3] at hA hval
  obtain ⟨v0, vs0, d0, ds0, p0, q0, hargs, rfl, rfl, h0, e0⟩ := trodAll_cons hA
  obtain ⟨v1, vs1, d1, ds1, p1, q1, rfl, rfl, rfl, h1, e1⟩ := trodAll_cons e0
  obtain ⟨rfl, rfl, rfl⟩ := trodAll_nil e1
  obtain rfl : args = #[v0, v1] := by cases args; simp_all
  obtain ⟨rfl, rfl⟩ := trodVars_none hV
  have hk : (blk H).B d0 + (blk H).B d1 ≤ 1048576 := by
    have := tf hk0
    simp only [tA, Rows.uptoBulkAll] at this
    show Rows.uptoBulk d0 + Rows.uptoBulk d1 ≤ 1048576
    omega
  obtain ⟨x0, k0, r0, m0⟩ := kJ (blk H) underlying24 (rd_24 (blk H)) (hval 0 24 v0 rfl rfl) h0
  obtain ⟨x1, k1, r1, m1⟩ := oa (blk H) underlying3 (hval 1 3 v1 rfl rfl) h1
  clear hA0
  have h0 := bR (μ := mu_40) (γ := mu_37) (ψ := mu_104) (ρ := mu_154) (δ := mu_119) (ν := mu_69) (κ := mu_91) (fun n => by unfold mu_40; omega) (fun g => by unfold mu_37; omega) (fun c => by unfold mu_104; omega) (fun r => by unfold mu_154; omega) (fun o => by unfold mu_119; omega) (fun e => by unfold mu_69; omega) (fun a => by unfold mu_91; omega) (d := x0) (by have m0' := m0; unfold mu_24 at m0'; omega)
  have hD := gk (μ := mu_40) (δ := mu_119) (fun n => by unfold mu_40; omega) (fun o => by unfold mu_119; omega) (d := x0) (by have m0' := m0; unfold mu_24 at m0'; omega)
  have hp := jE x0 x1 h0 hD
  obtain ⟨_, _, hc⟩ := bN hp
  refine (hc (Cx.start W) #[v0, v1] (qx W (tabs hL)) rfl ⟨rfl, fun i a u k1 k2 => ?_⟩).mono fun e W' ⟨u, y, he, hy, hle, hok, hr⟩ => ?_
  · rcases i with _ | _ | i
    · cases k1; cases k2; exact r0
    · cases k1; cases k2; exact .r r1
    · cases k1
  · subst he; subst hy
    obtain rfl := GF hr
    exact ⟨_, rfl, eF (by kernel_rfl) (by rw [Tryz.params3]; intro t ht; simp at ht; rcases ht with rfl | rfl <;> exact ⟨by kernel_rfl, tf (by kernel_rfl)⟩) rfl hW' hle rfl rfl
      (fun _ _ _ => trodAll_cons_mk (shut_bool underlying4 _) trodAll_mk0)⟩

/-- A world for the witness: the settled one, the two tables laid. -/
def lay (cs : List Value) : Obj → Obj
  | .cells _ t frozen => .cells cs.toArray t frozen
  | o => o
def litsOf : DataW Unit → List Value
  | .agg l => l.map fun d => match d with | .lit (.int k z) => Value.int k z | _ => undef
  | _ => []
def textOf : DataW Unit → Value
  | .iface _ (.ptr (.agg [.lit (.string s)])) => Value.string ⟨s.toArray⟩
  | _ => undef
noncomputable def holdW (os : Os) : World := World.holding prog os ⟨#[], #[], []⟩
noncomputable def laidWorld (os : Os) : World :=
  { holdW os with heap := ((((((((((holdW os).heap.modify 6 (lay (litsOf Rows.laid_math_bits_deBruijn32tab))).modify 7 (lay (litsOf Rows.laid_math_bits_deBruijn64tab))).modify 5 (lay (litsOf Rows.laid_internal_strconv_uint64pow10))).modify IB (lay (Iy.flatMap fun p => [Value.int .u8 p.1, Value.int .u8 p.2]))).modify 1 (lay [Value.iface 336 (.pointer (some ⟨(holdW os).heap.size + 0, 0, none⟩))])).modify 0 (lay [Value.iface 336 (.pointer (some ⟨(holdW os).heap.size + 1, 0, none⟩))])).modify IO (lay (F5.map fun z => Value.int .u8 z))).push (Obj.cells #[textOf Rows.laid_strconv_ErrRange] 338 (0, 0))).push (Obj.cells #[textOf Rows.laid_strconv_ErrSyntax] 338 (0, 0))) }
theorem laid_met (os : Os) : laidMet prog Rows.editNameMatchesUptoRow.laid ((laidWorld os).forCall (fun _ _ => 0) ⟨#[], #[.agg #[.slice none 0 0], .int .i64 0], []⟩).memory :=
  laidMet_of_run' 8 (by kernel_rfl) (by kernel_rfl)
theorem reads (os : Os) {H : Type} (enc : TypeId × Value → H) : ∃ places, DataW.whole enc prog ((laidWorld os).forCall (fun _ _ => 0) ⟨#[], #[.agg #[.slice none 0 0], .int .i64 0], []⟩).memory Tryz.f3.params.toList Rows.editNameMatchesSpec.vars false (#[.agg #[.slice none 0 0], .int .i64 0] : Array Value).toList 8 = some ([.agg [.nil], .lit (.int .i64 0)], [], places) :=
  ⟨[], by kernel_rfl⟩

set_option maxRecDepth 100000 in
theorem lifted (os : Os) (started : os.Started) (H : Type) (enc : TypeId × Value → H) (F : Stop.Interp) :
    ReturnsInHanded {} Tryz.checked os 3 .any ((Rows.OpenSpec.upto Rows.editNameMatchesSpec).preRow enc prog Tryz.f3 Rows.editNameMatchesUptoRow.domain false Rows.editNameMatchesUptoRow.laid) (((Rows.OpenSpec.upto Rows.editNameMatchesSpec).at F).post enc prog Tryz.f3 false true false false) := by
  obtain ⟨places, hx⟩ := reads os enc
  refine returnsInHanded_of_row (C := Tryz.checked) (s := Rows.OpenSpec.upto Rows.editNameMatchesSpec) own started (by kernel_rfl) func3
    (witness_row_at (enc := enc) (C := Tryz.checked) false (laidWorld os) #[.agg #[.slice none 0 0], .int .i64 0] rfl (by kernel_rfl) (by kernel_rfl) (by kernel_rfl)
      (OpenSpec.preRow_of_cond 8 hx (by kernel_rfl) (fun k hk => by cases hk; kernel_rfl) (by kernel_rfl) (laid_met os))) ?_
  intro W base args ds gs before hval hW _ hk _ hL _ _
  exact contract H enc W base args ds gs before hval hW (hk _ rfl) hL

theorem and_tt {a b : Bool} (ha : a = true) (hb : b = true) : (a && b) = true := by rw [ha, hb]; rfl
set_option maxHeartbeats 4000000 in
theorem closed : joinedFacts prog 3 Tryz.f3 (Rows.OpenSpec.upto Rows.editNameMatchesSpec).bare Rows.editNameMatchesUptoRow = true := by
  unfold joinedFacts
  iterate 31 refine and_tt ?_ (by as_aux_lemma => kernel_rfl)
  kernel_rfl
theorem goes_apart {P : Program} {c : OpenClaim} (hs : c.start = .entering) (h : P.funcs.any Func.goes = false) : false = c.goesBy P := by
  have h' : ∀ g : FuncId, (P.funcs[g]?).any Func.goes = false := fun g => by
    cases e : P.funcs[g]? with
    | none => rfl
    | some x =>
      obtain ⟨hg, rfl⟩ := sC.1 e
      exact te.2 fun hx => (te.1 h) (Array.any_eq_true.2 ⟨g, hg, hx⟩)
  unfold OpenClaim.goesBy Program.goesAt Program.goesFrom Program.goes
  rw [hs, h]
  cases P.funcNamed c.func with
  | none => rfl
  | some f => simp [h']
theorem goes_not : prog.funcs.any Func.goes = false := by kernel_rfl

theorem over : Rows.EditNameMatchesUptoSaid :=
  OpenClaim.holds_of_cond 3 Tryz.f3 rfl rfl rfl rfl rfl rfl rfl ⟨rfl, rfl, rfl, rfl, rfl⟩ rfl rfl rfl rfl rfl (by kernel_rfl) func3 closed
    (tf (by kernel_rfl)) (by unfold Func.isWrapper; first | (rw [rF (by decide +kernel)]; kernel_rfl) | (rw [rE (by decide +kernel)]; exact ⟨rfl, rfl⟩))
    (fun os started H enc _ F => by rw [OpenClaim.pre_eq_preRow]; exact lifted os started H enc F)

theorem plain (f : FuncId) (fn : Func) (hf : Tryz.pinned.checked.prog.funcNamed "chancery/chancerylaw1.EditNameMatches" = some f) (hfn : Tryz.pinned.checked.prog.funcs[f]? = some fn) :
    true = Tryz.pinned.checked.prog.looks [] ∧ ∀ (j : Nat) t, fn.params[j]? = some t → Tryz.pinned.checked.prog.wantsStandIn t = false := by
  obtain rfl : f = 3 := rn ((show prog.funcNamed "chancery/chancerylaw1.EditNameMatches" = some 3 by kernel_rfl).symm.trans hf) |>.symm
  obtain rfl : fn = Tryz.f3 := (rn (func3.symm.trans hfn)).symm
  refine ⟨by kernel_rfl, fun j t ht => ?_⟩
  rw [Tryz.params3] at ht
  rcases j with _ | _ | j
  · cases ht; exact (show prog.wantsStandIn 24 = false by kernel_rfl)
  · cases ht; exact (show prog.wantsStandIn 3 = false by kernel_rfl)
  · cases ht

theorem proved : Rows.EditNameMatchesUptoCardSaid :=
  Claim7.holds_tied_plain_at .later [] _ _ _ _ over (fun _ h => by cases h) (by kernel_rfl) (fun _ h => by cases h) editNameMatchesUpto_row_tie rfl ⟨rfl, rfl⟩ (by kernel_rfl) rfl plain (goes_apart rfl goes_not)
#print axioms proved
end Go.Proofs.YtmeadkhpiobenaaGreatDoor.Al.REditName
