/- Walks, as printed. -/
import Derived.Test.YtioekebmplhlmaaGreatDoorPL1
import Derived.Test.YtioekebmplhlmaaGreatDoorProg
set_option linter.all false
set_option maxHeartbeats 4000000
set_option maxRecDepth 20000
set_option linter.unusedVariables false
namespace Go.Proofs.YtioekebmplhlmaaGreatDoor.Al
open Go.Proofs
theorem Az : Tryz.prog.follows .mixedOrders = true := by kernel_rfl
theorem Me : (Tryz.prog.info? 107).map (fun i => (i.zero, i.size, i.bytes)) = some (some (.agg #[.int .i64 0, .int .i64 0, .int .i64 0, .int .i64 0, .int .i64 0, .string ⟨#[]⟩, .string ⟨#[]⟩, .string ⟨#[]⟩]), 8, 88) := by kernel_rfl
theorem LV : (Tryz.prog.info? 111).map (fun i => (i.zero, i.size, i.bytes)) = some (some (.agg #[.string ⟨#[]⟩, .string ⟨#[]⟩]), 2, 32) := by kernel_rfl
theorem MM : (Tryz.prog.info? 116).map (fun i => (i.zero, i.size, i.bytes)) = some (some (.agg #[.int .i64 0, .int .i64 0, .int .i64 0, .int .i64 0]), 4, 32) := by kernel_rfl
theorem LN : (Tryz.prog.info? 141).map (fun i => (i.zero, i.size, i.bytes)) = some (some (.agg #[.int .u8 0, .int .u8 0]), 2, 2) := by kernel_rfl
theorem OD : (Tryz.prog.info? 28).map (fun i => (i.zero, i.size, i.bytes)) = some (some (.slice none 0 0), 1, 24) := by kernel_rfl
theorem CK : (Tryz.prog.info? 3).map (fun i => (i.zero, i.size, i.bytes)) = some (some (.int .i64 0), 1, 8) := by kernel_rfl
theorem N8 : (Tryz.prog.info? 32).map (fun i => (i.zero, i.size, i.bytes)) = some (some (.slice none 0 0), 1, 24) := by kernel_rfl
theorem JJ : (Tryz.prog.info? 34).map (fun i => (i.zero, i.size, i.bytes)) = some (some (.agg #[.slice none 0 0]), 1, 24) := by kernel_rfl
theorem Ln : (Tryz.prog.info? 4).map (fun i => (i.zero, i.size, i.bytes)) = some (some (.bool false), 1, 1) := by kernel_rfl
theorem MY : (Tryz.prog.info? 5).map (fun i => (i.zero, i.size, i.bytes)) = some (some (.int .u8 0), 1, 1) := by kernel_rfl
theorem NU : (Tryz.prog.info? 51).map (fun i => (i.zero, i.size, i.bytes)) = some (some (.slice none 0 0), 1, 24) := by kernel_rfl
theorem Wv : (Tryz.prog.info? 53).map (fun i => (i.zero, i.size, i.bytes)) = some (some (.agg #[.slice none 0 0]), 1, 24) := by kernel_rfl
theorem NO : (Tryz.prog.info? 58).map (fun i => (i.zero, i.size, i.bytes)) = some (some (.slice none 0 0), 1, 24) := by kernel_rfl
theorem Ks : (Tryz.prog.info? 60).map (fun i => (i.zero, i.size, i.bytes)) = some (some (.agg #[.string ⟨#[]⟩, .slice none 0 0, .slice none 0 0]), 3, 64) := by kernel_rfl
theorem JH : (Tryz.prog.info? 63).map (fun i => (i.zero, i.size, i.bytes)) = some (some (.slice none 0 0), 1, 24) := by kernel_rfl
theorem Nl : (Tryz.prog.info? 64).map (fun i => (i.zero, i.size, i.bytes)) = some (some (.slice none 0 0), 1, 24) := by kernel_rfl
theorem M3 : (Tryz.prog.info? 65).map (fun i => (i.zero, i.size, i.bytes)) = some (some (.slice none 0 0), 1, 24) := by kernel_rfl
theorem OQ : (Tryz.prog.info? 66).map (fun i => (i.zero, i.size, i.bytes)) = some (some (.slice none 0 0), 1, 24) := by kernel_rfl
theorem I8 : (Tryz.prog.info? 68).map (fun i => (i.zero, i.size, i.bytes)) = some (some (.agg #[.int .i64 0, .int .i64 0, .slice none 0 0, .slice none 0 0]), 4, 64) := by kernel_rfl
theorem NA : (Tryz.prog.info? 69).map (fun i => (i.zero, i.size, i.bytes)) = some (some (.slice none 0 0), 1, 24) := by kernel_rfl
theorem IM : (Tryz.prog.info? 71).map (fun i => (i.zero, i.size, i.bytes)) = some (some (.agg #[.int .i64 0, .int .i64 0, .slice none 0 0, .slice none 0 0, .int .i64 0, .int .i64 0, .slice none 0 0, .slice none 0 0, .slice none 0 0]), 9, 152) := by kernel_rfl
theorem Pb : (Tryz.prog.info? 72).map (fun i => (i.zero, i.size, i.bytes)) = some (some (.pointer none), 1, 8) := by kernel_rfl
theorem HL : (Tryz.prog.info? 81).map (fun i => (i.zero, i.size, i.bytes)) = some (some (.agg #[.int .i64 0, .int .i64 0, .slice none 0 0]), 3, 40) := by kernel_rfl
theorem FV : (Tryz.prog.info? 9).map (fun i => (i.zero, i.size, i.bytes)) = some (some (.string ⟨#[]⟩), 1, 16) := by kernel_rfl
theorem La : (Tryz.prog.info? 95).map (fun i => (i.zero, i.size, i.bytes)) = some (some (.agg #[.int .i64 0, .int .i64 0, .string ⟨#[]⟩, .int .i64 0, .slice none 0 0]), 5, 64) := by kernel_rfl
theorem QH : Bx Tryz.prog 107 (.agg #[.int .i64 0, .int .i64 0, .int .i64 0, .int .i64 0, .int .i64 0, .string ⟨#[]⟩, .string ⟨#[]⟩, .string ⟨#[]⟩]) := Bx.of Me
theorem V5 : Bx Tryz.prog 111 (.agg #[.string ⟨#[]⟩, .string ⟨#[]⟩]) := Bx.of LV
theorem O9 : Bx Tryz.prog 116 (.agg #[.int .i64 0, .int .i64 0, .int .i64 0, .int .i64 0]) := Bx.of MM
theorem Vb : Bx Tryz.prog 141 (.agg #[.int .u8 0, .int .u8 0]) := Bx.of LN
theorem Gz : Bx Tryz.prog 34 (.agg #[.slice none 0 0]) := Bx.of JJ
theorem LE : Bx Tryz.prog 60 (.agg #[.string ⟨#[]⟩, .slice none 0 0, .slice none 0 0]) := Bx.of Ks
theorem Wp : Bx Tryz.prog 68 (.agg #[.int .i64 0, .int .i64 0, .slice none 0 0, .slice none 0 0]) := Bx.of I8
theorem Il : Bx Tryz.prog 71 (.agg #[.int .i64 0, .int .i64 0, .slice none 0 0, .slice none 0 0, .int .i64 0, .int .i64 0, .slice none 0 0, .slice none 0 0, .slice none 0 0]) := Bx.of IM
theorem Gm : Bx Tryz.prog 81 (.agg #[.int .i64 0, .int .i64 0, .slice none 0 0]) := Bx.of HL
theorem Gs : Bx Tryz.prog 95 (.agg #[.int .i64 0, .int .i64 0, .string ⟨#[]⟩, .int .i64 0, .slice none 0 0]) := Bx.of La
theorem EV : BH Tryz.prog 107 8 := BH.of Tryz.underlying107 rfl Me
theorem Km : BH Tryz.prog 111 2 := BH.of Tryz.underlying111 rfl LV
theorem DJ : BH Tryz.prog 116 4 := BH.of Tryz.underlying116 rfl MM
theorem SK : BH Tryz.prog 141 2 := BH.of Tryz.underlying141 rfl LN
theorem CU : BH Tryz.prog 34 1 := BH.of Tryz.underlying34 rfl JJ
theorem IB : BH Tryz.prog 60 3 := BH.of Tryz.underlying60 rfl Ks
theorem El : BH Tryz.prog 68 4 := BH.of Tryz.underlying68 rfl I8
theorem CG : BH Tryz.prog 71 9 := BH.of Tryz.underlying71 rfl IM
theorem ES : BH Tryz.prog 81 3 := BH.of Tryz.underlying81 rfl HL
theorem DL : BH Tryz.prog 95 5 := BH.of Tryz.underlying95 rfl La
theorem WV : Ez 0 = some (D7.flatMap (AL .u8)) := by kernel_rfl
theorem VT : Ez 1 = some (Lf.flatMap FH.row) := by kernel_rfl
theorem Mt : DO Tryz.prog 34 [(0, 1)] [.slice none 0 0] := DO.of Tryz.underlying34 (fun w => by kernel_rfl) JJ
theorem WF : DO Tryz.prog 53 [(0, 1)] [.slice none 0 0] := DO.of Tryz.underlying53 (fun w => by kernel_rfl) Wv
theorem S3 : DO Tryz.prog 60 [(0, 1), (1, 1), (2, 1)] [.string ⟨#[]⟩, .slice none 0 0, .slice none 0 0] := DO.of Tryz.underlying60 (fun w => by kernel_rfl) Ks
theorem Rt : DO Tryz.prog 68 [(0, 1), (1, 1), (2, 1), (3, 1)] [.int .i64 0, .int .i64 0, .slice none 0 0, .slice none 0 0] := DO.of Tryz.underlying68 (fun w => by kernel_rfl) I8
theorem MT : DO Tryz.prog 71 [(0, 1), (1, 1), (2, 1), (3, 1), (4, 4), (8, 1)] [.int .i64 0, .int .i64 0, .slice none 0 0, .slice none 0 0, .int .i64 0, .int .i64 0, .slice none 0 0, .slice none 0 0, .slice none 0 0] := DO.of Tryz.underlying71 (fun w => by kernel_rfl) IM
theorem JK : DO Tryz.prog 81 [(0, 1), (1, 1), (2, 1)] [.int .i64 0, .int .i64 0, .slice none 0 0] := DO.of Tryz.underlying81 (fun w => by kernel_rfl) HL
theorem RA : E2 Tryz.prog 107 [some (.int .i64), some (.int .i64), some (.int .i64), some (.int .i64), some (.int .i64), some .string, some .string, some .string] := E2.of Tryz.underlying107 (by kernel_rfl) (by kernel_rfl) (by exact ⟨rfl, rfl, Tryz.underlying3, rfl, rfl, Tryz.underlying3, rfl, rfl, Tryz.underlying3, rfl, rfl, Tryz.underlying3, rfl, rfl, Tryz.underlying3, rfl, rfl, Tryz.underlying9, rfl, rfl, Tryz.underlying9, rfl, rfl, Tryz.underlying9, trivial⟩)
theorem Q9 : E2 Tryz.prog 111 [some .string, some .string] := E2.of Tryz.underlying111 (by kernel_rfl) (by kernel_rfl) (by exact ⟨rfl, rfl, Tryz.underlying9, rfl, rfl, Tryz.underlying9, trivial⟩)
theorem PL : E2 Tryz.prog 116 [some (.int .i64), some (.int .i64), some (.int .i64), some (.int .i64)] := E2.of Tryz.underlying116 (by kernel_rfl) (by kernel_rfl) (by exact ⟨rfl, rfl, Tryz.underlying3, rfl, rfl, Tryz.underlying3, rfl, rfl, Tryz.underlying3, rfl, rfl, Tryz.underlying3, trivial⟩)
theorem Fe : Ai Tryz.prog 107 0 0 := Ai.of Tryz.underlying107 rfl rfl CK (by decide)
theorem Gb : Ai Tryz.prog 107 1 1 := Ai.of Tryz.underlying107 rfl rfl CK (by decide)
theorem EL : Ai Tryz.prog 107 2 2 := Ai.of Tryz.underlying107 rfl rfl CK (by decide)
theorem Nf : Ai Tryz.prog 107 3 3 := Ai.of Tryz.underlying107 rfl rfl CK (by decide)
theorem JY : Ai Tryz.prog 107 4 4 := Ai.of Tryz.underlying107 rfl rfl CK (by decide)
theorem Mh : Ai Tryz.prog 107 5 5 := Ai.of Tryz.underlying107 rfl rfl FV (by decide)
theorem MV : Ai Tryz.prog 107 6 6 := Ai.of Tryz.underlying107 rfl rfl FV (by decide)
theorem IE : Ai Tryz.prog 107 7 7 := Ai.of Tryz.underlying107 rfl rfl FV (by decide)
theorem Hy : Ai Tryz.prog 111 0 0 := Ai.of Tryz.underlying111 rfl rfl FV (by decide)
theorem LS : Ai Tryz.prog 111 1 1 := Ai.of Tryz.underlying111 rfl rfl FV (by decide)
theorem CD : Ai Tryz.prog 116 0 0 := Ai.of Tryz.underlying116 rfl rfl CK (by decide)
theorem Cg : Ai Tryz.prog 116 1 1 := Ai.of Tryz.underlying116 rfl rfl CK (by decide)
theorem E9 : Ai Tryz.prog 116 2 2 := Ai.of Tryz.underlying116 rfl rfl CK (by decide)
theorem FY : Ai Tryz.prog 116 3 3 := Ai.of Tryz.underlying116 rfl rfl CK (by decide)
theorem Wm : Ai Tryz.prog 141 0 0 := Ai.of Tryz.underlying141 rfl rfl MY (by decide)
theorem Rj : Ai Tryz.prog 141 1 1 := Ai.of Tryz.underlying141 rfl rfl MY (by decide)
theorem Bh : Ai Tryz.prog 34 0 0 := Ai.of Tryz.underlying34 rfl rfl N8 (by decide)
theorem Cy : Ai Tryz.prog 53 0 0 := Ai.of Tryz.underlying53 rfl rfl NU (by decide)
theorem M2 : Ai Tryz.prog 60 0 0 := Ai.of Tryz.underlying60 rfl rfl FV (by decide)
theorem Qq : Ai Tryz.prog 60 1 1 := Ai.of Tryz.underlying60 rfl rfl OD (by decide)
theorem KD : Ai Tryz.prog 60 2 2 := Ai.of Tryz.underlying60 rfl rfl NO (by decide)
theorem EB : Ai Tryz.prog 68 0 0 := Ai.of Tryz.underlying68 rfl rfl CK (by decide)
theorem D6 : Ai Tryz.prog 68 1 1 := Ai.of Tryz.underlying68 rfl rfl CK (by decide)
theorem Ci : Ai Tryz.prog 68 2 2 := Ai.of Tryz.underlying68 rfl rfl M3 (by decide)
theorem Cz : Ai Tryz.prog 68 3 3 := Ai.of Tryz.underlying68 rfl rfl OQ (by decide)
theorem B7 : Ai Tryz.prog 71 0 0 := Ai.of Tryz.underlying71 rfl rfl CK (by decide)
theorem Bg : Ai Tryz.prog 71 1 1 := Ai.of Tryz.underlying71 rfl rfl CK (by decide)
theorem Fv : Ai Tryz.prog 71 2 2 := Ai.of Tryz.underlying71 rfl rfl JH (by decide)
theorem DV : Ai Tryz.prog 71 3 3 := Ai.of Tryz.underlying71 rfl rfl Nl (by decide)
theorem DC : Ai Tryz.prog 71 4 4 := Ai.of Tryz.underlying71 rfl rfl I8 (by decide)
theorem D5 : Ai Tryz.prog 71 5 8 := Ai.of Tryz.underlying71 rfl rfl NA (by decide)
theorem Df : Ai Tryz.prog 81 0 0 := Ai.of Tryz.underlying81 rfl rfl CK (by decide)
theorem CA : Ai Tryz.prog 81 1 1 := Ai.of Tryz.underlying81 rfl rfl CK (by decide)
theorem GW : Ai Tryz.prog 81 2 2 := Ai.of Tryz.underlying81 rfl rfl JH (by decide)
theorem Do : Ai Tryz.prog 95 0 0 := Ai.of Tryz.underlying95 rfl rfl CK (by decide)
theorem EW : Ai Tryz.prog 95 1 1 := Ai.of Tryz.underlying95 rfl rfl CK (by decide)
theorem Ex : Ai Tryz.prog 95 2 2 := Ai.of Tryz.underlying95 rfl rfl FV (by decide)
theorem DS : Ai Tryz.prog 95 3 3 := Ai.of Tryz.underlying95 rfl rfl CK (by decide)
theorem D2 : Ai Tryz.prog 95 4 4 := Ai.of Tryz.underlying95 rfl rfl JH (by decide)
theorem DA : A7 Tryz.prog 22 34 1 24 := A7.of Tryz.underlying22 JJ rfl rfl (by decide)
theorem Cf : A7 Tryz.prog 23 9 1 16 := A7.of Tryz.underlying23 FV rfl rfl (by decide)
theorem F9 : A7 Tryz.prog 24 28 1 24 := A7.of Tryz.underlying24 OD rfl rfl (by decide)
theorem A2 : A7 Tryz.prog 28 3 1 8 := A7.of Tryz.underlying28 CK rfl rfl (by decide)
theorem BK : A7 Tryz.prog 32 71 9 152 := A7.of Tryz.underlying32 IM rfl rfl (by decide)
theorem B6 : A7 Tryz.prog 51 60 3 64 := A7.of Tryz.underlying51 Ks rfl rfl (by decide)
theorem F6 : A7 Tryz.prog 58 72 1 8 := A7.of Tryz.underlying58 Pb rfl rfl (by decide)
theorem Bq : A7 Tryz.prog 63 111 2 32 := A7.of Tryz.underlying63 LV rfl rfl (by decide)
theorem BD : A7 Tryz.prog 64 81 3 40 := A7.of Tryz.underlying64 HL rfl rfl (by decide)
theorem BO : A7 Tryz.prog 65 95 5 64 := A7.of Tryz.underlying65 La rfl rfl (by decide)
theorem B0 : A7 Tryz.prog 66 116 4 32 := A7.of Tryz.underlying66 MM rfl rfl (by decide)
theorem CI : A7 Tryz.prog 69 107 8 88 := A7.of Tryz.underlying69 Me rfl rfl (by decide)
theorem Ih : A7 Tryz.prog 78 4 1 1 := A7.of Tryz.underlying78 Ln rfl rfl (by decide)
theorem Tq : Fy Tryz.prog 4 [.bool false] := Fy.of Ln rfl
theorem WW : Fy Tryz.prog 81 [.int .i64 0, .int .i64 0, .sl []] := Fy.of HL rfl
theorem Ga : A8 Tryz.prog 28 := A8.of Tryz.underlying28 rfl OD
theorem AH : A8 Tryz.prog 3 := A8.of Tryz.underlying3 rfl CK
theorem Bl : A8 Tryz.prog 32 := A8.of Tryz.underlying32 rfl N8
theorem NS : A8 Tryz.prog 4 := A8.of Tryz.underlying4 rfl Ln
theorem NG : A8 Tryz.prog 5 := A8.of Tryz.underlying5 rfl MY
theorem DQ : A8 Tryz.prog 51 := A8.of Tryz.underlying51 rfl NU
theorem LU : A8 Tryz.prog 58 := A8.of Tryz.underlying58 rfl NO
theorem Bu : A8 Tryz.prog 63 := A8.of Tryz.underlying63 rfl JH
theorem Dn : A8 Tryz.prog 64 := A8.of Tryz.underlying64 rfl Nl
theorem C0 : A8 Tryz.prog 65 := A8.of Tryz.underlying65 rfl M3
theorem DK : A8 Tryz.prog 66 := A8.of Tryz.underlying66 rfl OQ
theorem Ef : A8 Tryz.prog 69 := A8.of Tryz.underlying69 rfl NA
theorem Ng : A8 Tryz.prog 72 := A8.of Tryz.underlying72 rfl Pb
theorem A3 : A8 Tryz.prog 9 := A8.of Tryz.underlying9 rfl FV
theorem XD : NI Tryz.prog 139 256 5 1 := ⟨Tryz.underlying139, CH MY⟩
theorem Sj : NI Tryz.prog 142 16 141 2 := ⟨Tryz.underlying142, CH LN⟩
theorem QZ : ∃ i, Tryz.prog.info? 107 = some i ∧ i.size = 8 := CH Me
theorem Ro : ∃ i, Tryz.prog.info? 111 = some i ∧ i.size = 2 := CH LV
theorem RE : ∃ i, Tryz.prog.info? 116 = some i ∧ i.size = 4 := CH MM
theorem SD : ∃ i, Tryz.prog.info? 141 = some i ∧ i.size = 2 := CH LN
theorem T2 : ∃ i, Tryz.prog.info? 32 = some i ∧ i.size = 1 := CH N8
theorem Gu : ∃ i, Tryz.prog.info? 34 = some i ∧ i.size = 1 := CH JJ
theorem QQ : ∃ i, Tryz.prog.info? 4 = some i ∧ i.size = 1 := CH Ln
theorem SE : ∃ i, Tryz.prog.info? 51 = some i ∧ i.size = 1 := CH NU
theorem Rw : ∃ i, Tryz.prog.info? 58 = some i ∧ i.size = 1 := CH NO
theorem LJ : ∃ i, Tryz.prog.info? 60 = some i ∧ i.size = 3 := CH Ks
theorem PH : ∃ i, Tryz.prog.info? 63 = some i ∧ i.size = 1 := CH JH
theorem XL : ∃ i, Tryz.prog.info? 64 = some i ∧ i.size = 1 := CH Nl
theorem VQ : ∃ i, Tryz.prog.info? 65 = some i ∧ i.size = 1 := CH M3
theorem Vz : ∃ i, Tryz.prog.info? 66 = some i ∧ i.size = 1 := CH OQ
theorem Pd : ∃ i, Tryz.prog.info? 68 = some i ∧ i.size = 4 := CH I8
theorem Xq : ∃ i, Tryz.prog.info? 69 = some i ∧ i.size = 1 := CH NA
theorem Hx : ∃ i, Tryz.prog.info? 71 = some i ∧ i.size = 9 := CH IM
theorem Fm : ∃ i, Tryz.prog.info? 81 = some i ∧ i.size = 3 := CH HL
theorem GO : ∃ i, Tryz.prog.info? 95 = some i ∧ i.size = 5 := CH La
theorem XG {n c d : Nat} {vs : List AJ} {u : Unit} (h : Em n (vs.flatMap fun v => v.nodes) = some u) : vs.map (AJ.row (A0 n c d)) = vs.map (AJ.row c) := List.map_congr_left fun v hv => by unfold AJ.row; rw [List.map_congr_left fun j hj => Pm (NJ h j (List.mem_flatMap.2 ⟨v, hv, hj⟩))]
@[reducible] def qa (l : List Ab) : AV := .r (.sl (l.map Ab.row))
@[reducible] def qb (l : List Ae) : AV := .r (.sl (l.map Ae.row))
@[reducible] def qc (l : List Ag) : AV := .r (.sl (l.map Ag.row))
@[reducible] def qd (l : List AO) : AV := .r (.sl (l.map AO.row))
@[reducible] def qe (l : List AE) : AV := .r (.sl (l.map AE.row))
@[reducible] def qf (l : List Aq) : AV := .r (.sl (l.map Aq.row))
@[reducible] def qg (l : List AP) : AV := .r (.sl (l.map AP.row))
set_option linter.defProp false
@[reducible] def OJ : List AV := [rI (1), rI (0), .cst (.slice none 0 0), .r (.sl ([(AO.mk 0 2 [])].map AO.row)), rI (0), rI (0), .cst (.slice none 0 0), .cst (.slice none 0 0), .cst (.slice none 0 0)]
@[reducible] def FJ : List AV := [rI (0), rI (0), .cst (.slice none 0 0), .cst (.slice none 0 0), rI (0), rI (0), .cst (.slice none 0 0), .cst (.slice none 0 0), .cst (.slice none 0 0)]
@[reducible] def FX (x : AE) : List AV := [.agg [rI (x.ID), rI (x.Kind), qa x.Attrs, qd x.Flow, rI (x.Grid.Rows), rI (x.Grid.Cols), qb x.Grid.Cells, qc x.Grid.Merges, qf x.Draw]]
@[reducible] def Sf (x : Aq) : List AV := [.agg [rI (x.Clock), rI (x.Site), rI (x.Kind), rI (x.Item), rI (x.Parent), .r (.str x.Place), .r (.str x.Name), .r (.str x.Value)]]
@[reducible] def Ao (x : AE) : List AV := [rI (x.ID), rI (x.Kind), qa x.Attrs, qd x.Flow, rI (x.Grid.Rows), rI (x.Grid.Cols), qb x.Grid.Cells, qc x.Grid.Merges, qf x.Draw]
@[reducible] def Bm (x : Aq) : List AV := [rI (x.Clock), rI (x.Site), rI (x.Kind), rI (x.Item), rI (x.Parent), .r (.str x.Place), .r (.str x.Name), .r (.str x.Value)]
@[reducible] def Qp (x : Ae) : List AV := [.agg [rI (x.Row), rI (x.Col), .r (.str x.Text), rI (x.Ref), qa x.Attrs]]
@[reducible] def BA (x : Ae) : List AV := [rI (x.Row), rI (x.Col), .r (.str x.Text), rI (x.Ref), qa x.Attrs]
@[reducible] def LG : List AV := [rI (0), rI (0), .cst (.slice none 0 0), .cst (.slice none 0 0)]
@[reducible] def HC : List AV := [rI (0), rI (0), .r (.str []), rI (0), .cst (.slice none 0 0)]
@[reducible] def KC : List AV := [.r (.str []), .cst (.slice none 0 0), .cst (.slice none 0 0)]
@[reducible] def OB (x : Au) : List AV := [.agg [rI (x.Rows), rI (x.Cols), qb x.Cells, qc x.Merges]]
@[reducible] def Bj (x : Au) : List AV := [rI (x.Rows), rI (x.Cols), qb x.Cells, qc x.Merges]
@[reducible] def BI (x : Ag) : List AV := [rI (x.Row), rI (x.Col), rI (x.H), rI (x.W)]
@[reducible] def PT (x : AO) : List AV := [.agg [rI (x.Char), rI (x.Ref), qa x.Attrs]]
@[reducible] def Kq : List AV := [rI (10), rI (0), .cst (.slice none 0 0)]
@[reducible] def Iq : List AV := [rI (0), rI (2), .cst (.slice none 0 0)]
@[reducible] def Ge : List AV := [rI (0), rI (0), .cst (.slice none 0 0)]
@[reducible] def IS (x : Ab) : List AV := [.r (.str x.Name), .r (.str x.Value)]
@[reducible] def BX (x : AO) : List AV := [rI (x.Char), rI (x.Ref), qa x.Attrs]
@[reducible] def Yn {T r : Int} {x : Exit} {s : St} {x0 : ResultVar} := @Db Int Tryz.prog T r x s x0 fun r => rI r
@[reducible] def Yk {T r : Bool} {x : Exit} {s : St} {x0 : ResultVar} := @Db Bool Tryz.prog T r x s x0 fun r => rB r
@[reducible] def yI := @Pk Tryz.prog
@[reducible] def yB := @Q7 Tryz.prog
@[reducible] def Za := @trivial
@[reducible] def Zb := @TF
@[reducible] def Zc := @AW.skip
@[reducible] def Zd := @Lt
@[reducible] def Ze := @AW.block
@[reducible] def Zf := @Option.some.inj
@[reducible] def Zg := @M9
@[reducible] def Zh := @AW.ret
@[reducible] def Zi := @AK.nil
@[reducible] def Zj := @WI
@[reducible] def Zk := @AW.exit
@[reducible] def Zl := @YU
@[reducible] def Zm := @MG.mk
@[reducible] def Zn := @Ug
@[reducible] def Zo := @YZ
@[reducible] def Zp := @VA
@[reducible] def Zq := @Qk
@[reducible] def Zr := @Nat.le_of_ble_eq_true
@[reducible] def Zs := @Ac.trans
@[reducible] def Zt := @Qj
@[reducible] def Zu := @Wk
@[reducible] def Zv := @YS
@[reducible] def Zw := @Sp
@[reducible] def Zx := @X4
@[reducible] def Zy := @TY
@[reducible] def Zz := @YC
@[reducible] def ZA := @Sl
@[reducible] def ZB := @Ux
@[reducible] def R := @rfl
theorem AD {P : Program} {ops : Array Oper} {K : St → Prop} {o : Oper} {s : St} {d : Nat} {x : Operand} (hg : (o.guard, o.dst, Nat.blt d s.N, o.op) = (none, some d, true, .assign x)) (hr : K { e := (d, Av s.e x) :: s.e, h := s.h, n := s.n, N := s.N }) : AK P ops [o] s K := mA hg (aZ hr)
theorem AI {P : Program} {Q : Exit → St → Prop} {s : St} {y : Code} {id : Nat} {l : List Oper} {o : Oper} {d : Nat} {x : Operand} (hg : (o.guard, o.dst, Nat.blt d s.N, o.op) = (none, some d, true, .move x)) (hr : AK P (o :: l).toArray l { e := (d, Av s.e x) :: s.e, h := s.h, n := s.n, N := s.N } fun s' => AW P y Q s') : AW P (.seq (.region id (o :: l).toArray false) y) Q s := aU (mM hg hr)
theorem Af {P : Program} {Q : Exit → St → Prop} {s : St} {id : Nat} {l : List Oper} {o : Oper} {d : Nat} {x : Operand} (hg : (o.guard, o.dst, Nat.blt d s.N, o.op) = (none, some d, true, .move x)) (hr : AK P (o :: l).toArray l { e := (d, Av s.e x) :: s.e, h := s.h, n := s.n, N := s.N } (Q .normal)) : AW P (.region id (o :: l).toArray false) Q s := aR (mM hg hr)
theorem FK {P : Program} {Q : Exit → St → Prop} {s : St} {y : Code} {id : Nat} {l : List Oper} {ops : Array Oper} (h : AK P l.toArray l s fun s' => AW P y Q s') : AK P ops [] s fun s => AW P (.seq (.region id l.toArray false) y) Q s := aZ (aU h)
theorem Ak {P : Program} {Q : Exit → St → Prop} {s : St} {x y : Code} {ops : Array Oper} (h : ∀ {K : St → Prop}, (∀ s, AW P y Q s → K s) → AW P x (EF K Q) s) : AK P ops [] s fun s => AW P (.seq x y) Q s := aZ (aT h)
theorem zN {p : PO} (h1 : ∀ G G', p.v G' = p.v G := by intros; rfl) (h2 : p.hp = none := by rfl) : ∀ G G' : Nat → Nat, (∀ k, p.dep.contains k = true → G k = G' k) → p.v G' = p.v G ∧ ∀ id ob, p.hp = some (id, ob) → ob G' = ob G := fun G G' _ => ⟨h1 G G', fun _ _ e => by rw [h2] at e; cases e⟩
theorem zS {p : PO} (k : Nat) (hk : p.dep.contains k = true := by rfl) (h1 : ∀ G G' : Nat → Nat, G k = G' k → p.v G' = p.v G := by intro _ _ h; first | rfl | simp only [h]) (h2 : ∀ G G' : Nat → Nat, G k = G' k → ∀ id ob, p.hp = some (id, ob) → ob G' = ob G := by intro _ _ h _ _ e; cases e <;> first | rfl | simp only [h]) : ∀ G G' : Nat → Nat, (∀ k, p.dep.contains k = true → G k = G' k) → p.v G' = p.v G ∧ ∀ id ob, p.hp = some (id, ob) → ob G' = ob G := fun G G' h => ⟨h1 G G' (h k hk), h2 G G' (h k hk)⟩
@[reducible] def bX (k g : Nat) (t : TypeId) (c : List AV) : Nat × Option AT := (k,some (.box g t c))
@[reducible] def aX (k g : Nat) (t : TypeId) (z : Nat) (c : List (List RV)) : Nat × Option AT := (k,some (.arr g t z c))
@[reducible] def pT (k g : Nat) : AV := .ptr k g 0 0
@[reducible] def Li x0 x1 := ([bX 1000 x0 53 [x1]] : AN)
@[reducible] def Fw x0 x1 x2 x3 := ([(0,x0),(1,x1),(12,x2),(13,rI x3)] : AU)
@[reducible] def LW x0 x1 := ([bX 2 x0 95 (BA x1)] : AN)
@[reducible] def Lh x0 x1 := ([bX 3 x0 95 (BA x1)] : AN)
@[reducible] def B3 x0 x1 := ([bX 1000 x0 116 (BI x1)] : AN)
@[reducible] def Lx x0 x1 := ([bX 2 x0 107 (Bm x1)] : AN)
@[reducible] def MP x0 x1 := ([bX 3 x0 107 (Bm x1)] : AN)
@[reducible] def FZ x0 x1 := ([aX 5003 x0 3 1 x1] : AN)
@[reducible] def ME x0 x1 x2 x3 := ([(3,.own 5003 x0),(6,x1),(7,x2),(8,rI x3)] : AU)
@[reducible] def JP x0 x1 := ([aX 1000 x0 3 1 x1] : AN)
@[reducible] def EE x0 x1 := ([bX 1 x0 34 [x1]] : AN)
@[reducible] def B5 x0 x1 := ([bX 1000 x0 9 [rS x1]] : AN)
@[reducible] def Cd x0 x1 x2 x3 := ([aX 1000 x0 60 3 x1,bX 1001 x2 9 [rS x3]] : AN)
@[reducible] def Ha x0 x1 := ([bX 5 x0 81 (BX x1)] : AN)
@[reducible] def Ot x0 x1 x2 x3 x4 x5 x6 x7 x8 x9 x10 x11 x12 x13 x14 x15 x16 x17 x18 x19 x20 := ([bX 1 x0 71 [rI x1,rI x2,.own 8 x3,x4,rI x5,rI x6,x7,x8,.own 16 x9],bX 2 x10 71 x11,bX 3 x12 68 [rI x13,rI x14,.own 26 x15,.own 22 x16],aX 8 x3 111 2 (List.map Ab.row x17),aX 16 x9 107 8 (List.map Aq.row x18),aX 22 x16 116 4 (List.map Ag.row x19),aX 26 x15 95 5 (List.map Ae.row x20)] : AN)
@[reducible] def Ad x0 x1 x2 x3 := ([bX 1000 x0 53 [.own 1001 x1],aX 1001 x1 60 3 x2,(1002,some x3)] : AN)
@[reducible] def Kf x0 x1 x2 x3 x4 x5 := ([bX 5 x0 71 (Ao x1),bX 1000 x2 53 [.own 1001 x3],aX 1001 x3 60 3 x4,(1002,some x5)] : AN)
@[reducible] def Qo x0 x1 x2 x3 x4 x5 x6 x7 := ([bX 5 x0 9 [rS x1],bX 6 x2 34 [x3],bX 1000 x4 53 [.own 1001 x5],aX 1001 x5 60 3 x6,(1002,some x7)] : AN)
@[reducible] def Nq x0 x1 x2 x3 x4 x5 x6 x7 x8 := ([bX 13 x0 60 [rS x1,.r (.sl x2),.own 72 x3],aX 72 x3 72 1 x4,bX 1000 x5 53 [.own 1001 x6],aX 1001 x6 60 3 x7,(1002,some x8)] : AN)
@[reducible] def Mz x0 x1 x2 x3 x4 x5 x6 x7 x8 := ([bX 4 x0 34 [x1],bX 6 x2 34 [.own 41 x3],aX 41 x3 71 9 (List.map AE.row x4),bX 1000 x5 53 [.own 1001 x6],aX 1001 x6 60 3 x7,(1002,some x8)] : AN)
@[reducible] def Vj x0 x1 x2 x3 x4 x5 x6 x7 x8 x9 x10 := ([(1,pT 6 x0),(2,rI x1),(3,rI x2),(4,pT 4 x3),(5,rI x4),(15,.tup [.agg [x5],rI x4]),(16,pT 6 x0),(17,.tup [.agg [x5],rI x4]),(18,.agg [x5]),(19,rI x4),(20,rB x6),(21,rB x6),(24,rB x7),(25,rB x7),(28,rB x8),(29,rB x8),(32,rB x9),(33,rB x9),(37,rB x10),(38,rB x10),(39,pT 6 x0)] : AU)
@[reducible] def Ij x0 x1 x2 x3 := ([bX 1 x0 71 (Ao x1),aX 5003 x2 3 1 x3] : AN)
@[reducible] def OP x0 x1 x2 x3 x4 x5 := ([bX 1000 x0 53 [.own 1001 x1],aX 1001 x1 60 3 x2,(1002,some x3),aX 5003 x4 9 1 x5] : AN)
@[reducible] def Lo x0 x1 x2 x3 x4 x5 := ([aX 14 x0 4 1 x1,bX 1000 x2 53 [.own 1001 x3],aX 1001 x3 60 3 x4,(1002,some x5)] : AN)
@[reducible] def GI x0 x1 x2 x3 x4 x5 x6 x7 x8 x9 := ([bX 35 x0 53 [.own 3350 x1],aX 3350 x1 60 3 x2,(4000,some x3),aX 5012 x4 34 1 (List.map AP.row x5),aX 5013 x6 9 1 x7,aX 5014 x8 28 1 x9] : AN)
@[reducible] def Pv x0 x1 x2 x3 x4 x5 x6 x7 x8 x9 := ([(0,x0),(1,.r (.sl x1)),(2,.r (.sl x2)),(3,rI x3),(4,rI x4),(11,pT 35 x5),(12,.own 5012 x6),(13,.own 5013 x7),(14,.own 5014 x8),(15,rI x9)] : AU)
@[reducible] def RU x0 x1 x2 x3 x4 x5 x6 x7 x8 x9 x10 := ([(0,x0),(1,.r (.sl x1)),(2,.r (.sl x2)),(3,rI x3),(4,rI x4),(10,rB false),(11,pT 35 x5),(12,.own 5012 x6),(13,.own 5013 x7),(14,.own 5014 x8),(15,rI 0),(33,rB x9),(34,rB x10),(35,pT 35 x5)] : AU)
theorem PF {r} (h:Hi=some r):A1 Tryz.prog 5 1 [] [] (fun rr h'=>∃ (i:Nat→Nat),rr = pT 1000 (i 0)∧h'=(Li (i 0) cZ)):=by
 unfold Hi at h
 refine CR Tryz.func5 R R Tryz.ntmps5 (Zr R) fun n0=>aU (AD R (aT fun c2=>(aR ?_)))
 refine sQ R (DG R WF (q:=[]) (by exact Za) (cs:=[cZ]) (by rfl)) ?_
 refine sS R (Zu (cs:=[cZ]) 1000 R iL R R) (mA R (oZ c2 ?_))
 exact Zh (BG.mk (s':=⟨[(0,pT 1000 n0)],(Li n0 cZ),(n0+1),3⟩) wk (Zx (fun (r:Unit) rr h'=>∃ (i:Nat→Nat),rr = pT 1000 (i 0)∧h'=(Li (i 0) cZ)) h (by exact ⟨pT 1000 n0,(Li n0 cZ),R,⟨.inr R,Za⟩,R,R,AG [n0],R,R⟩)))
theorem Lc {r} (h:IF=some r):AX Tryz.prog 19 [] (.agg [qe r.Nodes]):=by
 unfold IF at h
 refine mF Tryz.func19 Tryz.ntmps19 R fun n0=>aU (sS R (Zw (cs:=[cZ]) 0 R Gz R R) (Ak fun c2=>(aR ?_)))
 refine sQ R (DG R JK (q:=[(1,_)]) (by exact ⟨R,R,R,iL,Za⟩) (cs:=Iq) (by rfl)) ?_
 refine sS R (Br 2 R BD (f:=AO.row) (l:=([(AO.mk 0 2 [])]:List AO)) ⟨R,⟨_,iL,R⟩,Za⟩ R (fun _=>R) R) ?_
 refine sQ R (DG R MT (q:=[(0,_),(1,_),(3,_)]) (by exact ⟨R,R,R,iL,R,R,R,iL,R,R,R,iL,Za⟩) (cs:=[rI 1,rI 0,cZ,.own 2 (n0+1),rI 0,rI 0,cZ,cZ,cZ]) (by rfl)) ?_
 refine sQ R (DG R JK (q:=[(0,_)]) (by exact ⟨R,R,R,iL,Za⟩) (cs:=Kq) (by rfl)) ?_
 refine sS R (Br 5 R BD (f:=AO.row) (l:=([(AO.mk 10 0 [])]:List AO)) ⟨R,⟨_,iL,R⟩,Za⟩ R (fun _=>R) R) ?_
 refine sQ R (DG R MT (q:=[(0,_),(1,_),(3,_)]) (by exact ⟨R,R,R,iL,R,R,R,iL,R,R,R,iL,Za⟩) (cs:=[rI 2,rI 1,cZ,.own 5 (n0+2),rI 0,rI 0,cZ,cZ,cZ]) (by rfl)) ?_
 refine AK.weak (by exact DE (e':=[(0,pT 0 n0),(1,.agg Iq),(2,.r (.sl ([(AO.mk 0 2 [])].map AO.row))),(3,.agg OJ),(4,.agg Kq),(5,.own 5 (n0+2)),(6,.agg [rI 2,rI 1,cZ,.own 5 (n0+2),rI 0,rI 0,cZ,cZ,cZ])]) (h':=[bX 0 n0 34 [cZ],aX 5 (n0+2) 81 3 ([(AO.mk 10 0 [])].map AO.row)]) 2 R ⟨jL,jL,.inl (.inr (.inr ⟨R,R⟩)),.inr ⟨_,_,R,R,⟨.inl R,.inl R,.inl R,.inr (.inr ⟨R,R⟩),.inl R,.inl R,.inl R,.inl R,.inl R,Za⟩⟩,jL,jL,jL,Za⟩ ⟨R,.inl R,R,.inl R,Za⟩) ?_
 refine AK.weak (by exact DE (e':=[(0,pT 0 n0),(1,.agg Iq),(2,.r (.sl ([(AO.mk 0 2 [])].map AO.row))),(3,.agg OJ),(4,.agg Kq),(5,.r (.sl ([(AO.mk 10 0 [])].map AO.row))),(6,.agg [rI 2,rI 1,cZ,.r (.sl ([(AO.mk 10 0 [])].map AO.row)),rI 0,rI 0,cZ,cZ,cZ])]) (h':=[bX 0 n0 34 [cZ]]) 5 R ⟨jL,jL,jL,jL,jL,.inl (.inr (.inr ⟨R,R⟩)),.inr ⟨_,_,R,R,⟨.inl R,.inl R,.inl R,.inr (.inr ⟨R,R⟩),.inl R,.inl R,.inl R,.inl R,.inl R,Za⟩⟩,Za⟩ ⟨R,.inl R,Za⟩) ?_
 refine sS R (Br 7 R BK (f:=AE.row) (l:=([(AE.mk 1 0 [] [(AO.mk 0 2 [])] (Au.mk 0 0 [] []) []),(AE.mk 2 1 [] [(AO.mk 10 0 [])] (Au.mk 0 0 [] []) [])]:List AE)) ⟨R,⟨_,iL,R⟩,R,⟨_,iL,R⟩,Za⟩ R (fun _=>R) R) ?_
 refine sQ R (DG R Mt (q:=[(0,_)]) (by exact ⟨R,R,R,iL,Za⟩) (cs:=[.own 7 (n0+3)]) (by rfl)) ?_
 refine Zl R R (Zj (ds:=[.own 7 (n0+3)]) R Gu iL R iL R R R R) (oZ c2 ?_)
 exact Zh (Db (P:=Tryz.prog) (fun (r:AP)=>.agg [qe r.Nodes]) h iL (.a CU R R R (.agg (by exact ⟨.own R,Za⟩))))
theorem Mm {s1 r} (h:HD s1=some r):AX Tryz.prog 21 [rS s1] (rB r):=by
 unfold HD at h
 refine mF Tryz.func21 Tryz.ntmps21 R fun n0=>aU (AD R (aT fun C2=>(AI R (sQ R (Ec R iL iL) (mM R (vM R (vQ R (CY R Tryz.underlying9 (iR R)) (vQ R (BB R (iR R) iL) (xO R (mM R (vM R (Zb h fun ch1 ech1 h1=>(vQ R (Zy R Tryz.underlying9 (iR R) iL (AZ ech1)) (vQ R (Bn R (iR R) iL) (xO R (mM R (vM R (Zb h1 fun ch2 ech2 h2=>(vQ R (Zy R Tryz.underlying9 (iR R) iL (AZ ech2)) (vQ R (BB R (iR R) iL) (xO R (aZ (cI R h2 (fun h3=>?_) fun h3=>?_)))))))))))))))))))))))
 ·exact zB h3 R id
 refine Zc (C2 _ (aS fun K5 C5 wK5=>(aT fun C6=>(aF [0] ?_))))
 refine Af R (sQ R (CY R Tryz.underlying9 iL) (mM R (aZ (C6 _ (Ze (Aw h3 fun o1 hit1 hk1 he1=>?_))))))
 have J1 : ∀ (u2:Unit) (i5:NN),o1 = .nrm u2→K5 ⟨[],[],(i5 0),53⟩:=by
  intro u2 i5 e
  have h4:=hk1 _ e
  exact C5 _ (zB h4 R id)
 refine Zo (fun (x2:Int) i3=>⟨[(0,rS s1),(23,rL s1),(24,rI x2)],[],(i3 0),53⟩) (AG [n0]) hit1 wk ?_
 intro x2 i3 v1 hv1 hx1
 have h5:Hs s1 x2=some v1:=hv1; unfold Hs at h5
 refine aU (xS R (Ak fun C9=>(cI R h5 (fun h6=>?_) fun h6=>?_)))
 ·refine Zc (C9 _ (aT fun C10=>(Ze (AI R (AD R (AI R (mM R (Zb h6 fun c1 ec1 h7=>(sQ R (Zy R Tryz.underlying9 iL iL (fun _=>ec1)) (AD R (AI R (xS R (mM R (vM R (vQ R (BB R (iR R) iL) (xO R (mM R (vM R (vQ R (Bn R (iR R) iL) (vQ R (Zd R (iR R)) (wQ R (Zd R iL) (wQ R (BB R (iR R) iL) (vQ R (Bp R (iR R) (iR R)) (xN R (mM R (vM R (vQ R (Ba R (iR R) iL) (xN R (mM R (vM R (vQ R (Ba R (iR R) iL) (xN R (aZ (cI R h7 (fun h8=>?_) fun h8=>?_))))))))))))))))))))))))))))))))))
  ·exact zB (he1 _ (xH hx1 h8)) R id
  refine Zc (C10 _ (aF [0,23,24] ?_))
  exact aR (Zb h8 fun x4 ex4 h9=>(xA R ex4 (mM R (Zi (Zm h9 (AG [(i3 0)]) wk)))))
 exact Zk (wK5 _ _ wk (J1 _ (AG [(i3 0)]) (xH hx1 h6)))
theorem P9 {s1 r} (h:Ii s1=some r):AX Tryz.prog 103 [rS s1] (rB r):=by
 unfold Ii at h
 refine mF Tryz.func103 Tryz.ntmps103 R fun n0=>aU (AD R (aT fun c2=>(AI R (sQ R (Ec R iL iL) (mM R (vM R (vQ R (CY R Tryz.underlying9 (iR R)) (vQ R (BB R (iR R) iL) (xO R (aZ (cI R h (fun h1=>?_) fun h1=>?_)))))))))))
 ·exact zB h1 R id
 refine Zc (c2 _ (aS fun K5 c5 wK5=>(AI R (sQ R (CY R Tryz.underlying9 iL) (mM R (aZ (Ze (Aw h1 fun o1 hit1 hk1 he1=>?_))))))))
 have J1 : ∀ (u2:Unit) (i5:NN),o1 = .nrm u2→K5 ⟨[],[],(i5 0),27⟩:=by
  intro u2 i5 e
  have h2:=hk1 _ e
  exact c5 _ (zB h2 R id)
 refine Zo (fun (x2:Int) i3=>⟨[(0,rS s1),(12,rL s1),(13,rI x2)],[],(i3 0),27⟩) (AG [n0]) hit1 wk ?_
 intro x2 i3 v1 hv1 hx1
 have h3:KM s1 x2=some v1:=hv1; unfold KM at h3
 refine aU (xS R (Ak fun c9=>(cI R h3 (fun h4=>?_) fun h4=>?_)))
 ·refine Zc (c9 _ (aT fun c10=>(Ze (AI R (AD R (AI R (mM R (Zb h4 fun ch1 ech1 h5=>(sQ R (Zy R Tryz.underlying9 iL iL (fun _=>ech1)) (xS R (mM R (vM R (vM R (vQ R (Zy R Tryz.underlying9 (iR R) (iR R) (fun _=>ech1)) (vQ R (BB R (iR R) iL) (xO R (aZ (cI R h5 (fun h6=>?_) fun h6=>?_))))))))))))))))))
  ·exact zB (he1 _ (xH hx1 h6)) R id
  refine Zc (c10 _ (aF [0,12,13] ?_))
  exact aR (Zb h6 fun x4 ex4 h7=>(xA R ex4 (mM R (Zi (Zm h7 (AG [(i3 0)]) wk)))))
 exact Zk (wK5 _ _ wk (J1 _ (AG [(i3 0)]) (xH hx1 h4)))
theorem Um {l1 b r} (h:Is l1 b=some r):AX Tryz.prog 80 [qa l1,rB b] (rI r):=by
 unfold Is at h
 refine mF Tryz.func80 Tryz.ntmps80 R fun n0=>aU (AD R (aS fun K2 c2 wK2=>(AI R (xL Bq R (mM R (aZ (Ze (Aw h fun o1 hit1 hk1 he1=>?_))))))))
 have J1 : ∀ (u2:Unit) (i5:NN),o1 = .nrm u2→K2 ⟨[],[],(i5 0),48⟩:=by
  intro u2 i5 e
  have h1:=hk1 _ e
  exact c2 _ (zI h1 R id)
 refine Zo (fun (x2:Int) i3=>⟨[(0,qa l1),(1,rB b),(7,qa l1),(8,rL l1),(9,rI x2)],[],(i3 0),48⟩) (AG [n0]) hit1 wk ?_
 intro x2 i3 v1 hv1 hx1
 have h2:Hj l1 b x2=some v1:=hv1; unfold Hj at h2
 refine aU (xS R (Ak fun c6=>(cI R h2 (fun h3=>?_) fun h3=>?_)))
 ·refine Zc (c6 _ (aT fun c7=>(Ze (AI R (Zb h3 fun x4 ex4 h4=>(xI Bq R ex4 (xB ((IS x4)) Km R (sS R (Zw (cs:=[.r (.str []),.r (.str [])]) 6 R V5 R R) (mA R (Zl R R (Zj (ds:=(IS x4)) R Ro iL R iL R R R R) (aZ (Ze (aU (lF Hy A3 R R (Zb h4 fun r1 er1 h5=>(cL (Mm (er1)) R (sQ R (Zp R iL) (AD R (cI R h5 (fun h6=>?_) fun h6=>?_)))))))))))))))))))
  ·exact zI (he1 _ (xH hx1 h6)) R id
  refine aT fun c11=>(aG [0,1,5,6,7,8,9] [6] ?_)
  refine aR (lF LS A3 R R (Zb h6 fun r2 er2 h7=>(cL (P9 (er2)) R (sQ R (Zp R iL) (mM R (vM R (vQ R (Zd R (iR R)) (wQ R (fB R LS iL fR R) (wQ R (Zg (a:=rS x4.Value) R A3 (iR R) R R) (wQ R (Ec R (iR R) iL) (vQ R (A6 R (iR R) (iR R)) (vQ R (Zp R (iR R)) (xN R (AD R (c11 _ (cI R h7 (fun h8=>?_) fun h8=>?_))))))))))))))))
  ·exact zI (he1 _ (xH hx1 h8)) R id
  refine aT fun c13=>?_
  refine Zv Az (by kernel_rfl) ?_
  refine qP R (Zd R iL) (qP R (BB R iL iL) (qP R (Zd R iL) (qO R (fB R Hy iL fR R) (qO R (Zg (a:=rS x4.Name) R A3 (iR R) R R) (qO R (Zd R iL) (qO R (Zd R iL) (Zb h8 fun x5 ex5 h9=>qO R (BT R (iR R) iL (AZ ex5)) (Zb h9 fun x6 ex6 h10=>qO R (Zt R Bq.slice (iR R) (iR R) (fun _=>R) (AZ ex6)) (qO R (Zn R Hy (iR R)) (qO R (BR (d:=.str x6.Name) R A3 (iR R) R) (qO R (Uq R (iR R) (iR R)) (qP R (A6 R iL (iR R)) (qP R (Co R iL) (AQ.nil (c13 _ (cI R h10 (fun h11=>?_) fun h11=>?_))))))))))))))))
  ·exact zI (he1 _ (xH hx1 h11)) R id
  refine Zc (c7 _ (aF [0,1,7,8,9] ?_))
  exact aR (Zb h11 fun x7 ex7 h12=>(xA R ex7 (mM R (Zi (Zm h12 (AG [((i3 0)+1)]) wk)))))
 exact Zk (wK2 _ _ wk (J1 _ (AG [(i3 0)]) (xH hx1 h3)))
theorem OL {l1 r} (h:Fl l1=some r):AX Tryz.prog 50 [qa l1] (rI r):=by
 unfold Fl at h
 exact mF Tryz.func50 Tryz.ntmps50 R fun n0=>aU (AD R (AI R (Zb h fun r1 er1 h1=>(cL (Um (er1)) R (AD R (Zh (yI h1 R)))))))
theorem Ps {k r} (h:HH k=some r):AX Tryz.prog 51 [rI k] (rB r):=by
 unfold HH at h
 exact mF Tryz.func51 Tryz.ntmps51 R fun n0=>aU (AD R (AI R (xQ R (mM R (vM R (vQ R (Zq R (iR R) iL) (xO R (mM R (vM R (vQ R (Zq R (iR R) iL) (xO R (mM R (vM R (vQ R (Zq R (iR R) iL) (xO R (AD R (Zh (yB h R))))))))))))))))))
theorem Xr {k r} (h:Gc k=some r):AX Tryz.prog 52 [rI k] (rB r):=by
 unfold Gc at h
 exact mF Tryz.func52 Tryz.ntmps52 R fun n0=>aU (AD R (AI R (xQ R (mM R (vM R (vQ R (Zq R (iR R) iL) (xO R (AD R (Zh (yB h R))))))))))
theorem Te {k r} (h:Gf k=some r):AX Tryz.prog 53 [rI k] (rB r):=by
 unfold Gf at h
 exact mF Tryz.func53 Tryz.ntmps53 R fun n0=>aU (AD R (AI R (xQ R (mM R (vM R (vQ R (Zq R (iR R) iL) (xO R (AD R (Zh (yB h R))))))))))
theorem Vw {s a r} (h:KT s a=some r):AX Tryz.prog 81 [qc s,qc a] (rB r):=by
 unfold KT at h
 refine mF Tryz.func81 Tryz.ntmps81 R fun n0=>aU (AD R (aT fun c2=>(AI R (xL B0 R (mM R (xL B0 R (xU R (aZ (cI R h (fun h1=>?_) fun h1=>?_)))))))))
 ·exact zB h1 R id
 refine Zc (c2 _ (aS fun K5 c5 wK5=>(AI R (xL B0 R (mM R (aZ (Ze (Aw h1 fun o1 hit1 hk1 he1=>?_))))))))
 have J1 : ∀ (u2:Unit) (i5:NN),o1 = .nrm u2→K5 ⟨[],[],(i5 0),26⟩:=by
  intro u2 i5 e
  have h2:=hk1 _ e
  exact c5 _ (zB h2 R id)
 refine Zo (fun (x2:Int) i3=>⟨(Fw (qc s) (qc a) (rL s) x2),[],(i3 0),26⟩) (AG [n0]) hit1 wk ?_
 intro x2 i3 v1 hv1 hx1
 have h3:LA s a x2=some v1:=hv1; unfold LA at h3
 refine aU (xS R (Ak fun c9=>(cI R h3 (fun h4=>?_) fun h4=>?_)))
 ·refine Zc (c9 _ (aT fun c10=>(Ze (AI R (AD R (aT fun c12=>?_))))))
  refine Zv Az (by kernel_rfl) ?_
  refine qP R (Zd R iL) (qP R (Zd R iL) (Zb h4 fun x4 ex4 h5=>(qP R (Zt R B0.slice iL iL (fun _=>R) (fun _=>ex4)) (qP R (BV (cs:=(BI x4)) R DJ iL R R) (qP R (Zd R iL) (qP R (Zd R iL) (Zb h5 fun x5 ex5 h6=>(qP R (Zt R B0.slice iL iL (fun _=>R) (fun _=>ex5)) (qP R (BV (cs:=(BI x5)) R DJ iL R R) (qP R (Ht R PL iL iL R) (AQ.nil (c12 _ (cI R h6 (fun h7=>?_) fun h7=>?_)))))))))))))
  ·exact zB (he1 _ (xH hx1 h7)) R id
  refine Zc (c10 _ (aF [0,1,12,13] ?_))
  exact aR (Zb h7 fun x6 ex6 h8=>(xA R ex6 (mM R (Zi (Zm h8 (AG [(i3 0)]) wk)))))
 exact Zk (wK5 _ _ wk (J1 _ (AG [(i3 0)]) (xH hx1 h4)))
theorem OK {a1 b1 r} (h:G9 a1 b1=some r):AX Tryz.prog 63 [qa a1,qa b1] (rB r):=by
 unfold G9 at h
 refine mF Tryz.func63 Tryz.ntmps63 R fun n0=>aU (AD R (aT fun c2=>(AI R (xL Bq R (mM R (xL Bq R (xU R (aZ (cI R h (fun h1=>?_) fun h1=>?_)))))))))
 ·exact zB h1 R id
 refine Zc (c2 _ (aS fun K5 c5 wK5=>(AI R (xL Bq R (mM R (aZ (Ze (Aw h1 fun o1 hit1 hk1 he1=>?_))))))))
 have J1 : ∀ (u2:Unit) (i5:NN),o1 = .nrm u2→K5 ⟨[],[],(i5 0),26⟩:=by
  intro u2 i5 e
  have h2:=hk1 _ e
  exact c5 _ (zB h2 R id)
 refine Zo (fun (x2:Int) i3=>⟨(Fw (qa a1) (qa b1) (rL a1) x2),[],(i3 0),26⟩) (AG [n0]) hit1 wk ?_
 intro x2 i3 v1 hv1 hx1
 have h3:JA a1 b1 x2=some v1:=hv1; unfold JA at h3
 refine aU (xS R (Ak fun c9=>(cI R h3 (fun h4=>?_) fun h4=>?_)))
 ·refine Zc (c9 _ (aT fun c10=>(Ze (AI R (AD R (aT fun c12=>?_))))))
  refine Zv Az (by kernel_rfl) ?_
  refine qP R (Zd R iL) (qP R (Zd R iL) (Zb h4 fun x4 ex4 h5=>(qP R (Zt R Bq.slice iL iL (fun _=>R) (fun _=>ex4)) (qP R (BV (cs:=(IS x4)) R Km iL R R) (qP R (Zd R iL) (qP R (Zd R iL) (Zb h5 fun x5 ex5 h6=>(qP R (Zt R Bq.slice iL iL (fun _=>R) (fun _=>ex5)) (qP R (BV (cs:=(IS x5)) R Km iL R R) (qP R (Ht R Q9 iL iL R) (AQ.nil (c12 _ (cI R h6 (fun h7=>?_) fun h7=>?_)))))))))))))
  ·exact zB (he1 _ (xH hx1 h7)) R id
  refine Zc (c10 _ (aF [0,1,12,13] ?_))
  exact aR (Zb h7 fun x6 ex6 h8=>(xA R ex6 (mM R (Zi (Zm h8 (AG [(i3 0)]) wk)))))
 exact Zk (wK5 _ _ wk (J1 _ (AG [(i3 0)]) (xH hx1 h4)))
theorem SP {a1 b1 r} (h:KP a1 b1=some r):AX Tryz.prog 83 [.agg (BA a1),.agg (BA b1)] (rB r):=by
 unfold KP at h
 exact mF Tryz.func83 Tryz.ntmps83 R fun n0=>aU (sS R (Zu (cs:=(BA a1)) 2 R iL R R) (sS R (Zu (cs:=(BA b1)) 3 R iL R R) (AD R (aT fun c2=>(aR (lF Do AH R R (lF Do AH R R (xQ R (mM R (vF EW AH R R (vF EW AH R R (vQ R (Zq R (iR R) (iR R)) (xN R (mM R (vF Ex A3 R R (vF Ex A3 R R (vQ R (Ec R (iR R) (iR R)) (xN R (mM R (vF DS AH R R (vF DS AH R R (vQ R (Zq R (iR R) (iR R)) (xN R (mM R (vF D2 Bu R R (vF D2 Bu R R (Zb h fun r1 er1 h1=>vL (fun hg=>OK (AZ er1 hg)) R (xN R (AD R (c2 _ (Zh (yB h1 R))))))))))))))))))))))))))))))))
theorem VK {s a r} (h:Kx s a=some r):AX Tryz.prog 82 [qb s,qb a,.fn 83 []] (rB r):=by
 unfold Kx at h
 refine mF Tryz.func82 Tryz.ntmps82 R fun n0=>aU (AD R (aT fun c2=>(AI R (xL BO R (mM R (xL BO R (xU R (aZ (cI R h (fun h1=>?_) fun h1=>?_)))))))))
 ·exact zB h1 R id
 refine Zc (c2 _ (aS fun K5 c5 wK5=>(AI R (xL BO R (mM R (aZ (Ze (Aw h1 fun o1 hit1 hk1 he1=>?_))))))))
 have J1 : ∀ (u2:Unit) (i5:NN),o1 = .nrm u2→K5 ⟨[],[],(i5 0),32⟩:=by
  intro u2 i5 e
  have h2:=hk1 _ e
  exact c5 _ (zB h2 R id)
 refine Zo (fun (x2:Int) i3=>⟨[(1,qb a),(2,.fn 83 []),(15,qb s),(16,rL s),(17,rI x2)],[],(i3 0),32⟩) (AG [n0]) hit1 wk ?_
 intro x2 i3 v1 hv1 hx1
 have h3:Lk s a x2=some v1:=hv1; unfold Lk at h3
 refine aU (xS R (Ak fun c9=>(cI R h3 (fun h4=>?_) fun h4=>?_)))
 ·refine Zc (c9 _ (aT fun c10=>(Ze (AI R (Zb h4 fun x4 ex4 h5=>(xI BO R ex4 (xB ((BA x4)) DL R (sS R (Zw (cs:=HC) 8 R Gs R R) (mA R (Zl R R (Zj (ds:=(BA x4)) R GO iL R iL R R R R) (aZ (AI R (mM R (Zb h5 fun x5 ex5 h6=>(xI BO R ex5 (xB ((BA x5)) DL R (sS R (Zw (cs:=HC) 9 R Gs R R) (Zl R R (Zj (ds:=(BA x5)) R GO iL R iL R R R R) (Ak fun c13=>(aG [1,2,8,9,15,16,17] [8,9] ?_))))))))))))))))))))
  refine Af R (xC DL R (xC DL R (Zb h6 fun r1 er1 h7=>(cL (SP (er1)) R (sQ R (Zp R iL) (aZ (c13 _ (cI R h7 (fun h8=>?_) fun h8=>?_))))))))
  ·exact zB (he1 _ (xH hx1 h8)) R id
  exact Zc (c10 _ (aR (Zb h8 fun x6 ex6 h9=>(xA R ex6 (mM R (Zi (Zm h9 (AG [((i3 0)+2)]) wk)))))))
 exact Zk (wK5 _ _ wk (J1 _ (AG [(i3 0)]) (xH hx1 h4)))
theorem Qn {a1 b1 r} (h:GU a1 b1=some r):AX Tryz.prog 54 [.agg (Bj a1),.agg (Bj b1)] (rB r):=by
 unfold GU at h
 exact mF Tryz.func54 Tryz.ntmps54 R fun n0=>aU (sS R (Zu (cs:=(Bj a1)) 2 R iL R R) (sS R (Zu (cs:=(Bj b1)) 3 R iL R R) (AD R (aU (lF EB AH R R (lF EB AH R R (xQ R (mM R (vF D6 AH R R (vF D6 AH R R (vQ R (Zq R (iR R) (iR R)) (xN R (mM R (vF Cz DK R R (vF Cz DK R R (Zb h fun r1 er1 h1=>vL (fun hg=>Vw (AZ er1 hg)) R (xN R (mM R (vF Ci C0 R R (vF Ci C0 R R (Zb h1 fun r2 er2 h2=>AK.stepW (.one R R R) R R (DY (r:=rB r2) (caps:=[]) (bs:=[qb a1.Cells,qb b1.Cells,.fn 83 []]) R iL R ⟨⟨_,(iR R),.d R⟩,⟨_,(iR R),.d R⟩,⟨_,iL,.one (.closed (.fn 83 []) R)⟩,Za⟩ (fun hg=>VK (AZ er2 hg)) R) (xN R (AD R (Zh (yB h2 R)))))))))))))))))))))))))
theorem Mu {k r} (h:FN k=some r):AX Tryz.prog 55 [rI k] (rB r):=by
 unfold FN at h
 exact mF Tryz.func55 Tryz.ntmps55 R fun n0=>aU (AD R (AI R (xQ R (mM R (vM R (vQ R (Zq R (iR R) iL) (xO R (mM R (vM R (vQ R (Zq R (iR R) iL) (xO R (AD R (Zh (yB h R))))))))))))))
theorem Ql {c1 r} (h:Hd c1=some r):AX Tryz.prog 104 [rI c1] (rB r):=by
 unfold Hd at h
 exact mF Tryz.func104 Tryz.ntmps104 R fun n0=>aU (AD R (AI R (xQ R (mM R (vM R (vQ R (Zq R (iR R) iL) (xO R (mM R (vM R (vQ R (Bf R (iR R) iL) (vQ R (Zd R (iR R)) (wQ R (Zd R iL) (wQ R (Bn R (iR R) iL) (vQ R (A6 R (iR R) (iR R)) (xO R (mM R (vM R (vQ R (Bf R (iR R) iL) (vQ R (Zd R (iR R)) (wQ R (Zd R iL) (wQ R (Bn R (iR R) iL) (vQ R (A6 R (iR R) (iR R)) (xO R (mM R (vM R (vQ R (BB R (iR R) iL) (vQ R (Zd R (iR R)) (wQ R (Zd R iL) (wQ R (DW R (iR R) iL) (vQ R (A6 R (iR R) (iR R)) (xO R (AD R (Zh (yB h R))))))))))))))))))))))))))))))))))
theorem Ri {x1 r} (h:Jv x1=some r):AX Tryz.prog 84 (PT x1) (rI r):=by
 unfold Jv at h
 refine mF Tryz.func84 Tryz.ntmps84 R fun n0=>aU (sS R (Zu (cs:=(BX x1)) 1 R iL R R) (AD R (aT fun c2=>(Ze (aU (lF Df AH R R (xU R (lF CA AH R R (xU R (sQ R (ST R Tryz.underlying4 iL iL) (AD R (cI R h (fun h1=>?_) fun h1=>?_))))))))))))
 ·exact zI h1 R id
 refine aS fun K5 c5 wK5=>(aT fun c6=>(aG [1] [1] ?_))
 refine aR (lF CA AH R R (xQ R (mM R (vF Df AH R R (Zb h1 fun r1 er1 h2=>vL (fun hg=>Ql (AZ er1 hg)) R (vQ R (Zp R (iR R)) (xN R (AD R (c6 _ (BL h2 fun p1 hp1 hk1=>?_))))))))))
 have J1 : ∀ (x2:Bool) (i1:NN),p1=x2→K5 ⟨[(1,pT 1 n0),(11,rB x2)],[bX 1 n0 81 (BX x1)],(i1 0),37⟩:=by
  intro x2 i1 e
  have h3:=hk1 _ e
  refine c5 _ (cI R h3 (fun h4=>?_) fun h4=>?_)
  ·exact zI h4 R id
  exact Zc (c2 _ (aU (lF GW Bu R R (Zb h4 fun r2 er2 h5=>(cL (OL (er2)) R (AD R (Zh (yI h5 R))))))))
 refine aC R (fun hc3=>?_) (fun hc3=>?_)
 ·have h6:=C8 hc3 hp1
  exact Zc (wK5 _ _ wk (J1 _ (AG [(n0+1)]) (Zf h6).symm))
 ·have h6:=Cw hc3 hp1
  refine aG [1] [1] ?_
  exact aR (lF CA AH R R (xU R (mM R (vF CA AH R R (vQ R (Bn R (iR R) iL) (vQ R (Zd R (iR R)) (wQ R (fB R CA iL fR R) (wQ R (Zg (a:=rI x1.Ref) R AH (iR R) R R) (wQ R (BB R (iR R) iL) (vQ R (Bp R (iR R) (iR R)) (xN R (mA R (Zi (wK5 _ _ wk (J1 _ (AG [(n0+1)]) (Zf h6).symm)))))))))))))))
theorem T7 {f1 a r} (h:EH f1 a=some r):AX Tryz.prog 56 [qd f1,rB a] (rI r):=by
 unfold EH at h
 refine mF Tryz.func56 Tryz.ntmps56 R fun n0=>aU (AD R (aS fun K2 c2 wK2=>(AI R (xL BD R (mM R (aZ (Ze (Aw h fun o1 hit1 hk1 he1=>?_))))))))
 have J1 : ∀ (u2:Unit) (i5:NN),o1 = .nrm u2→K2 ⟨[(0,qd f1),(1,rB a)],[],(i5 0),43⟩:=by
  intro u2 i5 e
  have h1:=hk1 _ e
  refine c2 _ (aT fun c4=>(AI R (mM R (vM R (vQ R (Cs R BD.slice (iR R)) (vQ R (Zq R (iR R) iL) (vQ R (Zd R (iR R)) (wQ R (Zd R iL) (wQ R (Zd R iL) (wQ R (Cs R BD.slice (iR R)) (Zb h1 fun x4 ex4 h2=>wQ R (BT R (iR R) iL (AZ ex4)) (Zb h2 fun x5 ex5 h3=>wQ R (Zt R BD.slice (iR R) (iR R) (fun _=>R) (AZ ex5)) (wQ R (Zn R Df (iR R)) (wQ R (BR (d:=.int .i64 x5.Char) R AH (iR R) R) (wQ R (Ba R (iR R) iL) (vQ R (Bp R (iR R) (iR R)) (xN R (aZ (cI R h3 (fun h4=>?_) fun h4=>?_)))))))))))))))))))
  ·exact zI h4 R id
  exact Zc (c4 _ (zI h4 R id))
 refine Zo (fun (x2:Int) i3=>⟨[(0,qd f1),(1,rB a),(8,qd f1),(9,rL f1),(10,rI x2)],[],(i3 0),43⟩) (AG [n0]) hit1 wk ?_
 intro x2 i3 v1 hv1 hx1
 have h5:Gt f1 a x2=some v1:=hv1; unfold Gt at h5
 refine aU (xS R (Ak fun c9=>(cI R h5 (fun h6=>?_) fun h6=>?_)))
 ·refine Zc (c9 _ (aT fun c10=>(Ze (aU (Zb h6 fun x6 ex6 h7=>(xI BD R ex6 (xB ((BX x6)) ES R (sS R (Zw (cs:=Ge) 6 R Gm R R) (Zl R R (Zj (ds:=(BX x6)) R Fm iL R iL R R R R) (Ak fun c12=>(aU (xC ES R (Zb h7 fun e1 ee1 h8=>(cL (Ri (ee1)) R (AD R (AI R (xU R (aZ (cI R h8 (fun h9=>?_) fun h9=>?_)))))))))))))))))))
  ·refine aT fun c15=>(aF [7] ?_)
   exact Af R (AD R (c15 _ (Zh (yI (he1 _ (xH hx1 h9)) R))))
  refine Zc (c12 _ (AI R (sQ R (Zp R iL) (mM R (vF CA AH R R (vQ R (Zq R (iR R) iL) (xN R (aZ (cI R h9 (fun h10=>?_) fun h10=>?_)))))))))
  ·exact zI (he1 _ (xH hx1 h10)) R id
  refine Zc (c10 _ (aF [0,1,8,9,10] ?_))
  exact aR (Zb h10 fun x7 ex7 h11=>(xA R ex7 (mM R (Zi (Zm h11 (AG [((i3 0)+1)]) wk)))))
 exact Zk (wK2 _ _ wk (J1 _ (AG [(i3 0)]) (xH hx1 h6)))
theorem Us {s1 r} (h:KO s1=some r):AX Tryz.prog 118 [rS s1] (.tup [.r (.int .i32 r.1),rI r.2]):=by
 unfold KO at h
 refine mF Tryz.func118 Tryz.ntmps118 R fun n0=>aU (mA R (AD R (AI R (sQ R (CY R Tryz.underlying9 iL) (AD R (aT fun c3=>(AI R (xS R (aZ (cI R h (fun h1=>?_) fun h1=>?_))))))))))
 ·exact aU (mA R (AD R (Zh (Dw (P:=Tryz.prog) (fun (r:Int × Int)=>.r (.int .i32 r.1)) (fun (r:Int × Int)=>rI r.2) h1 iL (.t (.d R)) (.t (.d R))))))
 refine Zc (c3 _ (AI R (Zb h1 fun s01 es01 h2=>(sQ R (Zy R Tryz.underlying9 iL iL (fun _=>es01)) (AD R (aT fun c7=>(Af R (Zb h2 fun x1 ex1 h3=>?_))))))))
 refine sQ R (Q6 (f:=(AL .u8)) (l:=D7) R XD WV (by kernel_rfl) iL (fun _=>R) (by decide) (fun _=>ex1)) ?_
 refine xV (.int .u8 x1) NG R (AD R (c7 _ (aT fun c8=>(aT fun c9=>(aF [0,4,5,6] ?_)))))
 refine Af R (sQ R (Bf R iL iL) (aZ (c9 _ (cI R h3 (fun h4=>?_) fun h4=>?_))))
 ·refine AI R (sQ R (ZB R Tryz.underlying5 Tryz.underlying21 iL) (sQ R (Gp (b:=31) R iL iL) (sQ R (M1 (b:=31) R iL iL) (AD R (aT fun c11=>(aF [0,7] ?_))))))
  exact Af R (sQ R (Zy R Tryz.underlying9 iL iL (fun _=>es01)) (sQ R (ZB R Tryz.underlying5 Tryz.underlying21 iL) (mM R (sQ R (SO R iL iL) (mM R (sQ R (EY R iL iL) (sQ R (GX R iL iL) (mA R (AD R (c11 _ (Zh (Dw (P:=Tryz.prog) (fun (r:Int × Int)=>.r (.int .i32 r.1)) (fun (r:Int × Int)=>rI r.2) h4 iL (.t (.d R)) (.t (.d R))))))))))))))
 refine Zc (c8 _ (AI R (sQ R (EY R iL iL) (sQ R (ZB R Tryz.underlying5 Tryz.underlying3 iL) (AD R (aT fun c13=>(Af R (sQ R (M1 (b:=4) R iL iL) (Zb h4 fun x2 ex2 h5=>?_)))))))))
 refine sQ R (Q6 (f:=FH.row) (l:=Lf) R Sj VT (by kernel_rfl) iL (fun _=>R) (by decide) (fun _=>ex2)) ?_
 refine xB ([.r (.int .u8 x2.lo),.r (.int .u8 x2.hi)]) SK R (sS R (Zw (cs:=[.r (.int .u8 0),.r (.int .u8 0)]) 9 R Vb R R) (Zl R R (Zj (ds:=[.r (.int .u8 x2.lo),.r (.int .u8 x2.hi)]) R SD iL R iL R R R R) (aZ (c13 _ (aT fun c14=>(aT fun c15=>(aG [0,4,5,8,9] [9] ?_)))))))
 refine Af R (mM R (xS R (aZ (c15 _ (cI R h5 (fun h6=>?_) fun h6=>?_)))))
 ·exact aU (mA R (AD R (Zh (Dw (P:=Tryz.prog) (fun (r:Int × Int)=>.r (.int .i32 r.1)) (fun (r:Int × Int)=>rI r.2) h6 iL (.t (.d R)) (.t (.d R))))))
 refine Zc (c14 _ (AI R (Zb h6 fun s11 es11 h7=>(sQ R (Zy R Tryz.underlying9 iL iL (fun _=>es11)) (AD R (aT fun c18=>(AI R (lF Wm NG R R (xS R (mM R (vF Rj NG R R (vM R (vQ R (Bn R (iR R) (iR R)) (xO R (aZ (cI R h7 (fun h8=>?_) fun h8=>?_))))))))))))))))
 ·refine aT fun c20=>(aF [] ?_)
  exact aR (mA R (AD R (c20 _ (Zh (Dw (P:=Tryz.prog) (fun (r:Int × Int)=>.r (.int .i32 r.1)) (fun (r:Int × Int)=>rI r.2) h8 iL (.t (.d R)) (.t (.d R)))))))
 refine Zc (c18 _ (aT fun c21=>(aT fun c22=>(aF [0,5,8,10] ?_))))
 refine Af R (sQ R (DW R iL iL) (aZ (c22 _ (cI R h8 (fun h9=>?_) fun h9=>?_))))
 ·exact AI R (sQ R (EY R iL iL) (sQ R (ZB R Tryz.underlying5 Tryz.underlying21 iL) (sQ R (Gp (b:=6) R iL iL) (mM R (sQ R (EY R iL iL) (sQ R (ZB R Tryz.underlying5 Tryz.underlying21 iL) (sQ R (GX R iL iL) (mA R (AD R (Zh (Dw (P:=Tryz.prog) (fun (r:Int × Int)=>.r (.int .i32 r.1)) (fun (r:Int × Int)=>rI r.2) h9 iL (.t (.d R)) (.t (.d R)))))))))))))
 refine Zc (c21 _ (AI R (Zb h9 fun s21 es21 h10=>(sQ R (Zy R Tryz.underlying9 iL iL (fun _=>es21)) (AD R (aT fun c25=>(AI R (xS R (mM R (vM R (vQ R (Bn R iL (iR R)) (xO R (aZ (cI R h10 (fun h11=>?_) fun h11=>?_))))))))))))))
 ·refine aT fun c27=>(aF [] ?_)
  exact aR (mA R (AD R (c27 _ (Zh (Dw (P:=Tryz.prog) (fun (r:Int × Int)=>.r (.int .i32 r.1)) (fun (r:Int × Int)=>rI r.2) h11 iL (.t (.d R)) (.t (.d R)))))))
 refine Zc (c25 _ (aT fun c28=>(aT fun c29=>(aF [0,5,8,10,11] ?_))))
 refine Af R (sQ R (DW R iL iL) (aZ (c29 _ (cI R h11 (fun h12=>?_) fun h12=>?_))))
 ·exact AI R (sQ R (EY R iL iL) (sQ R (ZB R Tryz.underlying5 Tryz.underlying21 iL) (sQ R (Gp (b:=12) R iL iL) (mM R (sQ R (EY R iL iL) (sQ R (ZB R Tryz.underlying5 Tryz.underlying21 iL) (sQ R (Gp (b:=6) R iL iL) (sQ R (GX R iL iL) (mM R (sQ R (EY R iL iL) (sQ R (ZB R Tryz.underlying5 Tryz.underlying21 iL) (sQ R (GX R iL iL) (mA R (AD R (Zh (Dw (P:=Tryz.prog) (fun (r:Int × Int)=>.r (.int .i32 r.1)) (fun (r:Int × Int)=>rI r.2) h12 iL (.t (.d R)) (.t (.d R))))))))))))))))))
 refine Zc (c28 _ (AI R (Zb h12 fun s31 es31 h13=>(sQ R (Zy R Tryz.underlying9 iL iL (fun _=>es31)) (AD R (aT fun c32=>(AI R (xS R (mM R (vM R (vQ R (Bn R iL (iR R)) (xO R (aZ (cI R h13 (fun h14=>?_) fun h14=>?_))))))))))))))
 ·refine aT fun c34=>(aF [] ?_)
  exact aR (mA R (AD R (c34 _ (Zh (Dw (P:=Tryz.prog) (fun (r:Int × Int)=>.r (.int .i32 r.1)) (fun (r:Int × Int)=>rI r.2) h14 iL (.t (.d R)) (.t (.d R)))))))
 refine Zc (c32 _ (aT fun c35=>(aF [5,10,11,12] ?_)))
 exact Af R (sQ R (EY R iL iL) (sQ R (ZB R Tryz.underlying5 Tryz.underlying21 iL) (sQ R (Gp (b:=18) R iL iL) (mM R (sQ R (EY R iL iL) (sQ R (ZB R Tryz.underlying5 Tryz.underlying21 iL) (sQ R (Gp (b:=12) R iL iL) (sQ R (GX R iL iL) (mM R (sQ R (EY R iL iL) (sQ R (ZB R Tryz.underlying5 Tryz.underlying21 iL) (sQ R (Gp (b:=6) R iL iL) (sQ R (GX R iL iL) (mM R (sQ R (EY R iL iL) (sQ R (ZB R Tryz.underlying5 Tryz.underlying21 iL) (sQ R (GX R iL iL) (mA R (AD R (c35 _ (Zh (Dw (P:=Tryz.prog) (fun (r:Int × Int)=>.r (.int .i32 r.1)) (fun (r:Int × Int)=>rI r.2) h14 iL (.t (.d R)) (.t (.d R))))))))))))))))))))))))
theorem VX {s1 r} (h:JL s1=some r):AX Tryz.prog 115 [rS s1] (.tup [.r (.int .i32 r.1),rI r.2]):=by
 unfold JL at h
 refine mF Tryz.func115 Tryz.ntmps115 R fun n0=>aU (mA R (AD R (aT fun c2=>(AI R (sQ R (DZ R iL iL) (mM R (vM R (Zb h fun ch1 ech1 h1=>(vQ R (Zy R Tryz.underlying9 (iR R) iL (AZ ech1)) (vQ R (Bn R (iR R) iL) (xN R (aZ (cI R h1 (fun h2=>?_) fun h2=>?_)))))))))))))
 ·refine aT fun c4=>(aF [0] ?_)
  exact Af R (Zb h2 fun ch2 ech2 h3=>(sQ R (Zy R Tryz.underlying9 iL iL (fun _=>ech2)) (sQ R (ZB R Tryz.underlying5 Tryz.underlying21 iL) (mA R (AD R (c4 _ (Zh (Dw (P:=Tryz.prog) (fun (r:Int × Int)=>.r (.int .i32 r.1)) (fun (r:Int × Int)=>rI r.2) h3 iL (.t (.d R)) (.t (.d R))))))))))
 refine aF [0] ?_
 exact Af R (Ee h2 fun r1 r2 er1 h4=>(cL (Us (er1)) R (mM R (xX R (xX R (mA R (AD R (c2 _ (Zh (Dw (P:=Tryz.prog) (fun (r:Int × Int)=>.r (.int .i32 r.1)) (fun (r:Int × Int)=>rI r.2) h4 iL (.t (.d R)) (.t (.d R))))))))))))
theorem Rq {s1 r} (h:I2 s1=some r):AX Tryz.prog 105 [rS s1] (rB r):=by
 unfold I2 at h
 refine mF Tryz.func105 Tryz.ntmps105 R fun n0=>aU (AD R (aS fun K2 c2 wK2=>(Ze (Aw h fun o1 hit1 hk1 he1=>?_))))
 have J1 : ∀ (u2:Unit) (i5:NN),o1 = .nrm u2→K2 ⟨[],[],(i5 0),31⟩:=by
  intro u2 i5 e
  have h1:=hk1 _ e
  exact c2 _ (zB h1 R id)
 refine Zo (fun (s3:List UInt8) i3=>⟨[(0,rS s3)],[],(i3 0),31⟩) (AG [n0]) hit1 wk ?_
 intro s3 i3 v1 hv1 hx1
 have h2:EO s3=some v1:=hv1; unfold EO at h2
 refine aT fun c4=>(AI R (sQ R (DZ R iL iL) (aZ (cI R h2 (fun h3=>?_) fun h3=>?_))))
 ·refine Zc (c4 _ (Ze (AI R (Ee h3 fun r1 r2 er1 h4=>(cL (VX (er1)) R (mM R (xX R (xX R (mA R (AD R (aT fun c7=>(AI R (xQ R (mM R (vM R (vQ R (Zq R (iR R) iL) (xN R (mM R (vM R (vQ R (Zq R (iR R) iL) (xO R (mM R (vM R (vQ R (ZB R Tryz.underlying21 Tryz.underlying3 (iR R)) (Zb h4 fun r3 er3 h5=>vL (fun hg=>Ql (AZ er3 hg)) R (vQ R (Zp R (iR R)) (xO R (aZ (cI R h5 (fun h6=>?_) fun h6=>?_)))))))))))))))))))))))))))))
  ·exact zB (he1 _ (xH hx1 h6)) R id
  refine Zc (c7 _ (aF [0,4] ?_))
  refine Af R (mM R (Zb h6 fun s5 es5 h7=>?_))
  refine sQ R (YA R Tryz.underlying9 iL (by exact ⟨_,iL⟩) (by exact R) (fun _=>es5)) ?_
  exact mA R (Zi (Zm h7 (AG [(i3 0)]) wk))
 exact Zk (wK2 _ _ wk (J1 _ (AG [(i3 0)]) (xH hx1 h3)))
theorem S0 {c1 r} (h:JS c1=some r):AX Tryz.prog 106 (Qp c1) (rB r):=by
 unfold JS at h
 exact mF Tryz.func106 Tryz.ntmps106 R fun n0=>aU (sS R (Zu (cs:=(BA c1)) 1 R iL R R) (AD R (aU (lF Ex A3 R R (sQ R (Ec R iL iL) (mM R (vF DS AH R R (vQ R (Zq R (iR R) iL) (xN R (mM R (vF D2 Bu R R (vQ R (Cs R Bq.slice (iR R)) (vQ R (Zq R (iR R) iL) (xN R (AD R (Zh (yB h R)))))))))))))))))
theorem RK {x1 r} (h:Kb x1=some r):AX Tryz.prog 116 [rI x1] (rB r):=by
 unfold Kb at h
 exact mF Tryz.func116 Tryz.ntmps116 R fun n0=>aU (AD R (AI R (mM R (xU R (AD R (Zh (yB h R)))))))
theorem LB {x1 y1 r} (h:Fi x1 y1=some r):AX Tryz.prog 111 [rI x1,rI y1] (rI r):=by
 unfold Fi at h
 refine mF Tryz.func111 Tryz.ntmps111 R fun n0=>aU (AD R (AI R (Zb h fun xNaN1 exNaN1 h1=>(cL (RK (exNaN1)) R (AD R (AI R (Zb h1 fun yNaN1 eyNaN1 h2=>(cL (RK (eyNaN1)) R (AD R (aT fun c4=>(AI R (aZ (cI R h2 (fun h3=>?_) fun h3=>?_)))))))))))))
 ·refine aT fun c6=>(aT fun c7=>(aF [6] ?_))
  refine Af R (aZ (c7 _ (cI R h3 (fun h4=>?_) fun h4=>?_)))
  ·exact zI h4 R id
  exact Zc (c6 _ (zI h4 R id))
 refine Zc (c4 _ (aT fun c10=>(AI R (aZ (cI R h3 (fun h5=>?_) fun h5=>?_)))))
 ·exact zI h5 R id
 refine Zc (c10 _ (aT fun c13=>(aT fun c14=>(aF [0,1] ?_))))
 refine Af R (mM R (xS R (aZ (c14 _ (cI R h5 (fun h6=>?_) fun h6=>?_)))))
 ·exact zI h6 R id
 refine Zc (c13 _ (aT fun c16=>(AI R (mM R (sQ R (BB R iL iL) (aZ (cI R h6 (fun h7=>?_) fun h7=>?_)))))))
 ·exact zI h7 R id
 exact Zc (c16 _ (zI h7 R id))
theorem Of {v r} (h:IJ v=some r):AX Tryz.prog 110 [.r (.sl (v.map (AL .i64)))] (rI r):=by
 unfold IJ at h
 refine mF Tryz.func110 Tryz.ntmps110 R fun n0=>aU (AD R (aU (AD R (aS fun K3 c3 wK3=>(AI R (xL A2 R (mM R (aZ (Ze (Aw h fun o1 hit1 hk1 he1=>?_))))))))))
 have J1 : ∀ (u2:Unit) (i5:NN),o1 = .nrm u2→K3 ⟨[(3,rI 0)],[],(i5 0),18⟩:=by
  intro u2 i5 e
  have h1:=hk1 _ e
  exact c3 _ (AI R (AD R (Zh (yI h1 R))))
 refine Zo (fun (x2:Int) i3=>⟨[(3,rI 0),(6,.r (.sl (v.map (AL .i64)))),(7,rL v),(8,rI x2)],[],(i3 0),18⟩) (AG [n0]) hit1 wk ?_
 intro x2 i3 v1 hv1 hx1
 have h2:Dg v x2=some v1:=hv1; unfold Dg at h2
 refine aU (xS R (Ak fun c7=>(cI R h2 (fun h3=>?_) fun h3=>?_)))
 ·refine Zc (c7 _ (aT fun c8=>(Ze (aU (Zb h3 fun x4 ex4 h4=>(xI A2 R ex4 (xV (.int .i64 x4) AH R (AD R (AI R (mM R (xU R (aZ (cI R h4 (fun h5=>?_) fun h5=>?_)))))))))))))
  ·refine aT fun c11=>(aF [5] ?_)
   exact Af R (AD R (c11 _ (Zh (yI (he1 _ (xH hx1 h5)) R))))
  exact Zc (c8 _ (aR (Zb h5 fun x5 ex5 h6=>(xA R ex5 (mM R (Zi (Zm h6 (AG [(i3 0)]) wk)))))))
 exact Zk (wK3 _ _ wk (J1 _ (AG [(i3 0)]) (xH hx1 h3)))
theorem Sa {a1 b1 r} (h:HP a1 b1=some r):AX Tryz.prog 107 [.agg (BA a1),.agg (BA b1)] (rI r):=by
 unfold HP at h
 refine mF Tryz.func107 Tryz.ntmps107 R fun n0=>aU (sS R (Zu (cs:=(BA a1)) 2 R iL R R) (sS R (Zu (cs:=(BA b1)) 3 R iL R R) (AD R (aT fun c2=>(Zb h fun r1 er1 h1=>?_)))))
 refine rP 9 [pO 5 (pT 2 n0),pO 6 (rI a1.Row),pO 7 (pT 3 (n0+1)),pO 8 (rI b1.Row),pO 9 (rI r1),pO 10 (.ptr 2 n0 0 1),pO 11 (rI a1.Col),pO 12 (.ptr 3 (n0+1) 0 1),pO 13 (rI b1.Col)] Az R (by exact ⟨oB [(2,pT 2 n0)] (LW n0 a1) (fB R Do (.inl R) (fun _=>R) R),oB [(5,pT 2 n0)] (LW n0 a1) (Zg (a:=rI a1.Row) R AH (.inl R) R R),oB [(3,pT 3 (n0+1))] (Lh (n0+1) b1) (fB R Do (.inl R) (fun _=>R) R),oB [(7,pT 3 (n0+1))] (Lh (n0+1) b1) (Zg (a:=rI b1.Row) R AH (.inl R) R R),oD (fun _=>[(6,rI a1.Row),(8,rI b1.Row)]) (fun _=>[]) (fun G1 e h' n=>DY (r:=rI r1) (caps:=[]) (bs:=[rI a1.Row,rI b1.Row]) R (.inl R) R ⟨⟨_,(.inl R),.d R⟩,⟨_,(.inl R),.d R⟩,Za⟩ (fun _=>LB (er1)) R),oB [(2,pT 2 n0)] (LW n0 a1) (fB R EW (.inl R) (fun _=>R) R),oB [(10,.ptr 2 n0 0 1)] (LW n0 a1) (Zg (a:=rI a1.Col) R AH (.inl R) R R),oB [(3,pT 3 (n0+1))] (Lh (n0+1) b1) (fB R EW (.inl R) (fun _=>R) R),oB [(12,.ptr 3 (n0+1) 0 1)] (Lh (n0+1) b1) (Zg (a:=rI b1.Col) R AH (.inl R) R R),Za⟩) fun G1 n1=>?_
 refine BJ [0,1,2,3,4,5,6,7,8,9,10,11,12,13] [2,3] ?_
 exact Zb h1 fun r2 er2 h2=>(cL (LB (er2)) R (sS R (Br 15 R A2 (f:=(AL .i64)) (l:=([r1,r2]:List Int)) ⟨R,⟨_,iL,R⟩,R,⟨_,iL,R⟩,Za⟩ R (fun _=>R) R) (Zb h2 fun r3 er3 h3=>(cL (Of (er3)) R (AD R (c2 _ (Zh (yI h3 R))))))))
theorem Rd {l1 a c n r} (h:Jm l1 a c n=some r):AX Tryz.prog 85 [qb l1,rI a,rI c,rB n] (rI r):=by
 unfold Jm at h
 refine mF Tryz.func85 Tryz.ntmps85 R fun n0=>aU (AD R (aS fun K2 c2 wK2=>(AI R (xL BO R (mM R (aZ (Ze (Aw h fun o1 hit1 hk1 he1=>?_))))))))
 have J1 : ∀ (u2:Unit) (i5:NN),o1 = .nrm u2→K2 ⟨[],[],(i5 0),79⟩:=by
  intro u2 i5 e
  have h1:=hk1 _ e
  exact c2 _ (zI h1 R id)
 refine Zo (fun (x2:Int) i3=>⟨[(0,qb l1),(1,rI a),(2,rI c),(3,rB n),(12,qb l1),(13,rL l1),(14,rI x2)],[],(i3 0),79⟩) (AG [n0]) hit1 wk ?_
 intro x2 i3 v1 hv1 hx1
 have h2:JX l1 a c n x2=some v1:=hv1; unfold JX at h2
 refine aU (xS R (Ak fun c6=>(cI R h2 (fun h3=>?_) fun h3=>?_)))
 ·refine Zc (c6 _ (aT fun c7=>(Ze (AI R (Zb h3 fun x4 ex4 h4=>(xI BO R ex4 (xB ((BA x4)) DL R (sS R (Zw (cs:=HC) 10 R Gs R R) (mA R (Zl R R (Zj (ds:=(BA x4)) R GO iL R iL R R R R) (Ak fun c9=>(Ze (aU (lF Do AH R R (xS R (mM R (vF Do AH R R (vM R (vQ R (Bf R (iR R) (iR R)) (xO R (mM R (vF EW AH R R (vQ R (Bn R (iR R) iL) (xO R (mM R (vF EW AH R R (vM R (vQ R (Bf R (iR R) (iR R)) (xO R (AD R (cI R h4 (fun h5=>?_) fun h5=>?_)))))))))))))))))))))))))))))))
  ·exact zI (he1 _ (xH hx1 h5)) R id
  refine aT fun c12=>(aG [0,1,2,3,9,10,12,13,14] [10] ?_)
  refine aR (lF DS AH R R (xS R (mM R (vF DS AH R R (vQ R (BB R (iR R) iL) (xO R (AD R (c12 _ (cI R h5 (fun h6=>?_) fun h6=>?_)))))))))
  ·exact zI (he1 _ (xH hx1 h6)) R id
  refine aU (lF Ex A3 R R (Zb h6 fun r1 er1 h7=>(cL (Rq (er1)) R (sQ R (Zp R iL) (AD R (cI R h7 (fun h8=>?_) fun h8=>?_))))))
  ·exact zI (he1 _ (xH hx1 h8)) R id
  refine Zc (c9 _ (aT fun c16=>(aT fun c17=>(aG [0,1,2,3,9,10,12,13,14] [10] ?_))))
  refine aR (lF D2 Bu R R (Zb h8 fun e1 ee1 h9=>(cL (OL (ee1)) R (AD R (c17 _ (AI R (xU R (aZ (cI R h9 (fun h10=>?_) fun h10=>?_)))))))))
  ·refine aT fun c19=>(aF [11] ?_)
   exact Af R (AD R (c19 _ (Zh (yI (he1 _ (xH hx1 h10)) R))))
  refine Zc (c16 _ (aT fun c20=>(aU (xC DL R (Zb h10 fun r2 er2 h11=>(cL (S0 (er2)) R (mM R (vM R (vQ R (Zp R (iR R)) (xN R (aZ (cI R h11 (fun h12=>?_) fun h12=>?_))))))))))))
  ·exact zI (he1 _ (xH hx1 h12)) R id
  refine Zc (c20 _ (aT fun c23=>(aG [0,1,2,3,9,10,12,13,14] [10] ?_)))
  refine Zv Az (by kernel_rfl) ?_
  refine qP R (Zd R iL) (qP R (BB R iL iL) (qP R (Zd R iL) (qO R (Zd R iL) (qO R (Zd R iL) (Zb h12 fun x5 ex5 h13=>qO R (BT R (iR R) iL (AZ ex5)) (Zb h13 fun x6 ex6 h14=>qO R (Zt R BO.slice (iR R) (iR R) (fun _=>R) (AZ ex6)) (qO R (BV (cs:=(BA x6)) R DL (iR R) R R) (qO R (Cn R DL iL R R) (Zb h14 fun r3 er3 h15=>Ff (.one R R R) R R (r:=rI r3) (caps:=[]) (bs:=[.agg (BA x6),.agg (BA x4)]) R iL R ⟨⟨_,(iR R),.g (cs:=[.int .i64 x6.Row,.int .i64 x6.Col,.str x6.Text,.int .i64 x6.Ref,.sl (x6.Attrs.map Ab.row)]) R R⟩,⟨_,(iR R),.g (cs:=[.int .i64 x4.Row,.int .i64 x4.Col,.str x4.Text,.int .i64 x4.Ref,.sl (x4.Attrs.map Ab.row)]) R R⟩,Za⟩ (fun hg=>Sa (AZ er3 hg)) R (qO R (Bf R (iR R) iL) (qP R (A6 R iL (iR R)) (AQ.nil (c23 _ (cI R h15 (fun h16=>?_) fun h16=>?_))))))))))))))
  ·exact zI (he1 _ (xH hx1 h16)) R id
  exact Zc (c7 _ (aR (Zb h16 fun x7 ex7 h17=>(xA R ex7 (mM R (Zi (Zm h17 (AG [((i3 0)+1)]) wk)))))))
 exact Zk (wK2 _ _ wk (J1 _ (AG [(i3 0)]) (xH hx1 h3)))
theorem Wd {r1 a c r} (h:Kg r1 a c=some r):AX Tryz.prog 86 [.agg (BI r1),rI a,rI c] (rB r):=by
 unfold Kg at h
 refine mF Tryz.func86 Tryz.ntmps86 R fun n0=>aU (sS R (Zu (cs:=(BI r1)) 3 R iL R R) (AD R (aU (lF CD AH R R (sQ R (Bf R iL iL) (mM R (vF Cg AH R R (vQ R (Bf R (iR R) iL) (xN R (mM R (vF E9 AH R R (vQ R (Bf R (iR R) iL) (xN R (mM R (vF FY AH R R (vQ R (Bf R (iR R) iL) (xN R (mM R (vF CD AH R R (vM R (vQ R (Bn R (iR R) (iR R)) (xN R (mM R (vF Cg AH R R (vM R (vQ R (Bn R (iR R) (iR R)) (xN R (mM R (vF E9 AH R R (vM R (vF CD AH R R (Zb h fun x1 ex1 h1=>(vQ R (BT R (iR R) (iR R) (AZ ex1)) (vQ R (DW R (iR R) (iR R)) (xN R (mM R (vF FY AH R R (vM R (vF Cg AH R R (Zb h1 fun x2 ex2 h2=>(vQ R (BT R (iR R) (iR R) (AZ ex2)) (vQ R (DW R (iR R) (iR R)) (xN R (AD R ?_))))))))))))))))))))))))))))))))))))))))))))
 exact Zh (yB h2 R)
theorem Uw {a1 b1 r} (h:Jg a1 b1=some r):AX Tryz.prog 87 [.agg (BI a1),.agg (BI b1)] (rB r):=by
 unfold Jg at h
 exact mF Tryz.func87 Tryz.ntmps87 R fun n0=>aU (sS R (Zu (cs:=(BI a1)) 2 R iL R R) (sS R (Zu (cs:=(BI b1)) 3 R iL R R) (AD R (aU (lF CD AH R R (lF CD AH R R (xS R (mM R (vF CD AH R R (vF CD AH R R (vQ R (Zq R (iR R) (iR R)) (vQ R (Zd R (iR R)) (wQ R (fB R Cg iL fR R) (wQ R (Zg (a:=rI a1.Col) R AH (iR R) R R) (wQ R (fB R Cg iL fR R) (wQ R (Zg (a:=rI b1.Col) R AH (iR R) R R) (wQ R (Bn R (iR R) (iR R)) (vQ R (A6 R (iR R) (iR R)) (xO R (AD R (Zh (yB h R))))))))))))))))))))))
theorem VP {a1 b1 r} (h:JC a1 b1=some r):AX Tryz.prog 90 [.agg (BI a1),.agg (BI b1)] (rB r):=by
 unfold JC at h
 exact mF Tryz.func90 Tryz.ntmps90 R fun n0=>aU (sS R (Zu (cs:=(BI a1)) 2 R iL R R) (sS R (Zu (cs:=(BI b1)) 3 R iL R R) (AD R (aU (lF CD AH R R (lF CD AH R R (lF E9 AH R R (Zb h fun x1 ex1 h1=>(xA R ex1 (xS R (mM R (vF CD AH R R (vF CD AH R R (vF E9 AH R R (Zb h1 fun x2 ex2 h2=>(vQ R (Hk R (iR R) (iR R) (AZ ex2)) (vQ R (Bn R (iR R) (iR R)) (xN R (mM R (vF Cg AH R R (vF Cg AH R R (vF FY AH R R (Zb h2 fun x3 ex3 h3=>vQ R (Hk R (iR R) (iR R) (AZ ex3)) (vQ R (Bn R (iR R) (iR R)) (xN R (mM R (vF Cg AH R R (vF Cg AH R R (vF FY AH R R (Zb h3 fun x4 ex4 h4=>(vQ R (Hk R (iR R) (iR R) (AZ ex4)) (vQ R (Bn R (iR R) (iR R)) (xN R (AD R (Zh (yB h4 R))))))))))))))))))))))))))))))))))))
theorem Wn {w1:Ag} {q1:Ag} {r:Bool} {gb1000:Nat} (h:Lr w1 q1=some r):A1 Tryz.prog 89 1 [.agg (BI q1),pT 1000 gb1000] (B3 gb1000 w1) (fun rr h'=>∃ (i:Nat→Nat),rr=rB r∧h'=(B3 gb1000 w1)):=by
 unfold Lr at h
 refine CR Tryz.func89 R R Tryz.ntmps89 (Zr R) fun n0=>aU (sS R (Zu (cs:=(BI q1)) 2 R iL R R) (AD R (aU (xC DJ R (xC DJ R (Zb h fun r1 er1 h1=>(cL (VP (er1)) R (AD R ?_))))))))
 exact Zh (BG.mk (s':=⟨[(3,rB r1)],(B3 gb1000 w1),(n0+1),7⟩) wk (Zx (fun (r:Bool) rr h'=>∃ (i:Nat→Nat),rr=rB r∧h'=(B3 gb1000 w1)) h1 (by exact ⟨rB r1,(B3 gb1000 w1),R,⟨.inr R,Za⟩,R,R,AG [],R,R⟩)))
theorem Tw {w1:Ag} {s1:List Ag} {r:Int} {gb1000:Nat} (h:MI w1 s1=some r):A1 Tryz.prog 108 1 [qc s1,.fn 89 [pT 1000 gb1000]] (B3 gb1000 w1) (fun rr h'=>∃ (i:Nat→Nat),rr=rI r∧h'=(B3 gb1000 w1)):=by
 unfold MI at h
 refine CR Tryz.func108 R R Tryz.ntmps108 (Zr R) fun n0=>aU (AD R (aS fun K2 c2 wK2=>(AI R (xL B0 R (mM R (aZ (Ze (Aw h fun o1 hit1 hk1 he1=>?_))))))))
 have J1 : ∀ (u2:Unit) (i5:NN),o1 = .nrm u2→K2 ⟨[],(B3 gb1000 w1),(i5 0),19⟩:=by
  intro u2 i5 e
  have h1:=hk1 _ e
  refine c2 _ (aU (AD R ?_))
  exact Zh (BG.mk (s':=⟨[(4,rI ((-1)))],(B3 gb1000 w1),(i5 0),19⟩) wk (Zx (fun (r:Int) rr h'=>∃ (i:Nat→Nat),rr=rI r∧h'=(B3 gb1000 w1)) h1 (by exact ⟨rI ((-1)),(B3 gb1000 w1),R,⟨.inr R,Za⟩,R,R,AG [],R,R⟩)))
 refine Zo (fun (x2:Int) i3=>⟨[(0,qc s1),(1,.fn 89 [pT 1000 gb1000]),(7,rL s1),(8,rI x2)],(B3 gb1000 w1),(i3 0),19⟩) (AG [n0]) hit1 wk ?_
 intro x2 i3 v1 hv1 hx1
 have h2:Iw w1 s1 x2=some v1:=hv1; unfold Iw at h2
 refine aU (xS R (Ak fun c6=>(cI R h2 (fun h3=>?_) fun h3=>?_)))
 ·refine Zc (c6 _ (aT fun c7=>(Ze (AI R (AD R (aT fun c9=>(Af R (mM R (mM R (Zb h3 fun x4 ex4 h4=>(xI B0 R ex4 (xB ((BI x4)) DJ R (Zb h4 fun r1 er1 h5=>?_)))))))))))))
  refine Zz [1000] (hc:=(B3 gb1000 w1)) (bs:=[.agg (BI x4)]) (caps:=[pT 1000 gb1000]) R R R R iL R ⟨.inl ⟨iL,R⟩,Za⟩ ⟨R,R,R,Za⟩ (by decide) (Wn er1) ?_
  intro i6 n1
  refine BJ [0,1,5,7,8,9,10,11,12,13,14,15,16] [1000] ?_
  refine aZ (c9 _ (cI R h5 (fun h6=>?_) fun h6=>?_))
  ·refine aT fun c10=>(aG [5] [1000] ?_)
   refine Af R (mA R (oZ c10 ?_))
   exact Zh (BG.mk (s':=⟨[(4,rI x2)],(B3 gb1000 w1),n1,19⟩) wk (Zx (fun (r:Int) rr h'=>∃ (i:Nat→Nat),rr=rI r∧h'=(B3 gb1000 w1)) (he1 _ (xH hx1 h6)) (by exact ⟨rI x2,(B3 gb1000 w1),R,⟨.inr R,Za⟩,R,R,AG [],R,R⟩)))
  refine Zc (c7 _ (aG [0,1,7,8] [1000] ?_))
  exact aR (Zb h6 fun x5 ex5 h7=>(xA R ex5 (mM R (Zi (Zm h7 (AG [n1]) wk)))))
 exact Zk (wK2 _ _ wk (J1 _ (AG [(i3 0)]) (xH hx1 h3)))
theorem Sh {w1:Ag} {s1:List Ag} {r:Bool} {gb1000:Nat} (h:Hu w1 s1=some r):A1 Tryz.prog 88 1 [qc s1,.fn 89 [pT 1000 gb1000]] (B3 gb1000 w1) (fun rr h'=>∃ (i:Nat→Nat),rr=rB r∧h'=(B3 gb1000 w1)):=by
 unfold Hu at h
 refine CR Tryz.func88 R R Tryz.ntmps88 (Zr R) fun n0=>aU (AD R (aT fun c2=>(Af R (mM R (Zb h fun r1 er1 h1=>?_)))))
 refine Zz [1000] (hc:=(B3 gb1000 w1)) (bs:=[qc s1,.fn 89 [pT 1000 gb1000]]) (caps:=[]) R R R R iL R ⟨.inl ⟨iL,R⟩,.inl ⟨iL,R⟩,Za⟩ ⟨R,R,R,Za⟩ (by decide) (Tw er1) ?_
 intro i1 n1
 refine BJ [0,1,4,5,6,7] [1000] ?_
 refine sQ R (Bf R iL iL) (mA R (oZ c2 ?_))
 exact Zh (BG.mk (s':=⟨[(4,rB ((decide (0≤r1))))],(B3 gb1000 w1),n1,9⟩) wk (Zx (fun (r:Bool) rr h'=>∃ (i:Nat→Nat),rr=rB r∧h'=(B3 gb1000 w1)) h1 (by exact ⟨rB ((decide (0≤r1))),(B3 gb1000 w1),R,⟨.inr R,Za⟩,R,R,AG [],R,R⟩)))
theorem Xt {g1 r} (h:Iu g1=some r):AX Tryz.prog 57 (OB g1) (rI r):=by
 unfold Iu at h
 refine mF Tryz.func57 Tryz.ntmps57 R fun n0=>aU (sS R (Zu (cs:=(Bj g1)) 1 R iL R R) (AD R (aT fun c2=>(aU (lF EB AH R R (xS R (mM R (vF EB AH R R (vQ R (BB R (iR R) iL) (xO R (mM R (vF D6 AH R R (vQ R (Bn R (iR R) iL) (xO R (mM R (vF D6 AH R R (vQ R (BB R (iR R) iL) (xO R (aZ (cI R h (fun h1=>?_) fun h1=>?_))))))))))))))))))))
 ·exact zI h1 R id
 refine Zc (c2 _ (aT fun c5=>(aT fun c6=>(aG [1] [1] ?_))))
 refine aR (lF Ci C0 R R (lF EB AH R R (lF D6 AH R R (Zb h1 fun e1 ee1 h2=>(cL (Rd (ee1)) R (AD R (c6 _ (AI R (xU R (aZ (cI R h2 (fun h3=>?_) fun h3=>?_)))))))))))
 ·refine aT fun c8=>(aF [3] ?_)
  exact Af R (AD R (c8 _ (Zh (yI h3 R))))
 refine Zc (c5 _ (aS fun K9 c9 wK9=>(aT fun c10=>(aG [1] [1] ?_))))
 refine aR (lF Cz DK R R (xL B0 R (mM R (aZ (c10 _ (Ze (Aw h3 fun o1 hit1 hk1 he1=>?_)))))))
 have J1 : ∀ (u2:Unit) (i5:NN),o1 = .nrm u2→K9 ⟨[],[],(i5 0),81⟩:=by
  intro u2 i5 e
  have h4:=hk1 _ e
  exact c9 _ (zI h4 R id)
 refine Zo (fun (x2:Int) i3=>⟨[(1,pT 1 n0),(35,qc g1.Merges),(36,rL g1.Merges),(37,rI x2)],[bX 1 n0 68 (Bj g1)],(i3 0),81⟩) (AG [(n0+1)]) hit1 wk ?_
 intro x2 i3 v1 hv1 hx1
 have h5:Jn g1 x2=some v1:=hv1; unfold Jn at h5
 refine aU (xS R (Ak fun c13=>(cI R h5 (fun h6=>?_) fun h6=>?_)))
 ·refine Zc (c13 _ (aT fun c14=>(Ze (AI R (Zb h6 fun x4 ex4 h7=>(xI B0 R ex4 (xB ((BI x4)) DJ R (sS R (Zw (cs:=[rI 0,rI 0,rI 0,rI 0]) 5 R O9 R R) (mA R (Zl R R (Zj (ds:=(BI x4)) R RE iL R iL R R R R) (aZ (Ze (aU (xC DJ R (lF EB AH R R (lF D6 AH R R (Zb h7 fun r1 er1 h8=>(cL (Wd (er1)) R (sQ R (Zp R iL) (AD R (cI R h8 (fun h9=>?_) fun h9=>?_)))))))))))))))))))))
  ·exact zI (he1 _ (xH hx1 h9)) R id
  refine aT fun c18=>(aG [1,4,5,35,36,37] [1,5] ?_)
  refine aR (lF E9 AH R R (xQ R (mM R (vF FY AH R R (vQ R (Zq R (iR R) iL) (xN R (AD R (c18 _ (cI R h9 (fun h10=>?_) fun h10=>?_)))))))))
  ·exact zI (he1 _ (xH hx1 h10)) R id
  refine aT fun c20=>?_
  refine Zv Az (by kernel_rfl) ?_
  refine qP R (Zd R iL) (qP R (BB R iL iL) (qP R (Zd R iL) (qO R (fB R Cz iL fR R) (qO R (Zg (a:=qc g1.Merges) R DK (iR R) R R) (qO R (Zd R iL) (Zb h10 fun x5 ex5 h11=>qO R (BT R (iR R) iL (AZ ex5)) (Zb h11 fun x6 ex6 h12=>qO R (Zt R B0.slice (iR R) (iR R) (fun _=>R) (AZ ex6)) (qO R (BV (cs:=(BI x6)) R DJ (iR R) R R) (qO R (Cn R DJ iL R R) (Zb h12 fun r2 er2 h13=>Ff (.one R R R) R R (r:=rB r2) (caps:=[]) (bs:=[.agg (BI x6),.agg (BI x4)]) R iL R ⟨⟨_,(iR R),.g (cs:=[.int .i64 x6.Row,.int .i64 x6.Col,.int .i64 x6.H,.int .i64 x6.W]) R R⟩,⟨_,(iR R),.g (cs:=[.int .i64 x4.Row,.int .i64 x4.Col,.int .i64 x4.H,.int .i64 x4.W]) R R⟩,Za⟩ (fun hg=>Uw (AZ er2 hg)) R (qO R (Zp R (iR R)) (qP R (A6 R iL (iR R)) (qP R (Co R iL) (AQ.nil (c20 _ (cI R h13 (fun h14=>?_) fun h14=>?_))))))))))))))))
  ·exact zI (he1 _ (xH hx1 h14)) R id
  refine aT fun c22=>(aG [1,4,5,35,36,37] [1,5] ?_)
  refine aR (lF Cz DK R R (mM R (Zb h14 fun l1 el1 h15=>?_)))
  refine sQ R (RB R B0.slice iL (by exact R) (by exact ⟨_,iL⟩) (fun _=>R) (fun _=>el1)) ?_
  refine sQ R (Qz (bs:=[pT 5 (i3 0)]) R (by exact ⟨iL,Za⟩)) ?_
  refine Zb h15 fun r3 er3 h16=>?_
  refine Zz [5] (hc:=(B3 (i3 0) x4)) (bs:=[qc l1,.fn 89 [pT 1000 (i3 0)]]) (caps:=[]) R R R R iL R ⟨.inl ⟨iL,R⟩,.inl ⟨iL,R⟩,Za⟩ ⟨R,R,R,Za⟩ (by decide) (Sh er3) ?_
  intro i6 n1
  refine BJ [1,4,5,35,36,37,74,75,76,77,78,79] [1,5] ?_
  refine AD R (c22 _ (cI R h16 (fun h17=>?_) fun h17=>?_))
  ·exact zI (he1 _ (xH hx1 h17)) R id
  refine Zc (c14 _ (aG [1,35,36,37] [1] ?_))
  exact aR (Zb h17 fun x7 ex7 h18=>(xA R ex7 (mM R (Zi (Zm h18 (AG [n1]) wk)))))
 exact Zk (wK9 _ _ wk (J1 _ (AG [(i3 0)]) (xH hx1 h6)))
theorem VV {k l1 r} (h:J8 k l1=some r):AX Tryz.prog 58 [rI k,qb l1] (rI r):=by
 unfold J8 at h
 refine mF Tryz.func58 Tryz.ntmps58 R fun n0=>aU (AD R (aS fun K2 c2 wK2=>(AI R (xL BO R (mM R (aZ (Ze (Aw h fun o1 hit1 hk1 he1=>?_))))))))
 have J1 : ∀ (u2:Unit) (i5:NN),o1 = .nrm u2→K2 ⟨[],[],(i5 0),36⟩:=by
  intro u2 i5 e
  have h1:=hk1 _ e
  exact c2 _ (zI h1 R id)
 refine Zo (fun (x2:Int) i3=>⟨[(0,rI k),(7,qb l1),(8,rL l1),(9,rI x2)],[],(i3 0),36⟩) (AG [n0]) hit1 wk ?_
 intro x2 i3 v1 hv1 hx1
 have h2:KZ k l1 x2=some v1:=hv1; unfold KZ at h2
 refine aU (xS R (Ak fun c6=>(cI R h2 (fun h3=>?_) fun h3=>?_)))
 ·refine Zc (c6 _ (aT fun c7=>(Ze (aU (Zb h3 fun x4 ex4 h4=>(xI BO R ex4 (xB ((BA x4)) DL R (sS R (Zw (cs:=HC) 6 R Gs R R) (Zl R R (Zj (ds:=(BA x4)) R GO iL R iL R R R R) (aZ (AI R (xQ R (mM R (vF Ex A3 R R (vQ R (DZ R (iR R) iL) (vQ R (Zd R (iR R)) (wQ R (fB R D2 iL fR R) (wQ R (Zg (a:=qa x4.Attrs) R Bu (iR R) R R) (wQ R (Cs R Bq.slice (iR R)) (wQ R (BB R (iR R) iL) (vQ R (Bp R (iR R) (iR R)) (xN R (mM R (vM R (vQ R (Zq R (iR R) iL) (vQ R (Zd R (iR R)) (wQ R (fB R DS iL fR R) (wQ R (Zg (a:=rI x4.Ref) R AH (iR R) R R) (wQ R (Ba R (iR R) iL) (vQ R (A6 R (iR R) (iR R)) (xO R (aZ (cI R h4 (fun h5=>?_) fun h5=>?_)))))))))))))))))))))))))))))))))
  ·exact zI (he1 _ (xH hx1 h5)) R id
  refine Zc (c7 _ (aF [0,7,8,9] ?_))
  exact aR (Zb h5 fun x5 ex5 h6=>(xA R ex5 (mM R (Zi (Zm h6 (AG [((i3 0)+1)]) wk)))))
 exact Zk (wK2 _ _ wk (J1 _ (AG [(i3 0)]) (xH hx1 h3)))
theorem Sv {s1 r} (h:Jl s1=some r):AX Tryz.prog 109 [rS s1] (rB r):=by
 unfold Jl at h
 refine mF Tryz.func109 Tryz.ntmps109 R fun n0=>aU (AD R (aT fun c2=>(AI R (sQ R (Ec R iL iL) (mM R (vM R (vQ R (CY R Tryz.underlying9 (iR R)) (vQ R (BB R (iR R) iL) (xO R (mM R (vM R (vM R (vQ R (CY R Tryz.underlying9 (iR R)) (Zb h fun x1 ex1 h1=>(vQ R (BT R (iR R) iL (AZ ex1)) (Zb h1 fun ch1 ech1 h2=>(vQ R (Zy R Tryz.underlying9 (iR R) (iR R) (AZ ech1)) (vQ R (Zq R (iR R) iL) (xO R (aZ (cI R h2 (fun h3=>?_) fun h3=>?_)))))))))))))))))))))
 ·exact zB h3 R id
 refine Zc (c2 _ (aS fun K5 c5 wK5=>(aT fun c6=>(aF [0] ?_))))
 refine Af R (sQ R (CY R Tryz.underlying9 iL) (mM R (aZ (c6 _ (Ze (Aw h3 fun o1 hit1 hk1 he1=>?_))))))
 have J1 : ∀ (u2:Unit) (i5:NN),o1 = .nrm u2→K5 ⟨[],[],(i5 0),35⟩:=by
  intro u2 i5 e
  have h4:=hk1 _ e
  exact c5 _ (zB h4 R id)
 refine Zo (fun (x3:Int) i3=>⟨[(0,rS s1),(20,rL s1),(21,rI x3)],[],(i3 0),35⟩) (AG [n0]) hit1 wk ?_
 intro x3 i3 v1 hv1 hx1
 have h5:Mg s1 x3=some v1:=hv1; unfold Mg at h5
 refine aU (xS R (Ak fun c9=>(cI R h5 (fun h6=>?_) fun h6=>?_)))
 ·refine Zc (c9 _ (aT fun c10=>(Ze (AI R (AD R (AI R (mM R (Zb h6 fun ch2 ech2 h7=>(sQ R (Zy R Tryz.underlying9 iL iL (fun _=>ech2)) (xS R (mM R (vM R (vM R (vQ R (Zy R Tryz.underlying9 (iR R) (iR R) (fun _=>ech2)) (vQ R (BB R (iR R) iL) (xO R (aZ (cI R h7 (fun h8=>?_) fun h8=>?_))))))))))))))))))
  ·exact zB (he1 _ (xH hx1 h8)) R id
  refine Zc (c10 _ (aF [0,20,21] ?_))
  exact aR (Zb h8 fun x5 ex5 h9=>(xA R ex5 (mM R (Zi (Zm h9 (AG [(i3 0)]) wk)))))
 exact Zk (wK5 _ _ wk (J1 _ (AG [(i3 0)]) (xH hx1 h6)))
theorem Ty {o1 r} (h:Je o1=some r):AX Tryz.prog 91 (Sf o1) (rI r):=by
 unfold Je at h
 refine mF Tryz.func91 Tryz.ntmps91 R fun n0=>aU (sS R (Zu (cs:=(Bm o1)) 1 R iL R R) (AD R (aT fun c2=>(Ze (aU (lF EL AH R R (xU R (mM R (vF EL AH R R (vQ R (Ba R (iR R) iL) (xN R (AD R (cI R h (fun h1=>?_) fun h1=>?_)))))))))))))
 ·exact zI h1 R id
 refine aT fun c5=>(aG [1] [1] ?_)
 refine aR (lF Fe AH R R (xS R (mM R (vF Fe AH R R (vQ R (BB R (iR R) iL) (xO R (mM R (vF Gb AH R R (vQ R (Bn R (iR R) iL) (xO R (mM R (vF Gb AH R R (vQ R (BB R (iR R) iL) (xO R (mM R (vF Nf AH R R (vQ R (Bn R (iR R) iL) (xO R (mM R (vF Nf AH R R (vQ R (BB R (iR R) iL) (xO R (AD R (c5 _ (cI R h1 (fun h2=>?_) fun h2=>?_)))))))))))))))))))))))))
 ·exact zI h2 R id
 refine aS fun K7 c7 wK7=>(aT fun c8=>(aG [1] [1] ?_))
 refine aR (lF EL AH R R (xQ R (mM R (vF MV A3 R R (vQ R (DZ R (iR R) iL) (vQ R (Zd R (iR R)) (wQ R (fB R IE iL fR R) (wQ R (Zg (a:=rS o1.Value) R A3 (iR R) R R) (wQ R (DZ R (iR R) iL) (vQ R (Bp R (iR R) (iR R)) (xN R (AD R (c8 _ (BL h2 fun p1 hp1 hk1=>?_))))))))))))))
 have J1 : ∀ (x1:Bool) (i1:NN),p1=x1→K7 ⟨[(1,pT 1 n0),(41,rB x1)],[bX 1 n0 107 (Bm o1)],(i1 0),116⟩:=by
  intro x1 i1 e
  have h3:=hk1 _ e
  refine c7 _ (cI R h3 (fun h4=>?_) fun h4=>?_)
  ·exact zI h4 R id
  refine aU (lF EL AH R R (xQ R (mM R (vF JY AH R R (vQ R (Bn R (iR R) iL) (vQ R (Zd R (iR R)) (wQ R (fB R JY iL fR R) (wQ R (Zg (a:=rI o1.Parent) R AH (iR R) R R) (wQ R (BB R (iR R) iL) (vQ R (Bp R (iR R) (iR R)) (xN R (AD R (cI R h4 (fun h5=>?_) fun h5=>?_)))))))))))))
  ·exact zI h5 R id
  refine aS fun K12 c12 wK12=>(aT fun c13=>(aG [1] [1] ?_))
  refine aR (lF EL AH R R (xQ R (mM R (vF Mh A3 R R (Zb h5 fun r1 er1 h6=>vL (fun hg=>Sv (AZ er1 hg)) R (vQ R (Zp R (iR R)) (xN R (AD R (c13 _ (BL h6 fun p2 hp2 hk2=>?_))))))))))
  have J2 : ∀ (x2:Bool) (i2:NN),p2=x2→K12 ⟨[(1,pT 1 n0),(82,rB x2)],[bX 1 n0 107 (Bm o1)],(i2 0),116⟩:=by
   intro x2 i2 e
   have h7:=hk2 _ e
   refine c12 _ (cI R h7 (fun h8=>?_) fun h8=>?_)
   ·exact zI h8 R id
   refine aU (lF EL AH R R (xQ R (mM R (vF IE A3 R R (vQ R (DZ R (iR R) iL) (xN R (mM R (vF IE A3 R R (Zb h8 fun r2 er2 h9=>vL (fun hg=>P9 (AZ er2 hg)) R (vQ R (Zp R (iR R)) (xN R (AD R (cI R h9 (fun h10=>?_) fun h10=>?_)))))))))))))
   ·exact zI h10 R id
   exact Zc (c2 _ (zI h10 R id))
  refine aC R (fun hc7=>?_) (fun hc7=>?_)
  ·have h11:=C8 hc7 hp2
   exact Zc (wK12 _ _ wk (J2 _ (AG [(i1 0)]) (Zf h11).symm))
  ·have h11:=Cw hc7 hp2
   refine aG [1] [1] ?_
   exact aR (lF EL AH R R (xQ R (mM R (vF MV A3 R R (Zb h11 fun r3 er3 h12=>vL (fun hg=>Mm (AZ er3 hg)) R (vQ R (Zp R (iR R)) (xN R (mA R (Zi (wK12 _ _ wk (J2 _ (AG [(i1 0)]) (Zf h12).symm)))))))))))
 refine aC R (fun hc8=>?_) (fun hc8=>?_)
 ·have h13:=C8 hc8 hp1
  exact Zc (wK7 _ _ wk (J1 _ (AG [(n0+1)]) (Zf h13).symm))
 ·have h13:=Cw hc8 hp1
  refine aG [1] [1] ?_
  exact aR (lF EL AH R R (xQ R (mM R (vF JY AH R R (vQ R (Ba R (iR R) iL) (vQ R (Zd R (iR R)) (wQ R (fB R Mh iL fR R) (wQ R (Zg (a:=rS o1.Place) R A3 (iR R) R R) (wQ R (DZ R (iR R) iL) (vQ R (Bp R (iR R) (iR R)) (xN R (mA R (Zi (wK7 _ _ wk (J1 _ (AG [(n0+1)]) (Zf h13).symm)))))))))))))))
theorem SG {a1 b1 r} (h:Kn a1 b1=some r):AX Tryz.prog 92 [.agg (Bm a1),.agg (Bm b1)] (rI r):=by
 unfold Kn at h
 refine mF Tryz.func92 Tryz.ntmps92 R fun n0=>aU (sS R (Zu (cs:=(Bm a1)) 2 R iL R R) (sS R (Zu (cs:=(Bm b1)) 3 R iL R R) (AD R (aT fun c2=>(Zb h fun r1 er1 h1=>?_)))))
 refine rP 9 [pO 5 (pT 2 n0),pO 6 (rI a1.Clock),pO 7 (pT 3 (n0+1)),pO 8 (rI b1.Clock),pO 9 (rI r1),pO 10 (.ptr 2 n0 0 1),pO 11 (rI a1.Site),pO 12 (.ptr 3 (n0+1) 0 1),pO 13 (rI b1.Site)] Az R (by exact ⟨oB [(2,pT 2 n0)] (Lx n0 a1) (fB R Fe (.inl R) (fun _=>R) R),oB [(5,pT 2 n0)] (Lx n0 a1) (Zg (a:=rI a1.Clock) R AH (.inl R) R R),oB [(3,pT 3 (n0+1))] (MP (n0+1) b1) (fB R Fe (.inl R) (fun _=>R) R),oB [(7,pT 3 (n0+1))] (MP (n0+1) b1) (Zg (a:=rI b1.Clock) R AH (.inl R) R R),oD (fun _=>[(6,rI a1.Clock),(8,rI b1.Clock)]) (fun _=>[]) (fun G1 e h' n=>DY (r:=rI r1) (caps:=[]) (bs:=[rI a1.Clock,rI b1.Clock]) R (.inl R) R ⟨⟨_,(.inl R),.d R⟩,⟨_,(.inl R),.d R⟩,Za⟩ (fun _=>LB (er1)) R),oB [(2,pT 2 n0)] (Lx n0 a1) (fB R Gb (.inl R) (fun _=>R) R),oB [(10,.ptr 2 n0 0 1)] (Lx n0 a1) (Zg (a:=rI a1.Site) R AH (.inl R) R R),oB [(3,pT 3 (n0+1))] (MP (n0+1) b1) (fB R Gb (.inl R) (fun _=>R) R),oB [(12,.ptr 3 (n0+1) 0 1)] (MP (n0+1) b1) (Zg (a:=rI b1.Site) R AH (.inl R) R R),Za⟩) fun G1 n1=>?_
 refine BJ [0,1,2,3,4,5,6,7,8,9,10,11,12,13] [2,3] ?_
 exact Zb h1 fun r2 er2 h2=>(cL (LB (er2)) R (sS R (Br 15 R A2 (f:=(AL .i64)) (l:=([r1,r2]:List Int)) ⟨R,⟨_,iL,R⟩,R,⟨_,iL,R⟩,Za⟩ R (fun _=>R) R) (Zb h2 fun r3 er3 h3=>(cL (Of (er3)) R (AD R (c2 _ (Zh (yI h3 R))))))))
theorem UT {l1 r} (h:Jz l1=some r):AX Tryz.prog 59 [qf l1] (rI r):=by
 unfold Jz at h
 refine mF Tryz.func59 Tryz.ntmps59 R fun n0=>aU (AD R (aS fun K2 c2 wK2=>(AI R (xL CI R (mM R (aZ (Ze (Aw h fun o1 hit1 hk1 he1=>?_))))))))
 have J1 : ∀ (u2:Unit) (i5:NN),o1 = .nrm u2→K2 ⟨[],[],(i5 0),31⟩:=by
  intro u2 i5 e
  have h1:=hk1 _ e
  exact c2 _ (zI h1 R id)
 refine Zo (fun (x2:Int) i3=>⟨[(0,qf l1),(6,qf l1),(7,rL l1),(8,rI x2)],[],(i3 0),31⟩) (AG [n0]) hit1 wk ?_
 intro x2 i3 v1 hv1 hx1
 have h2:JO l1 x2=some v1:=hv1; unfold JO at h2
 refine aU (xS R (Ak fun c6=>(cI R h2 (fun h3=>?_) fun h3=>?_)))
 ·refine Zc (c6 _ (aT fun c7=>(Ze (AI R (Zb h3 fun x4 ex4 h4=>(xI CI R ex4 (xB ((Bm x4)) EV R (sS R (Zw (cs:=[rI 0,rI 0,rI 0,rI 0,rI 0,.r (.str []),.r (.str []),.r (.str [])]) 4 R QH R R) (mA R (Zl R R (Zj (ds:=(Bm x4)) R QZ iL R iL R R R R) (Ak fun c9=>(aU (xC EV R (Zb h4 fun e1 ee1 h5=>(cL (Ty (ee1)) R (AD R (AI R (xU R (aZ (cI R h5 (fun h6=>?_) fun h6=>?_))))))))))))))))))))
  ·refine aT fun c12=>(aF [5] ?_)
   exact Af R (AD R (c12 _ (Zh (yI (he1 _ (xH hx1 h6)) R))))
  refine Zc (c9 _ (aT fun c13=>(aG [0,3,4,6,7,8] [4] ?_)))
  refine Zv Az (by kernel_rfl) ?_
  refine qP R (Zd R iL) (qP R (BB R iL iL) (qP R (Zd R iL) (qO R (Zd R iL) (qO R (Zd R iL) (Zb h6 fun x5 ex5 h7=>qO R (BT R (iR R) iL (AZ ex5)) (Zb h7 fun x6 ex6 h8=>qO R (Zt R CI.slice (iR R) (iR R) (fun _=>R) (AZ ex6)) (qO R (BV (cs:=(Bm x6)) R EV (iR R) R R) (qO R (Cn R EV iL R R) (Zb h8 fun r1 er1 h9=>Ff (.one R R R) R R (r:=rI r1) (caps:=[]) (bs:=[.agg (Bm x6),.agg (Bm x4)]) R iL R ⟨⟨_,(iR R),.g (cs:=[.int .i64 x6.Clock,.int .i64 x6.Site,.int .i64 x6.Kind,.int .i64 x6.Item,.int .i64 x6.Parent,.str x6.Place,.str x6.Name,.str x6.Value]) R R⟩,⟨_,(iR R),.g (cs:=[.int .i64 x4.Clock,.int .i64 x4.Site,.int .i64 x4.Kind,.int .i64 x4.Item,.int .i64 x4.Parent,.str x4.Place,.str x4.Name,.str x4.Value]) R R⟩,Za⟩ (fun hg=>SG (AZ er1 hg)) R (qO R (Bf R (iR R) iL) (qP R (A6 R iL (iR R)) (AQ.nil (c13 _ (cI R h9 (fun h10=>?_) fun h10=>?_))))))))))))))
  ·exact zI (he1 _ (xH hx1 h10)) R id
  exact Zc (c7 _ (aR (Zb h10 fun x7 ex7 h11=>(xA R ex7 (mM R (Zi (Zm h11 (AG [((i3 0)+1)]) wk)))))))
 exact Zk (wK2 _ _ wk (J1 _ (AG [(i3 0)]) (xH hx1 h3)))
theorem WG {n1 r} (h:Dk n1=some r):AX Tryz.prog 36 (FX n1) (rI r):=by
 unfold Dk at h
 refine mF Tryz.func36 Tryz.ntmps36 R fun n0=>aU (sS R (Zu (cs:=(Ao n1)) 1 R iL R R) (AD R (aT fun c2=>(Ze (aU (lF B7 AH R R (xS R (mM R (vF B7 AH R R (vQ R (BB R (iR R) iL) (xO R (AD R (cI R h (fun h1=>?_) fun h1=>?_)))))))))))))
 ·exact zI h1 R id
 refine aT fun c5=>(aG [1] [1] ?_)
 refine aR (lF Bg AH R R (xS R (mM R (vF Bg AH R R (vQ R (Bf R (iR R) iL) (xO R (mM R (vF B7 AH R R (vQ R (Zq R (iR R) iL) (vF Bg AH R R (vQ R (Zq R (iR R) iL) (vQ R (Su R Tryz.underlying4 (iR R) (iR R)) (xO R (AD R (c5 _ (cI R h1 (fun h2=>?_) fun h2=>?_))))))))))))))))
 ·exact zI h2 R id
 refine Zc (c2 _ (aT fun c7=>(aT fun c8=>(aG [1] [1] ?_))))
 refine aR (lF Fv Bu R R (Zb h2 fun e1 ee1 h3=>(cL (OL (ee1)) R (AD R (c8 _ (AI R (xU R (aZ (cI R h3 (fun h4=>?_) fun h4=>?_)))))))))
 ·exact AI R (AD R (Zh (yI h4 R)))
 refine Zc (c7 _ (aT fun c11=>?_))
 refine Zv Az (by kernel_rfl) ?_
 refine qP R (fB R Bg iL fR R) (qP R (Zg (a:=rI n1.Kind) R AH iL R R) (Zb h4 fun r1 er1 h5=>D0 R R R (r:=rB r1) (caps:=[]) (bs:=[rI n1.Kind]) R iL R ⟨⟨_,iL,.d R⟩,Za⟩ (fun _=>Ps (er1)) R (qP R (Zd R iL) (qO R (fB R Bg iL fR R) (qO R (Zg (a:=rI n1.Kind) R AH (iR R) R R) (Zb h5 fun r2 er2 h6=>Ff (.one R R R) R R (r:=rB r2) (caps:=[]) (bs:=[rI n1.Kind]) R iL R ⟨⟨_,(iR R),.d R⟩,Za⟩ (fun hg=>Xr (AZ er2 hg)) R (qP R (Bp R iL (iR R)) (qP R (fB R Bg iL fR R) (qP R (Zg (a:=rI n1.Kind) R AH iL R R) (Zb h6 fun grids1 egrids1 h7=>D0 R R R (r:=rB grids1) (caps:=[]) (bs:=[rI n1.Kind]) R iL R ⟨⟨_,iL,.d R⟩,Za⟩ (fun _=>Te (egrids1)) R (qP R (Co R iL) (qP R (Co R iL) (AQ.nil (c11 _ (aT fun c12=>(aS fun K13 c13 wK13=>aG [1,4,5] [1] ?_))))))))))))))))
 refine Af R (sQ R (Zp R iL) (mM R (vF DV Dn R R (vQ R (Cs R BD.slice (iR R)) (vQ R (BB R (iR R) iL) (xN R (mM R (vM R (vQ R (Zp R (iR R)) (vQ R (Zd R (iR R)) (wQ R (fB R DC iL fR R) (wQ R (FS (ds:=(Bj n1.Grid)) R El (iR R) R R R) ?_))))))))))))
 refine wQ R (DG R Rt (q:=[]) (by exact Za) (cs:=LG) (by rfl)) ?_
 refine BL h7 fun p1 hp1 hk1=>?_
 have J1 : ∀ (x1:Bool) (i1:NN),p1=x1→K13 ⟨[(1,pT 1 n0),(4,rB ((r1 || r2))),(5,rB grids1),(81,rB x1)],[bX 1 n0 71 (Ao n1)],(i1 0),107⟩:=by
  intro x1 i1 e
  have h8:=hk1 _ e
  refine c13 _ (cI R h8 (fun h9=>?_) fun h9=>?_)
  ·exact zI h9 R id
  refine Zc (c12 _ (aT fun c15=>(Ze (AI R (AD R (cI R h9 (fun h10=>?_) fun h10=>?_))))))
  ·refine aT fun c17=>?_
   refine Zv Az (by kernel_rfl) ?_
   exact qP R (fB R DV iL fR R) (qP R (Zg (a:=qd n1.Flow) R Dn iL R R) (qP R (fB R Bg iL fR R) (qP R (Zg (a:=rI n1.Kind) R AH iL R R) (D0 R R R (r:=rB r1) (caps:=[]) (bs:=[rI n1.Kind]) R iL R ⟨⟨_,iL,.d R⟩,Za⟩ (fun _=>Ps (er1)) R (Zb h10 fun r4 er4 h11=>D0 R R R (r:=rI r4) (caps:=[]) (bs:=[qd n1.Flow,rB r1]) R iL R ⟨⟨_,iL,.d R⟩,⟨_,iL,.d R⟩,Za⟩ (fun _=>T7 (er4)) R (qP R (Co R iL) (AQ.nil (c17 _ (Zh (yI h11 R))))))))))
  refine AI R (AD R (cI R h10 (fun h12=>?_) fun h12=>?_))
  ·refine aT fun c19=>(aU (sQ R (fB R DC iL fR R) (sQ R (FS (ds:=(Bj n1.Grid)) R El iL R R R) (Zb h12 fun e2 ee2 h13=>(cL (Xt (ee2)) R (AD R (aT fun c21=>(aG [1,6] [1] ?_))))))))
   refine Af R (xU R (aZ (c21 _ (cI R h13 (fun h14=>?_) fun h14=>?_))))
   ·exact AI R (AD R (Zh (yI h14 R)))
   exact Zc (c19 _ (aU (lF Bg AH R R (sQ R (fB R DC iL fR R) (lF Ci C0 R R (Zb h14 fun r5 er5 h15=>(cL (VV (er5)) R (AD R (Zh (yI h15 R))))))))))
  exact Zc (c15 _ (aU (lF D5 Ef R R (Zb h12 fun r6 er6 h16=>(cL (UT (er6)) R (AD R (Zh (yI h16 R))))))))
 refine AK.split (((!(r1 || r2)) && (decide (0<(n1.Flow.length:Int)))) == false) (fun hg1=>?_) (fun hg1=>?_)
 ·have h17:=C8 hg1 hp1
  refine AK.weak (by exact Kz (e':=[(1,pT 1 n0),(4,rB ((r1 || r2))),(5,rB grids1),(51,rB ((r1 || r2))),(52,rB ((!(r1 || r2)))),(53,rB ((!(r1 || r2)))),(58,rB (((!(r1 || r2)) && (decide (0<(n1.Flow.length:Int)))))),(59,rB (((!(r1 || r2)) && (decide (0<(n1.Flow.length:Int)))))),(60,rB grids1),(61,rB ((!grids1))),(62,rB ((!grids1))),(63,.whn ((!grids1) == true) (.ptr 1 n0 0 4)),(64,.whn ((!grids1) == true) (.agg (Bj n1.Grid))),(65,.whn ((!grids1) == true) (.agg LG))]) hg1 ⟨.inl R,.inl R,.inl R,.inl R,.inl R,.inl R,.inl R,.inl R,.inr iL,.inr iL,.inr iL,.inr (.inr (.inl ⟨_,_,R,R⟩)),.inr (.inr (.inl ⟨_,_,R,R⟩)),.inr (.inr (.inl ⟨_,_,R,R⟩)),Za⟩) ?_
  refine AK.split ((!grids1) == true) (fun hg2=>?_) (fun hg2=>?_)
  ·have h18:=C8 hg2 h17
   refine AK.weak (by exact Kz (e':=[(1,pT 1 n0),(4,rB ((r1 || r2))),(5,rB grids1),(51,rB ((r1 || r2))),(52,rB ((!(r1 || r2)))),(53,rB ((!(r1 || r2)))),(58,rB (((!(r1 || r2)) && (decide (0<(n1.Flow.length:Int)))))),(59,rB (((!(r1 || r2)) && (decide (0<(n1.Flow.length:Int)))))),(60,rB grids1),(61,rB ((!grids1))),(62,rB ((!grids1))),(63,.ptr 1 n0 0 4),(64,.agg (Bj n1.Grid)),(65,.agg LG)]) hg2 ⟨.inl R,.inl R,.inl R,.inl R,.inl R,.inl R,.inl R,.inl R,.inl R,.inl R,.inl R,.inr iL,.inr iL,.inr iL,Za⟩) ?_
   refine AK.weak (by exact Ac.cv (e':=[(1,pT 1 n0),(4,rB ((r1 || r2))),(5,rB grids1),(51,rB ((r1 || r2))),(52,rB ((!(r1 || r2)))),(53,rB ((!(r1 || r2)))),(58,rB (((!(r1 || r2)) && (decide (0<(n1.Flow.length:Int)))))),(59,rB (((!(r1 || r2)) && (decide (0<(n1.Flow.length:Int)))))),(60,rB grids1),(61,rB ((!grids1))),(62,rB ((!grids1))),(63,.ptr 1 n0 0 4),(64,.agg (Bj n1.Grid)),(65,.agg [rI 0,rI 0,.r (.sl []),.r (.sl [])])]) (h':=[bX 1 n0 71 (Ao n1)]) ⟨jL,jL,jL,jL,jL,jL,jL,jL,jL,jL,jL,jL,jL,.inr ⟨_,_,R,R,⟨.inl R,.inl R,.inr (.inr ⟨R,R⟩),.inr (.inr ⟨R,R⟩),Za⟩⟩,Za⟩ ⟨.inl R,Za⟩ nL) ?_
   exact Zb h18 fun r7 er7 h19=>Dh (.one R R R) hg2 R R (DY (r:=rB r7) (caps:=[]) (bs:=[.agg (Bj n1.Grid),.agg [rI 0,rI 0,.r (.sl []),.r (.sl [])]]) R (.inl R) R ⟨⟨_,(.inl R),.g (cs:=[.int .i64 n1.Grid.Rows,.int .i64 n1.Grid.Cols,.sl (n1.Grid.Cells.map Ae.row),.sl (n1.Grid.Merges.map Ag.row)]) R R⟩,⟨_,(.inl R),.g (cs:=[.int .i64 0,.int .i64 0,.sl ([].map Ae.row),.sl ([].map Ag.row)]) R R⟩,Za⟩ (fun _=>Qn (er7)) R) (Dh (.one R R R) hg2 R R (B2 (Zp R (.inl R)) _) (Dh (.one R R R) hg1 R R (B2 (A6 R (.inl R) (.inl R)) _) (sQ R (Bp R iL iL) (mM R (vF Bg AH R R (Zb h19 fun r8 er8 h20=>vL (fun hg=>Mu (AZ er8 hg)) R (vQ R (Zp R (iR R)) (vQ R (Zd R (iR R)) (wQ R (fB R D5 iL fR R) (wQ R (Zg (a:=qf n1.Draw) R Ef (iR R) R R) (wQ R (Cs R CI.slice (iR R)) (wQ R (BB R (iR R) iL) (vQ R (A6 R (iR R) (iR R)) (xO R (Zi (wK13 _ _ wk (J1 _ (AG [(n0+1)]) (Zf h20).symm)))))))))))))))))
  ·have h18:=Cw hg2 h17
   exact Ct (.one R R R) hg2 R R (Ct (.one R R R) hg2 R R (Dh (.one R R R) hg1 R R (B2 (A6 R (.inl R) (iR R)) _) (sQ R (Bp R iL iL) (mM R (vF Bg AH R R (Zb h18 fun r9 er9 h21=>vL (fun hg=>Mu (AZ er9 hg)) R (vQ R (Zp R (iR R)) (vQ R (Zd R (iR R)) (wQ R (fB R D5 iL fR R) (wQ R (Zg (a:=qf n1.Draw) R Ef (iR R) R R) (wQ R (Cs R CI.slice (iR R)) (wQ R (BB R (iR R) iL) (vQ R (A6 R (iR R) (iR R)) (xO R (Zi (wK13 _ _ wk (J1 _ (AG [(n0+1)]) (Zf h21).symm)))))))))))))))))
 ·have h17:=Cw hg1 hp1
  exact Ct (.two R R R) (PD hg1) R R (Ct (.two R R R) (PD hg1) R R (Ct (.one R R R) hg1 R R (xO R (mM R (vF Bg AH R R (Zb h17 fun r10 er10 h22=>vL (fun hg=>Mu (AZ er10 hg)) R (vQ R (Zp R (iR R)) (vQ R (Zd R (iR R)) (wQ R (fB R D5 iL fR R) (wQ R (Zg (a:=qf n1.Draw) R Ef (iR R) R R) (wQ R (Cs R CI.slice (iR R)) (wQ R (BB R (iR R) iL) (vQ R (A6 R (iR R) (iR R)) (xO R (Zi (wK13 _ _ wk (J1 _ (AG [(n0+1)]) (Zf h22).symm)))))))))))))))))
theorem Ym {f1 r} (h:OY f1=some r):AX Tryz.prog 62 [qd f1] (.r (.sl (r.map (AL .i64)))):=by
 unfold OY at h
 refine mF Tryz.func62 Tryz.ntmps62 R fun n0=>aU (AD R (aU (AD R (aS fun K3 c3 wK3=>(AI R (xL BD R (mM R (aZ (Ze (BL h fun o1 hit1 hk1=>?_))))))))))
 have J1 : ∀ (out4:List Int) (i5:NN),o1=out4→K3 ⟨[(3,.own 5003 (i5 0))],(FZ (i5 0) (out4.map (AL .i64))),(i5 1),22⟩:=by
  intro out4 i5 e
  have h1:=hk1 _ e
  exact c3 _ (AI R (AD R (Zh (Db (P:=Tryz.prog) (fun (r:(List Int))=>.r (.sl (r.map (AL .i64)))) h1 iL (.t (.one (.own R)))))))
 refine Cu (fun (x2:Int) (out2:List Int) i3=>⟨(ME (i3 0) (qd f1) (rL f1) x2),(FZ (i3 0) (out2.map (AL .i64))),(i3 1),22⟩) (AG [n0,(n0+1)]) hit1 (Zs (Zs (HK 3 5003 3 1 (by decide) R) (by exact Ac.cv (e':=[(0,qd f1),(2,cZ),(3,.own 5003 n0),(6,qd f1),(7,rL f1),(8,rI 0)]) (h':=(FZ n0 (([]:List Int).map (AL .i64)))) ⟨jL,jL,jL,jL,jL,jL,Za⟩ ⟨.inl R,Za⟩ nL)) wk) ?_
 intro x2 out2 i3 v1 hv1 hx1
 have h2:F4 f1 x2 out2=some v1:=hv1; unfold F4 at h2
 refine aU (xS R (Ak fun c7=>(cI R h2 (fun h3=>?_) fun h3=>?_)))
 ·refine Zc (c7 _ (aS fun K8 c8 wK8=>(Ze (BL h3 fun p1 hp1 hk2=>?_))))
  have J2 : ∀ (out5:List Int) (i6:NN),p1=out5→K8 ⟨(ME (i6 0) (qd f1) (rL f1) x2),(FZ (i6 0) (out5.map (AL .i64))),(i6 1),22⟩:=by
   intro out5 i6 e
   have h4:=hk2 _ e
   exact c8 _ (aR (Zb h4 fun x4 ex4 h5=>(xA R ex4 (mM R (Zi (CF.mk h5 (AG [(i6 0),(i6 1)]) wk))))))
  refine aU (Zb hp1 fun x5 ex5 h6=>(xI BD R ex5 (xB ((BX x5)) ES R (sS R (Zw (cs:=Ge) 5 R Gm R R) (Zl R R (Zj (ds:=(BX x5)) R Fm iL R iL R R R R) (FK (lF CA AH R R (xU R (aZ (cI R h6 (fun h7=>?_) fun h7=>?_))))))))))
  ·exact Af R (lF CA AH R R (sS R (Br 18 R A2 (f:=(AL .i64)) (l:=([x5.Ref]:List Int)) ⟨R,⟨_,iL,R⟩,Za⟩ R (fun _=>R) R) (Zb h7 fun out6 eout6 h8=>(sS R (Dm R A2 iL R (.inr (.inl ⟨_,_,iL,R⟩)) eout6) (mA R (Zi (wK8 _ _ wk (J2 _ (AG [((i3 1)+2),((i3 1)+3)]) (Zf h8).symm))))))))
  exact Zc (wK8 _ _ wk (J2 _ (AG [(i3 0),((i3 1)+1)]) (Zf h7).symm))
 exact Zk (wK3 _ _ wk (J1 _ (AG [(i3 0),(i3 1)]) (xH hx1 h3)))
theorem TH {f1 r} (h:IY f1=some r):A1 Tryz.prog 62 1 [qd f1] [] (fun rr h'=>∃ (i:Nat→Nat),rr = .own 1000 (i 0)∧h'=(JP (i 0) (r.map (AL .i64)))):=by
 unfold IY at h
 refine CR Tryz.func62 R R Tryz.ntmps62 (Zr R) fun n0=>aU (AD R (aU (AD R (aS fun K3 c3 wK3=>(AI R (xL BD R (mM R (aZ (Ze (BL h fun o1 hit1 hk1=>?_))))))))))
 have J1 : ∀ (out4:List Int) (i5:NN),o1=out4→K3 ⟨[(3,.own 5003 (i5 0))],(FZ (i5 0) (out4.map (AL .i64))),(i5 1),22⟩:=by
  intro out4 i5 e
  have h1:=hk1 _ e
  refine c3 _ (AI R (AD R ?_))
  exact Zh (BG.mk (s':=⟨[(2,.own 1000 (i5 1))],(JP (i5 1) (out4.map (AL .i64))),((i5 1)+1),22⟩) (Zs (Zs (Ac.ren 2 5003 1000 R R R) (by exact Ac.cv (e':=[(2,.own 1000 (i5 1))]) (h':=(JP (i5 1) (out4.map (AL .i64)))) ⟨jL,Za⟩ ⟨.inl R,Za⟩ nL)) wk) (Zx (fun (r:(List Int)) rr h'=>∃ (i:Nat→Nat),rr = .own 1000 (i 0)∧h'=(JP (i 0) (r.map (AL .i64)))) h1 (by exact ⟨.own 1000 (i5 1),(JP (i5 1) (out4.map (AL .i64))),R,⟨.inr R,Za⟩,R,R,AG [(i5 1)],R,R⟩)))
 refine Cu (fun (x2:Int) (out2:List Int) i3=>⟨(ME (i3 0) (qd f1) (rL f1) x2),(FZ (i3 0) (out2.map (AL .i64))),(i3 1),22⟩) (AG [n0,(n0+1)]) hit1 (Zs (Zs (HK 3 5003 3 1 (by decide) R) (by exact Ac.cv (e':=[(0,qd f1),(2,cZ),(3,.own 5003 n0),(6,qd f1),(7,rL f1),(8,rI 0)]) (h':=(FZ n0 (([]:List Int).map (AL .i64)))) ⟨jL,jL,jL,jL,jL,jL,Za⟩ ⟨.inl R,Za⟩ nL)) wk) ?_
 intro x2 out2 i3 v1 hv1 hx1
 have h2:C1 f1 x2 out2=some v1:=hv1; unfold C1 at h2
 refine aU (xS R (Ak fun c7=>(cI R h2 (fun h3=>?_) fun h3=>?_)))
 ·refine Zc (c7 _ (aS fun K8 c8 wK8=>(Ze (BL h3 fun p1 hp1 hk2=>?_))))
  have J2 : ∀ (out5:List Int) (i6:NN),p1=out5→K8 ⟨(ME (i6 0) (qd f1) (rL f1) x2),(FZ (i6 0) (out5.map (AL .i64))),(i6 1),22⟩:=by
   intro out5 i6 e
   have h4:=hk2 _ e
   exact c8 _ (aR (Zb h4 fun x4 ex4 h5=>(xA R ex4 (mM R (Zi (CF.mk h5 (AG [(i6 0),(i6 1)]) wk))))))
  refine aU (Zb hp1 fun x5 ex5 h6=>(xI BD R ex5 (xB ((BX x5)) ES R (sS R (Zw (cs:=Ge) 5 R Gm R R) (Zl R R (Zj (ds:=(BX x5)) R Fm iL R iL R R R R) (FK (lF CA AH R R (xU R (aZ (cI R h6 (fun h7=>?_) fun h7=>?_))))))))))
  ·exact Af R (lF CA AH R R (sS R (Br 18 R A2 (f:=(AL .i64)) (l:=([x5.Ref]:List Int)) ⟨R,⟨_,iL,R⟩,Za⟩ R (fun _=>R) R) (Zb h7 fun out6 eout6 h8=>(sS R (Dm R A2 iL R (.inr (.inl ⟨_,_,iL,R⟩)) eout6) (mA R (Zi (wK8 _ _ wk (J2 _ (AG [((i3 1)+2),((i3 1)+3)]) (Zf h8).symm))))))))
  exact Zc (wK8 _ _ wk (J2 _ (AG [(i3 0),((i3 1)+1)]) (Zf h7).symm))
 exact Zk (wK3 _ _ wk (J1 _ (AG [(i3 0),(i3 1)]) (xH hx1 h3)))
theorem R0 {n1 r} (h:FQ n1=some r):AX Tryz.prog 38 (FX n1) (.r (.sl (r.map (AL .i64)))):=by
 unfold FQ at h
 refine mF Tryz.func38 Tryz.ntmps38 R fun n0=>aU (sS R (Zu (cs:=(Ao n1)) 1 R iL R R) (AD R (aT fun c2=>(aR (lF DV Dn R R (Zb h fun w1 ew1 h1=>?_))))))
 refine Zz [8] (hc:=[]) (bs:=[qd n1.Flow]) (caps:=[]) R R R R iL R ⟨.inl ⟨iL,R⟩,Za⟩ Za (by decide) (TH ew1) ?_
 intro i1 n2
 refine BJ [0,1,2,6,7,8] [1,8] ?_
 refine AD R (c2 _ (aS fun K3 c3 wK3=>(aU (sQ R (fB R DC iL fR R) (lF Ci C0 R R (xL BO R (mM R (aZ (Ze (BL h1 fun o1 hit1 hk1=>?_))))))))))
 have J1 : ∀ (out4:List Int) (i6:NN),o1=out4→K3 ⟨[(3,.own 8 (i6 0))],[aX 8 (i6 0) 3 1 (out4.map (AL .i64))],(i6 1),27⟩:=by
  intro out4 i6 e
  have h2:=hk1 _ e
  exact c3 _ (AI R (AD R (Zh (Db (P:=Tryz.prog) (fun (r:(List Int))=>.r (.sl (r.map (AL .i64)))) h2 iL (.t (.one (.own R)))))))
 refine Cu (fun (x2:Int) (out2:List Int) i4=>⟨[(3,.own 8 (i4 0)),(11,qb n1.Grid.Cells),(12,rL n1.Grid.Cells),(13,rI x2)],[aX 8 (i4 0) 3 1 (out2.map (AL .i64))],(i4 1),27⟩) (AG [(i1 0),n2]) hit1 wk ?_
 intro x2 out2 i4 v1 hv1 hx1
 have h3:Dr n1 x2 out2=some v1:=hv1; unfold Dr at h3
 refine aU (xS R (Ak fun c7=>(cI R h3 (fun h4=>?_) fun h4=>?_)))
 ·refine Zc (c7 _ (aS fun K8 c8 wK8=>(Ze (BL h4 fun p1 hp1 hk2=>?_))))
  have J2 : ∀ (out5:List Int) (i7:NN),p1=out5→K8 ⟨[(3,.own 8 (i7 0)),(11,qb n1.Grid.Cells),(12,rL n1.Grid.Cells),(13,rI x2)],[aX 8 (i7 0) 3 1 (out5.map (AL .i64))],(i7 1),27⟩:=by
   intro out5 i7 e
   have h5:=hk2 _ e
   exact c8 _ (aR (Zb h5 fun x4 ex4 h6=>(xA R ex4 (mM R (Zi (CF.mk h6 (AG [(i7 0),(i7 1)]) wk))))))
  refine aU (Zb hp1 fun x5 ex5 h7=>(xI BO R ex5 (xB ((BA x5)) DL R (sS R (Zw (cs:=HC) 5 R Gs R R) (Zl R R (Zj (ds:=(BA x5)) R GO iL R iL R R R R) (FK (lF DS AH R R (xU R (aZ (cI R h7 (fun h8=>?_) fun h8=>?_))))))))))
  ·exact Af R (lF DS AH R R (sS R (Br 23 R A2 (f:=(AL .i64)) (l:=([x5.Ref]:List Int)) ⟨R,⟨_,iL,R⟩,Za⟩ R (fun _=>R) R) (Zb h8 fun out6 eout6 h9=>(sS R (Dm R A2 iL R (.inr (.inl ⟨_,_,iL,R⟩)) eout6) (mA R (Zi (wK8 _ _ wk (J2 _ (AG [((i4 1)+2),((i4 1)+3)]) (Zf h9).symm))))))))
  exact Zc (wK8 _ _ wk (J2 _ (AG [(i4 0),((i4 1)+1)]) (Zf h8).symm))
 exact Zk (wK3 _ _ wk (J1 _ (AG [(i4 0),(i4 1)]) (xH hx1 h4)))
theorem RH {n1 i r} (h:Hn n1 i=some r):AX Tryz.prog 94 [.agg (Ao n1),rI i] (rI r):=by
 unfold Hn at h
 refine mF Tryz.func94 Tryz.ntmps94 R fun n0=>aU (sS R (Zu (cs:=(Ao n1)) 2 R iL R R) (AD R (aT fun c2=>(Ze (aU (lF B7 AH R R (mM R (xS R (AD R (cI R h (fun h1=>?_) fun h1=>?_))))))))))
 ·exact zI h1 R id
 refine aU (lF B7 AH R R (mM R (sQ R (BB R iL iL) (AD R (cI R h1 (fun h2=>?_) fun h2=>?_)))))
 ·exact zI h2 R id
 exact Zc (c2 _ (zI h2 R id))
theorem XU {x1 a r} (h:JB x1 a=some r):AX Tryz.prog 93 [qe x1,rI a,.fn 94 []] (.tup [rI r.1,rB r.2]):=by
 unfold JB at h
 refine mF Tryz.func93 Tryz.ntmps93 R fun n0=>aU (mA R (AD R (AI R (xL BK R (AD R (AI R (mA R (AD R (aS fun K4 c4 wK4=>(Ze (BL h fun o1 hit1 hk1=>?_)))))))))))
 have J1 : ∀ (i8:Int) (i9:NN),o1=i8→K4 ⟨[(0,qe x1),(1,rI a),(2,.fn 94 []),(8,rL x1),(9,rI i8)],[],(i9 0),49⟩:=by
  intro i8 i9 e
  have h1:=hk1 _ e
  exact c4 _ (AI R (mM R (mM R (xS R (mM R (vM R (vM R (vM R (Zb h1 fun x2 ex2 h2=>(vQ R (Zt R BK.slice (iR R) (iR R) (fun _=>R) (AZ ex2)) (vQ R (BV (cs:=(Ao x2)) R CG (iR R) R R) (vM R (Zb h2 fun r1 er1 h3=>AK.stepW (.one R R R) R R (DY (r:=rI r1) (caps:=[]) (bs:=[.agg (Ao x2),rI a]) R (iR R) R ⟨⟨_,(iR R),.g (cs:=[.int .i64 x2.ID,.int .i64 x2.Kind,.sl (x2.Attrs.map Ab.row),.sl (x2.Flow.map AO.row),.int .i64 x2.Grid.Rows,.int .i64 x2.Grid.Cols,.sl (x2.Grid.Cells.map Ae.row),.sl (x2.Grid.Merges.map Ag.row),.sl (x2.Draw.map Aq.row)]) R R⟩,⟨_,(iR R),.d R⟩,Za⟩ (fun hg=>RH (AZ er1 hg)) R) (vQ R (Zq R (iR R) iL) (xN R (mA R (AD R (Zh (Dw (P:=Tryz.prog) (fun (r:Int × Bool)=>rI r.1) (fun (r:Int × Bool)=>rB r.2) h3 iL (.t (.d R)) (.t (.d R)))))))))))))))))))))
 refine Cu (fun (i4:Int) (j2:Int) i5=>⟨[(0,qe x1),(1,rI a),(2,.fn 94 []),(8,rL x1),(9,rI i4),(10,rI j2)],[],(i5 0),49⟩) (AG [n0]) hit1 wk ?_
 intro i4 j2 i5 v1 hv1 hx1
 have h4:DP x1 a i4 j2=some v1:=hv1; unfold DP at h4
 refine aT fun c6=>(AI R (mM R (xS R (aZ (cI R h4 (fun h5=>?_) fun h5=>?_)))))
 ·refine Zc (c6 _ (Ze (AI R (mM R (Zb h5 fun x3 ex3 h6=>(xA R ex3 (sQ R (ZB R Tryz.underlying3 Tryz.underlying135 iL) (sQ R (M1 (b:=1) R iL iL) (sQ R (ZB R Tryz.underlying135 Tryz.underlying3 iL) (AD R (aT fun c9=>(aF [0,1,2,8,9,10,11] ?_))))))))))))
  refine Af R (mM R (mM R (Zb h6 fun x4 ex4 h7=>(xI BK R ex4 (xB ((Ao x4)) CG R (mM R (Zb h7 fun r2 er2 h8=>(cL (RH (er2)) R (xS R (aZ (c9 _ (cI R h8 (fun h9=>?_) fun h9=>?_))))))))))))
  ·refine aF [0,1,2,8,10,11] ?_
   exact Af R (Zb h9 fun i10 ei10 h10=>(xA R ei10 (mA R (Zi (CF.mk h10 (AG [(i5 0)]) wk)))))
  refine aF [0,1,2,8,9,11] ?_
  exact Af R (mA R (Zi (CF.mk h9 (AG [(i5 0)]) wk)))
 exact Zk (wK4 _ _ wk (J1 _ (AG [(i5 0)]) (xH hx1 h5)))
theorem VY {d1 i r} (h:Gl d1 i=some r):AX Tryz.prog 60 [.agg [qe d1.Nodes],rI i] (.tup [rI r.1,rB r.2]):=by
 unfold Gl at h
 exact mF Tryz.func60 Tryz.ntmps60 R fun n0=>aU (sS R (Zu (cs:=[qe d1.Nodes]) 2 R iL R R) (mA R (AD R (aU (lF Bh Bl R R (mM R (Ee h fun r1 r2 er1 h1=>(sS R (DY (r:=.tup [rI r1,rB r2]) (caps:=[]) (bs:=[qe d1.Nodes,rI i,.fn 94 []]) R iL R ⟨⟨_,iL,.d R⟩,⟨_,iL,.d R⟩,⟨_,iL,.one (.closed (.fn 94 []) R)⟩,Za⟩ (fun _=>XU (er1)) R) (xX R (xX R (mA R (AD R (Zh (Dw (P:=Tryz.prog) (fun (r:Int × Bool)=>rI r.1) (fun (r:Int × Bool)=>rB r.2) h1 iL (.t (.d R)) (.t (.d R))))))))))))))))
theorem Uf {s1 v1 r} (h:IO s1 v1=some r):AX Tryz.prog 39 [.r (.sl (s1.map (AL .i64))),rI v1] (rI r):=by
 unfold IO at h
 refine mF Tryz.func39 Tryz.ntmps39 R fun n0=>aU (AD R (aS fun K2 c2 wK2=>(AI R (xL A2 R (mM R (aZ (Ze (Aw h fun o1 hit1 hk1 he1=>?_))))))))
 have J1 : ∀ (u2:Unit) (i5:NN),o1 = .nrm u2→K2 ⟨[],[],(i5 0),19⟩:=by
  intro u2 i5 e
  have h1:=hk1 _ e
  exact c2 _ (zI h1 R id)
 refine Zo (fun (x2:Int) i3=>⟨[(0,.r (.sl (s1.map (AL .i64)))),(1,rI v1),(7,rL s1),(8,rI x2)],[],(i3 0),19⟩) (AG [n0]) hit1 wk ?_
 intro x2 i3 v2 hv1 hx1
 have h2:Eb s1 v1 x2=some v2:=hv1; unfold Eb at h2
 refine aU (xS R (Ak fun c6=>(cI R h2 (fun h3=>?_) fun h3=>?_)))
 ·refine Zc (c6 _ (aT fun c7=>(Ze (AI R (AD R (AI R (mM R (mM R (Zb h3 fun x4 ex4 h4=>(xI A2 R ex4 (xV (.int .i64 x4) AH R (xQ R (aZ (cI R h4 (fun h5=>?_) fun h5=>?_))))))))))))))
  ·refine aT fun c10=>(aF [5] ?_)
   exact Af R (AD R (c10 _ (Zh (yI (he1 _ (xH hx1 h5)) R))))
  refine Zc (c7 _ (aF [0,1,7,8] ?_))
  exact aR (Zb h5 fun x5 ex5 h6=>(xA R ex5 (mM R (Zi (Zm h6 (AG [(i3 0)]) wk)))))
 exact Zk (wK2 _ _ wk (J1 _ (AG [(i3 0)]) (xH hx1 h3)))
theorem QR {s1 v1 r} (h:E1 s1 v1=some r):AX Tryz.prog 23 [.r (.sl (s1.map (AL .i64))),rI v1] (rB r):=by
 unfold E1 at h
 exact mF Tryz.func23 Tryz.ntmps23 R fun n0=>aU (AD R (AI R (mM R (Zb h fun r1 er1 h1=>(cL (Uf (er1)) R (sQ R (Bf R iL iL) (AD R (Zh (yB h1 R)))))))))
theorem Rm {p k r} (h:GY p k=some r):AX Tryz.prog 61 [rI p,rI k] (rB r):=by
 unfold GY at h
 refine mF Tryz.func61 Tryz.ntmps61 R fun n0=>aU (AD R (aU (AD R (aS fun K3 c3 wK3=>(AI R (aZ (Ze (BL h fun p1 hp1 hk1=>?_))))))))
 have J1 : ∀ (l1:List Int) (i1:NN),p1=l1→K3 ⟨[(1,rI k),(5,.r (.sl (l1.map (AL .i64))))],[],(i1 0),29⟩:=by
  intro l1 i1 e
  have h1:=hk1 _ e
  exact c3 _ (AI R (mM R (Zb h1 fun r1 er1 h2=>(cL (QR (er1)) R (AD R (Zh (yB h2 R)))))))
 refine aU (xQ R (AD R (aC R (fun hc1=>?_) (fun hc1=>?_))))
 ·have h3:=C8 hc1 hp1
  refine aR (sS R (Br 9 R A2 (f:=(AL .i64)) (l:=([1,6,7,10,11,12]:List Int)) ⟨R,⟨_,iL,R⟩,R,⟨_,iL,R⟩,R,⟨_,iL,R⟩,R,⟨_,iL,R⟩,R,⟨_,iL,R⟩,R,⟨_,iL,R⟩,Za⟩ R (fun _=>R) R) (mA R (Zi ?_)))
  exact wK3 _ _ (Zs (by exact DE (e':=[(0,rI p),(1,rI k),(4,rB false),(5,.r (.sl ([1,6,7,10,11,12].map (AL .i64)))),(6,rI p),(7,rB ((decide (p=0)))),(8,rB ((decide (p=0)))),(9,.r (.sl ([1,6,7,10,11,12].map (AL .i64))))]) (h':=[]) 9 R ⟨jL,jL,jL,.inl (.inr (.inr ⟨R,R⟩)),jL,jL,jL,.inl (.inr (.inr ⟨R,R⟩)),Za⟩ Za) wk) (J1 _ (AG [(n0+1)]) (Zf h3).symm)
 ·have h3:=Cw hc1 hp1
  refine aU (xQ R (AD R (cI R h3 (fun h4=>?_) fun h4=>?_)))
  ·refine aR (sS R (Br 12 R A2 (f:=(AL .i64)) (l:=([2,4,5,10]:List Int)) ⟨R,⟨_,iL,R⟩,R,⟨_,iL,R⟩,R,⟨_,iL,R⟩,R,⟨_,iL,R⟩,Za⟩ R (fun _=>R) R) (mA R (Zi ?_)))
   exact wK3 _ _ (Zs (by exact DE (e':=[(0,rI p),(1,rI k),(4,rB false),(5,.r (.sl ([2,4,5,10].map (AL .i64)))),(6,rI p),(7,rB ((decide (p=0)))),(8,rB ((decide (p=0)))),(10,rB ((decide (p=1)))),(11,rB ((decide (p=1)))),(12,.r (.sl ([2,4,5,10].map (AL .i64))))]) (h':=[]) 12 R ⟨jL,jL,jL,.inl (.inr (.inr ⟨R,R⟩)),jL,jL,jL,jL,jL,.inl (.inr (.inr ⟨R,R⟩)),Za⟩ Za) wk) (J1 _ (AG [(n0+1)]) (Zf h4).symm)
  refine aU (xQ R (AD R (cI R h4 (fun h5=>?_) fun h5=>?_)))
  ·refine aF [1] ?_
   refine aR (sS R (Br 15 R A2 (f:=(AL .i64)) (l:=([4,5,10]:List Int)) ⟨R,⟨_,iL,R⟩,R,⟨_,iL,R⟩,R,⟨_,iL,R⟩,Za⟩ R (fun _=>R) R) (mA R (Zi ?_)))
   exact wK3 _ _ (Zs (by exact DE (e':=[(1,rI k),(5,.r (.sl ([4,5,10].map (AL .i64)))),(15,.r (.sl ([4,5,10].map (AL .i64))))]) (h':=[]) 15 R ⟨jL,.inl (.inr (.inr ⟨R,R⟩)),.inl (.inr (.inr ⟨R,R⟩)),Za⟩ Za) wk) (J1 _ (AG [(n0+1)]) (Zf h5).symm)
  refine aS fun K9 c9 wK9=>(aU (xQ R (AD R (BL h5 fun p2 hp2 hk2=>?_))))
  have J2 : ∀ (x1:Bool) (i2:NN),p2=x1→K9 ⟨[(1,rI k),(5,cZ),(6,rI p),(16,rB x1)],[],(i2 0),29⟩:=by
   intro x1 i2 e
   have h6:=hk2 _ e
   refine c9 _ (cI R h6 (fun h7=>?_) fun h7=>?_)
   ·refine aR (sS R (Br 19 R A2 (f:=(AL .i64)) (l:=([5]:List Int)) ⟨R,⟨_,iL,R⟩,Za⟩ R (fun _=>R) R) (mA R (Zi ?_)))
    exact wK3 _ _ (Zs (by exact DE (e':=[(1,rI k),(5,.r (.sl ([5].map (AL .i64)))),(6,rI p),(16,rB x1),(19,.r (.sl ([5].map (AL .i64))))]) (h':=[]) 19 R ⟨jL,.inl (.inr (.inr ⟨R,R⟩)),jL,jL,.inl (.inr (.inr ⟨R,R⟩)),Za⟩ Za) wk) (J1 _ (AG [((i2 0)+1)]) (Zf h7).symm)
   refine aU (xQ R (AD R (cI R h7 (fun h8=>?_) fun h8=>?_)))
   ·refine aR (sS R (Br 22 R A2 (f:=(AL .i64)) (l:=([3]:List Int)) ⟨R,⟨_,iL,R⟩,Za⟩ R (fun _=>R) R) (mA R (Zi ?_)))
    exact wK3 _ _ (Zs (by exact DE (e':=[(1,rI k),(5,.r (.sl ([3].map (AL .i64)))),(6,rI p),(16,rB x1),(20,rB ((decide (p=2)))),(21,rB ((decide (p=2)))),(22,.r (.sl ([3].map (AL .i64))))]) (h':=[]) 22 R ⟨jL,.inl (.inr (.inr ⟨R,R⟩)),jL,jL,jL,jL,.inl (.inr (.inr ⟨R,R⟩)),Za⟩ Za) wk) (J1 _ (AG [((i2 0)+1)]) (Zf h8).symm)
   refine aU (xQ R (AD R (cI R h8 (fun h9=>?_) fun h9=>?_)))
   ·refine aR (sS R (Br 25 R A2 (f:=(AL .i64)) (l:=([8,9]:List Int)) ⟨R,⟨_,iL,R⟩,R,⟨_,iL,R⟩,Za⟩ R (fun _=>R) R) (mA R (Zi ?_)))
    exact wK3 _ _ (Zs (by exact DE (e':=[(1,rI k),(5,.r (.sl ([8,9].map (AL .i64)))),(6,rI p),(16,rB x1),(20,rB ((decide (p=2)))),(21,rB ((decide (p=2)))),(23,rB ((decide (p=7)))),(24,rB ((decide (p=7)))),(25,.r (.sl ([8,9].map (AL .i64))))]) (h':=[]) 25 R ⟨jL,.inl (.inr (.inr ⟨R,R⟩)),jL,jL,jL,jL,jL,jL,.inl (.inr (.inr ⟨R,R⟩)),Za⟩ Za) wk) (J1 _ (AG [((i2 0)+1)]) (Zf h9).symm)
   refine Zc ?_
   exact wK3 _ _ ((by exact Ac.cv ⟨jL,.inl (.inr (.inr ⟨R,R⟩)),Za⟩ Za nL)) (J1 _ (AG [(i2 0)]) (Zf h9).symm)
  refine aC R (fun hc7=>?_) (fun hc7=>?_)
  ·have h10:=C8 hc7 hp2
   exact Zc (wK9 _ _ wk (J2 _ (AG [n0]) (Zf h10).symm))
  ·have h10:=Cw hc7 hp2
   refine aF [1,5,6] ?_
   exact aR (xQ R (mA R (Zi (wK9 _ _ wk (J2 _ (AG [n0]) (Zf h10).symm)))))
theorem So {d1 k a r} (h:FU d1 k a=some r):AX Tryz.prog 37 [.agg [qe d1.Nodes],rI k,.r (.sl (a.map (AL .i64)))] (rI r):=by
 unfold FU at h
 refine mF Tryz.func37 Tryz.ntmps37 R fun n0=>aU (sS R (Zu (cs:=[qe d1.Nodes]) 3 R iL R R) (AD R (aS fun K2 c2 wK2=>(AI R (xL A2 R (mM R (aZ (Ze (Aw h fun o1 hit1 hk1 he1=>?_)))))))))
 have J1 : ∀ (u2:Unit) (i5:NN),o1 = .nrm u2→K2 ⟨[],[],(i5 0),35⟩:=by
  intro u2 i5 e
  have h1:=hk1 _ e
  exact c2 _ (zI h1 R id)
 refine Zo (fun (x2:Int) i3=>⟨[(1,rI k),(3,pT 3 n0),(11,.r (.sl (a.map (AL .i64)))),(12,rL a),(13,rI x2)],[bX 3 n0 34 [qe d1.Nodes]],(i3 0),35⟩) (AG [(n0+1)]) hit1 wk ?_
 intro x2 i3 v1 hv1 hx1
 have h2:DF d1 k a x2=some v1:=hv1; unfold DF at h2
 refine aU (xS R (Ak fun c6=>(cI R h2 (fun h3=>?_) fun h3=>?_)))
 ·refine Zc (c6 _ (aT fun c7=>(Ze (aU (Zb h3 fun x4 ex4 h4=>(xI A2 R ex4 (xV (.int .i64 x4) AH R (AD R (aU (xC CU R (mM R (Ee h4 fun r1 r2 er1 h5=>(cL (VY (er1)) R (mM R (xX R (xX R (mA R (AD R (aT fun c10=>(aT fun c11=>(aG [1,3,9,10,11,12,13] [3] ?_)))))))))))))))))))))
  refine Af R (sQ R (Zp R iL) (aZ (c11 _ (cI R h5 (fun h6=>?_) fun h6=>?_))))
  ·exact zI (he1 _ (xH hx1 h6)) R id
  refine Zc (c10 _ (AI R (lF Bh Bl R R (mM R (Zb h6 fun x5 ex5 h7=>(xI BK R ex5 (sQ R (Zn R Bg iL) (xV (.int .i64 x5.Kind) AH R (Zb h7 fun r3 er3 h8=>(cL (Rm (er3)) R (sQ R (Zp R iL) (aZ (cI R h8 (fun h9=>?_) fun h9=>?_)))))))))))))
  ·exact zI (he1 _ (xH hx1 h9)) R id
  refine Zc (c7 _ (aG [1,3,11,12,13] [3] ?_))
  exact aR (Zb h9 fun x6 ex6 h10=>(xA R ex6 (mM R (Zi (Zm h10 (AG [(i3 0)]) wk)))))
 exact Zk (wK2 _ _ wk (J1 _ (AG [(i3 0)]) (xH hx1 h3)))
theorem PN {d1 r} (h:Dl d1=some r):AX Tryz.prog 22 [.agg [qe d1.Nodes]] (rI r):=by
 unfold Dl at h
 refine mF Tryz.func22 Tryz.ntmps22 R fun n0=>aU (sS R (Zu (cs:=[qe d1.Nodes]) 1 R iL R R) (AD R (aT fun c2=>(aU (lF Bh Bl R R (xL BK R (xQ R (aZ (cI R h (fun h1=>?_) fun h1=>?_)))))))))
 ·exact zI h1 R id
 refine Zc (c2 _ (aS fun K5 c5 wK5=>(aU (lF Bh Bl R R (xL BK R (mM R (aZ (Ze (Aw h1 fun o1 hit1 hk1 he1=>?_)))))))))
 have J1 : ∀ (u2:Unit) (i5:NN),o1 = .nrm u2→K5 ⟨[(1,pT 1 n0)],(EE n0 (qe d1.Nodes)),(i5 0),67⟩:=by
  intro u2 i5 e
  have h2:=hk1 _ e
  refine c5 _ (aS fun K7 c7 wK7=>(aU (lF Bh Bl R R (xL BK R (mM R (aZ (Ze (Aw h2 fun o2 hit2 hk2 he2=>?_))))))))
  have J2 : ∀ (u4:Unit) (i10:NN),o2 = .nrm u4→K7 ⟨[],[],(i10 0),67⟩:=by
   intro u4 i10 e
   have h3:=hk2 _ e
   exact c7 _ (zI h3 R id)
  refine Zo (fun (x5:Int) i8=>⟨[(1,pT 1 n0),(51,qe d1.Nodes),(52,rL d1.Nodes),(53,rI x5)],(EE n0 (qe d1.Nodes)),(i8 0),67⟩) (AG [(i5 0)]) hit2 wk ?_
  intro x5 i8 v1 hv1 hx2
  have h4:DD d1 x5=some v1:=hv1; unfold DD at h4
  refine aU (xS R (Ak fun c11=>(cI R h4 (fun h5=>?_) fun h5=>?_)))
  ·refine Zc (c11 _ (aT fun c12=>(Ze (aU (Zb h5 fun x7 ex7 h6=>(xI BK R ex7 (xB ((Ao x7)) CG R (sS R (Zw (cs:=FJ) 7 R Il R R) (Zl R R (Zj (ds:=(Ao x7)) R Hx iL R iL R R R R) (Ak fun c14=>(Zb h6 fun r1 er1 h7=>?_)))))))))))
   refine rP 5 [pO 57 (.agg [qe d1.Nodes]),pO 58 (.ptr 7 (i8 0) 0 1),pO 59 (rI x7.Kind),pO 60 (.agg (Ao x7)),pO 61 (.r (.sl (r1.map (AL .i64))))] Az R (by exact ⟨oB [(1,pT 1 n0)] (EE n0 (qe d1.Nodes)) (Cn R CU (.inl R) R R),oB [(7,pT 7 (i8 0))] [bX 7 (i8 0) 71 (Ao x7)] (fB R Bg (.inl R) (fun _=>R) R),oB [(58,.ptr 7 (i8 0) 0 1)] [bX 7 (i8 0) 71 (Ao x7)] (Zg (a:=rI x7.Kind) R AH (.inl R) R R),oB [(7,pT 7 (i8 0))] [bX 7 (i8 0) 71 (Ao x7)] (Cn R CG (.inl R) R R),oD (fun _=>[(60,.agg (Ao x7))]) (fun _=>[]) (fun G1 e h' n=>Dp (r:=.r (.sl (r1.map (AL .i64)))) (caps:=[]) (bs:=(FX x7)) R (.inl R) R ⟨.inl ⟨(.inl R),R⟩,Za⟩ (fun _=>R0 (er1))),Za⟩) fun G1 n1=>?_
   refine BJ [1,7,51,52,53,54,55,56,57,58,59,60,61] [1,7] ?_
   refine Zb h7 fun e1 ee1 h8=>(cL (So (ee1)) R (AD R (c14 _ (aT fun c15=>(aG [1,8,51,52,53] [1] ?_)))))
   refine Af R (xU R (aZ (c15 _ (cI R h8 (fun h9=>?_) fun h9=>?_))))
   ·exact AI R (AD R (Zh (yI (he2 _ (xH hx2 h9)) R)))
   exact Zc (c12 _ (aR (Zb h9 fun x8 ex8 h10=>(xA R ex8 (mM R (Zi (Zm h10 (AG [n1]) wk)))))))
  exact Zk (wK7 _ _ wk (J2 _ (AG [(i8 0)]) (xH hx2 h5)))
 refine Zo (fun (x2:Int) i3=>⟨[(1,pT 1 n0),(14,qe d1.Nodes),(15,rL d1.Nodes),(16,rI x2)],(EE n0 (qe d1.Nodes)),(i3 0),67⟩) (AG [(n0+1)]) hit1 wk ?_
 intro x2 i3 v2 hv2 hx1
 have h11:CT d1 x2=some v2:=hv2; unfold CT at h11
 refine aU (xS R (Ak fun c18=>(cI R h11 (fun h12=>?_) fun h12=>?_)))
 ·refine Zc (c18 _ (aT fun c19=>(Ze (AI R (Zb h12 fun x9 ex9 h13=>(xI BK R ex9 (xB ((Ao x9)) CG R (sS R (Zw (cs:=FJ) 4 R Il R R) (mA R (Zl R R (Zj (ds:=(Ao x9)) R Hx iL R iL R R R R) (Ak fun c21=>(aU (xC CG R (Zb h13 fun e2 ee2 h14=>(cL (WG (ee2)) R (AD R (AI R (xU R (aZ (cI R h14 (fun h15=>?_) fun h15=>?_))))))))))))))))))))
  ·refine aT fun c24=>(aF [5] ?_)
   exact Af R (AD R (c24 _ (Zh (yI (he1 _ (xH hx1 h15)) R))))
  refine Zc (c21 _ (aT fun c25=>(aG [1,3,4,14,15,16] [1,4] ?_)))
  refine Zv Az (by kernel_rfl) ?_
  refine qP R (Zd R iL) (qP R (Zq R iL iL) (qP R (Zd R iL) (qO R (fB R B7 iL fR R) (qO R (Zg (a:=rI x9.ID) R AH (iR R) R R) (qO R (Ba R (iR R) iL) (qP R (A6 R iL (iR R)) (qP R (Zd R iL) (qO R (Zd R iL) (qO R (BB R (iR R) iL) (qO R (Zd R (iR R)) (qT R (fB R B7 iL fR R) (qT R (Zg (a:=rI x9.ID) R AH (iR R) R R) (qT R (fB R Bh iL fR R) (qT R (Zg (a:=qe d1.Nodes) R Bl (iR R) R R) (qT R (Zd R iL) (Zb h15 fun x10 ex10 h16=>qT R (BT R (iR R) iL (AZ ex10)) (Zb h16 fun x11 ex11 h17=>qT R (Zt R BK.slice (iR R) (iR R) (fun _=>R) (AZ ex11)) (qT R (Zn R B7 (iR R)) (qT R (BR (d:=.int .i64 x11.ID) R AH (iR R) R) (qT R (DW R (iR R) (iR R)) (qO R (A6 R (iR R) (iR R)) (qP R (Bp R iL (iR R)) (AQ.nil (c25 _ (cI R h17 (fun h18=>?_) fun h18=>?_)))))))))))))))))))))))))
  ·exact zI (he1 _ (xH hx1 h18)) R id
  exact Zc (c19 _ (aR (Zb h18 fun x12 ex12 h19=>(xA R ex12 (mM R (Zi (Zm h19 (AG [((i3 0)+1)]) wk)))))))
 exact Zk (wK5 _ _ wk (J1 _ (AG [(i3 0)]) (xH hx1 h12)))
theorem QM {c1:List UInt8} {v1:AJ} {r:Bool} {gb1000:Nat} {co0:Nat} (h:J0 c1 v1=some r):A1 Tryz.prog 25 1 [.agg [rS v1.name,.r (.sl (v1.parents.map (AL .i64))),.r (.sl (v1.nodes.map (BM co0)))],pT 1000 gb1000] (B5 gb1000 c1) (fun rr h'=>∃ (i:Nat→Nat),rr=rB r∧h'=(B5 gb1000 c1)):=by
 unfold J0 at h
 refine CR Tryz.func25 R R Tryz.ntmps25 (Zr R) fun n0=>aU (sS R (Zu (cs:=[rS v1.name,.r (.sl (v1.parents.map (AL .i64))),.r (.sl (v1.nodes.map (BM co0)))]) 2 R iL R R) (AD R (aU (lF M2 A3 R R (sQ R (Zg (a:=rS c1) R A3 iL R R) (sQ R (Ec R iL iL) (AD R ?_)))))))
 exact Zh (BG.mk (s':=⟨[(3,rB ((decide (v1.name=c1))))],(B5 gb1000 c1),(n0+1),8⟩) wk (Zx (fun (r:Bool) rr h'=>∃ (i:Nat→Nat),rr=rB r∧h'=(B5 gb1000 c1)) h (by exact ⟨rB ((decide (v1.name=c1))),(B5 gb1000 c1),R,⟨.inr R,Za⟩,R,R,AG [],R,R⟩)))
theorem VF {c1:List UInt8} {s1:List AJ} {r:Int} {gb1000:Nat} {co0:Nat} (h:Ni c1 s1=some r):A1 Tryz.prog 40 1 [.r (.sl (s1.map (AJ.row co0))),.fn 25 [pT 1000 gb1000]] (B5 gb1000 c1) (fun rr h'=>∃ (i:Nat→Nat),rr=rI r∧h'=(B5 gb1000 c1)):=by
 unfold Ni at h
 refine CR Tryz.func40 R R Tryz.ntmps40 (Zr R) fun n0=>aU (AD R (aS fun K2 C2 wK2=>(AI R (xL B6 R (mM R (aZ (Ze (Aw h fun o1 hit1 hk1 he1=>?_))))))))
 have J1 : ∀ (u2:Unit) (i5:NN),o1 = .nrm u2→K2 ⟨[],(B5 gb1000 c1),(i5 0),19⟩:=by
  intro u2 i5 e
  have h1:=hk1 _ e
  refine C2 _ (aU (AD R ?_))
  exact Zh (BG.mk (s':=⟨[(4,rI ((-1)))],(B5 gb1000 c1),(i5 0),19⟩) wk (Zx (fun (r:Int) rr h'=>∃ (i:Nat→Nat),rr=rI r∧h'=(B5 gb1000 c1)) h1 (by exact ⟨rI ((-1)),(B5 gb1000 c1),R,⟨.inr R,Za⟩,R,R,AG [],R,R⟩)))
 refine Zo (fun (x2:Int) i3=>⟨[(0,.r (.sl (s1.map (AJ.row co0)))),(1,.fn 25 [pT 1000 gb1000]),(7,rL s1),(8,rI x2)],(B5 gb1000 c1),(i3 0),19⟩) (AG [n0]) hit1 wk ?_
 intro x2 i3 v1 hv1 hx1
 have h2:OM c1 s1 x2=some v1:=hv1; unfold OM at h2
 refine aU (xS R (Ak fun C6=>(cI R h2 (fun h3=>?_) fun h3=>?_)))
 ·refine Zc (C6 _ (aT fun C7=>(Ze (AI R (AD R (aT fun C9=>(Af R (mM R (mM R (Zb h3 fun x4 ex4 h4=>(xI B6 R ex4 (xB ([rS x4.name,.r (.sl (x4.parents.map (AL .i64))),.r (.sl (x4.nodes.map (BM co0)))]) IB R (Zb h4 fun r1 er1 h5=>?_)))))))))))))
  refine Zz [1000] (hc:=(B5 gb1000 c1)) (bs:=[.agg [rS x4.name,.r (.sl (x4.parents.map (AL .i64))),.r (.sl (x4.nodes.map (BM co0)))]]) (caps:=[pT 1000 gb1000]) R R R R iL R ⟨.inl ⟨iL,R⟩,Za⟩ ⟨R,R,R,Za⟩ (by decide) (QM er1) ?_
  intro i6 n1
  refine BJ [0,1,5,7,8,9,10,11,12,13,14,15,16] [1000] ?_
  refine aZ (C9 _ (cI R h5 (fun h6=>?_) fun h6=>?_))
  ·refine aT fun C10=>(aG [5] [1000] ?_)
   refine Af R (mA R (oZ C10 ?_))
   exact Zh (BG.mk (s':=⟨[(4,rI x2)],(B5 gb1000 c1),n1,19⟩) wk (Zx (fun (r:Int) rr h'=>∃ (i:Nat→Nat),rr=rI r∧h'=(B5 gb1000 c1)) (he1 _ (xH hx1 h6)) (by exact ⟨rI x2,(B5 gb1000 c1),R,⟨.inr R,Za⟩,R,R,AG [],R,R⟩)))
  refine Zc (C7 _ (aG [0,1,7,8] [1000] ?_))
  exact aR (Zb h6 fun x5 ex5 h7=>(xA R ex5 (mM R (Zi (Zm h7 (AG [n1]) wk)))))
 exact Zk (wK2 _ _ wk (J1 _ (AG [(i3 0)]) (xH hx1 h3)))
theorem Yg {c1:List UInt8} {s1:List AJ} {r:Bool} {gb1000:Nat} {co0:Nat} (h:Ok c1 s1=some r):A1 Tryz.prog 24 1 [.r (.sl (s1.map (AJ.row co0))),.fn 25 [pT 1000 gb1000]] (B5 gb1000 c1) (fun rr h'=>∃ (i:Nat→Nat),rr=rB r∧h'=(B5 gb1000 c1)):=by
 unfold Ok at h
 refine CR Tryz.func24 R R Tryz.ntmps24 (Zr R) fun n0=>aU (AD R (aT fun C2=>(Af R (mM R (Zb h fun r1 er1 h1=>?_)))))
 refine Zz [1000] (hc:=(B5 gb1000 c1)) (bs:=[.r (.sl (s1.map (AJ.row co0))),.fn 25 [pT 1000 gb1000]]) (caps:=[]) R R R R iL R ⟨.inl ⟨iL,R⟩,.inl ⟨iL,R⟩,Za⟩ ⟨R,R,R,Za⟩ (by decide) (VF er1) ?_
 intro i1 n1
 refine BJ [0,1,4,5,6,7] [1000] ?_
 refine sQ R (Bf R iL iL) (mA R (oZ C2 ?_))
 exact Zh (BG.mk (s':=⟨[(4,rB ((decide (0≤r1))))],(B5 gb1000 c1),n1,9⟩) wk (Zx (fun (r:Bool) rr h'=>∃ (i:Nat→Nat),rr=rB r∧h'=(B5 gb1000 c1)) h1 (by exact ⟨rB ((decide (0≤r1))),(B5 gb1000 c1),R,⟨.inr R,Za⟩,R,R,AG [],R,R⟩)))
theorem WS {s1:List AJ} {c1:List UInt8} {r:Int} {ga1000:Nat} {gb1001:Nat} {co0:Nat} (h:LM s1 c1=some r):A1 Tryz.prog 40 2 [.own 1000 ga1000,.fn 25 [pT 1001 gb1001]] (Cd ga1000 (s1.map (AJ.row co0)) gb1001 c1) (fun rr h'=>∃ (i:Nat→Nat),rr=rI r∧h'=(Cd ga1000 (s1.map (AJ.row co0)) gb1001 c1)):=by
 unfold LM at h
 refine CR Tryz.func40 R R Tryz.ntmps40 (Zr R) fun n0=>aU (AD R (aS fun K2 C2 wK2=>(AI R (sQ R (Cj R B6.slice iL R) (mM R (aZ (Ze (Aw h fun o1 hit1 hk1 he1=>?_))))))))
 have J1 : ∀ (u2:Unit) (i5:NN),o1 = .nrm u2→K2 ⟨[],(Cd ga1000 (s1.map (AJ.row co0)) gb1001 c1),(i5 0),19⟩:=by
  intro u2 i5 e
  have h1:=hk1 _ e
  refine C2 _ (aU (AD R ?_))
  exact Zh (BG.mk (s':=⟨[(4,rI ((-1)))],(Cd ga1000 (s1.map (AJ.row co0)) gb1001 c1),(i5 0),19⟩) wk (Zx (fun (r:Int) rr h'=>∃ (i:Nat→Nat),rr=rI r∧h'=(Cd ga1000 (s1.map (AJ.row co0)) gb1001 c1)) h1 (by exact ⟨rI ((-1)),(Cd ga1000 (s1.map (AJ.row co0)) gb1001 c1),R,⟨.inr R,.inr R,Za⟩,R,R,AG [],R,R⟩)))
 refine Zo (fun (x2:Int) i3=>⟨[(0,.own 1000 ga1000),(1,.fn 25 [pT 1001 gb1001]),(7,rL s1),(8,rI x2)],(Cd ga1000 (s1.map (AJ.row co0)) gb1001 c1),(i3 0),19⟩) (AG [n0]) hit1 wk ?_
 intro x2 i3 v1 hv1 hx1
 have h2:IH s1 c1 x2=some v1:=hv1; unfold IH at h2
 refine aU (xS R (Ak fun C6=>(cI R h2 (fun h3=>?_) fun h3=>?_)))
 ·refine Zc (C6 _ (aT fun C7=>(Ze (AI R (AD R (aT fun C9=>(Af R (mM R (mM R (Zb h3 fun x4 ex4 h4=>(sQ R (Cb R B6.slice iL R iL (fun _=>ex4)) (sQ R (HQ (cs:=[rS x4.name,.r (.sl (x4.parents.map (AL .i64))),.r (.sl (x4.nodes.map (BM co0)))]) R IB iL fR (fun _=>ex4) R) (Zb h4 fun r1 er1 h5=>?_)))))))))))))
  refine Zz [1001] (hc:=(B5 gb1001 c1)) (bs:=[.agg [rS x4.name,.r (.sl (x4.parents.map (AL .i64))),.r (.sl (x4.nodes.map (BM co0)))]]) (caps:=[pT 1000 gb1001]) R R R R iL R ⟨.inl ⟨iL,R⟩,Za⟩ ⟨R,R,R,Za⟩ (by decide) (QM er1) ?_
  intro i6 n1
  refine BJ [0,1,5,7,8,9,10,11,12,13,15,16] [1000,1001] ?_
  refine aZ (C9 _ (cI R h5 (fun h6=>?_) fun h6=>?_))
  ·refine aT fun C10=>(aG [5] [1000,1001] ?_)
   refine Af R (mA R (oZ C10 ?_))
   exact Zh (BG.mk (s':=⟨[(4,rI x2)],(Cd ga1000 (s1.map (AJ.row co0)) gb1001 c1),n1,19⟩) wk (Zx (fun (r:Int) rr h'=>∃ (i:Nat→Nat),rr=rI r∧h'=(Cd ga1000 (s1.map (AJ.row co0)) gb1001 c1)) (he1 _ (xH hx1 h6)) (by exact ⟨rI x2,(Cd ga1000 (s1.map (AJ.row co0)) gb1001 c1),R,⟨.inr R,.inr R,Za⟩,R,R,AG [],R,R⟩)))
  exact Zc (C7 _ (aR (Zb h6 fun x5 ex5 h7=>(xA R ex5 (mM R (Zi (Zm h7 (AG [n1]) wk)))))))
 exact Zk (wK2 _ _ wk (J1 _ (AG [(i3 0)]) (xH hx1 h3)))
theorem TO {s1:List AJ} {c1:List UInt8} {r:Bool} {ga1000:Nat} {gb1001:Nat} {co0:Nat} (h:G8 s1 c1=some r):A1 Tryz.prog 24 2 [.own 1000 ga1000,.fn 25 [pT 1001 gb1001]] (Cd ga1000 (s1.map (AJ.row co0)) gb1001 c1) (fun rr h'=>∃ (i:Nat→Nat),rr=rB r∧h'=(Cd ga1000 (s1.map (AJ.row co0)) gb1001 c1)):=by
 unfold G8 at h
 refine CR Tryz.func24 R R Tryz.ntmps24 (Zr R) fun n0=>aU (AD R (aT fun C2=>(Af R (mM R (Zb h fun r1 er1 h1=>?_)))))
 refine Zz [1000,1001] (hc:=(Cd ga1000 (s1.map (AJ.row co0)) gb1001 c1)) (bs:=[.own 1000 ga1000,.fn 25 [pT 1001 gb1001]]) (caps:=[]) R R R R iL R ⟨.inl ⟨iL,R⟩,.inl ⟨iL,R⟩,Za⟩ ⟨R,R,R,R,R,R,Za⟩ (by decide) (WS er1) ?_
 intro i1 n1
 refine BJ [0,1,4,5,6,7] [1000,1001] ?_
 refine sQ R (Bf R iL iL) (mA R (oZ C2 ?_))
 exact Zh (BG.mk (s':=⟨[(4,rB ((decide (0≤r1))))],(Cd ga1000 (s1.map (AJ.row co0)) gb1001 c1),n1,9⟩) wk (Zx (fun (r:Bool) rr h'=>∃ (i:Nat→Nat),rr=rB r∧h'=(Cd ga1000 (s1.map (AJ.row co0)) gb1001 c1)) h1 (by exact ⟨rB ((decide (0≤r1))),(Cd ga1000 (s1.map (AJ.row co0)) gb1001 c1),R,⟨.inr R,.inr R,Za⟩,R,R,AG [],R,R⟩)))
theorem Py {s1 r} (h:Hp s1=some r):AX Tryz.prog 26 [.r (.sl (s1.map (AL .i64)))] (.r (.sl (r.map (AL .i64)))):=by
 unfold Hp at h
 refine mF Tryz.func26 Tryz.ntmps26 R fun n0=>aU (AD R (aT fun c2=>(aT fun c3=>(Af R (YP R R R R Tryz.underlying28 R (fun hn1=>?_) ?_)))))
 ·have h1:some ([]:List Int)=some r:=by rw [List.map_eq_nil_iff] at hn1; subst hn1; simpa [BS,AB,eq_comm] using h
  refine aZ (c3 _ (aC R (fun hc1=>?_) (fun hc1=>by cases hc1)))
  exact aU (AD R (Zh (Db (P:=Tryz.prog) (fun (r:(List Int))=>.r (.sl (r.map (AL .i64)))) h1 iL (.t (.one (.nil))))))
 exact aZ (c3 _ (aC R (fun hc2=>by cases hc2) (fun hc2=>Zc (c2 _ (aS fun _ c5 _=>(aR (AK.step R R R (Br 5 R A2 (f:=(AL .i64)) (l:=([]:List Int)) Za R (fun _=>R) R) (sM R R (Zb h fun l1 el1 h2=>(AK.step R R R (Dm R A2 iL R (.inl ⟨iL,fun _=>R⟩) el1) (sA R R (aZ (c5 _ (Zh (Db (P:=Tryz.prog) (fun (r:(List Int))=>.r (.sl (r.map (AL .i64)))) h2 iL (.t (.one (.own R))))))))))))))))))
theorem UL {a1 b1 r} (h:I7 a1 b1=some r):AX Tryz.prog 64 [qd a1,qd b1] (rB r):=by
 unfold I7 at h
 refine mF Tryz.func64 Tryz.ntmps64 R fun n0=>aU (AD R (aT fun c2=>(AI R (xL BD R (mM R (xL BD R (xU R (aZ (cI R h (fun h1=>?_) fun h1=>?_)))))))))
 ·exact zB h1 R id
 refine Zc (c2 _ (aS fun K5 c5 wK5=>(AI R (xL BD R (mM R (aZ (Ze (Aw h1 fun o1 hit1 hk1 he1=>?_))))))))
 have J1 : ∀ (u2:Unit) (i5:NN),o1 = .nrm u2→K5 ⟨[],[],(i5 0),45⟩:=by
  intro u2 i5 e
  have h2:=hk1 _ e
  exact c5 _ (zB h2 R id)
 refine Zo (fun (x2:Int) i3=>⟨[(1,qd b1),(13,qd a1),(14,rL a1),(15,rI x2)],[],(i3 0),45⟩) (AG [n0]) hit1 wk ?_
 intro x2 i3 v1 hv1 hx1
 have h3:Iz a1 b1 x2=some v1:=hv1; unfold Iz at h3
 refine aU (xS R (Ak fun c9=>(cI R h3 (fun h4=>?_) fun h4=>?_)))
 ·refine Zc (c9 _ (aT fun c10=>(Ze (AI R (Zb h4 fun x4 ex4 h5=>(xI BD R ex4 (xB ((BX x4)) ES R (sS R (Zw (cs:=Ge) 6 R Gm R R) (mA R (Zl R R (Zj (ds:=(BX x4)) R Fm iL R iL R R R R) (aZ (AI R (mM R (Zb h5 fun x5 ex5 h6=>(xI BD R ex5 (xB ((BX x5)) ES R (sS R (Zw (cs:=Ge) 7 R Gm R R) (Zl R R (Zj (ds:=(BX x5)) R Fm iL R iL R R R R) (Ak fun c13=>(aG [1,6,7,13,14,15] [6,7] ?_))))))))))))))))))))
  refine aR (lF Df AH R R (lF Df AH R R (xU R (mM R (vF CA AH R R (vF CA AH R R (vQ R (Ba R (iR R) (iR R)) (xO R (mM R (vF GW Bu R R (vF GW Bu R R (Zb h6 fun r1 er1 h7=>vL (fun hg=>OK (AZ er1 hg)) R (vQ R (Zp R (iR R)) (xO R (aZ (c13 _ (cI R h7 (fun h8=>?_) fun h8=>?_)))))))))))))))))
  ·exact zB (he1 _ (xH hx1 h8)) R id
  refine Zc (c10 _ (aF [1,13,14,15] ?_))
  exact aR (Zb h8 fun x6 ex6 h9=>(xA R ex6 (mM R (Zi (Zm h9 (AG [((i3 0)+2)]) wk)))))
 exact Zk (wK5 _ _ wk (J1 _ (AG [(i3 0)]) (xH hx1 h4)))
theorem UR {s a r} (h:JE s a=some r):AX Tryz.prog 65 [qf s,qf a] (rB r):=by
 unfold JE at h
 refine mF Tryz.func65 Tryz.ntmps65 R fun n0=>aU (AD R (aT fun c2=>(AI R (xL CI R (mM R (xL CI R (xU R (aZ (cI R h (fun h1=>?_) fun h1=>?_)))))))))
 ·exact zB h1 R id
 refine Zc (c2 _ (aS fun K5 c5 wK5=>(AI R (xL CI R (mM R (aZ (Ze (Aw h1 fun o1 hit1 hk1 he1=>?_))))))))
 have J1 : ∀ (u2:Unit) (i5:NN),o1 = .nrm u2→K5 ⟨[],[],(i5 0),26⟩:=by
  intro u2 i5 e
  have h2:=hk1 _ e
  exact c5 _ (zB h2 R id)
 refine Zo (fun (x2:Int) i3=>⟨(Fw (qf s) (qf a) (rL s) x2),[],(i3 0),26⟩) (AG [n0]) hit1 wk ?_
 intro x2 i3 v1 hv1 hx1
 have h3:Ja s a x2=some v1:=hv1; unfold Ja at h3
 refine aU (xS R (Ak fun c9=>(cI R h3 (fun h4=>?_) fun h4=>?_)))
 ·refine Zc (c9 _ (aT fun c10=>(Ze (AI R (AD R (aT fun c12=>?_))))))
  refine Zv Az (by kernel_rfl) ?_
  refine qP R (Zd R iL) (qP R (Zd R iL) (Zb h4 fun x4 ex4 h5=>(qP R (Zt R CI.slice iL iL (fun _=>R) (fun _=>ex4)) (qP R (BV (cs:=(Bm x4)) R EV iL R R) (qP R (Zd R iL) (qP R (Zd R iL) (Zb h5 fun x5 ex5 h6=>(qP R (Zt R CI.slice iL iL (fun _=>R) (fun _=>ex5)) (qP R (BV (cs:=(Bm x5)) R EV iL R R) (qP R (Ht R RA iL iL R) (AQ.nil (c12 _ (cI R h6 (fun h7=>?_) fun h7=>?_)))))))))))))
  ·exact zB (he1 _ (xH hx1 h7)) R id
  refine Zc (c10 _ (aF [0,1,12,13] ?_))
  exact aR (Zb h7 fun x6 ex6 h8=>(xA R ex6 (mM R (Zi (Zm h8 (AG [(i3 0)]) wk)))))
 exact Zk (wK5 _ _ wk (J1 _ (AG [(i3 0)]) (xH hx1 h4)))
theorem XM {a1 b1 r} (h:If a1 b1=some r):AX Tryz.prog 41 [.agg (Ao a1),.agg (Ao b1)] (rB r):=by
 unfold If at h
 exact mF Tryz.func41 Tryz.ntmps41 R fun n0=>aU (sS R (Zu (cs:=(Ao a1)) 2 R iL R R) (sS R (Zu (cs:=(Ao b1)) 3 R iL R R) (AD R (aT fun c2=>(aR (lF B7 AH R R (lF B7 AH R R (xQ R (mM R (vF Bg AH R R (vF Bg AH R R (vQ R (Zq R (iR R) (iR R)) (xN R (mM R (vF Fv Bu R R (vF Fv Bu R R (Zb h fun r1 er1 h1=>vL (fun hg=>OK (AZ er1 hg)) R (xN R (mM R (vF DV Dn R R (vF DV Dn R R (Zb h1 fun r2 er2 h2=>vL (fun hg=>UL (AZ er2 hg)) R (xN R (mM R (vQ R (fB R DC iL fR R) (vQ R (FS (ds:=(Bj a1.Grid)) R El (iR R) R R R) (vQ R (fB R DC iL fR R) (vQ R (FS (ds:=(Bj b1.Grid)) R El (iR R) R R R) (Zb h2 fun r3 er3 h3=>vL (fun hg=>Qn (AZ er3 hg)) R (xN R (mM R (vF D5 Ef R R (vF D5 Ef R R (Zb h3 fun r4 er4 h4=>vL (fun hg=>UR (AZ er4 hg)) R (xN R (AD R (c2 _ (Zh (yB h4 R)))))))))))))))))))))))))))))))))))))))
theorem R7 {f1 r} (h:JQ f1=some r):AX Tryz.prog 49 [qd f1] (qd r):=by
 unfold JQ at h
 refine mF Tryz.func49 Tryz.ntmps49 R fun n0=>aU (AD R (AI R (xL BD R (Zb h fun out1 eout1 h1=>(sS R (Qd 8 R BD (f:=AO.row) (z0:=(AO.mk 0 0 [])) WW iL iL eout1) (AD R (aS fun K3 c3 wK3=>(AI R (xL BD R (mM R (aZ (Ze (BL h1 fun o1 hit1 hk1=>?_)))))))))))))
 have J1 : ∀ (out5:List AO) (i5:NN),o1=out5→K3 ⟨[(3,.own 8 (i5 0))],[aX 8 (i5 0) 81 3 (out5.map AO.row)],(i5 1),29⟩:=by
  intro out5 i5 e
  have h2:=hk1 _ e
  exact c3 _ (AI R (AD R (Zh (Db (P:=Tryz.prog) (fun (r:(List AO))=>qd r) h2 iL (.t (.one (.own R)))))))
 refine Cu (fun (x2:Int) (out3:List AO) i3=>⟨[(3,.own 8 (i3 0)),(9,qd f1),(10,rL f1),(11,rI x2)],[aX 8 (i3 0) 81 3 (out3.map AO.row)],(i3 1),29⟩) (AG [n0,(n0+1)]) hit1 wk ?_
 intro x2 out3 i3 v1 hv1 hx1
 have h3:GK f1 x2 out3=some v1:=hv1; unfold GK at h3
 refine aU (xS R (Ak fun c7=>(cI R h3 (fun h4=>?_) fun h4=>?_)))
 ·refine Zc (c7 _ (aT fun c8=>(Ze (AI R (Zb h4 fun x4 ex4 h5=>(xI BD R ex4 (xB ((BX x4)) ES R (sS R (Zw (cs:=Ge) 5 R Gm R R) (mA R (Zl R R (Zj (ds:=(BX x4)) R Fm iL R iL R R R R) (aZ (Zb h5 fun l1 el1 h6=>?_))))))))))))
  refine HJ 10 [pO 16 (.own 8 (i3 0)),pO 17 (rI x2),pO 18 (pT 5 (i3 1)),pO 19 (rI x4.Char),pO 20 (.ptr 5 (i3 1) 0 1),pO 21 (rI x4.Ref),pO 22 (.ptr 5 (i3 1) 0 2),pO 23 (qa x4.Attrs),⟨some 24,(fun G1=>.own 24 (G1 8)),some (24,(fun G1=>some (.arr (G1 8) 111 2 (l1.map Ab.row)))),[8]⟩,⟨some 25,(fun G1=>.agg [rI x4.Char,rI x4.Ref,.own 24 (G1 8)]),none,[8]⟩] Az (by kernel_rfl) (by exact ⟨zN,zN,zN,zN,zN,zN,zN,zN,zS 8,zS 8,Za⟩) R (by exact ⟨oB [(3,.own 8 (i3 0))] [aX 8 (i3 0) 81 3 (out3.map AO.row)] (Zd R (.inl R)),oB [(4,rI x2)] [] (Zd R (.inl R)),oB [(5,pT 5 (i3 1))] (Ha (i3 1) x4) (fB R Df (.inl R) (fun _=>R) R),oB [(18,pT 5 (i3 1))] (Ha (i3 1) x4) (Zg (a:=rI x4.Char) R AH (.inl R) R R),oB [(5,pT 5 (i3 1))] (Ha (i3 1) x4) (fB R CA (.inl R) (fun _=>R) R),oB [(20,.ptr 5 (i3 1) 0 1)] (Ha (i3 1) x4) (Zg (a:=rI x4.Ref) R AH (.inl R) R R),oB [(5,pT 5 (i3 1))] (Ha (i3 1) x4) (fB R GW (.inl R) (fun _=>R) R),oB [(22,.ptr 5 (i3 1) 0 2)] (Ha (i3 1) x4) (Zg (a:=qa x4.Attrs) R Bu (.inl R) R R),oM (fun _=>[(23,qa x4.Attrs)]) (fun _=>[]) R (fun G1 e h' n=>Ik 24 (f:=Ab.row) R Bq (.inl R) (.inl ⟨(.inl R),fun _=>R⟩) el1),oC (fun G1=>[(19,rI x4.Char),(21,rI x4.Ref),(24,.own 24 (G1 8))]) (fun G1=>[aX 24 (G1 8) 111 2 (l1.map Ab.row)]) (fun G1 e h'=>DG R JK (q:=[(0,_),(1,_),(2,_)]) (by exact ⟨R,R,R,(.inl R),R,R,R,(.inl R),R,R,R,(.inl R),Za⟩) (cs:=[rI x4.Char,rI x4.Ref,.own 24 (G1 8)]) (by rfl)),Za⟩) fun G1 n1=>?_
  refine BJ [3,4,5,9,10,11,12,13,14,15,16,17,18,19,20,21,22,23,24,25] [5,8,24] ?_
  refine Zb h6 fun x5 ex5 h7=>(sQ R (Cb R BD.slice iL R iL (fun _=>ex5)) ?_)
  refine AK.weak (by exact DE (e':=[(3,.own 8 (i3 0)),(4,rI x2),(5,pT 5 (i3 1)),(9,qd f1),(10,rL f1),(11,rI x2),(12,rB ((decide (x2<(f1.length:Int))))),(13,rI x2),(14,.rop (AO.row x4) 0),(15,.agg (BX x4)),(16,.own 8 (i3 0)),(17,rI x2),(18,pT 5 (i3 1)),(19,rI x4.Char),(20,.ptr 5 (i3 1) 0 1),(21,rI x4.Ref),(22,.ptr 5 (i3 1) 0 2),(23,qa x4.Attrs),(24,qa l1),(25,.agg [rI x4.Char,rI x4.Ref,qa l1]),(26,.ptr 8 (i3 0) x2.toNat 0)]) (h':=[bX 5 (i3 1) 81 (BX x4),aX 8 (i3 0) 81 3 (out3.map AO.row)]) 24 R ⟨jL,jL,jL,jL,jL,jL,jL,jL,jL,jL,jL,jL,jL,jL,jL,jL,jL,jL,.inl (.inr (.inr ⟨R,R⟩)),.inr ⟨_,_,R,R,⟨.inl R,.inl R,.inr (.inr ⟨R,R⟩),Za⟩⟩,jL,Za⟩ ⟨R,.inl R,R,.inl R,Za⟩) ?_
  refine Zl R R (Xz (v:=(AO.mk x4.Char x4.Ref l1)) R Fm iL R ex5 iL R R R R) (aZ (c8 _ (aG [3,9,10,11] [8] ?_)))
  exact aR (Zb h7 fun x6 ex6 h8=>(xA R ex6 (mM R (Zi (CF.mk h8 (AG [(i3 0),n1]) wk)))))
 exact Zk (wK3 _ _ wk (J1 _ (AG [(i3 0),(i3 1)]) (xH hx1 h4)))
theorem PI {n1 r} (h:HB n1=some r):AX Tryz.prog 32 (FX n1) (.agg (Ao r)):=by
 unfold HB at h
 refine mF Tryz.func32 Tryz.ntmps32 R fun n0=>aU (sS R (Zu (cs:=(Ao n1)) 1 R iL R R) (sS R (Zw (cs:=FJ) 2 R Il R R) (FK (lF Fv Bu R R (Zb h fun l1 el1 h1=>(sS R (Ik 8 (f:=Ab.row) R Bq iL (.inl ⟨iL,fun _=>R⟩) el1) (sQ R (fB R Fv iL fR R) (Zl R R (Zj (ds:=[rI n1.ID,rI n1.Kind,.own 8 (n0+2),qd n1.Flow,rI n1.Grid.Rows,rI n1.Grid.Cols,qb n1.Grid.Cells,qc n1.Grid.Merges,qf n1.Draw]) R PH iL R iL R R R R) (FK (lF DV Dn R R (Zb h1 fun r1 er1 h2=>(sS R (Dp (r:=qd r1) (caps:=[]) (bs:=[qd n1.Flow]) R iL R ⟨.inl ⟨iL,R⟩,Za⟩ (fun _=>R7 (er1))) (sQ R (fB R DV iL fR R) (Zl R R (Zj (ds:=[rI n1.ID,rI n1.Kind,.own 8 (n0+2),qd r1,rI n1.Grid.Rows,rI n1.Grid.Cols,qb n1.Grid.Cells,qc n1.Grid.Merges,qf n1.Draw]) R XL iL R iL R R R R) (Ak fun c4=>(aG [1,2] [1,2,8] ?_))))))))))))))))
 refine aR (lF D5 Ef R R (Zb h2 fun l2 el2 h3=>(sS R (Ik 16 (f:=Aq.row) R CI iL (.inl ⟨iL,fun _=>R⟩) el2) (sQ R (fB R D5 iL fR R) (Zl R R (Zj (ds:=[rI n1.ID,rI n1.Kind,.own 8 (n0+2),qd r1,rI n1.Grid.Rows,rI n1.Grid.Cols,qb n1.Grid.Cells,qc n1.Grid.Merges,.own 16 (n0+3)]) R Xq iL R iL R R R R) (aZ (c4 _ (aU (sQ R (fB R DC iL fR R) (sQ R (FS (ds:=(Bj n1.Grid)) R El iL R R R) (sS R (Zw (cs:=LG) 3 R Wp R R) (Zl R R (Zj (ds:=(Bj n1.Grid)) R Pd iL R iL R R R R) (FK (lF Cz DK R R (Zb h3 fun l3 el3 h4=>(sS R (Ik 22 (f:=Ag.row) R B0 iL (.inl ⟨iL,fun _=>R⟩) el3) (sQ R (fB R Cz iL fR R) (Zl R R (Zj (ds:=[rI n1.Grid.Rows,rI n1.Grid.Cols,qb n1.Grid.Cells,.own 22 (n0+5)]) R Vz iL R iL R R R R) (Ak fun c7=>(aG [1,2,3] [1,2,3,8,16,22] ?_))))))))))))))))))))
 refine aR (lF Ci C0 R R (Zb h4 fun l4 el4 h5=>(sS R (Ik 26 (f:=Ae.row) R BO iL (.inl ⟨iL,fun _=>R⟩) el4) (sQ R (fB R Ci iL fR R) (Zl R R (Zj (ds:=[rI n1.Grid.Rows,rI n1.Grid.Cols,.own 26 (n0+6),.own 22 (n0+5)]) R VQ iL R iL R R R R) (aZ (c7 _ (aS fun K8 c8 wK8=>(aU (lF Ci C0 R R (sQ R (Cj R BO.slice iL R) (mM R (aZ (Ze (BL h5 fun o1 hit1 hk1=>?_)))))))))))))))
 have J1 : ∀ (g4:Au) (i5:NN),o1=g4→K8 ⟨[(1,pT 1 n0),(2,pT 2 (n0+1)),(3,pT 3 (n0+4))],(Ot n0 n1.ID n1.Kind (n0+2) (qd r1) n1.Grid.Rows n1.Grid.Cols (qb n1.Grid.Cells) (qc n1.Grid.Merges) (n0+3) (n0+1) FJ (n0+4) g4.Rows g4.Cols (i5 0) (i5 1) l1 l2 g4.Merges g4.Cells),(i5 2),48⟩:=by
  intro g4 i5 e
  have h6:=hk1 _ e
  refine c8 _ (aU (xC El R (sQ R (fB R DC iL fR R) (Zl R R (Zj (ds:=[rI n1.ID,rI n1.Kind,.own 8 (n0+2),qd r1,rI g4.Rows,rI g4.Cols,.own 26 (i5 0),.own 22 (i5 1),.own 16 (n0+3)]) R Pd iL R iL R R R R) (FK (xC CG R (Zl R R (Zj (ds:=[rI n1.ID,rI n1.Kind,.own 8 (n0+2),qd r1,rI g4.Rows,rI g4.Cols,.own 26 (i5 0),.own 22 (i5 1),.own 16 (n0+3)]) R Hx iL R iL R R R R) (aZ ?_))))))))
  exact Zh (Db (P:=Tryz.prog) (fun (r:AE)=>.agg (Ao r)) h6 iL (.a CG R R R (.agg (by exact ⟨.closed _ R,.closed _ R,.own R,.closed _ R,.closed _ R,.closed _ R,.own R,.own R,.own R,Za⟩))))
 refine Cu (fun (x2:Int) (g2:Au) i3=>⟨[(1,pT 1 n0),(2,pT 2 (n0+1)),(3,pT 3 (n0+4)),(29,.own 26 (i3 0)),(30,rL l4),(31,rI x2)],(Ot n0 n1.ID n1.Kind (n0+2) (qd r1) n1.Grid.Rows n1.Grid.Cols (qb n1.Grid.Cells) (qc n1.Grid.Merges) (n0+3) (n0+1) FJ (n0+4) g2.Rows g2.Cols (i3 0) (i3 1) l1 l2 g2.Merges g2.Cells),(i3 2),48⟩) (AG [(n0+6),(n0+5),(n0+7)]) hit1 wk ?_
 intro x2 g2 i3 v1 hv1 hx1
 have h7:Gr l4 x2 g2=some v1:=hv1; unfold Gr at h7
 refine aU (xS R (Ak fun c13=>(cI R h7 (fun h8=>?_) fun h8=>?_)))
 ·refine Zc (c13 _ (aT fun c14=>(Ze (AI R (Zb h8 fun x4 ex4 h9=>(sQ R (Cb R BO.slice iL R iL (fun _=>ex4)) (sQ R (HQ (cs:=(BA x4)) R DL iL fR (fun _=>ex4) R) (sS R (Zw (cs:=HC) 5 R Gs R R) (mA R (Zl R R (Zj (ds:=(BA x4)) R GO iL R iL R R R R) (aZ (Zb h9 fun l5 el5 h10=>?_))))))))))))
  refine HJ 6 [pO 36 (.ptr 3 (n0+4) 0 2),pO 37 (.own 26 (i3 0)),pO 38 (rI x2),pO 39 (.ptr 5 (i3 2) 0 4),pO 40 (qa x4.Attrs),⟨some 41,(fun G1=>.own 41 (G1 5)),some (41,(fun G1=>some (.arr (G1 5) 111 2 (l5.map Ab.row)))),[5]⟩] Az (by kernel_rfl) (by exact ⟨zN,zN,zN,zN,zN,zS 5,Za⟩) R (by exact ⟨oB [(3,pT 3 (n0+4))] [bX 3 (n0+4) 68 [rI g2.Rows,rI g2.Cols,.own 26 (i3 0),.own 22 (i3 1)]] (fB R Ci (.inl R) (fun _=>R) R),oB [(36,.ptr 3 (n0+4) 0 2)] [bX 3 (n0+4) 68 [rI g2.Rows,rI g2.Cols,.own 26 (i3 0),.own 22 (i3 1)]] (Zg (a:=.own 26 (i3 0)) R C0 (.inl R) R R),oB [(4,rI x2)] [] (Zd R (.inl R)),oB [(5,pT 5 (i3 2))] [bX 5 (i3 2) 95 (BA x4)] (fB R D2 (.inl R) (fun _=>R) R),oB [(39,.ptr 5 (i3 2) 0 4)] [bX 5 (i3 2) 95 (BA x4)] (Zg (a:=qa x4.Attrs) R Bu (.inl R) R R),oM (fun _=>[(40,qa x4.Attrs)]) (fun _=>[]) R (fun G1 e h' n=>Ik 41 (f:=Ab.row) R Bq (.inl R) (.inl ⟨(.inl R),fun _=>R⟩) el5),Za⟩) fun G1 n2=>?_
  refine BJ [1,2,3,4,5,29,30,31,32,33,34,35,36,37,38,39,40,41] [1,2,3,5,8,16,22,26,41] ?_
  refine sQ R (Cb R BO.slice iL R iL (fun _=>ex4)) (sQ R (Ft (ob:=.arr _ _ _ _) R D2 iL fR R) ?_)
  refine AK.weak (by exact DE (e':=[(1,pT 1 n0),(2,pT 2 (n0+1)),(3,pT 3 (n0+4)),(4,rI x2),(5,pT 5 (i3 2)),(29,.own 26 (i3 0)),(30,rL l4),(31,rI x2),(32,rB ((decide (x2<(l4.length:Int))))),(33,rI x2),(34,.ptr 26 (i3 0) x2.toNat 0),(35,.agg (BA x4)),(36,.ptr 3 (n0+4) 0 2),(37,.own 26 (i3 0)),(38,rI x2),(39,.ptr 5 (i3 2) 0 4),(40,qa x4.Attrs),(41,qa l5),(42,.ptr 26 (i3 0) x2.toNat 0),(43,.ptr 26 (i3 0) x2.toNat 4)]) (h':=[bX 1 n0 71 [rI n1.ID,rI n1.Kind,.own 8 (n0+2),qd r1,rI n1.Grid.Rows,rI n1.Grid.Cols,qb n1.Grid.Cells,qc n1.Grid.Merges,.own 16 (n0+3)],bX 2 (n0+1) 71 FJ,bX 3 (n0+4) 68 [rI g2.Rows,rI g2.Cols,.own 26 (i3 0),.own 22 (i3 1)],bX 5 (i3 2) 95 (BA x4),aX 8 (n0+2) 111 2 (l1.map Ab.row),aX 16 (n0+3) 107 8 (l2.map Aq.row),aX 22 (i3 1) 116 4 (g2.Merges.map Ag.row),aX 26 (i3 0) 95 5 (g2.Cells.map Ae.row)]) 41 R ⟨jL,jL,jL,jL,jL,jL,jL,jL,jL,jL,jL,jL,jL,jL,jL,jL,jL,.inl (.inr (.inr ⟨R,R⟩)),jL,jL,Za⟩ ⟨R,.inl R,R,.inl R,R,.inl R,R,.inl R,R,.inl R,R,.inl R,R,.inl R,R,.inl R,Za⟩) ?_
  refine Zl R R (Mv (v:=(Ae.mk x4.Row x4.Col x4.Text x4.Ref l5)) R PH iL R ex4 iL R R R R) (aZ (c14 _ (aG [1,2,3,29,30,31] [1,2,3,8,16,22,26] ?_)))
  exact aR (Zb h10 fun x5 ex5 h11=>(xA R ex5 (mM R (Zi (CF.mk h11 (AG [(i3 0),(i3 1),n2]) wk)))))
 exact Zk (wK8 _ _ wk (J1 _ (AG [(i3 0),(i3 1),(i3 2)]) (xH hx1 h8)))
theorem TA {w1:Ah} {fl1:List AE} {parents1:List Int} {n1:AE} {r:Int × (List AE)} {gb1000:Nat} {ga1001:Nat} {gb1002:Nat} {gw1002:Nat} {gc1002:Nat} (h:JU w1 fl1 parents1 n1=some r):A1 Tryz.prog 27 3 [pT 1000 gb1000,.r (.sl (parents1.map (AL .i64))),.agg (Ao n1)] (Ad gb1000 ga1001 (w1.versions.map (AJ.row gc1002)) (.fam gb1002 gw1002 gc1002 71 (fl1.map AE.row))) (fun rr h'=>∃ (i:Nat→Nat),rr = .r (.ptr (At (A0 fl1.length gc1002 (i 1)) r.1.toNat))∧h'=(Ad gb1000 ga1001 (w1.versions.map (AJ.row gc1002)) (.fam gb1002 (i 0) (A0 fl1.length gc1002 (i 1)) 71 (r.2.map AE.row)))):=by
 unfold JU at h
 refine CR Tryz.func27 R R Tryz.ntmps27 (Zr R) fun n0=>aU (sS R (Zu (cs:=(Ao n1)) 5 R iL R R) (AD R (aS fun K2 c2 wK2=>(AI R (xL A2 R (mM R (aZ (Ze (Aw h fun o1 hit1 hk1 he1=>?_)))))))))
 have J1 : ∀ (u2:Unit) (i5:NN),o1 = .nrm u2→K2 ⟨[(5,pT 5 n0)],(Kf n0 n1 gb1000 ga1001 (w1.versions.map (AJ.row gc1002)) (.fam gb1002 gw1002 gc1002 71 (fl1.map AE.row))),(i5 0),50⟩:=by
  intro u2 i5 e
  have h1:=hk1 _ e
  refine c2 _ (aU (xC CG R (Zb h1 fun r1 er1 h2=>(sS R (Dp (r:=.agg (Ao r1)) (caps:=[]) (bs:=(FX n1)) R iL R ⟨.inl ⟨iL,R⟩,Za⟩ (fun _=>PI (er1))) (sS R (Zw (cs:=FJ) 11 R Il R R) (Zl R R (Zj (ds:=(Ao r1)) R Hx iL R iL R R R R) (Ak fun c5=>(aR (YL (Rx (row:=AE.row) (l:=fl1) (x:=r1) 1002 11 11 R R R R) fun d1=>?_)))))))))
  refine AK.weak (Zs (Ac.refl _) (by exact Ac.cv (e':=[(5,pT 5 n0),(11,.r (.ptr (At (A0 fl1.length gc1002 d1) (fl1.length:Int).toNat))),(48,.agg (Ao n1)),(49,.agg (Ao r1))]) (h':=(Kf n0 n1 gb1000 ga1001 (w1.versions.map (AJ.row gc1002)) (.fam gb1002 ((i5 0)+1) (A0 fl1.length gc1002 d1) 71 ((fl1++[r1]).map AE.row)))) ⟨jL,jL,jL,jL,Za⟩ ⟨.inl R,.inl R,.inl R,.inl R,Za⟩ nL)) ?_
  refine mA R (oZ c5 ?_)
  exact Zh (BG.mk (s':=⟨[(6,.r (.ptr (At (A0 fl1.length gc1002 d1) (fl1.length:Int).toNat)))],(Ad gb1000 ga1001 (w1.versions.map (AJ.row gc1002)) (.fam gb1002 ((i5 0)+1) (A0 fl1.length gc1002 d1) 71 ((fl1++[r1]).map AE.row))),((i5 0)+2),50⟩) wk (Zx (fun (r:Int × (List AE)) rr h'=>∃ (i:Nat→Nat),rr = .r (.ptr (At (A0 fl1.length gc1002 (i 1)) r.1.toNat))∧h'=(Ad gb1000 ga1001 (w1.versions.map (AJ.row gc1002)) (.fam gb1002 (i 0) (A0 fl1.length gc1002 (i 1)) 71 (r.2.map AE.row)))) h2 (by exact ⟨.r (.ptr (At (A0 fl1.length gc1002 d1) (fl1.length:Int).toNat)),(Ad gb1000 ga1001 (w1.versions.map (AJ.row gc1002)) (.fam gb1002 ((i5 0)+1) (A0 fl1.length gc1002 d1) 71 ((fl1++[r1]).map AE.row))),R,⟨.inr R,.inr R,.inr R,Za⟩,R,R,AG [((i5 0)+1),d1],R,R⟩)))
 refine Zo (fun (x2:Int) i3=>⟨[(0,pT 1000 gb1000),(5,pT 5 n0),(12,.r (.sl (parents1.map (AL .i64)))),(13,rL parents1),(14,rI x2)],(Kf n0 n1 gb1000 ga1001 (w1.versions.map (AJ.row gc1002)) (.fam gb1002 gw1002 gc1002 71 (fl1.map AE.row))),(i3 0),50⟩) (AG [(n0+1)]) hit1 wk ?_
 intro x2 i3 v1 hv1 hx1
 have h3:IQ w1 fl1 parents1 n1 x2=some v1:=hv1; unfold IQ at h3
 refine aU (xS R (Ak fun c7=>(cI R h3 (fun h4=>?_) fun h4=>?_)))
 ·refine Zc (c7 _ (aS fun K8 c8 wK8=>(Ze (aU (Zb h4 fun x4 ex4 h5=>(xI A2 R ex4 (xV (.int .i64 x4) AH R (AD R (AI R (sQ R (ZA (ob:=.box _ _ _) R iL fR R) (lF Cy DQ R R (mM R (Zb h5 fun x5 ex5 h6=>(sQ R (Cb R B6.slice iL R iL (fun _=>ex5)) (sQ R (Ft (ob:=.arr _ _ _ _) R KD iL fR R) (sQ R (GJ (d:=.sl (x5.nodes.map (BM gc1002))) R LU iL fR (fun _=>ex5) R) (xL F6 R (mM R (aZ (Ze (Aw h6 fun o2 hit2 hk2 he2=>?_)))))))))))))))))))))
  have J2 : ∀ (u4:Unit) (i10:NN),o2 = .nrm u4→K8 ⟨[(0,pT 1000 gb1000),(5,pT 5 n0),(12,.r (.sl (parents1.map (AL .i64)))),(13,rL parents1),(14,rI x2)],(Kf n0 n1 gb1000 ga1001 (w1.versions.map (AJ.row gc1002)) (.fam gb1002 gw1002 gc1002 71 (fl1.map AE.row))),(i10 0),50⟩:=by
   intro u4 i10 e
   have h7:=hk2 _ e
   exact c8 _ (aR (Zb h7 fun x9 ex9 h8=>(xA R ex9 (mM R (Zi (Zm h8 (AG [(i10 0)]) wk))))))
  refine Zo (fun (x7:Int) i8=>⟨[(0,pT 1000 gb1000),(5,pT 5 n0),(12,.r (.sl (parents1.map (AL .i64)))),(13,rL parents1),(14,rI x2),(25,.r (.sl (x5.nodes.map (BM gc1002)))),(26,rL x5.nodes),(27,rI x7)],(Kf n0 n1 gb1000 ga1001 (w1.versions.map (AJ.row gc1002)) (.fam gb1002 gw1002 gc1002 71 (fl1.map AE.row))),(i8 0),50⟩) (AG [(i3 0)]) hit2 wk ?_
  intro x7 i8 v2 hv2 hx2
  have h9:HX fl1 n1 x5 x7=some v2:=hv2; unfold HX at h9
  refine aU (xS R (Ak fun c12=>(cI R h9 (fun h10=>?_) fun h10=>?_)))
  ·refine Zc (c12 _ (aT fun c13=>(Ze (aU (Zb h10 fun x10 ex10 h11=>(xI F6 R ex10 (xV (.ptr (At gc1002 x10.toNat)) Ng R (AD R (aT fun c15=>?_)))))))))
   refine Zv Az (by kernel_rfl) ?_
   refine qP R (Zd R iL) (qP R (M7 R iL) (Zb h11 fun x11 ex11 h12=>(qP R (UH (row:=AE.row) (l:=fl1) (F:=1002) R B7 iL R (fun _=>ex11)) (qP R (Uv (row:=AE.row) (d:=.int .i64 x11.ID) R AH iL R (fun _=>ex11) R) (qP R (fB R B7 iL fR R) (qP R (Zg (a:=rI n1.ID) R AH iL R R) (qP R (Zq R iL iL) (qP R (Zd R iL) (qO R (Zd R iL) (qO R (M7 R (iR R)) (qO R (QA (row:=AE.row) (l:=fl1) (F:=1002) (cs:=(Ao x11)) R CG (iR R) R (fun _=>ex11) R R) (qO R (Cn R CG iL R R) (Zb h12 fun r2 er2 h13=>Ff (.one R R R) R R (r:=rB r2) (caps:=[]) (bs:=[.agg (Ao x11),.agg (Ao n1)]) R iL R ⟨⟨_,(iR R),.g (cs:=[.int .i64 x11.ID,.int .i64 x11.Kind,.sl (x11.Attrs.map Ab.row),.sl (x11.Flow.map AO.row),.int .i64 x11.Grid.Rows,.int .i64 x11.Grid.Cols,.sl (x11.Grid.Cells.map Ae.row),.sl (x11.Grid.Merges.map Ag.row),.sl (x11.Draw.map Aq.row)]) R R⟩,⟨_,(iR R),.g (cs:=[.int .i64 n1.ID,.int .i64 n1.Kind,.sl (n1.Attrs.map Ab.row),.sl (n1.Flow.map AO.row),.int .i64 n1.Grid.Rows,.int .i64 n1.Grid.Cols,.sl (n1.Grid.Cells.map Ae.row),.sl (n1.Grid.Merges.map Ag.row),.sl (n1.Draw.map Aq.row)]) R R⟩,Za⟩ (fun hg=>XM (AZ er2 hg)) R (qP R (A6 R iL (iR R)) (AQ.nil (c15 _ (cI R h13 (fun h14=>?_) fun h14=>?_)))))))))))))))))
   ·refine aT fun c16=>(aG [10] [1000,1001,1002] ?_)
    refine Af R (AD R (c16 _ (Zh (Zb h14 fun u5 eu5 h15=>?_))))
    exact BG.mk (s':=⟨[(6,.r (.ptr (At (A0 fl1.length gc1002 0) x10.toNat)))],(Ad gb1000 ga1001 (w1.versions.map (AJ.row gc1002)) (.fam gb1002 gw1002 (A0 fl1.length gc1002 0) 71 (fl1.map AE.row))),(i8 0),50⟩) (Zs (Zs (YE 1002 (A0 fl1.length gc1002 0) R (fun j hj=>Lp (by simpa using hj))) (by exact Ac.cv (e':=[(6,.r (.ptr (At (A0 fl1.length gc1002 0) x10.toNat)))]) (h':=(Ad gb1000 ga1001 (w1.versions.map (AJ.row gc1002)) (.fam gb1002 gw1002 (A0 fl1.length gc1002 0) 71 (fl1.map AE.row)))) ⟨.inl (.inl (by show (.r (.ptr (At gc1002 x10.toNat)):AV) = .r (.ptr (At (A0 fl1.length gc1002 0) x10.toNat)); rw [Xl eu5])),Za⟩ ⟨.inl R,.inl R,.inl R,Za⟩ nL)) wk) (Zx (fun (r:Int × (List AE)) rr h'=>∃ (i:Nat→Nat),rr = .r (.ptr (At (A0 fl1.length gc1002 (i 1)) r.1.toNat))∧h'=(Ad gb1000 ga1001 (w1.versions.map (AJ.row gc1002)) (.fam gb1002 (i 0) (A0 fl1.length gc1002 (i 1)) 71 (r.2.map AE.row)))) (he1 _ (hx1 _ (Zf (he2 _ (xH hx2 h15))).symm)) (by exact ⟨.r (.ptr (At (A0 fl1.length gc1002 0) x10.toNat)),(Ad gb1000 ga1001 (w1.versions.map (AJ.row gc1002)) (.fam gb1002 gw1002 (A0 fl1.length gc1002 0) 71 (fl1.map AE.row))),R,⟨.inr R,.inr R,.inr R,Za⟩,R,R,AG [gw1002,0],R,R⟩))
   refine Zc (c13 _ (aG [0,5,12,13,14,25,26,27] [5,1000,1001,1002] ?_))
   exact aR (Zb h14 fun x12 ex12 h16=>(xA R ex12 (mM R (Zi (Zm h16 (AG [(i8 0)]) wk)))))
  exact Zk (wK8 _ _ wk (J2 _ (AG [(i8 0)]) (xH hx2 h10)))
 exact Zk (wK2 _ _ wk (J1 _ (AG [(i3 0)]) (xH hx1 h4)))
theorem Qv {w1:Ah} {fl1:List AE} {name1:List UInt8} {d1:AP} {parents1:List Int} {r:Int × Int × Ah × (List AE)} {gb1000:Nat} {ga1001:Nat} {gb1002:Nat} {gw1002:Nat} {gc1002:Nat} (h:GC w1 fl1 name1 d1 parents1=some r):A1 Tryz.prog 6 3 [pT 1000 gb1000,rS name1,.agg [qe d1.Nodes],.r (.sl (parents1.map (AL .i64)))] (Ad gb1000 ga1001 (w1.versions.map (AJ.row gc1002)) (.fam gb1002 gw1002 gc1002 71 (fl1.map AE.row))) (fun rr h'=>∃ (i:Nat→Nat),rr = .tup [rI r.1,rI r.2.1]∧h'=(Ad gb1000 (i 0) (r.2.2.1.versions.map (AJ.row (i 2))) (.fam gb1002 (i 1) (i 2) 71 (r.2.2.2.map AE.row)))):=by
 unfold GC at h
 refine CR Tryz.func6 R R Tryz.ntmps6 (Zr R) fun n0=>aU (sS R (Zu (cs:=[rS name1]) 5 R iL R R) (sS R (Zu (cs:=[qe d1.Nodes]) 6 R iL R R) (mA R (AD R (aT fun c2=>(aU (sQ R (Zg (a:=rS name1) R A3 iL R R) (Zb h fun r1 er1 h1=>(cL (Mm (er1)) R (sQ R (Zp R iL) (aZ (cI R h1 (fun h2=>?_) fun h2=>?_))))))))))))
 ·refine aT fun c4=>(aG [] [1000,1001,1002] ?_)
  refine aR (mA R (mA R (oZ c4 ?_)))
  exact Zh (BG.mk (s':=⟨[(8,rI 0),(9,rI 9)],(Ad gb1000 ga1001 (w1.versions.map (AJ.row gc1002)) (.fam gb1002 gw1002 gc1002 71 (fl1.map AE.row))),(n0+2),91⟩) wk (Zx (fun (r:Int × Int × Ah × (List AE)) rr h'=>∃ (i:Nat→Nat),rr = .tup [rI r.1,rI r.2.1]∧h'=(Ad gb1000 (i 0) (r.2.2.1.versions.map (AJ.row (i 2))) (.fam gb1002 (i 1) (i 2) 71 (r.2.2.2.map AE.row)))) h2 (by exact ⟨.tup [rI 0,rI 9],(Ad gb1000 ga1001 (w1.versions.map (AJ.row gc1002)) (.fam gb1002 gw1002 gc1002 71 (fl1.map AE.row))),⟨_,R,⟨R,R,Za⟩⟩,⟨.inr R,.inr R,.inr R,Za⟩,R,R,AG [ga1001,gw1002,gc1002],R,R⟩)))
 refine Zc (c2 _ (aT fun c5=>(aU (xC CU R (Zb h2 fun e1 ee1 h3=>(cL (PN (ee1)) R (AD R (aT fun c7=>(aG [0,3,5,6,10] [5,6,1000,1001,1002] ?_)))))))))
 refine Af R (xU R (aZ (c7 _ (cI R h3 (fun h4=>?_) fun h4=>?_))))
 ·refine AI R (mA R (AD R ?_))
  exact Zh (BG.mk (s':=⟨[(8,rI 0),(9,rI e1)],(Ad gb1000 ga1001 (w1.versions.map (AJ.row gc1002)) (.fam gb1002 gw1002 gc1002 71 (fl1.map AE.row))),(n0+2),91⟩) wk (Zx (fun (r:Int × Int × Ah × (List AE)) rr h'=>∃ (i:Nat→Nat),rr = .tup [rI r.1,rI r.2.1]∧h'=(Ad gb1000 (i 0) (r.2.2.1.versions.map (AJ.row (i 2))) (.fam gb1002 (i 1) (i 2) 71 (r.2.2.2.map AE.row)))) h4 (by exact ⟨.tup [rI 0,rI e1],(Ad gb1000 ga1001 (w1.versions.map (AJ.row gc1002)) (.fam gb1002 gw1002 gc1002 71 (fl1.map AE.row))),⟨_,R,⟨R,R,Za⟩⟩,⟨.inr R,.inr R,.inr R,Za⟩,R,R,AG [ga1001,gw1002,gc1002],R,R⟩)))
 refine Zc (c5 _ (aS fun K9 c9 wK9=>(AI R (xL A2 R (mM R (aZ (Ze (Aw h4 fun o1 hit1 hk1 he1=>?_))))))))
 have J1 : ∀ (u2:Unit) (i5:NN),o1 = .nrm u2→K9 ⟨[(0,pT 1000 gb1000),(3,.r (.sl (parents1.map (AL .i64)))),(5,pT 5 n0),(6,pT 6 (n0+1))],(Qo n0 name1 (n0+1) (qe d1.Nodes) gb1000 ga1001 (w1.versions.map (AJ.row gc1002)) (.fam gb1002 gw1002 gc1002 71 (fl1.map AE.row))),(i5 0),91⟩:=by
  intro u2 i5 e
  have h5:=hk1 _ e
  refine c9 _ (aT fun c11=>(aT fun c12=>(Af R (sQ R (ZA (ob:=.box _ _ _) R iL fR R) (lF Cy DQ R R ?_)))))
  refine sQ R (Qz (bs:=[pT 5 n0]) R (by exact ⟨iL,Za⟩)) ?_
  refine Zb h5 fun r2 er2 h6=>?_
  refine Zz [1001,5] (hc:=(Cd ga1001 (w1.versions.map (AJ.row gc1002)) n0 name1)) (bs:=[.own 1000 ga1001,.fn 25 [pT 1001 n0]]) (caps:=[]) R R R R iL R ⟨.inl ⟨iL,R⟩,.inl ⟨iL,R⟩,Za⟩ ⟨R,R,R,R,R,R,Za⟩ (by decide) (TO er2) ?_
  intro i6 n1
  refine BJ [0,3,5,6,48,49,50,51,52,53] [5,6,1000,1001,1002] ?_
  refine aZ (c12 _ (cI R h6 (fun h7=>?_) fun h7=>?_))
  ·refine aT fun c13=>(aG [] [1000,1001,1002] ?_)
   refine aR (mA R (mA R (oZ c13 ?_)))
   exact Zh (BG.mk (s':=⟨[(8,rI 0),(9,rI 6)],(Ad gb1000 ga1001 (w1.versions.map (AJ.row gc1002)) (.fam gb1002 gw1002 gc1002 71 (fl1.map AE.row))),n1,91⟩) wk (Zx (fun (r:Int × Int × Ah × (List AE)) rr h'=>∃ (i:Nat→Nat),rr = .tup [rI r.1,rI r.2.1]∧h'=(Ad gb1000 (i 0) (r.2.2.1.versions.map (AJ.row (i 2))) (.fam gb1002 (i 1) (i 2) 71 (r.2.2.2.map AE.row)))) h7 (by exact ⟨.tup [rI 0,rI 6],(Ad gb1000 ga1001 (w1.versions.map (AJ.row gc1002)) (.fam gb1002 gw1002 gc1002 71 (fl1.map AE.row))),⟨_,R,⟨R,R,Za⟩⟩,⟨.inr R,.inr R,.inr R,Za⟩,R,R,AG [ga1001,gw1002,gc1002],R,R⟩)))
  refine Zc (c11 _ (aT fun c14=>(Zb h7 fun r3 er3 h8=>?_)))
  refine HJ 5 [pO 54 (rS name1),pO 55 (.r (.sl (parents1.map (AL .i64)))),pO 56 (.r (.sl (r3.map (AL .i64)))),pO 57 (.agg [rS name1,.r (.sl (r3.map (AL .i64))),cZ]),⟨some 13,(fun G1=>pT 13 (G1 4)),some (13,(fun G1=>some (.box (G1 4) 60 KC))),[4]⟩] Az (by kernel_rfl) (by exact ⟨zN,zN,zN,zN,zS 4,Za⟩) R (by exact ⟨oB [(5,pT 5 n0)] [bX 5 n0 9 [rS name1]] (Zg (a:=rS name1) R A3 (.inl R) R R),oB [(3,.r (.sl (parents1.map (AL .i64))))] [] (Zd R (.inl R)),oD (fun _=>[(55,.r (.sl (parents1.map (AL .i64))))]) (fun _=>[]) (fun G1 e h' n=>Dp (r:=.r (.sl (r3.map (AL .i64)))) (caps:=[]) (bs:=[.r (.sl (parents1.map (AL .i64)))]) R (.inl R) R ⟨.inl ⟨(.inl R),R⟩,Za⟩ (fun _=>Py (er3))),oB [(54,rS name1),(56,.r (.sl (r3.map (AL .i64))))] [] (DG R S3 (q:=[(0,_),(1,_)]) (by exact ⟨R,R,R,(.inl R),R,R,R,(.inl R),Za⟩) (cs:=[rS name1,.r (.sl (r3.map (AL .i64))),cZ]) (by rfl)),oM (fun _=>[]) (fun _=>[]) R (fun G1 e h' n=>Zw (cs:=KC) 13 R LE R R),Za⟩) fun G1 n2=>?_
  refine BJ [0,3,5,6,13,48,49,50,51,52,53,54,55,56,57] [5,6,13,1000,1001,1002] ?_
  refine Zl R R (Zj (ds:=[rS name1,.r (.sl (r3.map (AL .i64))),cZ]) R LJ iL R iL R R R R) (aZ (c14 _ (aS fun K15 c15 wK15=>(aT fun c16=>(aG [0,3,6,13] [6,13,1000,1001,1002] ?_)))))
  refine aR (lF Bh Bl R R (xL BK R (mM R (aZ (c16 _ (Ze (S9 h8 fun o2 hit2 hk2=>?_)))))))
  have J2 : ∀ (v4:AJ) (fl5:List AE) (i11:NN),o2=(v4,fl5)→K15 ⟨[(0,pT 1000 gb1000),(13,pT 13 (G1 4))],(Nq (G1 4) v4.name (v4.parents.map (AL .i64)) (i11 0) (v4.nodes.map (BM (i11 2))) gb1000 ga1001 (w1.versions.map (AJ.row (i11 2))) (.fam gb1002 (i11 1) (i11 2) 71 (fl5.map AE.row))),(i11 3),91⟩:=by
   intro v4 fl5 i11 e
   have h9:=hk2 _ _ e
   refine c15 _ (aT fun c17=>?_)
   refine AW.weak (by exact DE (e':=[(0,pT 1000 gb1000),(13,pT 13 (G1 4))]) (h':=[bX 13 (G1 4) 60 [rS v4.name,.r (.sl (v4.parents.map (AL .i64))),.r (.sl (v4.nodes.map (BM (i11 2))))],bX 1000 gb1000 53 [.own 1001 ga1001],aX 1001 ga1001 60 3 (w1.versions.map (AJ.row (i11 2))),(1002,some (.fam gb1002 (i11 1) (i11 2) 71 (fl5.map AE.row)))]) 72 R ⟨jL,jL,Za⟩ ⟨R,.inr (.inr (.inl ⟨_,_,_,_,R,R,⟨.inl R,.inl R,.inr (.inr ⟨R,R⟩),Za⟩⟩)),R,.inl R,R,.inl R,R,.inl R,Za⟩) ?_
   refine YD [0] [1,2,3,4,5] [6] 7 Az (by kernel_rfl) R R R R R ?_
   refine E8.move R R R R (E8.nil (AF.step R R R (Zd R iL) (AF.step R R R (ZA (ob:=.box _ _ _) R iL fR R) (AF.step R R R (fB R Cy iL fR R) (AF.step R R R (Zg (a:=.own 1001 ga1001) R DQ iL R R) (AF.step R R R (Cn R IB iL R R) (AF.nil (AA.step R R R (SB 81 R B6 (f:=(AJ.row (i11 2))) (l:=([v4]:List AJ)) ⟨R,⟨_,iL,R⟩,Za⟩ R (fun _=>R) R) (AA.nil (Zb h9 fun l1 el1 h10=>(sS R (Dm R B6 iL R (.inr (.inl ⟨_,_,iL,R⟩)) el1) (sQ R (ZA (ob:=.box _ _ _) R iL fR R) (sQ R (fB R Cy iL fR R) (Zl R R (Zj (ds:=[.own 1001 ((i11 3)+1)]) R SE iL R iL R R R R) (aZ (c17 _ (aT fun c18=>(aG [0] [1000,1001,1002] ?_))))))))))))))))))
   refine Af R (sQ R (ZA (ob:=.box _ _ _) R iL fR R) (lF Cy DQ R R (sQ R (Cj R B6.slice iL R) (Zb h10 fun x7 ex7 h11=>(sQ R (BT R iL iL (fun _=>ex7)) (mA R (mA R (oZ c18 ?_))))))))
   exact Zh (BG.mk (s':=⟨[(8,rI x7),(9,rI 0)],(Ad gb1000 ((i11 3)+1) (l1.map (AJ.row (i11 2))) (.fam gb1002 (i11 1) (i11 2) 71 (fl5.map AE.row))),((i11 3)+2),91⟩) wk (Zx (fun (r:Int × Int × Ah × (List AE)) rr h'=>∃ (i:Nat→Nat),rr = .tup [rI r.1,rI r.2.1]∧h'=(Ad gb1000 (i 0) (r.2.2.1.versions.map (AJ.row (i 2))) (.fam gb1002 (i 1) (i 2) 71 (r.2.2.2.map AE.row)))) h11 (by exact ⟨.tup [rI x7,rI 0],(Ad gb1000 ((i11 3)+1) (l1.map (AJ.row (i11 2))) (.fam gb1002 (i11 1) (i11 2) 71 (fl5.map AE.row))),⟨_,R,⟨R,R,Za⟩⟩,⟨.inr R,.inr R,.inr R,Za⟩,R,R,AG [((i11 3)+1),(i11 1),(i11 2)],R,R⟩)))
  refine YT (fun (x5:Int) (v2:AJ) (fl3:List AE) i9=>⟨[(0,pT 1000 gb1000),(3,.r (.sl (parents1.map (AL .i64)))),(13,pT 13 (G1 4)),(59,qe d1.Nodes),(60,rL d1.Nodes),(61,rI x5)],(Nq (G1 4) v2.name (v2.parents.map (AL .i64)) (i9 0) (v2.nodes.map (BM (i9 2))) gb1000 ga1001 (w1.versions.map (AJ.row (i9 2))) (.fam gb1002 (i9 1) (i9 2) 71 (fl3.map AE.row))),(i9 3),91⟩) (AG [n2,gw1002,gc1002,(n2+1)]) hit2 (Zs (Zs (Mi 13 2 72 72 1 (by decide) R R (by decide)) (by exact Ac.cv (e':=[(0,pT 1000 gb1000),(3,.r (.sl (parents1.map (AL .i64)))),(6,pT 6 (n0+1)),(13,pT 13 (G1 4)),(58,pT 6 (n0+1)),(59,qe d1.Nodes),(60,rL d1.Nodes),(61,rI 0)]) (h':=[bX 6 (n0+1) 34 [qe d1.Nodes],bX 13 (G1 4) 60 [rS name1,.r (.sl (r3.map (AL .i64))),.own 72 n2],aX 72 n2 72 1 (([]:List Int).map (BM gc1002)),bX 1000 gb1000 53 [.own 1001 ga1001],aX 1001 ga1001 60 3 (w1.versions.map (AJ.row gc1002)),(1002,some (.fam gb1002 gw1002 gc1002 71 (fl1.map AE.row)))]) ⟨jL,jL,jL,jL,jL,jL,jL,jL,Za⟩ ⟨.inl R,.inl R,.inl R,.inl R,.inl R,.inl R,Za⟩ nL)) wk) ?_
  intro x5 v2 fl3 i9 v5 hv1 hx2
  have h12:IA w1 d1 parents1 x5 v2 fl3=some v5:=hv1; unfold IA at h12
  refine aU (xS R (Ak fun c20=>(cI R h12 (fun h13=>?_) fun h13=>?_)))
  ·refine Zc (c20 _ (aT fun c21=>(Ze (aU (Zb h13 fun x8 ex8 h14=>(xI BK R ex8 (xB ((Ao x8)) CG R (sS R (Zw (cs:=FJ) 15 R Il R R) (Zl R R (Zj (ds:=(Ao x8)) R Hx iL R iL R R R R) (aZ (Ee h14 fun r4 w2 er4 h15=>?_)))))))))))
   refine HJ 7 [pO 65 (.ptr 13 (G1 4) 0 2),pO 66 (.own 72 (i9 0)),pO 67 (pT 1000 gb1000),pO 68 (.r (.sl (parents1.map (AL .i64)))),pO 69 (.agg (Ao x8)),⟨some 70,(fun G2=>.r (.ptr (At (A0 fl3.length (i9 2) (dG (G2 5) 1)) r4.toNat))),some (1002,(fun G2=>some (.fam gb1002 (dG (G2 5) 0) (A0 fl3.length (i9 2) (dG (G2 5) 1)) 71 (w2.map AE.row)))),[5]⟩,⟨some 71,(fun G2=>.own 71 (G2 6)),some (71,(fun G2=>some (.arr (G2 6) 72 1 ([r4].map (BM (A0 fl3.length (i9 2) (dG (G2 5) 1))))))),[5,6]⟩] Az (by kernel_rfl) (by exact ⟨zN,zN,zN,zN,zN,zS 5,fun _ _ h=>⟨by simp only [h 5 R,h 6 R],fun _ _ e=>by cases e; simp only [h 5 R,h 6 R]⟩,Za⟩) R (by exact ⟨oB [(13,pT 13 (G1 4))] [bX 13 (G1 4) 60 [rS v2.name,.r (.sl (v2.parents.map (AL .i64))),.own 72 (i9 0)]] (fB R KD (.inl R) (fun _=>R) R),oB [(65,.ptr 13 (G1 4) 0 2)] [bX 13 (G1 4) 60 [rS v2.name,.r (.sl (v2.parents.map (AL .i64))),.own 72 (i9 0)]] (Zg (a:=.own 72 (i9 0)) R LU (.inl R) R R),oB [(0,pT 1000 gb1000)] [bX 1000 gb1000 53 [.own 1001 ga1001]] (Zd R (.inl R)),oB [(3,.r (.sl (parents1.map (AL .i64))))] [] (Zd R (.inl R)),oB [(15,pT 15 (i9 3))] [bX 15 (i9 3) 71 (Ao x8)] (Cn R CG (.inl R) R R),YI R R (by intro d h; cases h; rfl) R (fun _=>[(67,pT 1000 gb1000),(68,.r (.sl (parents1.map (AL .i64)))),(69,.agg (Ao x8))]) (fun _=>(Ad gb1000 ga1001 (w1.versions.map (AJ.row (i9 2))) (.fam gb1002 (i9 1) (i9 2) 71 (fl3.map AE.row)))) (fun D G2 hr=>⟨EI hr 2 R R (by kernel_rfl) R R,EI hr 3 R R (by kernel_rfl) R R,EI hr 4 R R (by kernel_rfl) R R,Za⟩) (fun D G2 hr=>⟨FO R R,FO R R,Gi hr (by kernel_rfl) R,Za⟩) (fun G2 e h' n=>⟨_,WQ [1000,1001,1002] 2 (hc:=(Ad gb1000 ga1001 (w1.versions.map (AJ.row (i9 2))) (.fam gb1002 (i9 1) (i9 2) 71 (fl3.map AE.row)))) (bs:=[pT 1000 gb1000,.r (.sl (parents1.map (AL .i64))),.agg (Ao x8)]) (caps:=[]) R (.inl R) R (by exact ⟨.inl ⟨(.inl R),R⟩,.inl ⟨(.inl R),R⟩,.inl ⟨(.inl R),R⟩,Za⟩) (by exact ⟨R,R,R,R,R,R,R,R,R,Za⟩) (by decide) (TA er4) (fun i j h=>⟨by simp only [h 0 (by decide),h 1 (by decide)],by simp only [h 0 (by decide),h 1 (by decide)]⟩),fun m j=>XP R R j⟩),oM (fun G2=>[(70,.r (.ptr (At (A0 fl3.length (i9 2) (dG (G2 5) 1)) r4.toNat)))]) (fun G2=>[(1002,some (.fam gb1002 (dG (G2 5) 0) (A0 fl3.length (i9 2) (dG (G2 5) 1)) 71 (w2.map AE.row)))]) R (fun G2 e h' n=>Br 71 R F6 (f:=(BM (A0 fl3.length (i9 2) (dG (G2 5) 1)))) (l:=([r4]:List Int)) ⟨R,⟨_,(.inl R),R⟩,Za⟩ R (fun _=>R) R),Za⟩) fun G2 n3=>?_
   refine BJ [0,3,13,15,59,60,61,62,63,64,65,66,67,68,69,70,71] [13,15,71,72,1000,1001,1002] ?_
   refine Zb h15 fun u4 eu4 h16=>?_
   refine AK.weak (by exact Ac.cv (e':=[(0,pT 1000 gb1000),(3,.r (.sl (parents1.map (AL .i64)))),(13,pT 13 (G1 4)),(15,pT 15 (i9 3)),(59,qe d1.Nodes),(60,rL d1.Nodes),(61,rI x5),(62,rB ((decide (x5<(d1.Nodes.length:Int))))),(63,.rop (AE.row x8) 0),(64,.agg (Ao x8)),(65,.ptr 13 (G1 4) 0 2),(66,.own 72 (i9 0)),(67,pT 1000 gb1000),(68,.r (.sl (parents1.map (AL .i64)))),(69,.agg (Ao x8)),(70,.r (.ptr (At (A0 fl3.length (i9 2) (dG (G2 5) 1)) r4.toNat))),(71,.own 71 (G2 6))]) (h':=[bX 13 (G1 4) 60 [rS v2.name,.r (.sl (v2.parents.map (AL .i64))),.own 72 (i9 0)],bX 15 (i9 3) 71 (Ao x8),aX 71 (G2 6) 72 1 ([r4].map (BM (A0 fl3.length (i9 2) (dG (G2 5) 1)))),aX 72 (i9 0) 72 1 (v2.nodes.map (BM (A0 fl3.length (i9 2) (dG (G2 5) 1)))),bX 1000 gb1000 53 [.own 1001 ga1001],aX 1001 ga1001 60 3 (w1.versions.map (AJ.row (i9 2))),(1002,some (.fam gb1002 (dG (G2 5) 0) (A0 fl3.length (i9 2) (dG (G2 5) 1)) 71 (w2.map AE.row)))]) ⟨jL,jL,jL,jL,jL,jL,jL,jL,jL,jL,jL,jL,jL,jL,jL,jL,jL,Za⟩ ⟨.inl R,.inl R,.inl R,.inl (by show (some (.arr (i9 0) 72 1 (v2.nodes.map (BM (i9 2)))):Option AT)=some (.arr (i9 0) 72 1 (v2.nodes.map (BM (A0 fl3.length (i9 2) (dG (G2 5) 1))))); rw [S6 eu4]),.inl R,.inl R,.inl R,Za⟩ nL) ?_
   refine Zb h16 fun l2 el2 h17=>(sS R (Dm R F6 iL R (.inr (.inl ⟨_,_,iL,R⟩)) el2) (sQ R (fB R KD iL fR R) (Zl R R (Zj (ds:=[rS v2.name,.r (.sl (v2.parents.map (AL .i64))),.own 72 n3]) R Rw iL R iL R R R R) (aZ (c21 _ (aG [0,3,13,59,60,61] [13,72,1000,1001,1002] ?_))))))
   refine aR (Zb h17 fun x9 ex9 h18=>(xA R ex9 (mM R (Zi (Zb h18 fun u5 eu5 h19=>?_)))))
   exact Mf.mk h19 (AG [n3,(dG (G2 5) 0),(A0 fl3.length (i9 2) (dG (G2 5) 1)),(n3+1)]) (Zs (by exact Ac.cv (e':=[(0,pT 1000 gb1000),(3,.r (.sl (parents1.map (AL .i64)))),(13,pT 13 (G1 4)),(59,qe d1.Nodes),(60,rL d1.Nodes),(61,rI x9),(74,rI x9)]) (h':=(Nq (G1 4) v2.name (v2.parents.map (AL .i64)) n3 (l2.map (BM (A0 fl3.length (i9 2) (dG (G2 5) 1)))) gb1000 ga1001 (w1.versions.map (AJ.row (A0 fl3.length (i9 2) (dG (G2 5) 1)))) (.fam gb1002 (dG (G2 5) 0) (A0 fl3.length (i9 2) (dG (G2 5) 1)) 71 (w2.map AE.row)))) ⟨jL,jL,jL,jL,jL,jL,jL,Za⟩ ⟨.inl R,.inl R,.inl R,.inl (by show (some (.arr ga1001 60 3 (w1.versions.map (AJ.row (i9 2)))):Option AT)=some (.arr ga1001 60 3 (w1.versions.map (AJ.row (A0 fl3.length (i9 2) (dG (G2 5) 1))))); rw [XG eu5]),.inl R,Za⟩ nL) wk)
  exact Zk (wK15 _ _ wk (J2 _ _ (AG [(i9 0),(i9 1),(i9 2),(i9 3)]) (xH hx2 h13)))
 refine Zo (fun (x2:Int) i3=>⟨[(0,pT 1000 gb1000),(3,.r (.sl (parents1.map (AL .i64)))),(5,pT 5 n0),(6,pT 6 (n0+1)),(24,.r (.sl (parents1.map (AL .i64)))),(25,rL parents1),(26,rI x2)],(Qo n0 name1 (n0+1) (qe d1.Nodes) gb1000 ga1001 (w1.versions.map (AJ.row gc1002)) (.fam gb1002 gw1002 gc1002 71 (fl1.map AE.row))),(i3 0),91⟩) (AG [(n0+2)]) hit1 wk ?_
 intro x2 i3 v6 hv2 hx1
 have h20:IP w1 fl1 parents1 x2=some v6:=hv2; unfold IP at h20
 refine aU (xS R (Ak fun c24=>(cI R h20 (fun h21=>?_) fun h21=>?_)))
 ·refine Zc (c24 _ (aT fun c25=>(Ze (AI R (Zb h21 fun x10 ex10 h22=>(xI A2 R ex10 (xV (.int .i64 x10) AH R (mA R (AD R (aT fun c27=>(AI R (xS R (mM R (vM R (vM R (vQ R (ZA (ob:=.box _ _ _) R (iR R) fR R) (vQ R (fB R Cy (iR R) fR R) (vQ R (Zg (a:=.own 1001 ga1001) R DQ (iR R) R R) (vQ R (Cj R B6.slice (iR R) R) (vQ R (Bf R (iR R) (iR R)) (xO R (aZ (cI R h22 (fun h23=>?_) fun h23=>?_)))))))))))))))))))))))
  ·refine aT fun c29=>(aG [] [1000,1001,1002] ?_)
   refine aR (mA R (mA R (oZ c29 ?_)))
   exact Zh (BG.mk (s':=⟨[(8,rI 0),(9,rI 2)],(Ad gb1000 ga1001 (w1.versions.map (AJ.row gc1002)) (.fam gb1002 gw1002 gc1002 71 (fl1.map AE.row))),(i3 0),91⟩) wk (Zx (fun (r:Int × Int × Ah × (List AE)) rr h'=>∃ (i:Nat→Nat),rr = .tup [rI r.1,rI r.2.1]∧h'=(Ad gb1000 (i 0) (r.2.2.1.versions.map (AJ.row (i 2))) (.fam gb1002 (i 1) (i 2) 71 (r.2.2.2.map AE.row)))) (he1 _ (xH hx1 h23)) (by exact ⟨.tup [rI 0,rI 2],(Ad gb1000 ga1001 (w1.versions.map (AJ.row gc1002)) (.fam gb1002 gw1002 gc1002 71 (fl1.map AE.row))),⟨_,R,⟨R,R,Za⟩⟩,⟨.inr R,.inr R,.inr R,Za⟩,R,R,AG [ga1001,gw1002,gc1002],R,R⟩)))
  refine Zc (c27 _ (aT fun c30=>(Af R (mM R (Zb h23 fun l3 el3 h24=>?_)))))
  refine sQ R (RB R A2.slice iL (by exact R) (by exact ⟨_,iL⟩) (fun _=>R) (fun _=>el3)) ?_
  refine mM R (Zb h24 fun r5 er5 h25=>(cL (QR (er5)) R (aZ (c30 _ (cI R h25 (fun h26=>?_) fun h26=>?_)))))
  ·refine aT fun c31=>(aG [] [1000,1001,1002] ?_)
   refine aR (mA R (mA R (oZ c31 ?_)))
   exact Zh (BG.mk (s':=⟨[(8,rI 0),(9,rI 6)],(Ad gb1000 ga1001 (w1.versions.map (AJ.row gc1002)) (.fam gb1002 gw1002 gc1002 71 (fl1.map AE.row))),(i3 0),91⟩) wk (Zx (fun (r:Int × Int × Ah × (List AE)) rr h'=>∃ (i:Nat→Nat),rr = .tup [rI r.1,rI r.2.1]∧h'=(Ad gb1000 (i 0) (r.2.2.1.versions.map (AJ.row (i 2))) (.fam gb1002 (i 1) (i 2) 71 (r.2.2.2.map AE.row)))) (he1 _ (xH hx1 h26)) (by exact ⟨.tup [rI 0,rI 6],(Ad gb1000 ga1001 (w1.versions.map (AJ.row gc1002)) (.fam gb1002 gw1002 gc1002 71 (fl1.map AE.row))),⟨_,R,⟨R,R,Za⟩⟩,⟨.inr R,.inr R,.inr R,Za⟩,R,R,AG [ga1001,gw1002,gc1002],R,R⟩)))
  refine Zc (c25 _ (aG [0,3,5,6,24,25,26] [5,6,1000,1001,1002] ?_))
  exact aR (Zb h26 fun x11 ex11 h27=>(xA R ex11 (mM R (Zi (Zm h27 (AG [(i3 0)]) wk)))))
 exact Zk (wK9 _ _ wk (J1 _ (AG [(i3 0)]) (xH hx1 h21)))
theorem OF {w1:Ah} {fl1:List AE} {k1:Int} {r:AP × Int} {gb1000:Nat} {ga1001:Nat} {gb1002:Nat} {gw1002:Nat} {gc1002:Nat} (h:Et w1 fl1 k1=some r):A1 Tryz.prog 11 3 [pT 1000 gb1000,rI k1] (Ad gb1000 ga1001 (w1.versions.map (AJ.row gc1002)) (.fam gb1002 gw1002 gc1002 71 (fl1.map AE.row))) (fun rr h'=>∃ (i:Nat→Nat),rr = .tup [.agg [qe r.1.Nodes],rI r.2]∧h'=(Ad gb1000 ga1001 (w1.versions.map (AJ.row gc1002)) (.fam gb1002 gw1002 gc1002 71 (fl1.map AE.row)))):=by
 unfold Et at h
 refine CR Tryz.func11 R R Tryz.ntmps11 (Zr R) fun n0=>aU (sS R (Zw (cs:=[cZ]) 4 R Gz R R) (AD R (aT fun c2=>(AI R (xS R (mM R (vM R (vM R (vQ R (ZA (ob:=.box _ _ _) R (iR R) fR R) (vQ R (fB R Cy (iR R) fR R) (vQ R (Zg (a:=.own 1001 ga1001) R DQ (iR R) R R) (vQ R (Cj R B6.slice (iR R) R) (vQ R (Bf R (iR R) (iR R)) (xO R (aZ (cI R h (fun h1=>?_) fun h1=>?_))))))))))))))))
 ·refine aT fun c4=>(aG [4] [4,1000,1001,1002] ?_)
  refine aR ?_
  refine sQ R (DG R Mt (q:=[]) (by exact Za) (cs:=[cZ]) (by rfl)) ?_
  refine Zl R R (Zj (ds:=[cZ]) R Gu iL R iL R R R R) (mA R (oZ c4 ?_))
  exact Zh (BG.mk (s':=⟨[(4,pT 4 n0),(5,rI 2)],[bX 4 n0 34 [.r (.sl [])],bX 1000 gb1000 53 [.own 1001 ga1001],aX 1001 ga1001 60 3 (w1.versions.map (AJ.row gc1002)),(1002,some (.fam gb1002 gw1002 gc1002 71 (fl1.map AE.row)))],(n0+1),45⟩) ((by exact Ac.cv ⟨jL,jL,Za⟩ ⟨.inr (.inr ⟨_,_,_,_,R,R,⟨.inr (.inr ⟨R,R⟩),Za⟩⟩),.inl R,.inl R,.inl R,Za⟩ nL)) (Zx (fun (r:AP × Int) rr h'=>∃ (i:Nat→Nat),rr = .tup [.agg [qe r.1.Nodes],rI r.2]∧h'=(Ad gb1000 ga1001 (w1.versions.map (AJ.row gc1002)) (.fam gb1002 gw1002 gc1002 71 (fl1.map AE.row)))) h1 (by exact ⟨.tup [.agg [.r (.sl [])],rI 2],(Ad gb1000 ga1001 (w1.versions.map (AJ.row gc1002)) (.fam gb1002 gw1002 gc1002 71 (fl1.map AE.row))),⟨_,R,⟨.inr ⟨_,R,CU,_,_,_,R,R⟩,R,Za⟩⟩,⟨.inr R,.inr R,.inr R,Za⟩,R,R,AG [],R,R⟩)))
 refine Zc (c2 _ (aT fun c5=>(aG [0,1,4] [4,1000,1001,1002] ?_)))
 refine aR (sS R (Zw (cs:=[cZ]) 6 R Gz R R) (aZ (c5 _ (aS fun K6 c6 wK6=>(AI R (sQ R (ZA (ob:=.box _ _ _) R iL fR R) (lF Cy DQ R R (mM R (Zb h1 fun x1 ex1 h2=>(sQ R (Cb R B6.slice iL R iL (fun _=>ex1)) (sQ R (Ft (ob:=.arr _ _ _ _) R KD iL fR R) (sQ R (GJ (d:=.sl (x1.nodes.map (BM gc1002))) R LU iL fR (fun _=>ex1) R) (xL F6 R (mM R (aZ (Ze (BL h2 fun o1 hit1 hk1=>?_)))))))))))))))))
 have J1 : ∀ (d4:AP) (i5:NN),o1=d4→K6 ⟨[(4,pT 4 n0),(6,pT 6 (n0+1))],(Mz n0 cZ (n0+1) (i5 0) d4.Nodes gb1000 ga1001 (w1.versions.map (AJ.row gc1002)) (.fam gb1002 gw1002 gc1002 71 (fl1.map AE.row))),(i5 1),45⟩:=by
  intro d4 i5 e
  have h3:=hk1 _ e
  refine c6 _ (aU (xC CU R (Zl R R (Zj (ds:=[.own 41 (i5 0)]) R Gu iL R iL R R R R) (AD R ?_))))
  exact Zh (BG.mk (s':=⟨[(4,pT 4 n0),(5,rI 0)],[bX 4 n0 34 [qe d4.Nodes],bX 1000 gb1000 53 [.own 1001 ga1001],aX 1001 ga1001 60 3 (w1.versions.map (AJ.row gc1002)),(1002,some (.fam gb1002 gw1002 gc1002 71 (fl1.map AE.row)))],(i5 1),45⟩) (Zs (by exact DE (e':=[(4,pT 4 n0),(5,rI 0),(6,pT 6 (n0+1)),(44,.agg [qe d4.Nodes])]) (h':=[bX 4 n0 34 [qe d4.Nodes],bX 6 (n0+1) 34 [qe d4.Nodes],bX 1000 gb1000 53 [.own 1001 ga1001],aX 1001 ga1001 60 3 (w1.versions.map (AJ.row gc1002)),(1002,some (.fam gb1002 gw1002 gc1002 71 (fl1.map AE.row)))]) 41 R ⟨jL,jL,jL,.inr ⟨_,_,R,R,⟨.inr (.inr ⟨R,R⟩),Za⟩⟩,Za⟩ ⟨R,.inr (.inr (.inl ⟨_,_,_,_,R,R,⟨.inr (.inr ⟨R,R⟩),Za⟩⟩)),R,.inr (.inr (.inl ⟨_,_,_,_,R,R,⟨.inr (.inr ⟨R,R⟩),Za⟩⟩)),R,.inl R,R,.inl R,R,.inl R,Za⟩) wk) (Zx (fun (r:AP × Int) rr h'=>∃ (i:Nat→Nat),rr = .tup [.agg [qe r.1.Nodes],rI r.2]∧h'=(Ad gb1000 ga1001 (w1.versions.map (AJ.row gc1002)) (.fam gb1002 gw1002 gc1002 71 (fl1.map AE.row)))) h3 (by exact ⟨.tup [.agg [qe d4.Nodes],rI 0],(Ad gb1000 ga1001 (w1.versions.map (AJ.row gc1002)) (.fam gb1002 gw1002 gc1002 71 (fl1.map AE.row))),⟨_,R,⟨.inr ⟨_,R,CU,_,_,_,R,R⟩,R,Za⟩⟩,⟨.inr R,.inr R,.inr R,Za⟩,R,R,AG [],R,R⟩)))
 refine Cu (fun (x3:Int) (d2:AP) i3=>⟨[(4,pT 4 n0),(6,pT 6 (n0+1)),(28,.r (.sl (x1.nodes.map (BM gc1002)))),(29,rL x1.nodes),(30,rI x3)],(Mz n0 cZ (n0+1) (i3 0) d2.Nodes gb1000 ga1001 (w1.versions.map (AJ.row gc1002)) (.fam gb1002 gw1002 gc1002 71 (fl1.map AE.row))),(i3 1),45⟩) (AG [(n0+2),(n0+3)]) hit1 (Zs (Zs (Mi 6 0 41 71 9 (by decide) R R (by decide)) (by exact Ac.cv (e':=[(0,pT 1000 gb1000),(1,rI k1),(4,pT 4 n0),(6,pT 6 (n0+1)),(21,pT 1000 gb1000),(22,pT 1000 gb1000),(23,pT 1000 gb1000),(24,.own 1001 ga1001),(25,rI k1),(26,.ptr 1001 ga1001 k1.toNat 0),(27,.ptr 1001 ga1001 k1.toNat 2),(28,.r (.sl (x1.nodes.map (BM gc1002)))),(29,rL x1.nodes),(30,rI 0)]) (h':=(Mz n0 cZ (n0+1) (n0+2) ([]:List AE) gb1000 ga1001 (w1.versions.map (AJ.row gc1002)) (.fam gb1002 gw1002 gc1002 71 (fl1.map AE.row)))) ⟨jL,jL,jL,jL,jL,jL,jL,jL,jL,jL,jL,jL,jL,jL,Za⟩ ⟨.inl R,.inl R,.inl R,.inl R,.inl R,.inl R,Za⟩ nL)) wk) ?_
 intro x3 d2 i3 v1 hv1 hx1
 have h4:IN fl1 x1 x3 d2=some v1:=hv1; unfold IN at h4
 refine aU (xS R (Ak fun c10=>(cI R h4 (fun h5=>?_) fun h5=>?_)))
 ·refine Zc (c10 _ (aT fun c11=>(Ze (aU (Zb h5 fun x5 ex5 h6=>(xI F6 R ex5 (xV (.ptr (At gc1002 x5.toNat)) Ng R (AD R (Zb h6 fun x6 ex6 h7=>(Zb h7 fun r1 er1 h8=>?_))))))))))
  refine HJ 7 [pO 34 (pT 6 (n0+1)),pO 35 (.own 41 (i3 0)),pO 36 (.r (.ptr (At gc1002 x5.toNat))),pO 37 (.r (.ptr (At gc1002 x5.toNat))),pO 38 (.agg (Ao x6)),pO 39 (.agg (Ao r1)),⟨some 40,(fun G1=>.own 40 (G1 6)),some (40,(fun G1=>some (.arr (G1 6) 71 9 ([r1].map AE.row)))),[6]⟩] Az (by kernel_rfl) (by exact ⟨zN,zN,zN,zN,zN,zN,zS 6,Za⟩) R (by exact ⟨oB [(6,pT 6 (n0+1))] [bX 6 (n0+1) 34 [.own 41 (i3 0)]] (fB R Bh (.inl R) (fun _=>R) R),oB [(34,pT 6 (n0+1))] [bX 6 (n0+1) 34 [.own 41 (i3 0)]] (Zg (a:=.own 41 (i3 0)) R Bl (.inl R) R R),oB [(8,.r (.ptr (At gc1002 x5.toNat)))] [(1002,some (.fam gb1002 gw1002 gc1002 71 (fl1.map AE.row)))] (Zd R (.inl R)),oB [(36,.r (.ptr (At gc1002 x5.toNat)))] [(1002,some (.fam gb1002 gw1002 gc1002 71 (fl1.map AE.row)))] (M7 R (.inl R)),oB [(37,.r (.ptr (At gc1002 x5.toNat)))] [(1002,some (.fam gb1002 gw1002 gc1002 71 (fl1.map AE.row)))] (QA (row:=AE.row) (l:=fl1) (F:=1002) (cs:=(Ao x6)) R CG (.inl R) R (fun _=>ex6) R R),oD (fun _=>[(38,.agg (Ao x6))]) (fun _=>[]) (fun G1 e h' n=>Dp (r:=.agg (Ao r1)) (caps:=[]) (bs:=(FX x6)) R (.inl R) R ⟨.inl ⟨(.inl R),R⟩,Za⟩ (fun _=>PI (er1))),oM (fun _=>[(39,.agg (Ao r1))]) (fun _=>[]) R (fun G1 e h' n=>Br 40 R BK (f:=AE.row) (l:=([r1]:List AE)) ⟨R,⟨_,(.inl R),R⟩,Za⟩ R (fun _=>R) R),Za⟩) fun G1 n1=>?_
  refine BJ [4,6,8,28,29,30,31,32,33,34,35,36,37,38,39,40] [4,6,40,41,1000,1001,1002] ?_
  refine Zb h8 fun l1 el1 h9=>(sS R (Dm R BK iL R (.inr (.inl ⟨_,_,iL,R⟩)) el1) (sQ R (fB R Bh iL fR R) (Zl R R (Zj (ds:=[.own 41 n1]) R T2 iL R iL R R R R) (aZ (c11 _ (aG [4,6,28,29,30] [4,6,41,1000,1001,1002] ?_))))))
  exact aR (Zb h9 fun x7 ex7 h10=>(xA R ex7 (mM R (Zi (CF.mk h10 (AG [n1,(n1+1)]) wk)))))
 exact Zk (wK6 _ _ wk (J1 _ (AG [(i3 0),(i3 1)]) (xH hx1 h5)))
theorem WD {r} (h:Mc=some r):AX Tryz.prog 35 [] (.agg (BX r)):=by
 unfold Mc at h
 refine mF Tryz.func35 Tryz.ntmps35 R fun n0=>aU (sS R (Zw (cs:=Ge) 0 R Gm R R) (Ak fun c2=>(aR ?_)))
 refine sQ R (DG R JK (q:=[(0,_)]) (by exact ⟨R,R,R,iL,Za⟩) (cs:=Kq) (by rfl)) ?_
 refine Zl R R (Zj (ds:=Kq) R Fm iL R iL R R R R) (oZ c2 ?_)
 exact Zh (Db (P:=Tryz.prog) (fun (r:AO)=>.agg (BX r)) h iL (.a ES R R R (.agg (by exact ⟨.closed _ R,.closed _ R,.nil,Za⟩))))
theorem Wi {f1 r} (h:MD f1=some r):AX Tryz.prog 34 [qd f1] (.agg [qe r.Nodes]):=by
 unfold MD at h
 refine mF Tryz.func34 Tryz.ntmps34 R fun n0=>aU (sS R (Zw (cs:=[cZ]) 2 R Gz R R) (Ak fun c2=>(aR ?_)))
 refine sQ R (DG R JK (q:=[(1,_)]) (by exact ⟨R,R,R,iL,Za⟩) (cs:=Iq) (by rfl)) ?_
 refine sS R (Br 4 R BD (f:=AO.row) (l:=([(AO.mk 0 2 [])]:List AO)) ⟨R,⟨_,iL,R⟩,Za⟩ R (fun _=>R) R) ?_
 refine sQ R (DG R MT (q:=[(0,_),(3,_)]) (by exact ⟨R,R,R,iL,R,R,R,iL,Za⟩) (cs:=[rI 1,rI 0,cZ,.own 4 (n0+1),rI 0,rI 0,cZ,cZ,cZ]) (by rfl)) ?_
 refine mM R ?_
 refine sQ R (DG R MT (q:=[(0,_),(1,_),(3,_)]) (by exact ⟨R,R,R,iL,R,R,R,iL,R,R,R,iL,Za⟩) (cs:=[rI 2,rI 1,cZ,qd f1,rI 0,rI 0,cZ,cZ,cZ]) (by rfl)) ?_
 refine AK.weak (by exact DE (e':=[(0,qd f1),(2,pT 2 n0),(3,.agg Iq),(4,.r (.sl ([(AO.mk 0 2 [])].map AO.row))),(5,.agg OJ),(6,qd f1),(7,.agg [rI 2,rI 1,cZ,qd f1,rI 0,rI 0,cZ,cZ,cZ])]) (h':=[bX 2 n0 34 [cZ]]) 4 R ⟨jL,jL,jL,.inl (.inr (.inr ⟨R,R⟩)),.inr ⟨_,_,R,R,⟨.inl R,.inl R,.inl R,.inr (.inr ⟨R,R⟩),.inl R,.inl R,.inl R,.inl R,.inl R,Za⟩⟩,jL,jL,Za⟩ ⟨R,.inl R,Za⟩) ?_
 refine sS R (Br 8 R BK (f:=AE.row) (l:=([(AE.mk 1 0 [] [(AO.mk 0 2 [])] (Au.mk 0 0 [] []) []),(AE.mk 2 1 [] f1 (Au.mk 0 0 [] []) [])]:List AE)) ⟨R,⟨_,iL,R⟩,R,⟨_,iL,R⟩,Za⟩ R (fun _=>R) R) ?_
 refine sQ R (DG R Mt (q:=[(0,_)]) (by exact ⟨R,R,R,iL,Za⟩) (cs:=[.own 8 (n0+2)]) (by rfl)) ?_
 refine Zl R R (Zj (ds:=[.own 8 (n0+2)]) R Gu iL R iL R R R R) (oZ c2 ?_)
 exact Zh (Db (P:=Tryz.prog) (fun (r:AP)=>.agg [qe r.Nodes]) h iL (.a CU R R R (.agg (by exact ⟨.own R,Za⟩))))
theorem Nm {a1 b1 r} (h:Gw a1 b1=some r):AX Tryz.prog 45 [qa a1,qa b1] (rB r):=by
 unfold Gw at h
 refine mF Tryz.func45 Tryz.ntmps45 R fun n0=>aU (AD R (aT fun c2=>(AI R (xL Bq R (mM R (xL Bq R (xU R (aZ (cI R h (fun h1=>?_) fun h1=>?_)))))))))
 ·exact zB h1 R id
 refine Zc (c2 _ (aS fun K5 c5 wK5=>(AI R (xL Bq R (mM R (aZ (Ze (Aw h1 fun o1 hit1 hk1 he1=>?_))))))))
 have J1 : ∀ (u2:Unit) (i5:NN),o1 = .nrm u2→K5 ⟨[],[],(i5 0),26⟩:=by
  intro u2 i5 e
  have h2:=hk1 _ e
  exact c5 _ (zB h2 R id)
 refine Zo (fun (x2:Int) i3=>⟨(Fw (qa a1) (qa b1) (rL a1) x2),[],(i3 0),26⟩) (AG [n0]) hit1 wk ?_
 intro x2 i3 v1 hv1 hx1
 have h3:Kc a1 b1 x2=some v1:=hv1; unfold Kc at h3
 refine aU (xS R (Ak fun c9=>(cI R h3 (fun h4=>?_) fun h4=>?_)))
 ·refine Zc (c9 _ (aT fun c10=>(Ze (AI R (AD R (aT fun c12=>?_))))))
  refine Zv Az (by kernel_rfl) ?_
  refine qP R (Zd R iL) (qP R (Zd R iL) (Zb h4 fun x4 ex4 h5=>(qP R (Zt R Bq.slice iL iL (fun _=>R) (fun _=>ex4)) (qP R (BV (cs:=(IS x4)) R Km iL R R) (qP R (Zd R iL) (qP R (Zd R iL) (Zb h5 fun x5 ex5 h6=>(qP R (Zt R Bq.slice iL iL (fun _=>R) (fun _=>ex5)) (qP R (BV (cs:=(IS x5)) R Km iL R R) (qP R (Ht R Q9 iL iL R) (AQ.nil (c12 _ (cI R h6 (fun h7=>?_) fun h7=>?_)))))))))))))
  ·exact zB (he1 _ (xH hx1 h7)) R id
  refine Zc (c10 _ (aF [0,1,12,13] ?_))
  exact aR (Zb h7 fun x6 ex6 h8=>(xA R ex6 (mM R (Zi (Zm h8 (AG [(i3 0)]) wk)))))
 exact Zk (wK5 _ _ wk (J1 _ (AG [(i3 0)]) (xH hx1 h4)))
theorem Ul {a1 b1 r} (h:JV a1 b1=some r):AX Tryz.prog 77 [.agg (BX a1),.agg (BX b1)] (rB r):=by
 unfold JV at h
 exact mF Tryz.func77 Tryz.ntmps77 R fun n0=>aU (sS R (Zu (cs:=(BX a1)) 2 R iL R R) (sS R (Zu (cs:=(BX b1)) 3 R iL R R) (AD R (aU (lF Df AH R R (lF Df AH R R (xQ R (mM R (vF CA AH R R (vF CA AH R R (vQ R (Zq R (iR R) (iR R)) (xN R (mM R (vF GW Bu R R (vF GW Bu R R (Zb h fun r1 er1 h1=>vL (fun hg=>Nm (AZ er1 hg)) R (xN R (AD R (Zh (yB h1 R))))))))))))))))))))
theorem UQ {a1 b1 r} (h:KY a1 b1=some r):AX Tryz.prog 46 [qd a1,qd b1] (rB r):=by
 unfold KY at h
 refine mF Tryz.func46 Tryz.ntmps46 R fun n0=>aU (AD R (aT fun c2=>(AI R (xL BD R (mM R (xL BD R (xU R (aZ (cI R h (fun h1=>?_) fun h1=>?_)))))))))
 ·exact zB h1 R id
 refine Zc (c2 _ (aS fun K5 c5 wK5=>(AI R (xL BD R (mM R (aZ (Ze (Aw h1 fun o1 hit1 hk1 he1=>?_))))))))
 have J1 : ∀ (u2:Unit) (i5:NN),o1 = .nrm u2→K5 ⟨[],[],(i5 0),27⟩:=by
  intro u2 i5 e
  have h2:=hk1 _ e
  exact c5 _ (zB h2 R id)
 refine Zo (fun (x2:Int) i3=>⟨(Fw (qd a1) (qd b1) (rL a1) x2),[],(i3 0),27⟩) (AG [n0]) hit1 wk ?_
 intro x2 i3 v1 hv1 hx1
 have h3:KQ a1 b1 x2=some v1:=hv1; unfold KQ at h3
 refine aU (xS R (Ak fun c9=>(cI R h3 (fun h4=>?_) fun h4=>?_)))
 ·refine Zc (c9 _ (aT fun c10=>(Ze (AI R (AD R (aT fun c12=>?_))))))
  refine Zv Az (by kernel_rfl) ?_
  refine qP R (Zd R iL) (qP R (Zd R iL) (Zb h4 fun x4 ex4 h5=>(qP R (Zt R BD.slice iL iL (fun _=>R) (fun _=>ex4)) (qP R (BV (cs:=(BX x4)) R ES iL R R) (qP R (Zd R iL) (qP R (Zd R iL) (Zb h5 fun x5 ex5 h6=>(qP R (Zt R BD.slice iL iL (fun _=>R) (fun _=>ex5)) (qP R (BV (cs:=(BX x5)) R ES iL R R) (Zb h6 fun r1 er1 h7=>D0 R R R (r:=rB r1) (caps:=[]) (bs:=[.agg (BX x4),.agg (BX x5)]) R iL R ⟨⟨_,iL,.g (cs:=[.int .i64 x4.Char,.int .i64 x4.Ref,.sl (x4.Attrs.map Ab.row)]) R R⟩,⟨_,iL,.g (cs:=[.int .i64 x5.Char,.int .i64 x5.Ref,.sl (x5.Attrs.map Ab.row)]) R R⟩,Za⟩ (fun _=>Ul (er1)) R (qP R (Zp R iL) (AQ.nil (c12 _ (cI R h7 (fun h8=>?_) fun h8=>?_))))))))))))))
  ·exact zB (he1 _ (xH hx1 h8)) R id
  refine Zc (c10 _ (aF [0,1,12,13] ?_))
  exact aR (Zb h8 fun x6 ex6 h9=>(xA R ex6 (mM R (Zi (Zm h9 (AG [(i3 0)]) wk)))))
 exact Zk (wK5 _ _ wk (J1 _ (AG [(i3 0)]) (xH hx1 h4)))
theorem U8 {a1 b1 r} (h:Jx a1 b1=some r):AX Tryz.prog 102 [.agg (BA a1),.agg (BA b1)] (rB r):=by
 unfold Jx at h
 exact mF Tryz.func102 Tryz.ntmps102 R fun n0=>aU (sS R (Zu (cs:=(BA a1)) 2 R iL R R) (sS R (Zu (cs:=(BA b1)) 3 R iL R R) (AD R (aT fun c2=>(aR (lF Do AH R R (lF Do AH R R (xQ R (mM R (vF EW AH R R (vF EW AH R R (vQ R (Zq R (iR R) (iR R)) (xN R (mM R (vF Ex A3 R R (vF Ex A3 R R (vQ R (Ec R (iR R) (iR R)) (xN R (mM R (vF DS AH R R (vF DS AH R R (vQ R (Zq R (iR R) (iR R)) (xN R (mM R (vF D2 Bu R R (vF D2 Bu R R (Zb h fun r1 er1 h1=>vL (fun hg=>Nm (AZ er1 hg)) R (xN R (AD R (c2 _ (Zh (yB h1 R))))))))))))))))))))))))))))))))
theorem Sw {a1 b1 r} (h:Iv a1 b1=some r):AX Tryz.prog 78 [qb a1,qb b1] (rB r):=by
 unfold Iv at h
 refine mF Tryz.func78 Tryz.ntmps78 R fun n0=>aU (AD R (aT fun c2=>(AI R (xL BO R (mM R (xL BO R (xU R (aZ (cI R h (fun h1=>?_) fun h1=>?_)))))))))
 ·exact zB h1 R id
 refine Zc (c2 _ (aS fun K5 c5 wK5=>(AI R (xL BO R (mM R (aZ (Ze (Aw h1 fun o1 hit1 hk1 he1=>?_))))))))
 have J1 : ∀ (u2:Unit) (i5:NN),o1 = .nrm u2→K5 ⟨[],[],(i5 0),27⟩:=by
  intro u2 i5 e
  have h2:=hk1 _ e
  exact c5 _ (zB h2 R id)
 refine Zo (fun (x2:Int) i3=>⟨(Fw (qb a1) (qb b1) (rL a1) x2),[],(i3 0),27⟩) (AG [n0]) hit1 wk ?_
 intro x2 i3 v1 hv1 hx1
 have h3:KI a1 b1 x2=some v1:=hv1; unfold KI at h3
 refine aU (xS R (Ak fun c9=>(cI R h3 (fun h4=>?_) fun h4=>?_)))
 ·refine Zc (c9 _ (aT fun c10=>(Ze (AI R (AD R (aT fun c12=>?_))))))
  refine Zv Az (by kernel_rfl) ?_
  refine qP R (Zd R iL) (qP R (Zd R iL) (Zb h4 fun x4 ex4 h5=>(qP R (Zt R BO.slice iL iL (fun _=>R) (fun _=>ex4)) (qP R (BV (cs:=(BA x4)) R DL iL R R) (qP R (Zd R iL) (qP R (Zd R iL) (Zb h5 fun x5 ex5 h6=>(qP R (Zt R BO.slice iL iL (fun _=>R) (fun _=>ex5)) (qP R (BV (cs:=(BA x5)) R DL iL R R) (Zb h6 fun r1 er1 h7=>D0 R R R (r:=rB r1) (caps:=[]) (bs:=[.agg (BA x4),.agg (BA x5)]) R iL R ⟨⟨_,iL,.g (cs:=[.int .i64 x4.Row,.int .i64 x4.Col,.str x4.Text,.int .i64 x4.Ref,.sl (x4.Attrs.map Ab.row)]) R R⟩,⟨_,iL,.g (cs:=[.int .i64 x5.Row,.int .i64 x5.Col,.str x5.Text,.int .i64 x5.Ref,.sl (x5.Attrs.map Ab.row)]) R R⟩,Za⟩ (fun _=>U8 (er1)) R (qP R (Zp R iL) (AQ.nil (c12 _ (cI R h7 (fun h8=>?_) fun h8=>?_))))))))))))))
  ·exact zB (he1 _ (xH hx1 h8)) R id
  refine Zc (c10 _ (aF [0,1,12,13] ?_))
  exact aR (Zb h8 fun x6 ex6 h9=>(xA R ex6 (mM R (Zi (Zm h9 (AG [(i3 0)]) wk)))))
 exact Zk (wK5 _ _ wk (J1 _ (AG [(i3 0)]) (xH hx1 h4)))
theorem VJ {a1 b1 r} (h:Ke a1 b1=some r):AX Tryz.prog 79 [qc a1,qc b1] (rB r):=by
 unfold Ke at h
 refine mF Tryz.func79 Tryz.ntmps79 R fun n0=>aU (AD R (aT fun c2=>(AI R (xL B0 R (mM R (xL B0 R (xU R (aZ (cI R h (fun h1=>?_) fun h1=>?_)))))))))
 ·exact zB h1 R id
 refine Zc (c2 _ (aS fun K5 c5 wK5=>(AI R (xL B0 R (mM R (aZ (Ze (Aw h1 fun o1 hit1 hk1 he1=>?_))))))))
 have J1 : ∀ (u2:Unit) (i5:NN),o1 = .nrm u2→K5 ⟨[],[],(i5 0),26⟩:=by
  intro u2 i5 e
  have h2:=hk1 _ e
  exact c5 _ (zB h2 R id)
 refine Zo (fun (x2:Int) i3=>⟨(Fw (qc a1) (qc b1) (rL a1) x2),[],(i3 0),26⟩) (AG [n0]) hit1 wk ?_
 intro x2 i3 v1 hv1 hx1
 have h3:Ki a1 b1 x2=some v1:=hv1; unfold Ki at h3
 refine aU (xS R (Ak fun c9=>(cI R h3 (fun h4=>?_) fun h4=>?_)))
 ·refine Zc (c9 _ (aT fun c10=>(Ze (AI R (AD R (aT fun c12=>?_))))))
  refine Zv Az (by kernel_rfl) ?_
  refine qP R (Zd R iL) (qP R (Zd R iL) (Zb h4 fun x4 ex4 h5=>(qP R (Zt R B0.slice iL iL (fun _=>R) (fun _=>ex4)) (qP R (BV (cs:=(BI x4)) R DJ iL R R) (qP R (Zd R iL) (qP R (Zd R iL) (Zb h5 fun x5 ex5 h6=>(qP R (Zt R B0.slice iL iL (fun _=>R) (fun _=>ex5)) (qP R (BV (cs:=(BI x5)) R DJ iL R R) (qP R (Ht R PL iL iL R) (AQ.nil (c12 _ (cI R h6 (fun h7=>?_) fun h7=>?_)))))))))))))
  ·exact zB (he1 _ (xH hx1 h7)) R id
  refine Zc (c10 _ (aF [0,1,12,13] ?_))
  exact aR (Zb h7 fun x6 ex6 h8=>(xA R ex6 (mM R (Zi (Zm h8 (AG [(i3 0)]) wk)))))
 exact Zk (wK5 _ _ wk (J1 _ (AG [(i3 0)]) (xH hx1 h4)))
theorem XH {a1 b1 r} (h:It a1 b1=some r):AX Tryz.prog 47 [.agg (Bj a1),.agg (Bj b1)] (rB r):=by
 unfold It at h
 exact mF Tryz.func47 Tryz.ntmps47 R fun n0=>aU (sS R (Zu (cs:=(Bj a1)) 2 R iL R R) (sS R (Zu (cs:=(Bj b1)) 3 R iL R R) (AD R (aU (lF EB AH R R (lF EB AH R R (xQ R (mM R (vF D6 AH R R (vF D6 AH R R (vQ R (Zq R (iR R) (iR R)) (xN R (mM R (vF Ci C0 R R (vF Ci C0 R R (Zb h fun r1 er1 h1=>vL (fun hg=>Sw (AZ er1 hg)) R (xN R (mM R (vF Cz DK R R (vF Cz DK R R (Zb h1 fun r2 er2 h2=>vL (fun hg=>VJ (AZ er2 hg)) R (xN R (AD R (Zh (yB h2 R)))))))))))))))))))))))))
theorem Vv {a1 b1 r} (h:Jd a1 b1=some r):AX Tryz.prog 48 [qf a1,qf b1] (rB r):=by
 unfold Jd at h
 refine mF Tryz.func48 Tryz.ntmps48 R fun n0=>aU (AD R (aT fun c2=>(AI R (xL CI R (mM R (xL CI R (xU R (aZ (cI R h (fun h1=>?_) fun h1=>?_)))))))))
 ·exact zB h1 R id
 refine Zc (c2 _ (aS fun K5 c5 wK5=>(AI R (xL CI R (mM R (aZ (Ze (Aw h1 fun o1 hit1 hk1 he1=>?_))))))))
 have J1 : ∀ (u2:Unit) (i5:NN),o1 = .nrm u2→K5 ⟨[],[],(i5 0),26⟩:=by
  intro u2 i5 e
  have h2:=hk1 _ e
  exact c5 _ (zB h2 R id)
 refine Zo (fun (x2:Int) i3=>⟨(Fw (qf a1) (qf b1) (rL a1) x2),[],(i3 0),26⟩) (AG [n0]) hit1 wk ?_
 intro x2 i3 v1 hv1 hx1
 have h3:Jf a1 b1 x2=some v1:=hv1; unfold Jf at h3
 refine aU (xS R (Ak fun c9=>(cI R h3 (fun h4=>?_) fun h4=>?_)))
 ·refine Zc (c9 _ (aT fun c10=>(Ze (AI R (AD R (aT fun c12=>?_))))))
  refine Zv Az (by kernel_rfl) ?_
  refine qP R (Zd R iL) (qP R (Zd R iL) (Zb h4 fun x4 ex4 h5=>(qP R (Zt R CI.slice iL iL (fun _=>R) (fun _=>ex4)) (qP R (BV (cs:=(Bm x4)) R EV iL R R) (qP R (Zd R iL) (qP R (Zd R iL) (Zb h5 fun x5 ex5 h6=>(qP R (Zt R CI.slice iL iL (fun _=>R) (fun _=>ex5)) (qP R (BV (cs:=(Bm x5)) R EV iL R R) (qP R (Ht R RA iL iL R) (AQ.nil (c12 _ (cI R h6 (fun h7=>?_) fun h7=>?_)))))))))))))
  ·exact zB (he1 _ (xH hx1 h7)) R id
  refine Zc (c10 _ (aF [0,1,12,13] ?_))
  exact aR (Zb h7 fun x6 ex6 h8=>(xA R ex6 (mM R (Zi (Zm h8 (AG [(i3 0)]) wk)))))
 exact Zk (wK5 _ _ wk (J1 _ (AG [(i3 0)]) (xH hx1 h4)))
theorem Og {a1 b1 r} (h:HU a1 b1=some r):AX Tryz.prog 31 [.agg (Ao a1),.agg (Ao b1)] (rB r):=by
 unfold HU at h
 exact mF Tryz.func31 Tryz.ntmps31 R fun n0=>aU (sS R (Zu (cs:=(Ao a1)) 2 R iL R R) (sS R (Zu (cs:=(Ao b1)) 3 R iL R R) (AD R (aT fun c2=>(aR (lF B7 AH R R (lF B7 AH R R (xQ R (mM R (vF Bg AH R R (vF Bg AH R R (vQ R (Zq R (iR R) (iR R)) (xN R (mM R (vF Fv Bu R R (vF Fv Bu R R (Zb h fun r1 er1 h1=>vL (fun hg=>Nm (AZ er1 hg)) R (xN R (mM R (vF DV Dn R R (vF DV Dn R R (Zb h1 fun r2 er2 h2=>vL (fun hg=>UQ (AZ er2 hg)) R (xN R (mM R (vQ R (fB R DC iL fR R) (vQ R (FS (ds:=(Bj a1.Grid)) R El (iR R) R R R) (vQ R (fB R DC iL fR R) (vQ R (FS (ds:=(Bj b1.Grid)) R El (iR R) R R R) (Zb h2 fun r3 er3 h3=>vL (fun hg=>XH (AZ er3 hg)) R (xN R (mM R (vF D5 Ef R R (vF D5 Ef R R (Zb h3 fun r4 er4 h4=>vL (fun hg=>Vv (AZ er4 hg)) R (xN R (AD R (c2 _ (Zh (yB h4 R)))))))))))))))))))))))))))))))))))))))
theorem M5 {a1 b1 r} (h:FP a1 b1=some r):AX Tryz.prog 14 [.agg [qe a1.Nodes],.agg [qe b1.Nodes]] (rB r):=by
 unfold FP at h
 refine mF Tryz.func14 Tryz.ntmps14 R fun n0=>aU (sS R (Zu (cs:=[qe a1.Nodes]) 2 R iL R R) (sS R (Zu (cs:=[qe b1.Nodes]) 3 R iL R R) (AD R (aT fun c2=>(aU (lF Bh Bl R R (xL BK R (lF Bh Bl R R (xL BK R (xU R (aZ (cI R h (fun h1=>?_) fun h1=>?_))))))))))))
 ·exact zB h1 R id
 refine Zc (c2 _ (aS fun K5 c5 wK5=>(aT fun c6=>(aG [2,3] [2,3] ?_))))
 refine aR (lF Bh Bl R R (xL BK R (mM R (aZ (c6 _ (Ze (Aw h1 fun o1 hit1 hk1 he1=>?_)))))))
 have J1 : ∀ (u2:Unit) (i5:NN),o1 = .nrm u2→K5 ⟨[],[],(i5 0),32⟩:=by
  intro u2 i5 e
  have h2:=hk1 _ e
  exact c5 _ (zB h2 R id)
 refine Zo (fun (x2:Int) i3=>⟨[(2,pT 2 n0),(3,pT 3 (n0+1)),(15,rL a1.Nodes),(16,rI x2)],[bX 2 n0 34 [qe a1.Nodes],bX 3 (n0+1) 34 [qe b1.Nodes]],(i3 0),32⟩) (AG [(n0+2)]) hit1 wk ?_
 intro x2 i3 v1 hv1 hx1
 have h3:Jo a1 b1 x2=some v1:=hv1; unfold Jo at h3
 refine aU (xS R (Ak fun c9=>(cI R h3 (fun h4=>?_) fun h4=>?_)))
 ·refine Zc (c9 _ (aT fun c10=>(Ze (AI R (AD R (aT fun c12=>?_))))))
  refine Zv Az (by kernel_rfl) ?_
  refine qP R (fB R Bh iL fR R) (qP R (Zg (a:=qe a1.Nodes) R Bl iL R R) (qP R (Zd R iL) (Zb h4 fun x4 ex4 h5=>(qP R (Zt R BK.slice iL iL (fun _=>R) (fun _=>ex4)) (qP R (BV (cs:=(Ao x4)) R CG iL R R) (qP R (fB R Bh iL fR R) (qP R (Zg (a:=qe b1.Nodes) R Bl iL R R) (qP R (Zd R iL) (Zb h5 fun x5 ex5 h6=>(qP R (Zt R BK.slice iL iL (fun _=>R) (fun _=>ex5)) (qP R (BV (cs:=(Ao x5)) R CG iL R R) (Zb h6 fun r1 er1 h7=>D0 R R R (r:=rB r1) (caps:=[]) (bs:=[.agg (Ao x4),.agg (Ao x5)]) R iL R ⟨⟨_,iL,.g (cs:=[.int .i64 x4.ID,.int .i64 x4.Kind,.sl (x4.Attrs.map Ab.row),.sl (x4.Flow.map AO.row),.int .i64 x4.Grid.Rows,.int .i64 x4.Grid.Cols,.sl (x4.Grid.Cells.map Ae.row),.sl (x4.Grid.Merges.map Ag.row),.sl (x4.Draw.map Aq.row)]) R R⟩,⟨_,iL,.g (cs:=[.int .i64 x5.ID,.int .i64 x5.Kind,.sl (x5.Attrs.map Ab.row),.sl (x5.Flow.map AO.row),.int .i64 x5.Grid.Rows,.int .i64 x5.Grid.Cols,.sl (x5.Grid.Cells.map Ae.row),.sl (x5.Grid.Merges.map Ag.row),.sl (x5.Draw.map Aq.row)]) R R⟩,Za⟩ (fun _=>Og (er1)) R (qP R (Zp R iL) (AQ.nil (c12 _ (cI R h7 (fun h8=>?_) fun h8=>?_))))))))))))))))
  ·exact zB (he1 _ (xH hx1 h8)) R id
  refine Zc (c10 _ (aG [2,3,15,16] [2,3] ?_))
  exact aR (Zb h8 fun x6 ex6 h9=>(xA R ex6 (mM R (Zi (Zm h9 (AG [(i3 0)]) wk)))))
 exact Zk (wK5 _ _ wk (J1 _ (AG [(i3 0)]) (xH hx1 h4)))
theorem SU {r} (h:JT=some r):AX Tryz.prog 20 [] (rB r):=by
 unfold JT at h
 refine mF Tryz.func20 Tryz.ntmps20 R fun n0=>aU (AD R (aS fun K2 c2 wK2=>(aR (Zb h fun r1 er1 h1=>(sS R (Dp (r:=.agg [qe r1.Nodes]) (caps:=[]) (bs:=[]) R iL R Za (fun _=>Lc (er1))) (Zb h1 fun r2 er2 h2=>(cL (PN (er2)) R (xQ R (mM R (BL h2 fun p1 hp1 hk1=>?_))))))))))
 have J1 : ∀ (x1:Bool) (i1:NN),p1=x1→K2 ⟨[(0,rB x1)],[],(i1 0),11⟩:=by
  intro x1 i1 e
  have h3:=hk1 _ e
  exact c2 _ (Zh (yB h3 R))
 refine AK.split ((decide (r2=0)) == true) (fun hg1=>?_) (fun hg1=>?_)
 ·have h4:=C8 hg1 hp1
  refine AK.weak (by exact Kz (e':=[(0,rB false),(1,.agg [qe r1.Nodes]),(2,rI r2),(3,rB ((decide (r2=0)))),(4,rB ((decide (r2=0))))]) hg1 ⟨.inl R,.inl R,.inl R,.inl R,.inl R,Za⟩) ?_
  refine Dh (.one R R R) hg1 R R (Dp (r:=.agg [qe r1.Nodes]) (caps:=[]) (bs:=[]) R (.inl R) R Za (fun _=>Lc (er1))) (Zb h4 fun r4 er4 h5=>Dh (.one R R R) hg1 R R (Dp (r:=.agg (BX r4)) (caps:=[]) (bs:=[]) R (.inl R) R Za (fun _=>WD (er4))) (Dh (.one R R R) hg1 R R (Br 7 R BD (f:=AO.row) (l:=([r4]:List AO)) ⟨R,⟨_,(.inl R),R⟩,Za⟩ R (fun _=>R) R) ?_))
  refine AK.weak (by exact DE (e':=[(0,rB false),(1,.agg [qe r1.Nodes]),(2,rI r2),(3,rB ((decide (r2=0)))),(4,rB ((decide (r2=0)))),(5,.agg [qe r1.Nodes]),(6,.agg (BX r4)),(7,.r (.sl ([r4].map AO.row)))]) (h':=[]) 7 R ⟨jL,jL,jL,jL,jL,jL,jL,.inl (.inr (.inr ⟨R,R⟩)),Za⟩ Za) ?_
  exact Zb h5 fun r5 er5 h6=>Dh (.one R R R) hg1 R R (Dp (r:=.agg [qe r5.Nodes]) (caps:=[]) (bs:=[.r (.sl ([r4].map AO.row))]) R (.inl R) R ⟨.inl ⟨(.inl R),R⟩,Za⟩ (fun _=>Wi (er5))) (Zb h6 fun r6 er6 h7=>Dh (.one R R R) hg1 R R (DY (r:=rB r6) (caps:=[]) (bs:=[.agg [qe r1.Nodes],.agg [qe r5.Nodes]]) R (.inl R) R ⟨⟨_,(.inl R),.g (cs:=[.sl (r1.Nodes.map AE.row)]) R R⟩,⟨_,(.inl R),.g (cs:=[.sl (r5.Nodes.map AE.row)]) R R⟩,Za⟩ (fun _=>M5 (er6)) R) (sQ R (A6 R iL iL) (mA R (Zi (wK2 _ _ wk (J1 _ (AG [(n0+1)]) (Zf h7).symm))))))
 ·have h4:=Cw hg1 hp1
  exact Ct (.one R R R) hg1 R R (Ct (.one R R R) hg1 R R (Ct (.one R R R) hg1 R R (Ct (.one R R R) hg1 R R (Ct (.one R R R) hg1 R R (xN R (mA R (Zi (wK2 _ _ wk (J1 _ (AG [n0]) (Zf h4).symm)))))))))
theorem P1 {w1:Ah} {fl1:List AE} {r:Int} {gb1000:Nat} {ga1001:Nat} {gb1002:Nat} {gw1002:Nat} {gc1002:Nat} (h:Fq w1 fl1=some r):A1 Tryz.prog 9 3 [pT 1000 gb1000] (Ad gb1000 ga1001 (w1.versions.map (AJ.row gc1002)) (.fam gb1002 gw1002 gc1002 71 (fl1.map AE.row))) (fun rr h'=>∃ (i:Nat→Nat),rr=rI r∧h'=(Ad gb1000 ga1001 (w1.versions.map (AJ.row gc1002)) (.fam gb1002 gw1002 gc1002 71 (fl1.map AE.row)))):=by
 unfold Fq at h
 refine CR Tryz.func9 R R Tryz.ntmps9 (Zr R) fun n0=>aU (AD R (aU (sS R (Xx 8 R) (AD R (aS fun K3 c3 wK3=>(AI R (sQ R (ZA (ob:=.box _ _ _) R iL fR R) (lF Cy DQ R R (sQ R (Cj R B6.slice iL R) (mM R (aZ (Ze (BL h fun o1 hit1 hk1=>?_)))))))))))))
 have J1 : ∀ (js4:List Int) (i5:NN),o1=js4→K3 ⟨[(3,.mref 8 n0)],[(8,some (.ml n0 (js4.map fun j=>At gc1002 j.toNat))),bX 1000 gb1000 53 [.own 1001 ga1001],aX 1001 ga1001 60 3 (w1.versions.map (AJ.row gc1002)),(1002,some (.fam gb1002 gw1002 gc1002 71 (fl1.map AE.row)))],(i5 0),31⟩:=by
  intro js4 i5 e
  have h1:=hk1 _ e
  refine c3 _ (AI R (sQ R (XS (js:=js4) R Tryz.underlying74 iL R) (AD R ?_)))
  exact Zh (BG.mk (s':=⟨[(2,rL js4)],(Ad gb1000 ga1001 (w1.versions.map (AJ.row gc1002)) (.fam gb1002 gw1002 gc1002 71 (fl1.map AE.row))),(i5 0),31⟩) wk (Zx (fun (r:Int) rr h'=>∃ (i:Nat→Nat),rr=rI r∧h'=(Ad gb1000 ga1001 (w1.versions.map (AJ.row gc1002)) (.fam gb1002 gw1002 gc1002 71 (fl1.map AE.row)))) h1 (by exact ⟨rL js4,(Ad gb1000 ga1001 (w1.versions.map (AJ.row gc1002)) (.fam gb1002 gw1002 gc1002 71 (fl1.map AE.row))),R,⟨.inr R,.inr R,.inr R,Za⟩,R,R,AG [],R,R⟩)))
 refine Cu (fun (x2:Int) (js2:List Int) i3=>⟨[(3,.mref 8 n0),(12,.own 1001 ga1001),(13,rL w1.versions),(14,rI x2)],[(8,some (.ml n0 (js2.map fun j=>At gc1002 j.toNat))),bX 1000 gb1000 53 [.own 1001 ga1001],aX 1001 ga1001 60 3 (w1.versions.map (AJ.row gc1002)),(1002,some (.fam gb1002 gw1002 gc1002 71 (fl1.map AE.row)))],(i3 0),31⟩) (AG [(n0+1)]) hit1 wk ?_
 intro x2 js2 i3 v1 hv1 hx1
 have h2:II w1 fl1 x2 js2=some v1:=hv1; unfold II at h2
 refine aU (xS R (Ak fun c7=>(cI R h2 (fun h3=>?_) fun h3=>?_)))
 ·refine Zc (c7 _ (aS fun K8 c8 wK8=>(Ze (aU (Zb h3 fun x4 ex4 h4=>(sQ R (Cb R B6.slice iL R iL (fun _=>ex4)) (sQ R (HQ (cs:=[rS x4.name,.r (.sl (x4.parents.map (AL .i64))),.r (.sl (x4.nodes.map (BM gc1002)))]) R IB iL fR (fun _=>ex4) R) (sS R (Zw (cs:=KC) 5 R LE R R) (Zl R R (Zj (ds:=[rS x4.name,.r (.sl (x4.parents.map (AL .i64))),.r (.sl (x4.nodes.map (BM gc1002)))]) R LJ iL R iL R R R R) (FK (lF KD LU R R (xL F6 R (mM R (aZ (Ze (BL h4 fun o2 hit2 hk2=>?_))))))))))))))))
  have J2 : ∀ (js8:List Int) (i10:NN),o2=js8→K8 ⟨[(3,.mref 8 n0),(12,.own 1001 ga1001),(13,rL w1.versions),(14,rI x2)],[(8,some (.ml n0 (js8.map fun j=>At gc1002 j.toNat))),bX 1000 gb1000 53 [.own 1001 ga1001],aX 1001 ga1001 60 3 (w1.versions.map (AJ.row gc1002)),(1002,some (.fam gb1002 gw1002 gc1002 71 (fl1.map AE.row)))],(i10 0),31⟩:=by
   intro js8 i10 e
   have h5:=hk2 _ e
   exact c8 _ (aR (Zb h5 fun x8 ex8 h6=>(xA R ex8 (mM R (Zi (CF.mk h6 (AG [(i10 0)]) wk))))))
  refine Cu (fun (x6:Int) (js6:List Int) i8=>⟨[(3,.mref 8 n0),(12,.own 1001 ga1001),(13,rL w1.versions),(14,rI x2),(19,.r (.sl (x4.nodes.map (BM gc1002)))),(20,rL x4.nodes),(21,rI x6)],[(8,some (.ml n0 (js6.map fun j=>At gc1002 j.toNat))),bX 1000 gb1000 53 [.own 1001 ga1001],aX 1001 ga1001 60 3 (w1.versions.map (AJ.row gc1002)),(1002,some (.fam gb1002 gw1002 gc1002 71 (fl1.map AE.row)))],(i8 0),31⟩) (AG [((i3 0)+1)]) hit2 wk ?_
  intro x6 js6 i8 v2 hv2 hx2
  have h7:IC fl1 x4 x6 js6=some v2:=hv2; unfold IC at h7
  refine aU (xS R (Ak fun c12=>(cI R h7 (fun h8=>?_) fun h8=>?_)))
  ·exact Zc (c12 _ (aT fun c13=>(Ze (aU (Zb h8 fun x9 ex9 h9=>(xI F6 R ex9 (xV (.ptr (At gc1002 x9.toNat)) Ng R (AD R (Af R (mM R (Zb h9 fun js9 ejs9 h10=>(Zl R R (VS (row:=AE.row) (l:=fl1) (js:=js6) (F:=1002) R Tryz.underlying74 Tryz.underlying72 (Wx IM) iL iL iL R R ejs9) (aZ (c13 _ (aR (Zb h10 fun x10 ex10 h11=>(xA R ex10 (mM R (Zi (CF.mk h11 (AG [(i8 0)]) wk))))))))))))))))))))
  exact Zk (wK8 _ _ wk (J2 _ (AG [(i8 0)]) (xH hx2 h8)))
 exact Zk (wK3 _ _ wk (J1 _ (AG [(i3 0)]) (xH hx1 h3)))
theorem V2 {r} (h:Ir=some r):AX Tryz.prog 4 [] (rB r):=by
 unfold Ir at h
 refine mF Tryz.func4 Tryz.ntmps4 R fun n0=>aU (AD R (aT fun c2=>(aR (Zb h fun u1 eu1 h1=>?_))))
 refine Zz [6] (hc:=[]) (bs:=[]) (caps:=[]) R R R R iL R Za Za (by decide) (PF eu1) ?_
 intro i1 n1
 refine BJ [0,6] [6] ?_
 refine AK.weak (Zs (Rc 4000 71 R) (by exact Ac.cv (e':=[(0,rB false),(6,pT 6 (i1 0))]) (h':=[bX 6 (i1 0) 53 [cZ],(4000,some (.fam n1 n1 0 71 (([]:List AE).map AE.row)))]) ⟨jL,jL,Za⟩ ⟨.inl R,.inl R,Za⟩ nL)) ?_
 refine AD R (c2 _ (aT fun c3=>(AI R (sQ R (TD (id:=6) (g:=(i1 0)) R Tryz.underlying26 iL iL R R) (aZ (aC R (fun hc1=>by cases hc1) (fun hc1=>Zc (c3 _ (aT fun c5=>(Af R (Zb h1 fun r1 er1 h2=>(sS R (Dp (r:=.agg [qe r1.Nodes]) (caps:=[]) (bs:=[]) R iL R Za (fun _=>Lc (er1))) ?_))))))))))))
 refine AK.weak (Zs (Mi 6 0 3060 60 3 (by decide) R R (by decide)) (by exact Ac.cv (e':=[(0,rB false),(1,pT 6 (i1 0)),(6,pT 6 (i1 0)),(7,pT 6 (i1 0)),(8,rB false),(10,pT 6 (i1 0)),(11,.agg [qe r1.Nodes])]) (h':=[bX 6 (i1 0) 53 [.own 3060 (n1+1)],aX 3060 (n1+1) 60 3 (([]:List AJ).map (AJ.row 0)),(4000,some (.fam n1 n1 0 71 (([]:List AE).map AE.row)))]) ⟨jL,jL,jL,jL,jL,jL,jL,Za⟩ ⟨.inl R,.inl R,.inl R,Za⟩ nL)) ?_
 refine Ov h2 fun r2 r3 w1 w2 er2 h3=>?_
 refine Zz [6,3060,4000] (hc:=(Ad (i1 0) (n1+1) (([]:List AJ).map (AJ.row 0)) (.fam n1 n1 0 71 (([]:List AE).map AE.row)))) (bs:=[pT 1000 (i1 0),.r (.str [97]),.agg [qe r1.Nodes],.r (.sl [])]) (caps:=[]) R R R R iL R ⟨.inl ⟨iL,R⟩,.inl ⟨iL,R⟩,.inl ⟨iL,R⟩,.inr ⟨iL,R⟩,Za⟩ ⟨R,R,R,R,R,R,R,R,R,Za⟩ (by decide) (Qv er2) ?_
 intro i2 n2
 refine BJ [0,1,6,7,8,10,11,12] [6,3060,4000] ?_
 refine mM R (xX R (xX R (mA R (AD R (c5 _ (aT fun c6=>(aG [1,2,3] [6,3060,4000] ?_)))))))
 refine Af R (Ee h3 fun r4 r5 er4 h4=>?_)
 refine Zz [6,3060,4000] (hc:=(Ad (i1 0) (i2 0) (w1.versions.map (AJ.row (i2 2))) (.fam n1 (i2 1) (i2 2) 71 (w2.map AE.row)))) (bs:=[pT 1000 (i1 0),rI 0]) (caps:=[]) R R R R iL R ⟨.inl ⟨iL,R⟩,.inl ⟨iL,R⟩,Za⟩ ⟨R,R,R,R,R,R,R,R,R,Za⟩ (by decide) (OF er4) ?_
 intro i3 n3
 refine BJ [1,2,3,16,17] [6,3060,4000] ?_
 refine mM R (xX R (xX R (sS R (Zw (cs:=[cZ]) 4 R Gz R R) (Zl R R (Zj (ds:=[qe r4.Nodes]) R Gu iL R iL R R R R) (AD R (c6 _ (aS fun K7 c7 wK7=>(Zb h4 fun r6 er6 h5=>?_))))))))
 refine rP 16 [pO 20 (rB r6),pO 21 (rB r6),pO 22 (.whn (r6 == true) (rI r2)),pO 23 (.whn (r6 == true) (rB ((decide (r2=0))))),pO 24 (rB ((r6 && (decide (r2=0))))),pO 25 (rB ((r6 && (decide (r2=0))))),pO 26 (.whn ((r6 && (decide (r2=0))) == true) (rI r3)),pO 27 (.whn ((r6 && (decide (r2=0))) == true) (rB ((decide (r3=0))))),pO 28 (rB (((r6 && (decide (r2=0))) && (decide (r3=0))))),pO 29 (rB (((r6 && (decide (r2=0))) && (decide (r3=0))))),pO 30 (.whn (((r6 && (decide (r2=0))) && (decide (r3=0))) == true) (rI r5)),pO 31 (.whn (((r6 && (decide (r2=0))) && (decide (r3=0))) == true) (rB ((decide (r5=0))))),pO 32 (rB ((((r6 && (decide (r2=0))) && (decide (r3=0))) && (decide (r5=0))))),pO 33 (rB ((((r6 && (decide (r2=0))) && (decide (r3=0))) && (decide (r5=0))))),pO 34 (.whn ((((r6 && (decide (r2=0))) && (decide (r3=0))) && (decide (r5=0))) == true) (.agg [qe r4.Nodes])),pO 35 (.whn ((((r6 && (decide (r2=0))) && (decide (r3=0))) && (decide (r5=0))) == true) (.agg [qe r1.Nodes]))] Az R (by exact ⟨oD (fun _=>[]) (fun _=>[]) (fun G1 e h' n=>DY (r:=rB r6) (caps:=[]) (bs:=[]) R (.inl R) R Za (fun _=>SU (er6)) R),oB [(20,rB r6)] [] (Zd R (.inl R)),oG [(2,rI r2),(21,rB r6)] [] (fun _ _=>R) (Zd R (.inl R)),oG [(21,rB r6),(22,.whn (r6 == true) (rI r2))] [] (fun _ _=>R) (Zq R (.inr ⟨_,(by exact id),R⟩) (.inl R)),oB [(21,rB r6),(23,.whn (r6 == true) (rB ((decide (r2=0)))))] [] (A6 R (.inl R) (.inr ⟨_,(by exact id),R⟩)),oB [(24,rB ((r6 && (decide (r2=0)))))] [] (Zd R (.inl R)),oG [(3,rI r3),(25,rB ((r6 && (decide (r2=0)))))] [] (fun _ _=>R) (Zd R (.inl R)),oG [(25,rB ((r6 && (decide (r2=0))))),(26,.whn ((r6 && (decide (r2=0))) == true) (rI r3))] [] (fun _ _=>R) (Zq R (.inr ⟨_,(by exact id),R⟩) (.inl R)),oB [(25,rB ((r6 && (decide (r2=0))))),(27,.whn ((r6 && (decide (r2=0))) == true) (rB ((decide (r3=0)))))] [] (A6 R (.inl R) (.inr ⟨_,(by exact id),R⟩)),oB [(28,rB (((r6 && (decide (r2=0))) && (decide (r3=0)))))] [] (Zd R (.inl R)),oG [(5,rI r5),(29,rB (((r6 && (decide (r2=0))) && (decide (r3=0)))))] [] (fun _ _=>R) (Zd R (.inl R)),oG [(29,rB (((r6 && (decide (r2=0))) && (decide (r3=0))))),(30,.whn (((r6 && (decide (r2=0))) && (decide (r3=0))) == true) (rI r5))] [] (fun _ _=>R) (Zq R (.inr ⟨_,(by exact id),R⟩) (.inl R)),oB [(29,rB (((r6 && (decide (r2=0))) && (decide (r3=0))))),(31,.whn (((r6 && (decide (r2=0))) && (decide (r3=0))) == true) (rB ((decide (r5=0)))))] [] (A6 R (.inl R) (.inr ⟨_,(by exact id),R⟩)),oB [(32,rB ((((r6 && (decide (r2=0))) && (decide (r3=0))) && (decide (r5=0)))))] [] (Zd R (.inl R)),oG [(4,pT 4 n3),(33,rB ((((r6 && (decide (r2=0))) && (decide (r3=0))) && (decide (r5=0)))))] [bX 4 n3 34 [qe r4.Nodes]] (fun _ _=>R) (Cn R CU (.inl R) R R),oH (fun _=>[(33,rB ((((r6 && (decide (r2=0))) && (decide (r3=0))) && (decide (r5=0)))))]) (fun _=>[]) (fun _ _=>R) (fun G1 e h' n=>Dp (r:=.agg [qe r1.Nodes]) (caps:=[]) (bs:=[]) R (.inl R) R Za (fun hg=>Lc (er1))),Za⟩) fun G1 n4=>?_
 refine BJ [1,2,3,4,5,15,16,17,18,19,20,21,22,23,24,25,26,27,28,29,30,31,32,33,34,35] [4,6,3060,4000] ?_
 refine Zb h5 fun r8 er8 h6=>vL (fun hg=>M5 (AZ er8 hg)) R (xN R (mM R (vM R (BL h6 fun p1 hp1 hk1=>?_))))
 have J1 : ∀ (x1:Bool) (i4:NN),p1=x1→K7 ⟨[(0,rB x1)],[(4000,some (.fam n1 (i2 1) (i2 2) 71 (w2.map AE.row)))],(i4 0),43⟩:=by
  intro x1 i4 e
  have h7:=hk1 _ e
  exact c7 _ (Zh (yB h7 R))
 refine AK.split (((((r6 && (decide (r2=0))) && (decide (r3=0))) && (decide (r5=0))) && r8) == true) (fun hg1=>?_) (fun hg1=>?_)
 ·have h8:=C8 hg1 hp1
  refine AK.weak (by exact Kz (e':=(Vj (i1 0) r2 r3 n3 r5 (qe r4.Nodes) r6 ((r6 && (decide (r2=0)))) (((r6 && (decide (r2=0))) && (decide (r3=0)))) ((((r6 && (decide (r2=0))) && (decide (r3=0))) && (decide (r5=0)))) (((((r6 && (decide (r2=0))) && (decide (r3=0))) && (decide (r5=0))) && r8)))) hg1 ⟨.inl R,.inl R,.inl R,.inl R,.inl R,.inl R,.inl R,.inl R,.inl R,.inl R,.inl R,.inl R,.inl R,.inl R,.inl R,.inl R,.inl R,.inl R,.inl R,.inl R,.inr iL,Za⟩) ?_
  refine Zb h8 fun r9 er9 h9=>?_
  refine RX (.one R R R) hg1 [6,3060,4000] (hc:=(Ad (i1 0) (i2 0) (w1.versions.map (AJ.row (i2 2))) (.fam n1 (i2 1) (i2 2) 71 (w2.map AE.row)))) (bs:=[pT 1000 (i1 0)]) (caps:=[]) R R R iL R ⟨.inl ⟨iL,R⟩,Za⟩ ⟨R,R,R,R,R,R,R,R,R,Za⟩ (by decide) (P1 er9) ?_
  intro i5 n5
  refine BJ [1,2,3,4,5,15,16,17,18,19,20,21,24,25,28,29,32,33,37,38,39,40] [4,6,3060,4000] ?_
  exact Dh (.one R R R) hg1 R R (B2 (Zq R (.inl R) (.inl R)) _) (sQ R (A6 R iL iL) (mA R (Zi (wK7 _ _ wk (J1 _ (AG [n5]) (Zf h9).symm)))))
 ·have h8:=Cw hg1 hp1
  exact Ct (.one R R R) hg1 R R (Ct (.one R R R) hg1 R R (xN R (mA R (Zi (wK7 _ _ wk (J1 _ (AG [n4]) (Zf h8).symm))))))
theorem Ml {s1 r} (h:Gj s1=some r):AX Tryz.prog 28 [rS s1] (rB r):=by
 unfold Gj at h
 refine mF Tryz.func28 Tryz.ntmps28 R fun n0=>aU (AD R (aS fun K2 c2 wK2=>(AI R (sQ R (CY R Tryz.underlying9 iL) (mM R (aZ (Ze (Aw h fun o1 hit1 hk1 he1=>?_))))))))
 have J1 : ∀ (u2:Unit) (i5:NN),o1 = .nrm u2→K2 ⟨[(0,rS s1)],[],(i5 0),59⟩:=by
  intro u2 i5 e
  have h1:=hk1 _ e
  exact c2 _ (AI R (sQ R (CY R Tryz.underlying9 iL) (sQ R (Bf R iL iL) (mM R (vM R (vQ R (CY R Tryz.underlying9 (iR R)) (vQ R (DW R (iR R) iL) (xN R (AD R (Zh (yB h1 R)))))))))))
 refine Zo (fun (x2:Int) i3=>⟨[(0,rS s1),(6,rL s1),(7,rI x2)],[],(i3 0),59⟩) (AG [n0]) hit1 wk ?_
 intro x2 i3 v1 hv1 hx1
 have h2:Ho s1 x2=some v1:=hv1; unfold Ho at h2
 refine aU (xS R (Ak fun c6=>(cI R h2 (fun h3=>?_) fun h3=>?_)))
 ·refine Zc (c6 _ (aT fun c7=>(Ze (AI R (AD R (AI R (mM R (Zb h3 fun ch1 ech1 h4=>(sQ R (Zy R Tryz.underlying9 iL iL (fun _=>ech1)) (sQ R (Bf R iL iL) (mM R (vM R (vM R (vQ R (Zy R Tryz.underlying9 (iR R) (iR R) (fun _=>ech1)) (vQ R (DW R (iR R) iL) (xN R (AD R (aT fun c10=>(Af R (sQ R (Zp R iL) (mM R (vM R (vQ R (Zq R (iR R) iL) (vQ R (Zd R (iR R)) (wQ R (Zd R iL) (wQ R (Zd R iL) (wQ R (Zy R Tryz.underlying9 (iR R) (iR R) (fun _=>ech1)) (wQ R (Ba R (iR R) iL) (wQ R (Zd R (iR R)) (wQ R (Zd R iL) (wQ R (Zd R iL) (wQ R (Zy R Tryz.underlying9 (iR R) (iR R) (fun _=>ech1)) (wQ R (Ba R (iR R) iL) (wQ R (A6 R (iR R) (iR R)) (wQ R (Zd R (iR R)) (wQ R (Zd R iL) (wQ R (Zd R iL) (wQ R (Zy R Tryz.underlying9 (iR R) (iR R) (fun _=>ech1)) (wQ R (Bn R (iR R) iL) (wQ R (Zd R (iR R)) (wQ R (Zd R iL) (wQ R (Zd R iL) (wQ R (Zy R Tryz.underlying9 (iR R) (iR R) (fun _=>ech1)) (wQ R (BB R (iR R) iL) (wQ R (Bp R (iR R) (iR R)) (wQ R (A6 R (iR R) (iR R)) (vQ R (Bp R (iR R) (iR R)) (xN R (aZ (c10 _ (cI R h4 (fun h5=>?_) fun h5=>?_)))))))))))))))))))))))))))))))))))))))))))))))))))
  ·exact zB (he1 _ (xH hx1 h5)) R id
  refine Zc (c7 _ (aF [0,6,7] ?_))
  exact aR (Zb h5 fun x4 ex4 h6=>(xA R ex4 (mM R (Zi (Zm h6 (AG [(i3 0)]) wk)))))
 exact Zk (wK2 _ _ wk (J1 _ (AG [(i3 0)]) (xH hx1 h3)))
theorem B9 {x1 l a r} (h:Be x1 l a=some r):AX Tryz.prog 17 [rI x1,rI l,rI a] (rB r):=by
 unfold Be at h
 exact mF Tryz.func17 Tryz.ntmps17 R fun n0=>aU (AD R (AI R (mM R (sQ R (Bf R iL iL) (mM R (vM R (vM R (vQ R (DW R (iR R) (iR R)) (xN R (AD R (Zh (yB h R))))))))))))
theorem QT {s1 r} (h:H9 s1=some r):AX Tryz.prog 95 [rS s1] (rB r):=by
 unfold H9 at h
 refine mF Tryz.func95 Tryz.ntmps95 R fun n0=>aU (AD R (aS fun K2 c2 wK2=>(AI R (sQ R (CY R Tryz.underlying9 iL) (mM R (aZ (Ze (Aw h fun o1 hit1 hk1 he1=>?_))))))))
 have J1 : ∀ (u2:Unit) (i5:NN),o1 = .nrm u2→K2 ⟨[(0,rS s1)],[],(i5 0),28⟩:=by
  intro u2 i5 e
  have h1:=hk1 _ e
  exact c2 _ (AI R (sQ R (CY R Tryz.underlying9 iL) (sQ R (Bf R iL iL) (mM R (vM R (vQ R (CY R Tryz.underlying9 (iR R)) (vQ R (DW R (iR R) iL) (xN R (AD R (Zh (yB h1 R)))))))))))
 refine Zo (fun (x2:Int) i3=>⟨[(0,rS s1),(5,rL s1),(6,rI x2)],[],(i3 0),28⟩) (AG [n0]) hit1 wk ?_
 intro x2 i3 v1 hv1 hx1
 have h2:Ji s1 x2=some v1:=hv1; unfold Ji at h2
 refine aU (xS R (Ak fun c6=>(cI R h2 (fun h3=>?_) fun h3=>?_)))
 ·refine Zc (c6 _ (aT fun c7=>(Ze (AI R (AD R (AI R (mM R (Zb h3 fun ch1 ech1 h4=>(sQ R (Zy R Tryz.underlying9 iL iL (fun _=>ech1)) (xS R (mM R (vM R (vM R (vQ R (Zy R Tryz.underlying9 (iR R) (iR R) (fun _=>ech1)) (vQ R (BB R (iR R) iL) (xO R (aZ (cI R h4 (fun h5=>?_) fun h5=>?_))))))))))))))))))
  ·exact zB (he1 _ (xH hx1 h5)) R id
  refine Zc (c7 _ (aF [0,5,6] ?_))
  exact aR (Zb h5 fun x4 ex4 h6=>(xA R ex4 (mM R (Zi (Zm h6 (AG [(i3 0)]) wk)))))
 exact Zk (wK2 _ _ wk (J1 _ (AG [(i3 0)]) (xH hx1 h3)))
theorem OE {l1 c r} (h:GT l1 c=some r):AX Tryz.prog 66 [qa l1,rB c] (rI r):=by
 unfold GT at h
 refine mF Tryz.func66 Tryz.ntmps66 R fun n0=>aU (AD R (aS fun K2 c2 wK2=>(AI R (xL Bq R (mM R (aZ (Ze (Aw h fun o1 hit1 hk1 he1=>?_))))))))
 have J1 : ∀ (u2:Unit) (i5:NN),o1 = .nrm u2→K2 ⟨[],[],(i5 0),54⟩:=by
  intro u2 i5 e
  have h1:=hk1 _ e
  exact c2 _ (zI h1 R id)
 refine Zo (fun (x2:Int) i3=>⟨[(0,qa l1),(1,rB c),(7,rL l1),(8,rI x2)],[],(i3 0),54⟩) (AG [n0]) hit1 wk ?_
 intro x2 i3 v1 hv1 hx1
 have h2:Im l1 c x2=some v1:=hv1; unfold Im at h2
 refine aU (xS R (Ak fun c6=>(cI R h2 (fun h3=>?_) fun h3=>?_)))
 ·refine Zc (c6 _ (aT fun c7=>(Ze (AI R (AD R (aT fun c9=>(AI R (mM R (Zb h3 fun x4 ex4 h4=>(xI Bq R ex4 (sQ R (Zn R Hy iL) (xV (.str x4.Name) A3 R (Zb h4 fun r1 er1 h5=>(cL (Ml (er1)) R (sQ R (Zp R iL) (aZ (cI R h5 (fun h6=>?_) fun h6=>?_)))))))))))))))))
  ·exact zI (he1 _ (xH hx1 h6)) R id
  refine Zc (c9 _ (aT fun c12=>(aT fun c13=>(aF [0,1,5,7,8] ?_))))
  refine Af R (mM R (xI Bq R ex4 (sQ R (Zn R LS iL) (xV (.str x4.Value) A3 R (Zb h6 fun r2 er2 h7=>(cL (QT (er2)) R (sQ R (Zp R iL) (mM R (vM R (vM R (vQ R (Zt R Bq.slice (iR R) (iR R) (fun _=>R) (fun _=>ex4)) (vQ R (Zn R LS (iR R)) (vQ R (BR (d:=.str x4.Value) R A3 (iR R) R) (vQ R (DZ R (iR R) iL) (vQ R (Zd R (iR R)) (wQ R (Zd R iL) (wQ R (Zp R (iR R)) (vQ R (Bp R (iR R) (iR R)) (xN R (aZ (c13 _ (cI R h7 (fun h8=>?_) fun h8=>?_))))))))))))))))))))))
  ·exact zI (he1 _ (xH hx1 h8)) R id
  refine Zc (c12 _ (aT fun c15=>(aF [0,1,5,7,8] ?_)))
  refine Zv Az (by kernel_rfl) ?_
  refine qP R (Zd R iL) (qP R (BB R iL iL) (qP R (Zd R iL) (qO R (Zd R iL) (qO R (Zd R iL) (Zb h8 fun x5 ex5 h9=>qO R (BT R (iR R) iL (AZ ex5)) (Zb h9 fun x6 ex6 h10=>qO R (Zt R Bq.slice (iR R) (iR R) (fun _=>R) (AZ ex6)) (qO R (Zn R Hy (iR R)) (qO R (BR (d:=.str x6.Name) R A3 (iR R) R) (qO R (Zd R iL) (qO R (Zd R iL) (qO R (Zt R Bq.slice (iR R) (iR R) (fun _=>R) (fun _=>ex4)) (qO R (Zn R Hy (iR R)) (qO R (BR (d:=.str x4.Name) R A3 (iR R) R) (qO R (T8 R (iR R) (iR R)) (qP R (A6 R iL (iR R)) (AQ.nil (c15 _ (cI R h10 (fun h11=>?_) fun h11=>?_))))))))))))))))))
  ·exact zI (he1 _ (xH hx1 h11)) R id
  exact Zc (c7 _ (aR (Zb h11 fun x7 ex7 h12=>(xA R ex7 (mM R (Zi (Zm h12 (AG [(i3 0)]) wk)))))))
 exact Zk (wK2 _ _ wk (J1 _ (AG [(i3 0)]) (xH hx1 h3)))
theorem NE {k r} (h:H3 k=some r):AX Tryz.prog 67 [rI k] (rB r):=by
 unfold H3 at h
 exact mF Tryz.func67 Tryz.ntmps67 R fun n0=>aU (AD R (AI R (xQ R (mM R (vM R (vQ R (Zq R (iR R) iL) (xO R (mM R (vM R (vQ R (Zq R (iR R) iL) (xO R (mM R (vM R (vQ R (Zq R (iR R) iL) (xO R (AD R (Zh (yB h R))))))))))))))))))
theorem TL {k r} (h:LX k=some r):AX Tryz.prog 68 [rI k] (rB r):=by
 unfold LX at h
 exact mF Tryz.func68 Tryz.ntmps68 R fun n0=>aU (AD R (AI R (xQ R (mM R (vM R (vQ R (Zq R (iR R) iL) (xO R (AD R (Zh (yB h R))))))))))
theorem Tz {g1 r} (h:Kt g1=some r):AX Tryz.prog 69 (OB g1) (rB r):=by
 unfold Kt at h
 exact mF Tryz.func69 Tryz.ntmps69 R fun n0=>aU (sS R (Zu (cs:=(Bj g1)) 1 R iL R R) (AD R (aU (lF EB AH R R (xQ R (mM R (vF D6 AH R R (vQ R (Zq R (iR R) iL) (xN R (mM R (vF Ci C0 R R (vQ R (Cs R BO.slice (iR R)) (vQ R (Zq R (iR R) iL) (xN R (mM R (vF Cz DK R R (vQ R (Cs R B0.slice (iR R)) (vQ R (Zq R (iR R) iL) (xN R (AD R (Zh (yB h R))))))))))))))))))))))
theorem P6 {k r} (h:Jh k=some r):AX Tryz.prog 70 [rI k] (rB r):=by
 unfold Jh at h
 exact mF Tryz.func70 Tryz.ntmps70 R fun n0=>aU (AD R (AI R (xQ R (mM R (vM R (vQ R (Zq R (iR R) iL) (xO R (AD R (Zh (yB h R))))))))))
theorem WE {k r} (h:L5 k=some r):AX Tryz.prog 71 [rI k] (rB r):=by
 unfold L5 at h
 exact mF Tryz.func71 Tryz.ntmps71 R fun n0=>aU (AD R (AI R (xQ R (mM R (vM R (vQ R (Zq R (iR R) iL) (xO R (mM R (vM R (vQ R (Zq R (iR R) iL) (xO R (AD R (Zh (yB h R))))))))))))))
theorem P8 {c1 r} (h:Hh c1=some r):AX Tryz.prog 112 [rI c1] (rB r):=by
 unfold Hh at h
 exact mF Tryz.func112 Tryz.ntmps112 R fun n0=>aU (AD R (AI R (xQ R (mM R (vM R (vQ R (Zq R (iR R) iL) (xO R (mM R (vM R (Zb h fun r1 er1 h1=>vL (fun hg=>B9 (AZ er1 hg)) R (xO R (mM R (vM R (Zb h1 fun r2 er2 h2=>vL (fun hg=>B9 (AZ er2 hg)) R (xO R (mM R (vM R (Zb h2 fun r3 er3 h3=>vL (fun hg=>B9 (AZ er3 hg)) R (xO R (AD R (Zh (yB h3 R))))))))))))))))))))))
theorem SZ {x1 r} (h:Iy x1=some r):AX Tryz.prog 96 (PT x1) (rI r):=by
 unfold Iy at h
 refine mF Tryz.func96 Tryz.ntmps96 R fun n0=>aU (sS R (Zu (cs:=(BX x1)) 1 R iL R R) (AD R (aT fun c2=>(aU (lF Df AH R R (xQ R (mM R (vF CA AH R R (vQ R (Zq R (iR R) iL) (xN R (mM R (vF Df AH R R (vQ R (Ba R (iR R) iL) (vQ R (Zd R (iR R)) (wQ R (fB R CA iL fR R) (wQ R (Zg (a:=rI x1.Ref) R AH (iR R) R R) (wQ R (Ba R (iR R) iL) (vQ R (A6 R (iR R) (iR R)) (xO R (aZ (cI R h (fun h1=>?_) fun h1=>?_)))))))))))))))))))))
 ·exact zI h1 R id
 refine Zc (c2 _ (aT fun c5=>(aT fun c6=>(aG [1] [1] ?_))))
 refine aR (lF Df AH R R (xU R (mM R (vF Df AH R R (Zb h1 fun r1 er1 h2=>vL (fun hg=>P8 (AZ er1 hg)) R (vQ R (Zp R (iR R)) (xN R (mM R (vF CA AH R R (vQ R (Ba R (iR R) iL) (vQ R (Zd R (iR R)) (wQ R (fB R CA iL fR R) (wQ R (Zg (a:=rI x1.Ref) R AH (iR R) R R) (Zb h2 fun r2 er2 h3=>AK.stepW (.two R R R) R R (DY (r:=rB r2) (caps:=[]) (bs:=[rI x1.Ref,rI 1,rI 1073741824]) R iL R ⟨⟨_,(iR R),.d R⟩,⟨_,iL,.d R⟩,⟨_,iL,.d R⟩,Za⟩ (fun hg=>B9 (AZ er2 hg)) R) (wQ R (Zp R (iR R)) (vQ R (A6 R (iR R) (iR R)) (xO R (aZ (c6 _ (cI R h3 (fun h4=>?_) fun h4=>?_))))))))))))))))))))
 ·exact zI h4 R id
 refine Zc (c5 _ (aT fun c8=>(aG [1] [1] ?_)))
 exact aR (lF GW Bu R R (Zb h4 fun r3 er3 h5=>(cL (OE (er3)) R (AD R (c8 _ (Zh (yI h5 R)))))))
theorem X2 {f1 a r} (h:Fk f1 a=some r):AX Tryz.prog 72 [qd f1,rB a] (rI r):=by
 unfold Fk at h
 refine mF Tryz.func72 Tryz.ntmps72 R fun n0=>aU (AD R (aS fun K2 c2 wK2=>(AI R (xL BD R (mM R (aZ (Ze (Aw h fun o1 hit1 hk1 he1=>?_))))))))
 have J1 : ∀ (u2:Unit) (i5:NN),o1 = .nrm u2→K2 ⟨[(0,qd f1),(1,rB a)],[],(i5 0),47⟩:=by
  intro u2 i5 e
  have h1:=hk1 _ e
  refine c2 _ (aT fun c4=>(AI R (mM R (vM R (vQ R (Cs R BD.slice (iR R)) (vQ R (Zq R (iR R) iL) (vQ R (Zd R (iR R)) (wQ R (Zd R iL) (wQ R (Zd R iL) (wQ R (Cs R BD.slice (iR R)) (Zb h1 fun x4 ex4 h2=>wQ R (BT R (iR R) iL (AZ ex4)) (Zb h2 fun x5 ex5 h3=>wQ R (Zt R BD.slice (iR R) (iR R) (fun _=>R) (AZ ex5)) (wQ R (Zn R Df (iR R)) (wQ R (BR (d:=.int .i64 x5.Char) R AH (iR R) R) (wQ R (Ba R (iR R) iL) (vQ R (Bp R (iR R) (iR R)) (xN R (aZ (cI R h3 (fun h4=>?_) fun h4=>?_)))))))))))))))))))
  ·exact zI h4 R id
  exact Zc (c4 _ (zI h4 R id))
 refine Zo (fun (x2:Int) i3=>⟨[(0,qd f1),(1,rB a),(8,rL f1),(9,rI x2)],[],(i3 0),47⟩) (AG [n0]) hit1 wk ?_
 intro x2 i3 v1 hv1 hx1
 have h5:GS f1 a x2=some v1:=hv1; unfold GS at h5
 refine aU (xS R (Ak fun c9=>(cI R h5 (fun h6=>?_) fun h6=>?_)))
 ·refine Zc (c9 _ (aT fun c10=>(Ze (AI R (AD R (aT fun c12=>(AI R (mM R (Zb h6 fun x6 ex6 h7=>(xI BD R ex6 (xB ((BX x6)) ES R (Zb h7 fun e1 ee1 h8=>(cL (SZ (ee1)) R (AD R (AI R (xU R (aZ (cI R h8 (fun h9=>?_) fun h9=>?_))))))))))))))))))
  ·refine aT fun c15=>(aF [6] ?_)
   exact Af R (AD R (c15 _ (Zh (yI (he1 _ (xH hx1 h9)) R))))
  refine Zc (c12 _ (aT fun c16=>(aF [0,1,5,8,9] ?_)))
  refine Af R (sQ R (Zp R iL) (mM R (vM R (vM R (vQ R (Zt R BD.slice (iR R) (iR R) (fun _=>R) (fun _=>ex6)) (vQ R (Zn R Df (iR R)) (vQ R (BR (d:=.int .i64 x6.Char) R AH (iR R) R) (vQ R (Ba R (iR R) iL) (xN R (aZ (c16 _ (cI R h9 (fun h10=>?_) fun h10=>?_))))))))))))
  ·exact zI (he1 _ (xH hx1 h10)) R id
  exact Zc (c10 _ (aR (Zb h10 fun x7 ex7 h11=>(xA R ex7 (mM R (Zi (Zm h11 (AG [(i3 0)]) wk)))))))
 exact Zk (wK2 _ _ wk (J1 _ (AG [(i3 0)]) (xH hx1 h6)))
theorem UO {s1 r} (h:L6 s1=some r):AX Tryz.prog 117 [rS s1] (rB r):=by
 unfold L6 at h
 exact YG V4 R R R ⟨_,Tryz.func117,R,R⟩ h
theorem X3 {s1 r} (h:KR s1=some r):AX Tryz.prog 113 [rS s1] (rB r):=by
 unfold KR at h
 refine mF Tryz.func113 Tryz.ntmps113 R fun n0=>aU (AD R (aT fun c2=>(AI R (Zb h fun r1 er1 h1=>(cL (UO (er1)) R (sQ R (Zp R iL) (aZ (cI R h1 (fun h2=>?_) fun h2=>?_))))))))
 ·exact zB h2 R id
 refine Zc (c2 _ (aS fun K5 c5 wK5=>(AI R (sS R (W7 9 R Tryz.underlying9 iL) (aZ (Ze (Aw h2 fun o1 hit1 hk1 he1=>?_)))))))
 have J1 : ∀ (u2:Unit) (i5:NN),o1 = .nrm u2→K5 ⟨[],[],(i5 0),21⟩:=by
  intro u2 i5 e
  have h3:=hk1 _ e
  exact c5 _ (zB h3 R id)
 refine Zo (fun (p2:(Nat)) i3=>⟨[(9,pT 9 n0)],[(9,some (.it n0 s1 p2))],(i3 0),21⟩) (AG [(n0+1)]) hit1 wk ?_
 intro p2 i3 v1 hv1 hx1
 have h4:EC s1 p2=some v1:=hv1; unfold EC at h4
 refine aT fun c8=>(AW.split (decide (p2<s1.length)) (fun hg1=>?_) (fun hg1=>?_))
 ·have h5:=C8 hg1 h4
  refine aR (sS R (UN R iL R (fun _=>hg1)) (xX R (aZ (c8 _ (aT fun c9=>(aC R (fun hc2=>?_) (fun hc2=>by cases hc2)))))))
  refine Zc (c9 _ (Ze (aU (xX R (AD R (AI R (xQ R (mM R (vM R (vQ R (ZB R Tryz.underlying21 Tryz.underlying3 (iR R)) (Zb h5 fun r2 er2 h6=>vL (fun hg=>P8 (AZ er2 hg)) R (vQ R (Zp R (iR R)) (xO R (aZ (cI R h6 (fun h7=>?_) fun h7=>?_)))))))))))))))
  ·exact zB (he1 _ (xH hx1 h7)) R id
  exact Zc (Zm h7 (AG [(i3 0)]) wk)
 ·have h5:=Cw hg1 h4
  exact aR (sS R (Wc R iL R (fun _=>hg1)) (xX R (aZ (c8 _ (aT fun c13=>(aC R (fun hc4=>by cases hc4) (fun hc4=>Zk (wK5 _ _ wk (J1 _ (AG [(i3 0)]) (xH hx1 h5))))))))))
theorem Ub {c1 r} (h:Jr c1=some r):AX Tryz.prog 114 (Qp c1) (rB r):=by
 unfold Jr at h
 exact mF Tryz.func114 Tryz.ntmps114 R fun n0=>aU (sS R (Zu (cs:=(BA c1)) 1 R iL R R) (AD R (aU (lF Ex A3 R R (sQ R (Ec R iL iL) (mM R (vF DS AH R R (vQ R (Zq R (iR R) iL) (xN R (mM R (vF D2 Bu R R (vQ R (Cs R Bq.slice (iR R)) (vQ R (Zq R (iR R) iL) (xN R (AD R (Zh (yB h R)))))))))))))))))
theorem X0 {l1 b c n r} (h:JM l1 b c n=some r):AX Tryz.prog 97 [qb l1,rI b,rI c,rB n] (rI r):=by
 unfold JM at h
 refine mF Tryz.func97 Tryz.ntmps97 R fun n0=>aU (AD R (aS fun K2 c2 wK2=>(AI R (xL BO R (mM R (aZ (Ze (Aw h fun o1 hit1 hk1 he1=>?_))))))))
 have J1 : ∀ (u2:Unit) (i5:NN),o1 = .nrm u2→K2 ⟨[],[],(i5 0),93⟩:=by
  intro u2 i5 e
  have h1:=hk1 _ e
  exact c2 _ (zI h1 R id)
 refine Zo (fun (x2:Int) i3=>⟨[(0,qb l1),(1,rI b),(2,rI c),(3,rB n),(13,rL l1),(14,rI x2)],[],(i3 0),93⟩) (AG [n0]) hit1 wk ?_
 intro x2 i3 v1 hv1 hx1
 have h2:KA l1 b c n x2=some v1:=hv1; unfold KA at h2
 refine aU (xS R (Ak fun c6=>(cI R h2 (fun h3=>?_) fun h3=>?_)))
 ·refine Zc (c6 _ (aT fun c7=>(Ze (AI R (AD R (AI R (mM R (Zb h3 fun x4 ex4 h4=>(xI BO R ex4 (xB ((BA x4)) DL R (sS R (Zw (cs:=HC) 10 R Gs R R) (Zl R R (Zj (ds:=(BA x4)) R GO iL R iL R R R R) (Ak fun c10=>(aT fun c11=>(aR (lF Do AH R R (mM R (Zb h4 fun x5 ex5 h5=>(sQ R (BT R iL iL (fun _=>ex5)) (Zb h5 fun r1 er1 h6=>(cL (B9 (er1)) R (sQ R (Zp R iL) (mM R (vF EW AH R R (vM R (Zb h6 fun x6 ex6 h7=>(vQ R (BT R (iR R) iL (AZ ex6)) (Zb h7 fun r2 er2 h8=>vL (fun hg=>B9 (AZ er2 hg)) R (vQ R (Zp R (iR R)) (xO R (mM R (vF DS AH R R (Zb h8 fun r3 er3 h9=>vL (fun hg=>B9 (AZ er3 hg)) R (vQ R (Zp R (iR R)) (xO R (aZ (c11 _ (cI R h9 (fun h10=>?_) fun h10=>?_))))))))))))))))))))))))))))))))))))))
  ·exact zI (he1 _ (xH hx1 h10)) R id
  refine Zc (c10 _ (aT fun c13=>(aT fun c14=>(aG [0,1,2,3,9,10,13,14] [10] ?_))))
  refine aR (lF Ex A3 R R (Zb h10 fun r4 er4 h11=>(cL (X3 (er4)) R (sQ R (Zp R iL) (aZ (c14 _ (cI R h11 (fun h12=>?_) fun h12=>?_)))))))
  ·exact zI (he1 _ (xH hx1 h12)) R id
  refine Zc (c13 _ (aT fun c16=>(aU (lF D2 Bu R R (Zb h12 fun e1 ee1 h13=>(cL (OE (ee1)) R (AD R (AI R (xU R (aZ (cI R h13 (fun h14=>?_) fun h14=>?_)))))))))))
  ·refine aT fun c19=>(aF [11] ?_)
   exact Af R (AD R (c19 _ (Zh (yI (he1 _ (xH hx1 h14)) R))))
  refine Zc (c16 _ (aT fun c20=>(aT fun c21=>(aG [0,1,2,3,9,10,13,14] [10] ?_))))
  refine Af R (sQ R (Zp R iL) (mM R (vQ R (Cn R DL iL R R) (Zb h14 fun r5 er5 h15=>vL (fun hg=>Ub (AZ er5 hg)) R (xN R (aZ (c21 _ (cI R h15 (fun h16=>?_) fun h16=>?_))))))))
  ·exact zI (he1 _ (xH hx1 h16)) R id
  refine Zc (c20 _ (aT fun c23=>?_))
  refine Zv Az (by kernel_rfl) ?_
  refine qP R (Zd R iL) (qP R (BB R iL iL) (qP R (Zd R iL) (qO R (fB R Do iL fR R) (qO R (Zg (a:=rI x4.Row) R AH (iR R) R R) (qO R (Zd R iL) (qO R (Zd R iL) (Zb h16 fun x7 ex7 h17=>qO R (BT R (iR R) iL (AZ ex7)) (Zb h17 fun x8 ex8 h18=>qO R (Zt R BO.slice (iR R) (iR R) (fun _=>R) (AZ ex8)) (qO R (Zn R Do (iR R)) (qO R (BR (d:=.int .i64 x8.Row) R AH (iR R) R) (qO R (Bn R (iR R) (iR R)) (qO R (Zd R (iR R)) (qT R (fB R Do iL fR R) (qT R (Zg (a:=rI x4.Row) R AH (iR R) R R) (qT R (Zd R iL) (qT R (Zd R iL) (qT R (BT R (iR R) iL (fun h=>AZ ex7 (Bool.and_eq_true_iff.1 h).1)) (qT R (Zt R BO.slice (iR R) (iR R) (fun _=>R) (fun h=>AZ ex8 (Bool.and_eq_true_iff.1 h).1)) (qT R (Zn R Do (iR R)) (qT R (BR (d:=.int .i64 x8.Row) R AH (iR R) R) (qT R (Zq R (iR R) (iR R)) (qT R (Zd R (iR R)) (qT R (fB R EW iL fR R) (qT R (Zg (a:=rI x4.Col) R AH (iR R) R R) (qT R (Zd R iL) (qT R (Zd R iL) (Zb h18 fun x9 ex9 h19=>qT R (BT R (iR R) iL (AZ ex9)) (Zb h19 fun x10 ex10 h20=>qT R (Zt R BO.slice (iR R) (iR R) (fun _=>R) (AZ ex10)) (qT R (Zn R EW (iR R)) (qT R (BR (d:=.int .i64 x10.Col) R AH (iR R) R) (qT R (DW R (iR R) (iR R)) (qT R (A6 R (iR R) (iR R)) (qO R (Bp R (iR R) (iR R)) (qP R (A6 R iL (iR R)) (AQ.nil (c23 _ (cI R h20 (fun h21=>?_) fun h21=>?_)))))))))))))))))))))))))))))))))))))
  ·exact zI (he1 _ (xH hx1 h21)) R id
  refine Zc (c7 _ (aF [0,1,2,3,13,14] ?_))
  exact aR (Zb h21 fun x11 ex11 h22=>(xA R ex11 (mM R (Zi (Zm h22 (AG [((i3 0)+1)]) wk)))))
 exact Zk (wK2 _ _ wk (J1 _ (AG [(i3 0)]) (xH hx1 h3)))
theorem VN {r1 a c r} (h:Jj r1 a c=some r):AX Tryz.prog 98 [.agg (BI r1),rI a,rI c] (rB r):=by
 unfold Jj at h
 exact mF Tryz.func98 Tryz.ntmps98 R fun n0=>aU (sS R (Zu (cs:=(BI r1)) 3 R iL R R) (AD R (aT fun c2=>(aR (lF CD AH R R (mM R (Zb h fun x1 ex1 h1=>(sQ R (BT R iL iL (fun _=>ex1)) (Zb h1 fun r2 er2 h2=>(cL (B9 (er2)) R (mM R (vF Cg AH R R (vM R (Zb h2 fun x2 ex2 h3=>(vQ R (BT R (iR R) iL (AZ ex2)) (Zb h3 fun r3 er3 h4=>vL (fun hg=>B9 (AZ er3 hg)) R (xN R (mM R (vF E9 AH R R (vM R (vF CD AH R R (Zb h4 fun x3 ex3 h5=>(vQ R (BT R (iR R) (iR R) (AZ ex3)) (Zb h5 fun r4 er4 h6=>vL (fun hg=>B9 (AZ er4 hg)) R (xN R (mM R (vF FY AH R R (vM R (vF Cg AH R R (Zb h6 fun x4 ex4 h7=>(vQ R (BT R (iR R) (iR R) (AZ ex4)) (Zb h7 fun r5 er5 h8=>vL (fun hg=>B9 (AZ er5 hg)) R (xN R (AD R (c2 _ (Zh (yB h8 R)))))))))))))))))))))))))))))))))))))
theorem Xp {a1 b1 r} (h:Jt a1 b1=some r):AX Tryz.prog 99 [.agg (BI a1),.agg (BI b1)] (rB r):=by
 unfold Jt at h
 refine mF Tryz.func99 Tryz.ntmps99 R fun n0=>aU (sS R (Zu (cs:=(BI a1)) 2 R iL R R) (sS R (Zu (cs:=(BI b1)) 3 R iL R R) (AD R (aT fun c2=>?_))))
 refine Zv Az (by kernel_rfl) ?_
 refine qP R (fB R CD iL fR R) (qP R (Zg (a:=rI a1.Row) R AH iL R R) (qP R (fB R CD iL fR R) (qP R (Zg (a:=rI b1.Row) R AH iL R R) (qP R (Mx R iL iL) (qP R (fB R Cg iL fR R) (qP R (Zg (a:=rI a1.Col) R AH iL R R) (qP R (fB R Cg iL fR R) (qP R (Zg (a:=rI b1.Col) R AH iL R R) (qP R (Mx R iL iL) (qP R (Co R iL) (qP R (Co R iL) (AQ.nil (c2 _ (aT fun c3=>(aG [2,3,5,6] [2,3] ?_)))))))))))))))
 exact Af R (lF CD AH R R (lF E9 AH R R (Zb h fun x1 ex1 h1=>(xA R ex1 (lF CD AH R R (lF E9 AH R R (Zb h1 fun x2 ex2 h2=>(xA R ex2 (sQ R (Jc R iL iL) (xS R (mM R (vM R (vF Cg AH R R (vF FY AH R R (Zb h2 fun x3 ex3 h3=>(vQ R (Hk R (iR R) (iR R) (AZ ex3)) (vF Cg AH R R (vF FY AH R R (Zb h3 fun x4 ex4 h4=>(vQ R (Hk R (iR R) (iR R) (AZ ex4)) (vQ R (Jc R (iR R) (iR R)) (vQ R (Bn R (iR R) (iR R)) (xN R (AD R (c3 _ (Zh (yB h4 R)))))))))))))))))))))))))))
theorem VH {g1 r} (h:Ix g1=some r):AX Tryz.prog 73 (OB g1) (rI r):=by
 unfold Ix at h
 refine mF Tryz.func73 Tryz.ntmps73 R fun n0=>aU (sS R (Zu (cs:=(Bj g1)) 1 R iL R R) (AD R (aT fun c2=>(aU (lF EB AH R R (Zb h fun r1 er1 h1=>(cL (B9 (er1)) R (sQ R (Zp R iL) (mM R (vF D6 AH R R (Zb h1 fun r2 er2 h2=>vL (fun hg=>B9 (AZ er2 hg)) R (vQ R (Zp R (iR R)) (xO R (aZ (cI R h2 (fun h3=>?_) fun h3=>?_)))))))))))))))
 ·exact zI h3 R id
 refine Zc (c2 _ (aT fun c5=>(aT fun c6=>(aG [1] [1] ?_))))
 refine aR (lF Ci C0 R R (lF EB AH R R (lF D6 AH R R (Zb h3 fun e1 ee1 h4=>(cL (X0 (ee1)) R (AD R (c6 _ (AI R (xU R (aZ (cI R h4 (fun h5=>?_) fun h5=>?_)))))))))))
 ·refine aT fun c8=>(aF [3] ?_)
  exact Af R (AD R (c8 _ (Zh (yI h5 R))))
 refine Zc (c5 _ (aS fun K9 c9 wK9=>(aT fun c10=>(aG [1] [1] ?_))))
 refine aR (lF Cz DK R R (xL B0 R (mM R (aZ (c10 _ (Ze (Aw h5 fun o1 hit1 hk1 he1=>?_)))))))
 have J1 : ∀ (u2:Unit) (i5:NN),o1 = .nrm u2→K9 ⟨[],[],(i5 0),104⟩:=by
  intro u2 i5 e
  have h6:=hk1 _ e
  exact c9 _ (zI h6 R id)
 refine Zo (fun (x2:Int) i3=>⟨[(1,pT 1 n0),(29,rL g1.Merges),(30,rI x2)],[bX 1 n0 68 (Bj g1)],(i3 0),104⟩) (AG [(n0+1)]) hit1 wk ?_
 intro x2 i3 v1 hv1 hx1
 have h7:KK g1 x2=some v1:=hv1; unfold KK at h7
 refine aU (xS R (Ak fun c13=>(cI R h7 (fun h8=>?_) fun h8=>?_)))
 ·refine Zc (c13 _ (aS fun K14 c14 wK14=>(Ze (AI R (AD R (aU (lF Cz DK R R (mM R (Zb h8 fun x4 ex4 h9=>(xI B0 R ex4 (xB ((BI x4)) DJ R (sS R (Zw (cs:=[rI 0,rI 0,rI 0,rI 0]) 5 R O9 R R) (Zl R R (Zj (ds:=(BI x4)) R RE iL R iL R R R R) (Ak fun c17=>(aU (xC DJ R (lF EB AH R R (lF D6 AH R R (Zb h9 fun r3 er3 h10=>(cL (VN (er3)) R (sQ R (Zp R iL) (aZ (cI R h10 (fun h11=>?_) fun h11=>?_)))))))))))))))))))))))
  ·exact zI (he1 _ (xH hx1 h11)) R id
  refine Zc (c17 _ (aT fun c20=>(aT fun c21=>(aG [1,4,5,29,30] [1,5] ?_))))
  refine aR (lF E9 AH R R (xQ R (mM R (vF FY AH R R (vQ R (Zq R (iR R) iL) (xN R (aZ (c21 _ (cI R h11 (fun h12=>?_) fun h12=>?_)))))))))
  ·exact zI (he1 _ (xH hx1 h12)) R id
  refine Zc (c20 _ (aT fun c23=>(aT fun c24=>?_)))
  refine Zv Az (by kernel_rfl) ?_
  refine qP R (Zd R iL) (qP R (BB R iL iL) (qP R (Zd R iL) (qO R (fB R CD iL fR R) (qO R (Zg (a:=rI x4.Row) R AH (iR R) R R) (qO R (fB R Cz iL fR R) (qO R (Zg (a:=qc g1.Merges) R DK (iR R) R R) (qO R (Zd R iL) (Zb h12 fun x5 ex5 h13=>qO R (BT R (iR R) iL (AZ ex5)) (Zb h13 fun x6 ex6 h14=>qO R (Zt R B0.slice (iR R) (iR R) (fun _=>R) (AZ ex6)) (qO R (Zn R CD (iR R)) (qO R (BR (d:=.int .i64 x6.Row) R AH (iR R) R) (qO R (Bn R (iR R) (iR R)) (qO R (Zd R (iR R)) (qT R (fB R CD iL fR R) (qT R (Zg (a:=rI x4.Row) R AH (iR R) R R) (qT R (fB R Cz iL fR R) (qT R (Zg (a:=qc g1.Merges) R DK (iR R) R R) (qT R (Zd R iL) (qT R (BT R (iR R) iL (fun h=>AZ ex5 (Bool.and_eq_true_iff.1 h).1)) (qT R (Zt R B0.slice (iR R) (iR R) (fun _=>R) (fun h=>AZ ex6 (Bool.and_eq_true_iff.1 h).1)) (qT R (Zn R CD (iR R)) (qT R (BR (d:=.int .i64 x6.Row) R AH (iR R) R) (qT R (Zq R (iR R) (iR R)) (qT R (Zd R (iR R)) (qT R (fB R Cg iL fR R) (qT R (Zg (a:=rI x4.Col) R AH (iR R) R R) (qT R (fB R Cz iL fR R) (qT R (Zg (a:=qc g1.Merges) R DK (iR R) R R) (qT R (Zd R iL) (Zb h14 fun x7 ex7 h15=>qT R (BT R (iR R) iL (AZ ex7)) (Zb h15 fun x8 ex8 h16=>qT R (Zt R B0.slice (iR R) (iR R) (fun _=>R) (AZ ex8)) (qT R (Zn R Cg (iR R)) (qT R (BR (d:=.int .i64 x8.Col) R AH (iR R) R) (qT R (DW R (iR R) (iR R)) (qT R (A6 R (iR R) (iR R)) (qO R (Bp R (iR R) (iR R)) (qP R (A6 R iL (iR R)) (AQ.nil (c24 _ (cI R h16 (fun h17=>?_) fun h17=>?_))))))))))))))))))))))))))))))))))))))))
  ·exact zI (he1 _ (xH hx1 h17)) R id
  refine Zc (c23 _ (aT fun c26=>(aG [1,4,5,29,30] [1,5] ?_)))
  refine Af R (mM R (aZ (c26 _ (Ze (Aw h17 fun o2 hit2 hk2 he2=>?_)))))
  have J2 : ∀ (u4:Unit) (i10:NN),o2 = .nrm u4→K14 ⟨[(1,pT 1 n0),(29,rL g1.Merges),(30,rI x2)],[bX 1 n0 68 (Bj g1)],(i10 0),104⟩:=by
   intro u4 i10 e
   have h18:=hk2 _ e
   exact c14 _ (aR (Zb h18 fun x12 ex12 h19=>(xA R ex12 (mM R (Zi (Zm h19 (AG [(i10 0)]) wk))))))
  refine Zo (fun (x10:Int) i8=>⟨[(1,pT 1 n0),(5,pT 5 (i3 0)),(29,rL g1.Merges),(30,rI x2),(91,rI x2),(92,rI x10)],[bX 1 n0 68 (Bj g1),bX 5 (i3 0) 116 (BI x4)],(i8 0),104⟩) (AG [((i3 0)+1)]) hit2 wk ?_
  intro x10 i8 v2 hv2 hx2
  have h20:JF g1 x2 x4 x10=some v2:=hv2; unfold JF at h20
  refine aU (xS R (Ak fun c28=>(cI R h20 (fun h21=>?_) fun h21=>?_)))
  ·refine Zc (c28 _ (aT fun c29=>(Ze (AI R (AD R (aT fun c31=>?_))))))
   refine Zv Az (by kernel_rfl) ?_
   refine qP R (Cn R DJ iL R R) (qP R (fB R Cz iL fR R) (qP R (Zg (a:=qc g1.Merges) R DK iL R R) (qP R (Zd R iL) (Zb h21 fun x13 ex13 h22=>(qP R (Zt R B0.slice iL iL (fun _=>R) (fun _=>ex13)) (qP R (BV (cs:=(BI x13)) R DJ iL R R) (Zb h22 fun r4 er4 h23=>D0 R R R (r:=rB r4) (caps:=[]) (bs:=[.agg (BI x4),.agg (BI x13)]) R iL R ⟨⟨_,iL,.g (cs:=[.int .i64 x4.Row,.int .i64 x4.Col,.int .i64 x4.H,.int .i64 x4.W]) R R⟩,⟨_,iL,.g (cs:=[.int .i64 x13.Row,.int .i64 x13.Col,.int .i64 x13.H,.int .i64 x13.W]) R R⟩,Za⟩ (fun _=>Xp (er4)) R (AQ.nil (c31 _ (cI R h23 (fun h24=>?_) fun h24=>?_))))))))))
   ·refine aT fun c32=>(aF [] ?_)
    exact aR (AD R (c32 _ (Zh (yI (he1 _ (hx1 _ (Zf (he2 _ (xH hx2 h24))).symm)) R))))
   refine Zc (c29 _ (aG [1,5,29,30,91,92] [1,5] ?_))
   exact aR (Zb h24 fun x14 ex14 h25=>(xA R ex14 (mM R (Zi (Zm h25 (AG [(i8 0)]) wk)))))
  exact Zk (wK14 _ _ wk (J2 _ (AG [(i8 0)]) (xH hx2 h21)))
 exact Zk (wK9 _ _ wk (J1 _ (AG [(i3 0)]) (xH hx1 h8)))
theorem UZ {k l1 r} (h:I1 k l1=some r):AX Tryz.prog 74 [rI k,qb l1] (rI r):=by
 unfold I1 at h
 refine mF Tryz.func74 Tryz.ntmps74 R fun n0=>aU (AD R (aS fun K2 c2 wK2=>(AI R (xL BO R (mM R (aZ (Ze (Aw h fun o1 hit1 hk1 he1=>?_))))))))
 have J1 : ∀ (u2:Unit) (i5:NN),o1 = .nrm u2→K2 ⟨[],[],(i5 0),43⟩:=by
  intro u2 i5 e
  have h1:=hk1 _ e
  exact c2 _ (zI h1 R id)
 refine Zo (fun (x2:Int) i3=>⟨[(0,rI k),(1,qb l1),(7,rL l1),(8,rI x2)],[],(i3 0),43⟩) (AG [n0]) hit1 wk ?_
 intro x2 i3 v1 hv1 hx1
 have h2:Ky k l1 x2=some v1:=hv1; unfold Ky at h2
 refine aU (xS R (Ak fun c6=>(cI R h2 (fun h3=>?_) fun h3=>?_)))
 ·refine Zc (c6 _ (aT fun c7=>(Ze (AI R (AD R (aT fun c9=>(Af R (xQ R (mM R (vM R (vM R (Zb h3 fun x4 ex4 h4=>(vQ R (Zt R BO.slice (iR R) (iR R) (fun _=>R) (AZ ex4)) (vQ R (Zn R Ex (iR R)) (vQ R (BR (d:=.str x4.Text) R A3 (iR R) R) (vQ R (DZ R (iR R) iL) (vQ R (Zd R (iR R)) (wQ R (Zd R iL) (wQ R (Zd R iL) (wQ R (Zt R BO.slice (iR R) (iR R) (fun _=>R) (fun h=>AZ ex4 (Bool.and_eq_true_iff.1 h).1)) (wQ R (Zn R D2 (iR R)) (wQ R (BR (d:=.sl (x4.Attrs.map Ab.row)) R Bu (iR R) R) (wQ R (Cs R Bq.slice (iR R)) (wQ R (BB R (iR R) iL) (vQ R (Bp R (iR R) (iR R)) (xN R (mM R (vM R (vQ R (Zq R (iR R) iL) (vQ R (Zd R (iR R)) (wQ R (Zd R iL) (wQ R (Zd R iL) (Zb h4 fun x5 ex5 h5=>wQ R (Zt R BO.slice (iR R) (iR R) (fun _=>R) (AZ ex5)) (wQ R (Zn R DS (iR R)) (wQ R (BR (d:=.int .i64 x5.Ref) R AH (iR R) R) (wQ R (Ba R (iR R) iL) (vQ R (A6 R (iR R) (iR R)) (xO R (aZ (c9 _ (cI R h5 (fun h6=>?_) fun h6=>?_)))))))))))))))))))))))))))))))))))))))))
  ·exact zI (he1 _ (xH hx1 h6)) R id
  refine Zc (c7 _ (aF [0,1,7,8] ?_))
  exact aR (Zb h6 fun x6 ex6 h7=>(xA R ex6 (mM R (Zi (Zm h7 (AG [(i3 0)]) wk)))))
 exact Zk (wK2 _ _ wk (J1 _ (AG [(i3 0)]) (xH hx1 h3)))
theorem WZ {s1 r} (h:Jq s1=some r):AX Tryz.prog 100 [rS s1] (rB r):=by
 unfold Jq at h
 refine mF Tryz.func100 Tryz.ntmps100 R fun n0=>aU (AD R (aS fun K2 c2 wK2=>(AI R (sQ R (CY R Tryz.underlying9 iL) (mM R (aZ (Ze (Aw h fun o1 hit1 hk1 he1=>?_))))))))
 have J1 : ∀ (u2:Unit) (i5:NN),o1 = .nrm u2→K2 ⟨[(0,rS s1)],[],(i5 0),36⟩:=by
  intro u2 i5 e
  have h1:=hk1 _ e
  exact c2 _ (AI R (sQ R (CY R Tryz.underlying9 iL) (sQ R (Bf R iL iL) (mM R (vM R (vQ R (CY R Tryz.underlying9 (iR R)) (vQ R (DW R (iR R) iL) (xN R (mM R (vM R (vM R (vQ R (CY R Tryz.underlying9 (iR R)) (Zb h1 fun x4 ex4 h2=>(vQ R (BT R (iR R) iL (AZ ex4)) (Zb h2 fun ch1 ech1 h3=>(vQ R (Zy R Tryz.underlying9 (iR R) (iR R) (AZ ech1)) (vQ R (Ba R (iR R) iL) (xN R (AD R (Zh (yB h3 R)))))))))))))))))))))
 refine Zo (fun (x2:Int) i3=>⟨[(0,rS s1),(5,rL s1),(6,rI x2)],[],(i3 0),36⟩) (AG [n0]) hit1 wk ?_
 intro x2 i3 v1 hv1 hx1
 have h4:HG s1 x2=some v1:=hv1; unfold HG at h4
 refine aU (xS R (Ak fun c6=>(cI R h4 (fun h5=>?_) fun h5=>?_)))
 ·refine Zc (c6 _ (aT fun c7=>(Ze (AI R (AD R (AI R (mM R (Zb h5 fun ch2 ech2 h6=>(sQ R (Zy R Tryz.underlying9 iL iL (fun _=>ech2)) (xS R (mM R (vM R (vM R (vQ R (Zy R Tryz.underlying9 (iR R) (iR R) (fun _=>ech2)) (vQ R (BB R (iR R) iL) (xO R (aZ (cI R h6 (fun h7=>?_) fun h7=>?_))))))))))))))))))
  ·exact zB (he1 _ (xH hx1 h7)) R id
  refine Zc (c7 _ (aF [0,5,6] ?_))
  exact aR (Zb h7 fun x5 ex5 h8=>(xA R ex5 (mM R (Zi (Zm h8 (AG [(i3 0)]) wk)))))
 exact Zk (wK2 _ _ wk (J1 _ (AG [(i3 0)]) (xH hx1 h5)))
theorem SL {a1 b1 r} (h:HW a1 b1=some r):AX Tryz.prog 101 [.agg (Bm a1),.agg (Bm b1)] (rB r):=by
 unfold HW at h
 exact mF Tryz.func101 Tryz.ntmps101 R fun n0=>aU (sS R (Zu (cs:=(Bm a1)) 2 R iL R R) (sS R (Zu (cs:=(Bm b1)) 3 R iL R R) (AD R (aU (lF Fe AH R R (lF Fe AH R R (xS R (mM R (vF Fe AH R R (vF Fe AH R R (vQ R (Zq R (iR R) (iR R)) (vQ R (Zd R (iR R)) (wQ R (fB R Gb iL fR R) (wQ R (Zg (a:=rI a1.Site) R AH (iR R) R R) (wQ R (fB R Gb iL fR R) (wQ R (Zg (a:=rI b1.Site) R AH (iR R) R R) (wQ R (Bn R (iR R) (iR R)) (vQ R (A6 R (iR R) (iR R)) (xO R (AD R (Zh (yB h R))))))))))))))))))))))
theorem UJ {l1 r} (h:KG l1=some r):AX Tryz.prog 75 [qf l1] (rI r):=by
 unfold KG at h
 refine mF Tryz.func75 Tryz.ntmps75 R fun n0=>aU (AD R (aS fun K2 c2 wK2=>(AI R (xL CI R (mM R (aZ (Ze (Aw h fun o1 hit1 hk1 he1=>?_))))))))
 have J1 : ∀ (u2:Unit) (i5:NN),o1 = .nrm u2→K2 ⟨[],[],(i5 0),91⟩:=by
  intro u2 i5 e
  have h1:=hk1 _ e
  exact c2 _ (zI h1 R id)
 refine Zo (fun (x2:Int) i3=>⟨[(0,qf l1),(6,rL l1),(7,rI x2)],[],(i3 0),91⟩) (AG [n0]) hit1 wk ?_
 intro x2 i3 v1 hv1 hx1
 have h2:Jy l1 x2=some v1:=hv1; unfold Jy at h2
 refine aU (xS R (Ak fun c6=>(cI R h2 (fun h3=>?_) fun h3=>?_)))
 ·refine Zc (c6 _ (aT fun c7=>(Ze (AI R (AD R (AI R (mM R (Zb h3 fun x4 ex4 h4=>(xI CI R ex4 (xB ((Bm x4)) EV R (sS R (Zw (cs:=[rI 0,rI 0,rI 0,rI 0,rI 0,.r (.str []),.r (.str []),.r (.str [])]) 4 R QH R R) (Zl R R (Zj (ds:=(Bm x4)) R QZ iL R iL R R R R) (Ak fun c10=>(aU (lF EL AH R R (xU R (mM R (vF EL AH R R (vQ R (Ba R (iR R) iL) (xN R (aZ (cI R h4 (fun h5=>?_) fun h5=>?_))))))))))))))))))))))
  ·exact zI (he1 _ (xH hx1 h5)) R id
  refine Zc (c10 _ (aT fun c13=>(aT fun c14=>(aG [0,3,4,6,7] [4] ?_))))
  refine aR (lF Fe AH R R (Zb h5 fun r1 er1 h6=>(cL (B9 (er1)) R (sQ R (Zp R iL) (mM R (vF Gb AH R R (Zb h6 fun r2 er2 h7=>vL (fun hg=>B9 (AZ er2 hg)) R (vQ R (Zp R (iR R)) (xO R (mM R (vF Nf AH R R (Zb h7 fun r3 er3 h8=>vL (fun hg=>B9 (AZ er3 hg)) R (vQ R (Zp R (iR R)) (xO R (aZ (c14 _ (cI R h8 (fun h9=>?_) fun h9=>?_)))))))))))))))))
  ·exact zI (he1 _ (xH hx1 h9)) R id
  refine Zc (c13 _ (aS fun K16 c16 wK16=>(aU (lF EL AH R R (xQ R (aZ (Aw h9 fun p1 hp1 hk2 he2=>?_)))))))
  have J2 : ∀ (u3:Unit) (i6:NN),p1 = .nrm u3→K16 ⟨[(0,qf l1),(3,rI x2),(4,pT 4 (i3 0)),(6,rL l1),(7,rI x2)],[bX 4 (i3 0) 107 (Bm x4)],(i6 0),91⟩:=by
   intro u3 i6 e
   have h10:=hk2 _ e
   refine c16 _ (aT fun c18=>?_)
   refine Zv Az (by kernel_rfl) ?_
   refine qP R (Zd R iL) (qP R (BB R iL iL) (qP R (Zd R iL) (qO R (Zd R iL) (qO R (Zd R iL) (Zb h10 fun x5 ex5 h11=>qO R (BT R (iR R) iL (AZ ex5)) (Zb h11 fun x6 ex6 h12=>qO R (Zt R CI.slice (iR R) (iR R) (fun _=>R) (AZ ex6)) (qO R (BV (cs:=(Bm x6)) R EV (iR R) R R) (qO R (Cn R EV iL R R) (Zb h12 fun r4 er4 h13=>Ff (.one R R R) R R (r:=rB r4) (caps:=[]) (bs:=[.agg (Bm x6),.agg (Bm x4)]) R iL R ⟨⟨_,(iR R),.g (cs:=[.int .i64 x6.Clock,.int .i64 x6.Site,.int .i64 x6.Kind,.int .i64 x6.Item,.int .i64 x6.Parent,.str x6.Place,.str x6.Name,.str x6.Value]) R R⟩,⟨_,(iR R),.g (cs:=[.int .i64 x4.Clock,.int .i64 x4.Site,.int .i64 x4.Kind,.int .i64 x4.Item,.int .i64 x4.Parent,.str x4.Place,.str x4.Name,.str x4.Value]) R R⟩,Za⟩ (fun hg=>SL (AZ er4 hg)) R (qO R (Zp R (iR R)) (qP R (A6 R iL (iR R)) (AQ.nil (c18 _ (cI R h13 (fun h14=>?_) fun h14=>?_))))))))))))))
   ·exact zI (he1 _ (xH hx1 h14)) R id
   exact Zc (c7 _ (aR (Zb h14 fun x7 ex7 h15=>(xA R ex7 (mM R (Zi (Zm h15 (AG [(i6 0)]) wk)))))))
  refine aC R (fun hc5=>?_) (fun hc5=>?_)
  ·have h16:=C8 hc5 hp1
   refine aT fun c20=>(aT fun c21=>(aG [0,3,4,6,7] [4] ?_))
   refine aR (lF MV A3 R R (sQ R (DZ R iL iL) (mM R (vF IE A3 R R (vQ R (DZ R (iR R) iL) (xO R (aZ (c21 _ (cI R h16 (fun h17=>?_) fun h17=>?_)))))))))
   ·refine aT fun c22=>(aF [] ?_)
    exact aR (AD R (c22 _ (Zh (yI (he1 _ (hx1 _ (Zf (he2 _ (Zf h17).symm)).symm)) R))))
   refine Zc (c20 _ (aT fun c23=>(aU (lF JY AH R R (Zb h17 fun r5 er5 h18=>(cL (B9 (er5)) R (sQ R (Zp R iL) (aZ (cI R h18 (fun h19=>?_) fun h19=>?_)))))))))
   ·refine aT fun c25=>(aF [] ?_)
    exact aR (AD R (c25 _ (Zh (yI (he1 _ (hx1 _ (Zf (he2 _ (Zf h19).symm)).symm)) R))))
   refine Zc (c23 _ (aT fun c26=>(aG [0,3,4,6,7] [4] ?_)))
   refine aR (lF Mh A3 R R (Zb h19 fun r6 er6 h20=>(cL (WZ (er6)) R (sQ R (Zp R iL) (aZ (c26 _ (cI R h20 (fun h21=>?_) fun h21=>?_)))))))
   ·refine aT fun c27=>(aF [] ?_)
    exact aR (AD R (c27 _ (Zh (yI (he1 _ (hx1 _ (Zf (he2 _ (Zf h21).symm)).symm)) R))))
   exact Zc (wK16 _ _ wk (J2 _ (AG [((i3 0)+1)]) (Zf h21).symm))
  ·have h16:=Cw hc5 hp1
   refine aT fun c28=>(aT fun c29=>(aG [0,3,4,6,7] [4] ?_))
   refine aR (lF JY AH R R (xU R (mM R (vF Mh A3 R R (vQ R (DZ R (iR R) iL) (xO R (aZ (c29 _ (cI R h16 (fun h22=>?_) fun h22=>?_)))))))))
   ·refine aT fun c30=>(aF [] ?_)
    exact aR (AD R (c30 _ (Zh (yI (he1 _ (hx1 _ (Zf (he2 _ (Zf h22).symm)).symm)) R))))
   refine Zc (c28 _ (aT fun c31=>(aU (lF MV A3 R R (Zb h22 fun r7 er7 h23=>(cL (Ml (er7)) R (sQ R (Zp R iL) (aZ (cI R h23 (fun h24=>?_) fun h24=>?_)))))))))
   ·refine aT fun c33=>(aF [] ?_)
    exact aR (AD R (c33 _ (Zh (yI (he1 _ (hx1 _ (Zf (he2 _ (Zf h24).symm)).symm)) R))))
   refine Zc (c31 _ (aT fun c34=>(aG [0,3,4,6,7] [4] ?_)))
   refine aR (lF IE A3 R R (sQ R (DZ R iL iL) (mM R (vF IE A3 R R (Zb h24 fun r8 er8 h25=>vL (fun hg=>QT (AZ er8 hg)) R (vQ R (Zp R (iR R)) (xN R (aZ (c34 _ (cI R h25 (fun h26=>?_) fun h26=>?_))))))))))
   ·refine aT fun c35=>(aF [] ?_)
    exact aR (AD R (c35 _ (Zh (yI (he1 _ (hx1 _ (Zf (he2 _ (Zf h26).symm)).symm)) R))))
   exact Zc (wK16 _ _ wk (J2 _ (AG [((i3 0)+1)]) (Zf h26).symm))
 exact Zk (wK2 _ _ wk (J1 _ (AG [(i3 0)]) (xH hx1 h3)))
theorem Wh {n1 r} (h:Ju n1=some r):AX Tryz.prog 42 (FX n1) (rI r):=by
 unfold Ju at h
 refine mF Tryz.func42 Tryz.ntmps42 R fun n0=>aU (sS R (Zu (cs:=(Ao n1)) 1 R iL R R) (AD R (aT fun c2=>(aU (lF B7 AH R R (Zb h fun r1 er1 h1=>(cL (B9 (er1)) R (sQ R (Zp R iL) (aZ (cI R h1 (fun h2=>?_) fun h2=>?_))))))))))
 ·exact zI h2 R id
 refine Zc (c2 _ (aT fun c5=>(aU (lF Bg AH R R (Zb h2 fun r2 er2 h3=>(cL (B9 (er2)) R (sQ R (Zp R iL) (mM R (vF B7 AH R R (vQ R (Zq R (iR R) iL) (vQ R (Zd R (iR R)) (wQ R (fB R Bg iL fR R) (wQ R (Zg (a:=rI n1.Kind) R AH (iR R) R R) (wQ R (Ba R (iR R) iL) (vQ R (A6 R (iR R) (iR R)) (xO R (mM R (vF B7 AH R R (vQ R (Ba R (iR R) iL) (vQ R (Zd R (iR R)) (wQ R (fB R Bg iL fR R) (wQ R (Zg (a:=rI n1.Kind) R AH (iR R) R R) (wQ R (Zq R (iR R) iL) (vQ R (A6 R (iR R) (iR R)) (xO R (aZ (cI R h3 (fun h4=>?_) fun h4=>?_)))))))))))))))))))))))))))
 ·exact zI h4 R id
 refine Zc (c5 _ (aT fun c8=>(aT fun c9=>(aG [1] [1] ?_))))
 refine aR (lF Fv Bu R R (Zb h4 fun e1 ee1 h5=>(cL (OE (ee1)) R (AD R (c9 _ (AI R (xU R (aZ (cI R h5 (fun h6=>?_) fun h6=>?_)))))))))
 ·exact AI R (AD R (Zh (yI h6 R)))
 refine Zc (c8 _ (aU (lF Bg AH R R (Zb h6 fun r3 er3 h7=>(cL (NE (er3)) R (mM R (vF Bg AH R R (Zb h7 fun r4 er4 h8=>vL (fun hg=>TL (AZ er4 hg)) R (xO R (AD R (aT fun c13=>(aT fun c14=>(aG [1,4] [1] ?_)))))))))))))
 refine aR (lF DV Dn R R (xL BD R (sQ R (BB R iL iL) (mM R (vM R (vQ R (Zp R (iR R)) (xN R (mM R (vQ R (fB R DC iL fR R) (vQ R (FS (ds:=(Bj n1.Grid)) R El (iR R) R R R) (Zb h8 fun r5 er5 h9=>vL (fun hg=>Tz (AZ er5 hg)) R (vQ R (Zp R (iR R)) (vQ R (Zd R (iR R)) (wQ R (fB R Bg iL fR R) (wQ R (Zg (a:=rI n1.Kind) R AH (iR R) R R) (Zb h9 fun r6 er6 h10=>AK.stepW (.two R R R) R R (DY (r:=rB r6) (caps:=[]) (bs:=[rI n1.Kind]) R iL R ⟨⟨_,(iR R),.d R⟩,Za⟩ (fun hg=>P6 (AZ er6 hg)) R) (wQ R (Zp R (iR R)) (vQ R (A6 R (iR R) (iR R)) (xO R (mM R (vF D5 Ef R R (vQ R (Cs R CI.slice (iR R)) (vQ R (BB R (iR R) iL) (vQ R (Zd R (iR R)) (wQ R (fB R Bg iL fR R) (wQ R (Zg (a:=rI n1.Kind) R AH (iR R) R R) (Zb h10 fun r7 er7 h11=>AK.stepW (.two R R R) R R (DY (r:=rB r7) (caps:=[]) (bs:=[rI n1.Kind]) R iL R ⟨⟨_,(iR R),.d R⟩,Za⟩ (fun hg=>WE (AZ er7 hg)) R) (wQ R (Zp R (iR R)) (vQ R (A6 R (iR R) (iR R)) (xO R (aZ (c14 _ (cI R h11 (fun h12=>?_) fun h12=>?_)))))))))))))))))))))))))))))))))
 ·exact zI h12 R id
 refine Zc (c13 _ (aT fun c16=>(aT fun c17=>(aG [1,4] [1] ?_))))
 refine Af R (aZ (c17 _ (cI R h12 (fun h13=>?_) fun h13=>?_)))
 ·refine aT fun c18=>?_
  refine Zv Az (by kernel_rfl) ?_
  exact qP R (fB R DV iL fR R) (qP R (Zg (a:=qd n1.Flow) R Dn iL R R) (qP R (fB R Bg iL fR R) (qP R (Zg (a:=rI n1.Kind) R AH iL R R) (D0 R R R (r:=rB r3) (caps:=[]) (bs:=[rI n1.Kind]) R iL R ⟨⟨_,iL,.d R⟩,Za⟩ (fun _=>NE (er3)) R (Zb h13 fun r9 er9 h14=>D0 R R R (r:=rI r9) (caps:=[]) (bs:=[qd n1.Flow,rB r3]) R iL R ⟨⟨_,iL,.d R⟩,⟨_,iL,.d R⟩,Za⟩ (fun _=>X2 (er9)) R (qP R (Co R iL) (AQ.nil (c18 _ (Zh (yI h14 R))))))))))
 refine Zc (c16 _ (aT fun c19=>(aU (lF Bg AH R R (Zb h13 fun r10 er10 h15=>(cL (P6 (er10)) R (aZ (cI R h15 (fun h16=>?_) fun h16=>?_))))))))
 ·refine aT fun c21=>(aU (sQ R (fB R DC iL fR R) (sQ R (FS (ds:=(Bj n1.Grid)) R El iL R R R) (Zb h16 fun e2 ee2 h17=>(cL (VH (ee2)) R (AD R (AI R (xU R (aZ (cI R h17 (fun h18=>?_) fun h18=>?_))))))))))
  ·refine aT fun c24=>(aF [5] ?_)
   exact Af R (AD R (c24 _ (Zh (yI h18 R))))
  refine Zc (c21 _ (aT fun c25=>(aG [1] [1] ?_)))
  exact aR (lF Bg AH R R (sQ R (fB R DC iL fR R) (lF Ci C0 R R (Zb h18 fun r11 er11 h19=>(cL (UZ (er11)) R (AD R (c25 _ (Zh (yI h19 R)))))))))
 exact Zc (c19 _ (aU (lF D5 Ef R R (Zb h16 fun r12 er12 h20=>(cL (UJ (er12)) R (AD R (Zh (yI h20 R))))))))
theorem UB {n1 r} (h:J9 n1=some r):AX Tryz.prog 44 (FX n1) (.r (.sl (r.map (AL .i64)))):=by
 unfold J9 at h
 refine mF Tryz.func44 Tryz.ntmps44 R fun n0=>aU (sS R (Zu (cs:=(Ao n1)) 1 R iL R R) (AD R (aU (AD R (aS fun K3 c3 wK3=>(aU (lF DV Dn R R (xL BD R (mM R (aZ (Ze (BL h fun o1 hit1 hk1=>?_))))))))))))
 have J1 : ∀ (out4:List Int) (i5:NN),o1=out4→K3 ⟨[(1,pT 1 n0),(3,.own 5003 (i5 0))],(Ij n0 n1 (i5 0) (out4.map (AL .i64))),(i5 1),56⟩:=by
  intro out4 i5 e
  have h1:=hk1 _ e
  refine c3 _ (aS fun K5 c5 wK5=>(aU (sQ R (fB R DC iL fR R) (lF Ci C0 R R (xL BO R (mM R (aZ (Ze (BL h1 fun o2 hit2 hk2=>?_)))))))))
  have J2 : ∀ (out8:List Int) (i10:NN),o2=out8→K5 ⟨[(3,.own 5003 (i10 0))],(FZ (i10 0) (out8.map (AL .i64))),(i10 1),56⟩:=by
   intro out8 i10 e
   have h2:=hk2 _ e
   exact c5 _ (AI R (AD R (Zh (Db (P:=Tryz.prog) (fun (r:(List Int))=>.r (.sl (r.map (AL .i64)))) h2 iL (.t (.one (.own R)))))))
  refine Cu (fun (x5:Int) (out6:List Int) i8=>⟨[(1,pT 1 n0),(3,.own 5003 (i8 0)),(32,rL n1.Grid.Cells),(33,rI x5)],(Ij n0 n1 (i8 0) (out6.map (AL .i64))),(i8 1),56⟩) (AG [(i5 0),(i5 1)]) hit2 wk ?_
  intro x5 out6 i8 v1 hv1 hx2
  have h3:MZ n1 x5 out6=some v1:=hv1; unfold MZ at h3
  refine aU (xS R (Ak fun c9=>(cI R h3 (fun h4=>?_) fun h4=>?_)))
  ·refine Zc (c9 _ (aS fun K10 c10 wK10=>(Ze (BL h4 fun p1 hp1 hk3=>?_))))
   have J3 : ∀ (out9:List Int) (i11:NN),p1=out9→K10 ⟨[(1,pT 1 n0),(3,.own 5003 (i11 0)),(32,rL n1.Grid.Cells),(33,rI x5)],(Ij n0 n1 (i11 0) (out9.map (AL .i64))),(i11 1),56⟩:=by
    intro out9 i11 e
    have h5:=hk3 _ e
    exact c10 _ (aR (Zb h5 fun x7 ex7 h6=>(xA R ex7 (mM R (Zi (CF.mk h6 (AG [(i11 0),(i11 1)]) wk))))))
   refine AI R (AD R (aU (sQ R (fB R DC iL fR R) (lF Ci C0 R R (mM R (Zb hp1 fun x8 ex8 h7=>(xI BO R ex8 (sQ R (Zn R DS iL) (xV (.int .i64 x8.Ref) AH R (xU R (aZ (cI R h7 (fun h8=>?_) fun h8=>?_))))))))))))
   ·refine aG [1,3,5,32,33] [1,5003] ?_
    exact Af R (sQ R (fB R DC iL fR R) (lF Ci C0 R R (mM R (xI BO R ex8 (sQ R (Zn R DS iL) (xV (.int .i64 x8.Ref) AH R (sS R (Br 52 R A2 (f:=(AL .i64)) (l:=([x8.Ref]:List Int)) ⟨R,⟨_,iL,R⟩,Za⟩ R (fun _=>R) R) (Zb h8 fun out10 eout10 h9=>(sS R (Dm R A2 iL R (.inr (.inl ⟨_,_,iL,R⟩)) eout10) (mA R (Zi (wK10 _ _ wk (J3 _ (AG [((i8 1)+1),((i8 1)+2)]) (Zf h9).symm)))))))))))))
   exact Zc (wK10 _ _ wk (J3 _ (AG [(i8 0),(i8 1)]) (Zf h8).symm))
  exact Zk (wK5 _ _ wk (J2 _ (AG [(i8 0),(i8 1)]) (xH hx2 h4)))
 refine Cu (fun (x2:Int) (out2:List Int) i3=>⟨[(1,pT 1 n0),(3,.own 5003 (i3 0)),(8,rL n1.Flow),(9,rI x2)],(Ij n0 n1 (i3 0) (out2.map (AL .i64))),(i3 1),56⟩) (AG [(n0+1),(n0+2)]) hit1 (Zs (Zs (HK 3 5003 3 1 (by decide) R) (by exact Ac.cv (e':=[(0,.agg (Ao n1)),(1,pT 1 n0),(2,cZ),(3,.own 5003 (n0+1)),(6,.ptr 1 n0 0 3),(7,qd n1.Flow),(8,rL n1.Flow),(9,rI 0)]) (h':=(Ij n0 n1 (n0+1) (([]:List Int).map (AL .i64)))) ⟨jL,jL,jL,jL,jL,jL,jL,jL,Za⟩ ⟨.inl R,.inl R,Za⟩ nL)) wk) ?_
 intro x2 out2 i3 v2 hv2 hx1
 have h10:Lu n1 x2 out2=some v2:=hv2; unfold Lu at h10
 refine aU (xS R (Ak fun c14=>(cI R h10 (fun h11=>?_) fun h11=>?_)))
 ·refine Zc (c14 _ (aS fun K15 c15 wK15=>(Ze (BL h11 fun p2 hp2 hk4=>?_))))
  have J4 : ∀ (out11:List Int) (i12:NN),p2=out11→K15 ⟨[(1,pT 1 n0),(3,.own 5003 (i12 0)),(8,rL n1.Flow),(9,rI x2)],(Ij n0 n1 (i12 0) (out11.map (AL .i64))),(i12 1),56⟩:=by
   intro out11 i12 e
   have h12:=hk4 _ e
   exact c15 _ (aR (Zb h12 fun x9 ex9 h13=>(xA R ex9 (mM R (Zi (CF.mk h13 (AG [(i12 0),(i12 1)]) wk))))))
  refine AI R (AD R (aU (lF DV Dn R R (mM R (Zb hp2 fun x10 ex10 h14=>(xI BD R ex10 (sQ R (Zn R CA iL) (xV (.int .i64 x10.Ref) AH R (xU R (aZ (cI R h14 (fun h15=>?_) fun h15=>?_)))))))))))
  ·refine aG [1,3,4,8,9] [1,5003] ?_
   exact Af R (lF DV Dn R R (mM R (xI BD R ex10 (sQ R (Zn R CA iL) (xV (.int .i64 x10.Ref) AH R (sS R (Br 26 R A2 (f:=(AL .i64)) (l:=([x10.Ref]:List Int)) ⟨R,⟨_,iL,R⟩,Za⟩ R (fun _=>R) R) (Zb h15 fun out12 eout12 h16=>(sS R (Dm R A2 iL R (.inr (.inl ⟨_,_,iL,R⟩)) eout12) (mA R (Zi (wK15 _ _ wk (J4 _ (AG [((i3 1)+1),((i3 1)+2)]) (Zf h16).symm))))))))))))
  exact Zc (wK15 _ _ wk (J4 _ (AG [(i3 0),(i3 1)]) (Zf h15).symm))
 exact Zk (wK3 _ _ wk (J1 _ (AG [(i3 0),(i3 1)]) (xH hx1 h11)))
theorem O8 {d1 i r} (h:Hg d1 i=some r):AX Tryz.prog 30 [.agg [qe d1.Nodes],rI i] (rI r):=by
 unfold Hg at h
 refine mF Tryz.func30 Tryz.ntmps30 R fun n0=>aU (sS R (Zu (cs:=[qe d1.Nodes]) 2 R iL R R) (AD R (aS fun K2 c2 wK2=>(aU (lF Bh Bl R R (xL BK R (mM R (aZ (Ze (Aw h fun o1 hit1 hk1 he1=>?_))))))))))
 have J1 : ∀ (u2:Unit) (i5:NN),o1 = .nrm u2→K2 ⟨[],[],(i5 0),22⟩:=by
  intro u2 i5 e
  have h1:=hk1 _ e
  exact c2 _ (zI h1 R id)
 refine Zo (fun (x2:Int) i3=>⟨[(1,rI i),(2,pT 2 n0),(8,rL d1.Nodes),(9,rI x2)],[bX 2 n0 34 [qe d1.Nodes]],(i3 0),22⟩) (AG [(n0+1)]) hit1 wk ?_
 intro x2 i3 v1 hv1 hx1
 have h2:Kp d1 i x2=some v1:=hv1; unfold Kp at h2
 refine aU (xS R (Ak fun c6=>(cI R h2 (fun h3=>?_) fun h3=>?_)))
 ·refine Zc (c6 _ (aT fun c7=>(Ze (AI R (AD R (aU (lF Bh Bl R R (mM R (Zb h3 fun x4 ex4 h4=>(xI BK R ex4 (sQ R (Zn R B7 iL) (xV (.int .i64 x4.ID) AH R (mM R (xQ R (aZ (cI R h4 (fun h5=>?_) fun h5=>?_))))))))))))))))
  ·refine aT fun c10=>(aF [5] ?_)
   exact Af R (AD R (c10 _ (Zh (yI (he1 _ (xH hx1 h5)) R))))
  refine Zc (c7 _ (aG [1,2,8,9] [2] ?_))
  exact aR (Zb h5 fun x5 ex5 h6=>(xA R ex5 (mM R (Zi (Zm h6 (AG [(i3 0)]) wk)))))
 exact Zk (wK2 _ _ wk (J1 _ (AG [(i3 0)]) (xH hx1 h3)))
theorem UI {p k r} (h:Kh p k=some r):AX Tryz.prog 76 [rI p,rI k] (rB r):=by
 unfold Kh at h
 refine mF Tryz.func76 Tryz.ntmps76 R fun n0=>aU (AD R (aT fun c2=>(AI R (aZ (Ze (aS fun K4 c4 wK4=>(aU (xQ R (AD R (BL h fun p1 hp1 hk1=>?_))))))))))
 have J1 : ∀ (x1:Bool) (i1:NN),p1=x1→K4 ⟨[(0,rI p),(5,rI k),(6,rB x1)],[],(i1 0),51⟩:=by
  intro x1 i1 e
  have h1:=hk1 _ e
  refine c4 _ (cI R h1 (fun h2=>?_) fun h2=>?_)
  ·exact AI R (xQ R (AD R (Zh (yB h2 R))))
  refine aU (xQ R (AD R (cI R h2 (fun h3=>?_) fun h3=>?_)))
  ·exact AI R (xQ R (mM R (vM R (vQ R (Zq R (iR R) iL) (xO R (mM R (vM R (vQ R (Zq R (iR R) iL) (xO R (AD R (Zh (yB h3 R))))))))))))
  refine aU (xQ R (AD R (cI R h3 (fun h4=>?_) fun h4=>?_)))
  ·exact AI R (xQ R (AD R (Zh (yB h4 R))))
  refine aU (xQ R (AD R (cI R h4 (fun h5=>?_) fun h5=>?_)))
  ·exact AI R (xQ R (mM R (vM R (vQ R (Zq R (iR R) iL) (xO R (AD R (Zh (yB h5 R))))))))
  refine aU (xQ R (AD R (cI R h5 (fun h6=>?_) fun h6=>?_)))
  ·refine aT fun c14=>(aF [0] ?_)
   exact Af R (Zb h6 fun r1 er1 h7=>(cL (NE (er1)) R (AD R (c14 _ (Zh (yB h7 R))))))
  refine aT fun c15=>(aF [0,5] ?_)
  refine aR (xQ R (AD R (c15 _ (cI R h6 (fun h8=>?_) fun h8=>?_))))
  ·exact AI R (xQ R (AD R (Zh (yB h8 R))))
  refine aS fun K17 c17 wK17=>(aU (xQ R (AD R (BL h8 fun p2 hp2 hk2=>?_))))
  have J2 : ∀ (x2:Bool) (i2:NN),p2=x2→K17 ⟨[(0,rI p),(46,rB x2)],[],(i2 0),51⟩:=by
   intro x2 i2 e
   have h9:=hk2 _ e
   refine c17 _ (cI R h9 (fun h10=>?_) fun h10=>?_)
   ·exact AI R (xQ R (AD R (Zh (yB h10 R))))
   exact Zc (c2 _ (zB h10 R id))
  refine aC R (fun hc8=>?_) (fun hc8=>?_)
  ·have h11:=C8 hc8 hp2
   exact Zc (wK17 _ _ wk (J2 _ (AG [(i1 0)]) (Zf h11).symm))
  ·have h11:=Cw hc8 hp2
   exact aR (xQ R (mA R (Zi (wK17 _ _ wk (J2 _ (AG [(i1 0)]) (Zf h11).symm)))))
 refine aC R (fun hc9=>?_) (fun hc9=>?_)
 ·have h12:=C8 hc9 hp1
  exact Zc (wK4 _ _ wk (J1 _ (AG [n0]) (Zf h12).symm))
 ·have h12:=Cw hc9 hp1
  refine aU (xQ R (AD R (cI R h12 (fun h13=>?_) fun h13=>?_)))
  ·exact Zc (wK4 _ _ wk (J1 _ (AG [n0]) (Zf h13).symm))
  refine aU (xQ R (AD R (cI R h13 (fun h14=>?_) fun h14=>?_)))
  ·exact Zc (wK4 _ _ wk (J1 _ (AG [n0]) (Zf h14).symm))
  refine aU (xQ R (AD R (cI R h14 (fun h15=>?_) fun h15=>?_)))
  ·exact Zc (wK4 _ _ wk (J1 _ (AG [n0]) (Zf h15).symm))
  exact aR (xQ R (mA R (Zi (wK4 _ _ wk (J1 _ (AG [n0]) (Zf h15).symm)))))
theorem TC {d1 k a r} (h:Ku d1 k a=some r):AX Tryz.prog 43 [.agg [qe d1.Nodes],rI k,.r (.sl (a.map (AL .i64)))] (rI r):=by
 unfold Ku at h
 refine mF Tryz.func43 Tryz.ntmps43 R fun n0=>aU (sS R (Zu (cs:=[qe d1.Nodes]) 3 R iL R R) (AD R (aS fun K2 c2 wK2=>(AI R (xL A2 R (mM R (aZ (Ze (Aw h fun o1 hit1 hk1 he1=>?_)))))))))
 have J1 : ∀ (u2:Unit) (i5:NN),o1 = .nrm u2→K2 ⟨[],[],(i5 0),32⟩:=by
  intro u2 i5 e
  have h1:=hk1 _ e
  exact c2 _ (zI h1 R id)
 refine Zo (fun (x2:Int) i3=>⟨[(1,rI k),(2,.r (.sl (a.map (AL .i64)))),(3,pT 3 n0),(10,rL a),(11,rI x2)],[bX 3 n0 34 [qe d1.Nodes]],(i3 0),32⟩) (AG [(n0+1)]) hit1 wk ?_
 intro x2 i3 v1 hv1 hx1
 have h2:He d1 k a x2=some v1:=hv1; unfold He at h2
 refine aU (xS R (Ak fun c6=>(cI R h2 (fun h3=>?_) fun h3=>?_)))
 ·refine Zc (c6 _ (aT fun c7=>(Ze (AI R (AD R (aT fun c9=>?_))))))
  refine Zv Az (by kernel_rfl) ?_
  refine qP R (Cn R CU iL R R) (qP R (Zd R iL) (qP R (Zd R iL) (Zb h3 fun x4 ex4 h4=>(qP R (Zt R A2.slice iL iL (fun _=>R) (fun _=>ex4)) (qP R (BR (d:=.int .i64 x4) R AH iL R) (Zb h4 fun k1 ek1 h5=>D0 R R R (r:=rI k1) (caps:=[]) (bs:=[.agg [qe d1.Nodes],rI x4]) R iL R ⟨⟨_,iL,.g (cs:=[.sl (d1.Nodes.map AE.row)]) R R⟩,⟨_,iL,.d R⟩,Za⟩ (fun _=>O8 (ek1)) R (qP R (Co R iL) (AQ.nil (c9 _ (aT fun c10=>(aT fun c11=>(aG [1,2,3,8,10,11] [3] ?_))))))))))))
  refine Af R (xS R (aZ (c11 _ (cI R h5 (fun h6=>?_) fun h6=>?_))))
  ·exact zI (he1 _ (xH hx1 h6)) R id
  refine Zc (c10 _ (AI R (lF Bh Bl R R (mM R (Zb h6 fun x5 ex5 h7=>(xI BK R ex5 (sQ R (Zn R Bg iL) (xV (.int .i64 x5.Kind) AH R (Zb h7 fun r1 er1 h8=>(cL (UI (er1)) R (sQ R (Zp R iL) (aZ (cI R h8 (fun h9=>?_) fun h9=>?_)))))))))))))
  ·exact zI (he1 _ (xH hx1 h9)) R id
  refine Zc (c7 _ (aG [1,2,3,10,11] [3] ?_))
  exact aR (Zb h9 fun x6 ex6 h10=>(xA R ex6 (mM R (Zi (Zm h10 (AG [(i3 0)]) wk)))))
 exact Zk (wK2 _ _ wk (J1 _ (AG [(i3 0)]) (xH hx1 h3)))
theorem Vq {d1 r} (h:IV d1=some r):AX Tryz.prog 29 [.agg [qe d1.Nodes]] (rI r):=by
 unfold IV at h
 refine mF Tryz.func29 Tryz.ntmps29 R fun n0=>aU (sS R (Zu (cs:=[qe d1.Nodes]) 1 R iL R R) (AD R (aT fun c2=>(aU (lF Bh Bl R R (xL BK R (xQ R (aZ (cI R h (fun h1=>?_) fun h1=>?_)))))))))
 ·exact zI h1 R id
 refine Zc (c2 _ (aS fun K5 c5 wK5=>(aU (lF Bh Bl R R (xL BK R (mM R (aZ (Ze (Aw h1 fun o1 hit1 hk1 he1=>?_)))))))))
 have J1 : ∀ (u2:Unit) (i5:NN),o1 = .nrm u2→K5 ⟨[(1,pT 1 n0)],(EE n0 (qe d1.Nodes)),(i5 0),81⟩:=by
  intro u2 i5 e
  have h2:=hk1 _ e
  refine c5 _ (aS fun K7 c7 wK7=>(aU (lF Bh Bl R R (xL BK R (mM R (aZ (Ze (Aw h2 fun o2 hit2 hk2 he2=>?_))))))))
  have J2 : ∀ (u4:Unit) (i10:NN),o2 = .nrm u4→K7 ⟨[],[],(i10 0),81⟩:=by
   intro u4 i10 e
   have h3:=hk2 _ e
   exact c7 _ (zI h3 R id)
  refine Zo (fun (x5:Int) i8=>⟨[(1,pT 1 n0),(59,rL d1.Nodes),(60,rI x5)],(EE n0 (qe d1.Nodes)),(i8 0),81⟩) (AG [(i5 0)]) hit2 wk ?_
  intro x5 i8 v1 hv1 hx2
  have h4:GR d1 x5=some v1:=hv1; unfold GR at h4
  refine aU (xS R (Ak fun c11=>(cI R h4 (fun h5=>?_) fun h5=>?_)))
  ·refine Zc (c11 _ (aT fun c12=>(Ze (AI R (AD R (aT fun c14=>(Zb h5 fun x7 ex7 h6=>(Zb h6 fun r1 er1 h7=>?_))))))))
   refine rP 13 [pO 63 (.agg [qe d1.Nodes]),pO 64 (pT 1 n0),pO 65 (qe d1.Nodes),pO 66 (rI x5),pO 67 (.rop (AE.row x7) 0),pO 68 (.rop (AE.row x7) 1),pO 69 (rI x7.Kind),pO 70 (pT 1 n0),pO 71 (qe d1.Nodes),pO 72 (rI x5),pO 73 (.rop (AE.row x7) 0),pO 74 (.agg (Ao x7)),pO 75 (.r (.sl (r1.map (AL .i64))))] Az R (by exact ⟨oB [(1,pT 1 n0)] (EE n0 (qe d1.Nodes)) (Cn R CU (.inl R) R R),oB [(1,pT 1 n0)] (EE n0 (qe d1.Nodes)) (fB R Bh (.inl R) (fun _=>R) R),oB [(64,pT 1 n0)] (EE n0 (qe d1.Nodes)) (Zg (a:=qe d1.Nodes) R Bl (.inl R) R R),oB [(5,rI x5)] [] (Zd R (.inl R)),oB [(65,qe d1.Nodes),(66,rI x5)] [] (Zt R BK.slice (.inl R) (.inl R) (fun _=>R) (fun _=>ex7)),oB [(67,.rop (AE.row x7) 0)] [] (Zn R Bg (.inl R)),oB [(68,.rop (AE.row x7) 1)] [] (BR (d:=.int .i64 x7.Kind) R AH (.inl R) R),oB [(1,pT 1 n0)] (EE n0 (qe d1.Nodes)) (fB R Bh (.inl R) (fun _=>R) R),oB [(70,pT 1 n0)] (EE n0 (qe d1.Nodes)) (Zg (a:=qe d1.Nodes) R Bl (.inl R) R R),oB [(5,rI x5)] [] (Zd R (.inl R)),oB [(71,qe d1.Nodes),(72,rI x5)] [] (Zt R BK.slice (.inl R) (.inl R) (fun _=>R) (fun _=>ex7)),oB [(73,.rop (AE.row x7) 0)] [] (BV (cs:=(Ao x7)) R CG (.inl R) R R),oD (fun _=>[(74,.agg (Ao x7))]) (fun _=>[]) (fun G1 e h' n=>Dp (r:=.r (.sl (r1.map (AL .i64)))) (caps:=[]) (bs:=(FX x7)) R (.inl R) R ⟨.inl ⟨(.inl R),R⟩,Za⟩ (fun _=>UB (er1))),Za⟩) fun G1 n1=>?_
   refine BJ [1,5,59,60,61,62,63,64,65,66,67,68,69,70,71,72,73,74,75] [1] ?_
   refine Zb h7 fun e1 ee1 h8=>(cL (TC (ee1)) R (AD R (c14 _ (aT fun c15=>(aG [1,6,59,60] [1] ?_)))))
   refine Af R (xU R (aZ (c15 _ (cI R h8 (fun h9=>?_) fun h9=>?_))))
   ·exact AI R (AD R (Zh (yI (he2 _ (xH hx2 h9)) R)))
   exact Zc (c12 _ (aR (Zb h9 fun x8 ex8 h10=>(xA R ex8 (mM R (Zi (Zm h10 (AG [n1]) wk)))))))
  exact Zk (wK7 _ _ wk (J2 _ (AG [(i8 0)]) (xH hx2 h5)))
 refine Zo (fun (x2:Int) i3=>⟨[(1,pT 1 n0),(13,rL d1.Nodes),(14,rI x2)],(EE n0 (qe d1.Nodes)),(i3 0),81⟩) (AG [(n0+1)]) hit1 wk ?_
 intro x2 i3 v2 hv2 hx1
 have h11:Hb d1 x2=some v2:=hv2; unfold Hb at h11
 refine aU (xS R (Ak fun c18=>(cI R h11 (fun h12=>?_) fun h12=>?_)))
 ·refine Zc (c18 _ (aT fun c19=>(Ze (AI R (AD R (aT fun c21=>(aU (lF Bh Bl R R (mM R (Zb h12 fun x9 ex9 h13=>(xI BK R ex9 (xB ((Ao x9)) CG R (Zb h13 fun e2 ee2 h14=>(cL (Wh (ee2)) R (AD R (AI R (xU R (aZ (cI R h14 (fun h15=>?_) fun h15=>?_)))))))))))))))))))
  ·refine aT fun c24=>(aF [4] ?_)
   exact Af R (AD R (c24 _ (Zh (yI (he1 _ (xH hx1 h15)) R))))
  refine Zc (c21 _ (aT fun c25=>(aG [1,3,13,14] [1] ?_)))
  refine Zv Az (by kernel_rfl) ?_
  refine qP R (Zd R iL) (qP R (Zq R iL iL) (qP R (Zd R iL) (qO R (fB R Bh iL fR R) (qO R (Zg (a:=qe d1.Nodes) R Bl (iR R) R R) (Zb h15 fun x10 ex10 h16=>qO R (Zt R BK.slice (iR R) iL (fun _=>R) (AZ ex10)) (qO R (Zn R B7 (iR R)) (qO R (BR (d:=.int .i64 x10.ID) R AH (iR R) R) (qO R (Ba R (iR R) iL) (qP R (A6 R iL (iR R)) (qP R (Zd R iL) (qO R (Zd R iL) (qO R (BB R (iR R) iL) (qO R (Zd R (iR R)) (qT R (fB R Bh iL fR R) (qT R (Zg (a:=qe d1.Nodes) R Bl (iR R) R R) (qT R (Zd R iL) (qT R (Zt R BK.slice (iR R) (iR R) (fun _=>R) (fun _=>ex9)) (qT R (Zn R B7 (iR R)) (qT R (BR (d:=.int .i64 x9.ID) R AH (iR R) R) (qT R (fB R Bh iL fR R) (qT R (Zg (a:=qe d1.Nodes) R Bl (iR R) R R) (qT R (Zd R iL) (Zb h16 fun x11 ex11 h17=>qT R (BT R (iR R) iL (AZ ex11)) (Zb h17 fun x12 ex12 h18=>qT R (Zt R BK.slice (iR R) (iR R) (fun _=>R) (AZ ex12)) (qT R (Zn R B7 (iR R)) (qT R (BR (d:=.int .i64 x12.ID) R AH (iR R) R) (qT R (DW R (iR R) (iR R)) (qO R (A6 R (iR R) (iR R)) (qP R (Bp R iL (iR R)) (AQ.nil (c25 _ (cI R h18 (fun h19=>?_) fun h19=>?_))))))))))))))))))))))))))))))))
  ·exact zI (he1 _ (xH hx1 h19)) R id
  exact Zc (c19 _ (aR (Zb h19 fun x13 ex13 h20=>(xA R ex13 (mM R (Zi (Zm h20 (AG [(i3 0)]) wk)))))))
 exact Zk (wK5 _ _ wk (J1 _ (AG [(i3 0)]) (xH hx1 h12)))
theorem W4 {n a d1 p1 r} (h:KV n a d1 p1=some r):AX Tryz.prog 7 [.r (.sl (n.map As)),rS a,.agg [qe d1.Nodes],.r (.sl (p1.map (AL .i64)))] (rI r):=by
 unfold KV at h
 refine mF Tryz.func7 Tryz.ntmps7 R fun n0=>aU (sS R (Zu (cs:=[qe d1.Nodes]) 6 R iL R R) (AD R (aT fun c2=>(AI R (Zb h fun r1 er1 h1=>(cL (Ml (er1)) R (sQ R (Zp R iL) (aZ (cI R h1 (fun h2=>?_) fun h2=>?_)))))))))
 ·exact zI h2 R id
 refine Zc (c2 _ (aT fun c5=>(aU (xC CU R (Zb h2 fun e1 ee1 h3=>(cL (Vq (ee1)) R (AD R (AI R (xU R (aZ (cI R h3 (fun h4=>?_) fun h4=>?_)))))))))))
 ·refine aT fun c8=>(aF [9] ?_)
  exact Af R (AD R (c8 _ (Zh (yI h4 R))))
 refine Zc (c5 _ (aS fun K9 c9 wK9=>(aT fun c10=>(aF [0,1,3] ?_))))
 refine Af R (xL A2 R (mM R (aZ (c10 _ (Ze (Aw h4 fun o1 hit1 hk1 he1=>?_))))))
 have J1 : ∀ (u2:Unit) (i5:NN),o1 = .nrm u2→K9 ⟨[(0,.r (.sl (n.map As))),(1,rS a)],[],(i5 0),62⟩:=by
  intro u2 i5 e
  have h5:=hk1 _ e
  refine c9 _ (aS fun K11 c11 wK11=>(AI R (xL Cf R (mM R (aZ (Ze (Aw h5 fun o2 hit2 hk2 he2=>?_)))))))
  have J2 : ∀ (u4:Unit) (i10:NN),o2 = .nrm u4→K11 ⟨[],[],(i10 0),62⟩:=by
   intro u4 i10 e
   have h6:=hk2 _ e
   exact c11 _ (zI h6 R id)
  refine Zo (fun (x5:Int) i8=>⟨[(0,.r (.sl (n.map As))),(1,rS a),(51,rL n),(52,rI x5)],[],(i8 0),62⟩) (AG [(i5 0)]) hit2 wk ?_
  intro x5 i8 v1 hv1 hx2
  have h7:GP n a x5=some v1:=hv1; unfold GP at h7
  refine aU (xS R (Ak fun c15=>(cI R h7 (fun h8=>?_) fun h8=>?_)))
  ·refine Zc (c15 _ (aT fun c16=>(Ze (AI R (AD R (AI R (mM R (Zb h8 fun x7 ex7 h9=>(xI Cf R ex7 (xV (.str x7) A3 R (mM R (sQ R (Ec R iL iL) (aZ (cI R h9 (fun h10=>?_) fun h10=>?_))))))))))))))
   ·exact zI (he2 _ (xH hx2 h10)) R id
   refine Zc (c16 _ (aF [0,1,51,52] ?_))
   exact aR (Zb h10 fun x8 ex8 h11=>(xA R ex8 (mM R (Zi (Zm h11 (AG [(i8 0)]) wk)))))
  exact Zk (wK11 _ _ wk (J2 _ (AG [(i8 0)]) (xH hx2 h8)))
 refine Zo (fun (x2:Int) i3=>⟨[(0,.r (.sl (n.map As))),(1,rS a),(3,.r (.sl (p1.map (AL .i64)))),(22,rL p1),(23,rI x2)],[],(i3 0),62⟩) (AG [(n0+1)]) hit1 wk ?_
 intro x2 i3 v2 hv2 hx1
 have h12:Io n p1 x2=some v2:=hv2; unfold Io at h12
 refine aU (xS R (Ak fun c21=>(cI R h12 (fun h13=>?_) fun h13=>?_)))
 ·refine Zc (c21 _ (aS fun K22 c22 wK22=>(Ze (AI R (AD R (aT fun c24=>(AI R (mM R (Zb h13 fun x9 ex9 h14=>(xI A2 R ex9 (xV (.int .i64 x9) AH R (mM R (xL Cf R (Zb h14 fun x10 ex10 h15=>(sQ R (BT R iL iL (fun _=>ex10)) (Zb h15 fun r2 er2 h16=>(cL (B9 (er2)) R (sQ R (Zp R iL) (aZ (cI R h16 (fun h17=>?_) fun h17=>?_))))))))))))))))))))
  ·exact zI (he1 _ (xH hx1 h17)) R id
  refine Zc (c24 _ (aT fun c27=>(aF [0,1,3,10,22,23] ?_)))
  refine Af R (mM R (aZ (c27 _ (Ze (Aw h17 fun o3 hit3 hk3 he3=>?_)))))
  have J3 : ∀ (u6:Unit) (i15:NN),o3 = .nrm u6→K22 ⟨[(0,.r (.sl (n.map As))),(1,rS a),(3,.r (.sl (p1.map (AL .i64)))),(22,rL p1),(23,rI x2)],[],(i15 0),62⟩:=by
   intro u6 i15 e
   have h18:=hk3 _ e
   exact c22 _ (aR (Zb h18 fun x14 ex14 h19=>(xA R ex14 (mM R (Zi (Zm h19 (AG [(i15 0)]) wk))))))
  refine Zo (fun (x12:Int) i13=>⟨[(0,.r (.sl (n.map As))),(1,rS a),(3,.r (.sl (p1.map (AL .i64)))),(10,rI x2),(22,rL p1),(23,rI x2),(35,rI x2),(36,rI x12)],[],(i13 0),62⟩) (AG [(i3 0)]) hit3 wk ?_
  intro x12 i13 v3 hv3 hx3
  have h20:HT p1 x2 x9 x12=some v3:=hv3; unfold HT at h20
  refine aU (xS R (Ak fun c29=>(cI R h20 (fun h21=>?_) fun h21=>?_)))
  ·refine Zc (c29 _ (aT fun c30=>(Ze (AI R (AD R (aT fun c32=>?_))))))
   refine Zv Az (by kernel_rfl) ?_
   refine qP R (Zd R iL) (qP R (Zd R iL) (Zb h21 fun x15 ex15 h22=>(qP R (Zt R A2.slice iL iL (fun _=>R) (fun _=>ex15)) (qP R (BR (d:=.int .i64 x15) R AH iL R) (qP R (Zd R iL) (qP R (Zd R iL) (qP R (Zt R A2.slice iL iL (fun _=>R) (fun _=>ex9)) (qP R (BR (d:=.int .i64 x9) R AH iL R) (qP R (Zq R iL iL) (AQ.nil (c32 _ (cI R h22 (fun h23=>?_) fun h23=>?_))))))))))))
   ·refine aT fun c33=>(aF [] ?_)
    exact aR (AD R (c33 _ (Zh (yI (he1 _ (hx1 _ (Zf (he3 _ (xH hx3 h23))).symm)) R))))
   refine Zc (c30 _ (aF [0,1,3,10,22,23,35,36] ?_))
   exact aR (Zb h23 fun x16 ex16 h24=>(xA R ex16 (mM R (Zi (Zm h24 (AG [(i13 0)]) wk)))))
  exact Zk (wK22 _ _ wk (J3 _ (AG [(i13 0)]) (xH hx3 h21)))
 exact Zk (wK9 _ _ wk (J1 _ (AG [(i3 0)]) (xH hx1 h13)))
theorem WX {w1:Ah} {fl1:List AE} {r:(List (List UInt8))} {gb1000:Nat} {ga1001:Nat} {gb1002:Nat} {gw1002:Nat} {gc1002:Nat} (h:H6 w1 fl1=some r):A1 Tryz.prog 8 3 [pT 1000 gb1000] (Ad gb1000 ga1001 (w1.versions.map (AJ.row gc1002)) (.fam gb1002 gw1002 gc1002 71 (fl1.map AE.row))) (fun rr h'=>∃ (i:Nat→Nat),rr = .r (.sl (r.map As))∧h'=(Ad gb1000 ga1001 (w1.versions.map (AJ.row gc1002)) (.fam gb1002 gw1002 gc1002 71 (fl1.map AE.row)))):=by
 unfold H6 at h
 refine CR Tryz.func8 R R Tryz.ntmps8 (Zr R) fun n0=>aU (AD R (aU (AD R (aS fun K3 c3 wK3=>(AI R (sQ R (ZA (ob:=.box _ _ _) R iL fR R) (lF Cy DQ R R (sQ R (Cj R B6.slice iL R) (mM R (aZ (Ze (BL h fun o1 hit1 hk1=>?_))))))))))))
 have J1 : ∀ (out4:List (List UInt8)) (i5:NN),o1=out4→K3 ⟨[(3,.own 5003 (i5 0))],(OP gb1000 ga1001 (w1.versions.map (AJ.row gc1002)) (.fam gb1002 gw1002 gc1002 71 (fl1.map AE.row)) (i5 0) (out4.map As)),(i5 1),22⟩:=by
  intro out4 i5 e
  have h1:=hk1 _ e
  refine c3 _ (AI R (AD R ?_))
  exact Zh (BG.mk (s':=⟨[(2,.r (.sl (out4.map As)))],(Ad gb1000 ga1001 (w1.versions.map (AJ.row gc1002)) (.fam gb1002 gw1002 gc1002 71 (fl1.map AE.row))),(i5 1),22⟩) (Zs (by exact DE (e':=[(2,.r (.sl (out4.map As))),(3,.r (.sl (out4.map As))),(21,.r (.sl (out4.map As)))]) (h':=(Ad gb1000 ga1001 (w1.versions.map (AJ.row gc1002)) (.fam gb1002 gw1002 gc1002 71 (fl1.map AE.row)))) 5003 R ⟨.inl (.inr (.inr ⟨R,R⟩)),.inl (.inr (.inr ⟨R,R⟩)),.inl (.inr (.inr ⟨R,R⟩)),Za⟩ ⟨R,.inl R,R,.inl R,R,.inl R,Za⟩) wk) (Zx (fun (r:(List (List UInt8))) rr h'=>∃ (i:Nat→Nat),rr = .r (.sl (r.map As))∧h'=(Ad gb1000 ga1001 (w1.versions.map (AJ.row gc1002)) (.fam gb1002 gw1002 gc1002 71 (fl1.map AE.row)))) h1 (by exact ⟨.r (.sl (out4.map As)),(Ad gb1000 ga1001 (w1.versions.map (AJ.row gc1002)) (.fam gb1002 gw1002 gc1002 71 (fl1.map AE.row))),R,⟨.inr R,.inr R,.inr R,Za⟩,R,R,AG [],R,R⟩)))
 refine Cu (fun (x2:Int) (out2:List (List UInt8)) i3=>⟨[(3,.own 5003 (i3 0)),(9,.own 1001 ga1001),(10,rL w1.versions),(11,rI x2)],(OP gb1000 ga1001 (w1.versions.map (AJ.row gc1002)) (.fam gb1002 gw1002 gc1002 71 (fl1.map AE.row)) (i3 0) (out2.map As)),(i3 1),22⟩) (AG [n0,(n0+1)]) hit1 (Zs (Zs (HK 3 5003 9 1 (by decide) R) (by exact Ac.cv (e':=[(0,pT 1000 gb1000),(2,cZ),(3,.own 5003 n0),(6,pT 1000 gb1000),(7,pT 1000 gb1000),(8,pT 1000 gb1000),(9,.own 1001 ga1001),(10,rL w1.versions),(11,rI 0)]) (h':=(OP gb1000 ga1001 (w1.versions.map (AJ.row gc1002)) (.fam gb1002 gw1002 gc1002 71 (fl1.map AE.row)) n0 (([]:List (List UInt8)).map As))) ⟨jL,jL,jL,jL,jL,jL,jL,jL,jL,Za⟩ ⟨.inl R,.inl R,.inl R,.inl R,Za⟩ nL)) wk) ?_
 intro x2 out2 i3 v1 hv1 hx1
 have h2:In w1 x2 out2=some v1:=hv1; unfold In at h2
 refine aU (xS R (Ak fun c7=>(cI R h2 (fun h3=>?_) fun h3=>?_)))
 ·exact Zc (c7 _ (aT fun c8=>(Ze (aU (Zb h3 fun x4 ex4 h4=>(sQ R (Cb R B6.slice iL R iL (fun _=>ex4)) (sQ R (HQ (cs:=[rS x4.name,.r (.sl (x4.parents.map (AL .i64))),.r (.sl (x4.nodes.map (BM gc1002)))]) R IB iL fR (fun _=>ex4) R) (sS R (Zw (cs:=KC) 5 R LE R R) (Zl R R (Zj (ds:=[rS x4.name,.r (.sl (x4.parents.map (AL .i64))),.r (.sl (x4.nodes.map (BM gc1002)))]) R LJ iL R iL R R R R) (aZ (Af R (lF M2 A3 R R (sS R (Br 18 R Cf (f:=As) (l:=([x4.name]:List (List UInt8))) ⟨R,⟨_,iL,R⟩,Za⟩ R (fun _=>R) R) (Zb h4 fun out5 eout5 h5=>(sS R (Dm R Cf iL R (.inr (.inl ⟨_,_,iL,R⟩)) eout5) (AD R (c8 _ (aR (Zb h5 fun x5 ex5 h6=>(xA R ex5 (mM R (Zi (CF.mk h6 (AG [((i3 1)+2),((i3 1)+3)]) wk)))))))))))))))))))))))
 exact Zk (wK3 _ _ wk (J1 _ (AG [(i3 0),(i3 1)]) (xH hx1 h3)))
theorem U0 {l1 f r} (h:H5 l1 f=some r):AX Tryz.prog 10 [qg l1,.r (.sl (f.map (BE (AL .i64))))] (rI r):=by
 unfold H5 at h
 refine mF Tryz.func10 Tryz.ntmps10 R fun n0=>aU (AD R (aU (AD R (aS fun K3 c3 wK3=>(AI R (xL DA R (mM R (aZ (Ze (BL h fun o1 hit1 hk1=>?_))))))))))
 have J1 : ∀ (count4:Int) (i5:NN),o1=count4→K3 ⟨[(5,rI count4)],[],(i5 0),73⟩:=by
  intro count4 i5 e
  have h1:=hk1 _ e
  exact c3 _ (AI R (AD R (Zh (yI h1 R))))
 refine Cu (fun (count2:Int) (x2:Int) i3=>⟨[(0,qg l1),(1,.r (.sl (f.map (BE (AL .i64))))),(5,rI count2),(14,rL l1),(15,rI x2)],[],(i3 0),73⟩) (AG [n0]) hit1 wk ?_
 intro count2 x2 i3 v1 hv1 hx1
 have h2:HZ l1 f count2 x2=some v1:=hv1; unfold HZ at h2
 refine aU (xS R (Ak fun c7=>(cI R h2 (fun h3=>?_) fun h3=>?_)))
 ·refine Zc (c7 _ (aS fun K8 c8 wK8=>(Ze (AI R (AD R (AI R (mM R (Zb h3 fun x4 ex4 h4=>(xI DA R ex4 (sQ R (Zn R Bh iL) (xV (.sl (x4.Nodes.map AE.row)) Bl R (xL BK R (mM R (aZ (Ze (BL h4 fun o2 hit2 hk2=>?_))))))))))))))))
  have J2 : ∀ (count8:Int) (i10:NN),o2=count8→K8 ⟨[(0,qg l1),(1,.r (.sl (f.map (BE (AL .i64))))),(5,rI count8),(14,rL l1),(15,rI x2)],[],(i10 0),73⟩:=by
   intro count8 i10 e
   have h5:=hk2 _ e
   exact c8 _ (aR (Zb h5 fun x8 ex8 h6=>(xA R ex8 (mM R (Zi (CF.mk h6 (AG [(i10 0)]) wk))))))
  refine Cu (fun (count6:Int) (x6:Int) i8=>⟨[(0,qg l1),(1,.r (.sl (f.map (BE (AL .i64))))),(5,rI count6),(6,rI x2),(14,rL l1),(15,rI x2),(23,rL x4.Nodes),(24,rI x6)],[],(i8 0),73⟩) (AG [(i3 0)]) hit2 wk ?_
  intro count6 x6 i8 v2 hv2 hx2
  have h7:Hc l1 f x2 x4 count6 x6=some v2:=hv2; unfold Hc at h7
  refine aU (xS R (Ak fun c12=>(cI R h7 (fun h8=>?_) fun h8=>?_)))
  ·refine Zc (c12 _ (aS fun K13 c13 wK13=>(Ze (BL h8 fun p1 hp1 hk3=>?_))))
   have J3 : ∀ (count9:Int) (i11:NN),p1=count9→K13 ⟨[(0,qg l1),(1,.r (.sl (f.map (BE (AL .i64))))),(5,rI count9),(6,rI x2),(14,rL l1),(15,rI x2),(23,rL x4.Nodes),(24,rI x6)],[],(i11 0),73⟩:=by
    intro count9 i11 e
    have h9:=hk3 _ e
    exact c13 _ (aR (Zb h9 fun x9 ex9 h10=>(xA R ex9 (mM R (Zi (CF.mk h10 (AG [(i11 0)]) wk))))))
   refine AI R (AD R (AI R (mM R (xI DA R ex4 (sQ R (Zn R Bh iL) (xV (.sl (x4.Nodes.map AE.row)) Bl R (mM R (Zb hp1 fun x10 ex10 h11=>(xI BK R ex10 (xB ((Ao x10)) CG R (sS R (Zw (cs:=FJ) 8 R Il R R) (Zl R R (Zj (ds:=(Ao x10)) R Hx iL R iL R R R R) (Ak fun c16=>(aG [0,1,5,6,8,14,15,23,24] [8] ?_))))))))))))))
   refine aR (AD R (c16 _ (aS fun K17 c17 wK17=>(AI R (mM R (Zb h11 fun x11 ex11 h12=>(xI F9 R ex11 (xV (.sl (x11.map (AL .i64))) Ga R (xL A2 R (mM R (aZ (Ze (BL h12 fun o3 hit3 hk4=>?_)))))))))))))
   have J4 : ∀ (is4:Bool) (i16:NN),o3=is4→K17 ⟨[(0,qg l1),(1,.r (.sl (f.map (BE (AL .i64))))),(5,rI count6),(6,rI x2),(9,rB is4),(14,rL l1),(15,rI x2),(23,rL x4.Nodes),(24,rI x6)],[],(i16 0),73⟩:=by
    intro is4 i16 e
    have h13:=hk4 _ e
    refine c17 _ (AI R (sQ R (Zp R iL) (aZ (cI R h13 (fun h14=>?_) fun h14=>?_))))
    ·exact Af R (Zb h14 fun count10 ecount10 h15=>(xA R ecount10 (mA R (Zi (wK13 _ _ wk (J3 _ (AG [(i16 0)]) (Zf h15).symm))))))
    exact Zc (wK13 _ _ wk (J3 _ (AG [(i16 0)]) (Zf h14).symm))
   refine Cu (fun (is2:Bool) (x13:Int) i14=>⟨[(0,qg l1),(1,.r (.sl (f.map (BE (AL .i64))))),(5,rI count6),(6,rI x2),(8,pT 8 (i8 0)),(9,rB is2),(14,rL l1),(15,rI x2),(23,rL x4.Nodes),(24,rI x6),(38,.r (.sl (x11.map (AL .i64)))),(39,rL x11),(40,rI x13)],[bX 8 (i8 0) 71 (Ao x10)],(i14 0),73⟩) (AG [((i8 0)+1)]) hit3 wk ?_
   intro is2 x13 i14 v3 hv3 hx3
   have h16:Gq l1 x10 x11 is2 x13=some v3:=hv3; unfold Gq at h16
   refine aU (xS R (Ak fun c21=>(cI R h16 (fun h17=>?_) fun h17=>?_)))
   ·refine Zc (c21 _ (aS fun K22 c22 wK22=>(Ze (BL h17 fun p2 hp2 hk5=>?_))))
    have J5 : ∀ (is5:Bool) (i17:NN),p2=is5→K22 ⟨[(0,qg l1),(1,.r (.sl (f.map (BE (AL .i64))))),(5,rI count6),(6,rI x2),(8,pT 8 (i8 0)),(9,rB is5),(14,rL l1),(15,rI x2),(23,rL x4.Nodes),(24,rI x6),(38,.r (.sl (x11.map (AL .i64)))),(39,rL x11),(40,rI x13)],[bX 8 (i8 0) 71 (Ao x10)],(i17 0),73⟩:=by
     intro is5 i17 e
     have h18:=hk5 _ e
     exact c22 _ (aR (Zb h18 fun x15 ex15 h19=>(xA R ex15 (mM R (Zi (CF.mk h19 (AG [(i17 0)]) wk))))))
    refine aU (Zb hp2 fun x16 ex16 h20=>(xI A2 R ex16 (xV (.int .i64 x16) AH R (AD R (aT fun c24=>?_)))))
    refine Zv Az (by kernel_rfl) ?_
    refine qP R (Zd R iL) (qP R (Zd R iL) (Zb h20 fun x17 ex17 h21=>(qP R (Zt R DA.slice iL iL (fun _=>R) (fun _=>ex17)) (qP R (BV (cs:=[qe x17.Nodes]) R CU iL R R) (qP R (fB R B7 iL fR R) (qP R (Zg (a:=rI x10.ID) R AH iL R R) (Zb h21 fun k1 ek1 h22=>D0 R R R (r:=rI k1) (caps:=[]) (bs:=[.agg [qe x17.Nodes],rI x10.ID]) R iL R ⟨⟨_,iL,.g (cs:=[.sl (x17.Nodes.map AE.row)]) R R⟩,⟨_,iL,.d R⟩,Za⟩ (fun _=>O8 (ek1)) R (qP R (Co R iL) (AQ.nil (c24 _ (aT fun c25=>(aG [0,1,5,6,8,9,11,12,14,15,23,24,38,39,40] [8] ?_))))))))))))
    refine Zv Az (by kernel_rfl) ?_
    refine qP R (Zd R iL) (qP R (Bf R iL iL) (qP R (Zd R iL) (qO R (Zd R iL) (qO R (Zd R iL) (qO R (Zt R DA.slice (iR R) (iR R) (fun _=>R) (fun _=>ex17)) (qO R (Zn R Bh (iR R)) (qO R (BR (d:=.sl (x17.Nodes.map AE.row)) R Bl (iR R) R) (qO R (Zd R iL) (Zb h22 fun x18 ex18 h23=>qO R (Zt R BK.slice (iR R) (iR R) (fun _=>R) (AZ ex18)) (qO R (BV (cs:=(Ao x18)) R CG (iR R) R R) (qO R (Cn R CG iL R R) (Zb h23 fun r1 er1 h24=>Ff (.one R R R) R R (r:=rB r1) (caps:=[]) (bs:=[.agg (Ao x18),.agg (Ao x10)]) R iL R ⟨⟨_,(iR R),.g (cs:=[.int .i64 x18.ID,.int .i64 x18.Kind,.sl (x18.Attrs.map Ab.row),.sl (x18.Flow.map AO.row),.int .i64 x18.Grid.Rows,.int .i64 x18.Grid.Cols,.sl (x18.Grid.Cells.map Ae.row),.sl (x18.Grid.Merges.map Ag.row),.sl (x18.Draw.map Aq.row)]) R R⟩,⟨_,(iR R),.g (cs:=[.int .i64 x10.ID,.int .i64 x10.Kind,.sl (x10.Attrs.map Ab.row),.sl (x10.Flow.map AO.row),.int .i64 x10.Grid.Rows,.int .i64 x10.Grid.Cols,.sl (x10.Grid.Cells.map Ae.row),.sl (x10.Grid.Merges.map Ag.row),.sl (x10.Draw.map Aq.row)]) R R⟩,Za⟩ (fun hg=>Og (AZ er1 hg)) R (qP R (A6 R iL (iR R)) (AQ.nil (c25 _ (cI R h24 (fun h25=>?_) fun h25=>?_))))))))))))))))
    ·exact aR (mA R (Zi (wK22 _ _ wk (J5 _ (AG [(i14 0)]) (Zf h25).symm))))
    exact Zc (wK22 _ _ wk (J5 _ (AG [(i14 0)]) (Zf h25).symm))
   exact Zk (wK17 _ _ wk (J4 _ (AG [(i14 0)]) (xH hx3 h17)))
  exact Zk (wK8 _ _ wk (J2 _ (AG [(i8 0)]) (xH hx2 h8)))
 exact Zk (wK3 _ _ wk (J1 _ (AG [(i3 0)]) (xH hx1 h3)))
theorem WN {w1:Ah} {fl1:List AE} {name1:List UInt8} {r:Int × Int} {gb1000:Nat} {ga1001:Nat} {gb1002:Nat} {gw1002:Nat} {gc1002:Nat} (h:KS w1 fl1 name1=some r):A1 Tryz.prog 12 3 [pT 1000 gb1000,rS name1] (Ad gb1000 ga1001 (w1.versions.map (AJ.row gc1002)) (.fam gb1002 gw1002 gc1002 71 (fl1.map AE.row))) (fun rr h'=>∃ (i:Nat→Nat),rr = .tup [rI r.1,rI r.2]∧h'=(Ad gb1000 ga1001 (w1.versions.map (AJ.row gc1002)) (.fam gb1002 gw1002 gc1002 71 (fl1.map AE.row)))):=by
 unfold KS at h
 refine CR Tryz.func12 R R Tryz.ntmps12 (Zr R) fun n0=>aU (mA R (AD R (aS fun K2 c2 wK2=>(AI R (sQ R (ZA (ob:=.box _ _ _) R iL fR R) (lF Cy DQ R R (sQ R (Cj R B6.slice iL R) (mM R (aZ (Ze (Aw h fun o1 hit1 hk1 he1=>?_)))))))))))
 have J1 : ∀ (u2:Unit) (i5:NN),o1 = .nrm u2→K2 ⟨[],(Ad gb1000 ga1001 (w1.versions.map (AJ.row gc1002)) (.fam gb1002 gw1002 gc1002 71 (fl1.map AE.row))),(i5 0),24⟩:=by
  intro u2 i5 e
  have h1:=hk1 _ e
  refine c2 _ (aU (mA R (AD R ?_)))
  exact Zh (BG.mk (s':=⟨[(4,rI 0),(5,rI 7)],(Ad gb1000 ga1001 (w1.versions.map (AJ.row gc1002)) (.fam gb1002 gw1002 gc1002 71 (fl1.map AE.row))),(i5 0),24⟩) wk (Zx (fun (r:Int × Int) rr h'=>∃ (i:Nat→Nat),rr = .tup [rI r.1,rI r.2]∧h'=(Ad gb1000 ga1001 (w1.versions.map (AJ.row gc1002)) (.fam gb1002 gw1002 gc1002 71 (fl1.map AE.row)))) h1 (by exact ⟨.tup [rI 0,rI 7],(Ad gb1000 ga1001 (w1.versions.map (AJ.row gc1002)) (.fam gb1002 gw1002 gc1002 71 (fl1.map AE.row))),⟨_,R,⟨R,R,Za⟩⟩,⟨.inr R,.inr R,.inr R,Za⟩,R,R,AG [],R,R⟩)))
 refine Zo (fun (x2:Int) i3=>⟨[(1,rS name1),(11,.own 1001 ga1001),(12,rL w1.versions),(13,rI x2)],(Ad gb1000 ga1001 (w1.versions.map (AJ.row gc1002)) (.fam gb1002 gw1002 gc1002 71 (fl1.map AE.row))),(i3 0),24⟩) (AG [n0]) hit1 wk ?_
 intro x2 i3 v1 hv1 hx1
 have h2:H7 w1 name1 x2=some v1:=hv1; unfold H7 at h2
 refine aU (xS R (Ak fun c6=>(cI R h2 (fun h3=>?_) fun h3=>?_)))
 ·refine Zc (c6 _ (aT fun c7=>(Ze (AI R (Zb h3 fun x4 ex4 h4=>(sQ R (Cb R B6.slice iL R iL (fun _=>ex4)) (sQ R (HQ (cs:=[rS x4.name,.r (.sl (x4.parents.map (AL .i64))),.r (.sl (x4.nodes.map (BM gc1002)))]) R IB iL fR (fun _=>ex4) R) (sS R (Zw (cs:=KC) 7 R LE R R) (mA R (Zl R R (Zj (ds:=[rS x4.name,.r (.sl (x4.parents.map (AL .i64))),.r (.sl (x4.nodes.map (BM gc1002)))]) R LJ iL R iL R R R R) (FK (lF M2 A3 R R (mM R (sQ R (Ec R iL iL) (aZ (cI R h4 (fun h5=>?_) fun h5=>?_))))))))))))))))
  ·refine aT fun c10=>(aG [6] [1000,1001,1002] ?_)
   refine Af R (mA R (mA R (oZ c10 ?_)))
   exact Zh (BG.mk (s':=⟨[(4,rI x2),(5,rI 0)],(Ad gb1000 ga1001 (w1.versions.map (AJ.row gc1002)) (.fam gb1002 gw1002 gc1002 71 (fl1.map AE.row))),((i3 0)+1),24⟩) wk (Zx (fun (r:Int × Int) rr h'=>∃ (i:Nat→Nat),rr = .tup [rI r.1,rI r.2]∧h'=(Ad gb1000 ga1001 (w1.versions.map (AJ.row gc1002)) (.fam gb1002 gw1002 gc1002 71 (fl1.map AE.row)))) (he1 _ (xH hx1 h5)) (by exact ⟨.tup [rI x2,rI 0],(Ad gb1000 ga1001 (w1.versions.map (AJ.row gc1002)) (.fam gb1002 gw1002 gc1002 71 (fl1.map AE.row))),⟨_,R,⟨R,R,Za⟩⟩,⟨.inr R,.inr R,.inr R,Za⟩,R,R,AG [],R,R⟩)))
  refine Zc (c7 _ (aG [1,11,12,13] [1000,1001,1002] ?_))
  exact aR (Zb h5 fun x5 ex5 h6=>(xA R ex5 (mM R (Zi (Zm h6 (AG [((i3 0)+1)]) wk)))))
 exact Zk (wK2 _ _ wk (J1 _ (AG [(i3 0)]) (xH hx1 h3)))
theorem VB {w1:Ah} {fl1:List AE} {k1:Int} {r:(List Int) × Int} {gb1000:Nat} {ga1001:Nat} {gb1002:Nat} {gw1002:Nat} {gc1002:Nat} (h:JG w1 fl1 k1=some r):A1 Tryz.prog 13 3 [pT 1000 gb1000,rI k1] (Ad gb1000 ga1001 (w1.versions.map (AJ.row gc1002)) (.fam gb1002 gw1002 gc1002 71 (fl1.map AE.row))) (fun rr h'=>∃ (i:Nat→Nat),rr = .tup [.r (.sl (r.1.map (AL .i64))),rI r.2]∧h'=(Ad gb1000 ga1001 (w1.versions.map (AJ.row gc1002)) (.fam gb1002 gw1002 gc1002 71 (fl1.map AE.row)))):=by
 unfold JG at h
 refine CR Tryz.func13 R R Tryz.ntmps13 (Zr R) fun n0=>aU (mA R (AD R (aT fun c2=>(AI R (xS R (mM R (vM R (vM R (vQ R (ZA (ob:=.box _ _ _) R (iR R) fR R) (vQ R (fB R Cy (iR R) fR R) (vQ R (Zg (a:=.own 1001 ga1001) R DQ (iR R) R R) (vQ R (Cj R B6.slice (iR R) R) (vQ R (Bf R (iR R) (iR R)) (xO R (aZ (cI R h (fun h1=>?_) fun h1=>?_))))))))))))))))
 ·refine aT fun c4=>(aG [] [1000,1001,1002] ?_)
  refine aR (mA R (mA R (oZ c4 ?_)))
  exact Zh (BG.mk (s':=⟨[(4,.r (.sl [])),(5,rI 2)],(Ad gb1000 ga1001 (w1.versions.map (AJ.row gc1002)) (.fam gb1002 gw1002 gc1002 71 (fl1.map AE.row))),n0,26⟩) ((by exact Ac.cv ⟨.inl (.inr (.inr ⟨R,R⟩)),jL,Za⟩ ⟨.inl R,.inl R,.inl R,Za⟩ nL)) (Zx (fun (r:(List Int) × Int) rr h'=>∃ (i:Nat→Nat),rr = .tup [.r (.sl (r.1.map (AL .i64))),rI r.2]∧h'=(Ad gb1000 ga1001 (w1.versions.map (AJ.row gc1002)) (.fam gb1002 gw1002 gc1002 71 (fl1.map AE.row)))) h1 (by exact ⟨.tup [.r (.sl []),rI 2],(Ad gb1000 ga1001 (w1.versions.map (AJ.row gc1002)) (.fam gb1002 gw1002 gc1002 71 (fl1.map AE.row))),⟨_,R,⟨R,R,Za⟩⟩,⟨.inr R,.inr R,.inr R,Za⟩,R,R,AG [],R,R⟩)))
 refine Zc (c2 _ (aT fun c5=>(aG [0,1] [1000,1001,1002] ?_)))
 refine Af R (sQ R (ZA (ob:=.box _ _ _) R iL fR R) (lF Cy DQ R R (mM R (Zb h1 fun x1 ex1 h2=>(sQ R (Cb R B6.slice iL R iL (fun _=>ex1)) (sQ R (Ft (ob:=.arr _ _ _ _) R Qq iL fR R) (sQ R (GJ (d:=.sl (x1.parents.map (AL .i64))) R Ga iL fR (fun _=>ex1) R) (Zb h2 fun r1 er1 h3=>(sS R (Dp (r:=.r (.sl (r1.map (AL .i64)))) (caps:=[]) (bs:=[.r (.sl (x1.parents.map (AL .i64)))]) R iL R ⟨.inl ⟨iL,R⟩,Za⟩ (fun _=>Py (er1))) (mA R (mA R (oZ c5 ?_))))))))))))
 exact Zh (BG.mk (s':=⟨[(4,.r (.sl (r1.map (AL .i64)))),(5,rI 0)],(Ad gb1000 ga1001 (w1.versions.map (AJ.row gc1002)) (.fam gb1002 gw1002 gc1002 71 (fl1.map AE.row))),n0,26⟩) wk (Zx (fun (r:(List Int) × Int) rr h'=>∃ (i:Nat→Nat),rr = .tup [.r (.sl (r.1.map (AL .i64))),rI r.2]∧h'=(Ad gb1000 ga1001 (w1.versions.map (AJ.row gc1002)) (.fam gb1002 gw1002 gc1002 71 (fl1.map AE.row)))) h3 (by exact ⟨.tup [.r (.sl (r1.map (AL .i64))),rI 0],(Ad gb1000 ga1001 (w1.versions.map (AJ.row gc1002)) (.fam gb1002 gw1002 gc1002 71 (fl1.map AE.row))),⟨_,R,⟨R,R,Za⟩⟩,⟨.inr R,.inr R,.inr R,Za⟩,R,R,AG [],R,R⟩)))
theorem Tk {a1 b1 r} (h:Ia a1 b1=some r):AX Tryz.prog 15 [.r (.sl (a1.map (AL .i64))),.r (.sl (b1.map (AL .i64)))] (rB r):=by
 unfold Ia at h
 refine mF Tryz.func15 Tryz.ntmps15 R fun n0=>aU (AD R (aT fun c2=>(AI R (xL A2 R (mM R (xL A2 R (xU R (aZ (cI R h (fun h1=>?_) fun h1=>?_)))))))))
 ·exact zB h1 R id
 refine Zc (c2 _ (aS fun K5 c5 wK5=>(AI R (xL A2 R (mM R (aZ (Ze (Aw h1 fun o1 hit1 hk1 he1=>?_))))))))
 have J1 : ∀ (u2:Unit) (i5:NN),o1 = .nrm u2→K5 ⟨[],[],(i5 0),26⟩:=by
  intro u2 i5 e
  have h2:=hk1 _ e
  exact c5 _ (zB h2 R id)
 refine Zo (fun (x2:Int) i3=>⟨[(0,.r (.sl (a1.map (AL .i64)))),(1,.r (.sl (b1.map (AL .i64)))),(12,rL a1),(13,rI x2)],[],(i3 0),26⟩) (AG [n0]) hit1 wk ?_
 intro x2 i3 v1 hv1 hx1
 have h3:Kv a1 b1 x2=some v1:=hv1; unfold Kv at h3
 refine aU (xS R (Ak fun c9=>(cI R h3 (fun h4=>?_) fun h4=>?_)))
 ·refine Zc (c9 _ (aT fun c10=>(Ze (AI R (AD R (aT fun c12=>?_))))))
  refine Zv Az (by kernel_rfl) ?_
  refine qP R (Zd R iL) (qP R (Zd R iL) (Zb h4 fun x4 ex4 h5=>(qP R (Zt R A2.slice iL iL (fun _=>R) (fun _=>ex4)) (qP R (BR (d:=.int .i64 x4) R AH iL R) (qP R (Zd R iL) (qP R (Zd R iL) (Zb h5 fun x5 ex5 h6=>(qP R (Zt R A2.slice iL iL (fun _=>R) (fun _=>ex5)) (qP R (BR (d:=.int .i64 x5) R AH iL R) (qP R (Ba R iL iL) (AQ.nil (c12 _ (cI R h6 (fun h7=>?_) fun h7=>?_)))))))))))))
  ·exact zB (he1 _ (xH hx1 h7)) R id
  refine Zc (c10 _ (aF [0,1,12,13] ?_))
  exact aR (Zb h7 fun x6 ex6 h8=>(xA R ex6 (mM R (Zi (Zm h8 (AG [(i3 0)]) wk)))))
 exact Zk (wK5 _ _ wk (J1 _ (AG [(i3 0)]) (xH hx1 h4)))
theorem PE {w1:Ah} {fl1:List AE} {k1:Int} {r:(List Bool)} {gb1000:Nat} {ga1001:Nat} {gb1002:Nat} {gw1002:Nat} {gc1002:Nat} (h:IL w1 fl1 k1=some r):A1 Tryz.prog 33 3 [pT 1000 gb1000,rI k1] (Ad gb1000 ga1001 (w1.versions.map (AJ.row gc1002)) (.fam gb1002 gw1002 gc1002 71 (fl1.map AE.row))) (fun rr h'=>∃ (i:Nat→Nat),rr = .r (.sl (r.map Dd))∧h'=(Ad gb1000 ga1001 (w1.versions.map (AJ.row gc1002)) (.fam gb1002 gw1002 gc1002 71 (fl1.map AE.row)))):=by
 unfold IL at h
 refine CR Tryz.func33 R R Tryz.ntmps33 (Zr R) fun n0=>aU (AD R (AI R (sQ R (ZA (ob:=.box _ _ _) R iL fR R) (lF Cy DQ R R (sQ R (Cj R B6.slice iL R) (Zb h fun out1 eout1 h1=>(sS R (Qd 14 R Ih (f:=Dd) (z0:=false) Tq iL iL eout1) (AD R (AI R (mM R (Zb h1 fun x1 ex1 h2=>(sQ R (Cb R Ih.slice iL R iL (fun _=>ex1)) (Zl R R (Mv (v:=true) R QQ iL R ex1 iL R R R R) (aZ (aS fun K4 c4 wK4=>(aT fun c5=>(aG [0,1,5] [14,1000,1001,1002] ?_)))))))))))))))))
 refine Af R (AD R (c5 _ (Ze (BL h2 fun o1 hit1 hk1=>?_))))
 have J1 : ∀ (out5:List Bool) (i8:NN),o1=out5→K4 ⟨[(5,.own 14 (i8 0))],(Lo (i8 0) (out5.map Dd) gb1000 ga1001 (w1.versions.map (AJ.row gc1002)) (.fam gb1002 gw1002 gc1002 71 (fl1.map AE.row))),(i8 1),46⟩:=by
  intro out5 i8 e
  have h3:=hk1 _ e
  refine c4 _ (AI R (AD R ?_))
  exact Zh (BG.mk (s':=⟨[(4,.r (.sl (out5.map Dd)))],(Ad gb1000 ga1001 (w1.versions.map (AJ.row gc1002)) (.fam gb1002 gw1002 gc1002 71 (fl1.map AE.row))),(i8 1),46⟩) (Zs (by exact DE (e':=[(4,.r (.sl (out5.map Dd))),(5,.r (.sl (out5.map Dd))),(45,.r (.sl (out5.map Dd)))]) (h':=(Ad gb1000 ga1001 (w1.versions.map (AJ.row gc1002)) (.fam gb1002 gw1002 gc1002 71 (fl1.map AE.row)))) 14 R ⟨.inl (.inr (.inr ⟨R,R⟩)),.inl (.inr (.inr ⟨R,R⟩)),.inl (.inr (.inr ⟨R,R⟩)),Za⟩ ⟨R,.inl R,R,.inl R,R,.inl R,Za⟩) wk) (Zx (fun (r:(List Bool)) rr h'=>∃ (i:Nat→Nat),rr = .r (.sl (r.map Dd))∧h'=(Ad gb1000 ga1001 (w1.versions.map (AJ.row gc1002)) (.fam gb1002 gw1002 gc1002 71 (fl1.map AE.row)))) h3 (by exact ⟨.r (.sl (out5.map Dd)),(Ad gb1000 ga1001 (w1.versions.map (AJ.row gc1002)) (.fam gb1002 gw1002 gc1002 71 (fl1.map AE.row))),R,⟨.inr R,.inr R,.inr R,Za⟩,R,R,AG [],R,R⟩)))
 refine Cu (fun (i4:Int) (out3:List Bool) i5=>⟨[(0,pT 1000 gb1000),(5,.own 14 (i5 0)),(6,rI i4)],(Lo (i5 0) (out3.map Dd) gb1000 ga1001 (w1.versions.map (AJ.row gc1002)) (.fam gb1002 gw1002 gc1002 71 (fl1.map AE.row))),(i5 1),46⟩) (AG [n0,(n0+1)]) hit1 wk ?_
 intro i4 out3 i5 v1 hv1 hx1
 have h4:Hz w1 i4 out3=some v1:=hv1; unfold Hz at h4
 refine aT fun c7=>(AI R (sQ R (Bf R iL iL) (aZ (cI R h4 (fun h5=>?_) fun h5=>?_))))
 ·refine Zc (c7 _ (aS fun K9 c9 wK9=>(Ze (BL h5 fun p1 hp1 hk2=>?_))))
  have J2 : ∀ (out6:List Bool) (i9:NN),p1=out6→K9 ⟨[(0,pT 1000 gb1000),(5,.own 14 (i9 0)),(6,rI i4)],(Lo (i9 0) (out6.map Dd) gb1000 ga1001 (w1.versions.map (AJ.row gc1002)) (.fam gb1002 gw1002 gc1002 71 (fl1.map AE.row))),(i9 1),46⟩:=by
   intro out6 i9 e
   have h6:=hk2 _ e
   exact c9 _ (Af R (Zb h6 fun i10 ei10 h7=>(sQ R (BT R iL iL (fun _=>ei10)) (mA R (Zi (CF.mk h7 (AG [(i9 0),(i9 1)]) wk))))))
  refine aT fun c10=>(AI R (mM R (Zb hp1 fun x2 ex2 h8=>(sQ R (Cb R Ih.slice iL R iL (fun _=>ex2)) (sQ R (GJ (d:=.bool x2) R NS iL fR (fun _=>ex2) R) (sQ R (Zp R iL) (aZ (cI R h8 (fun h9=>?_) fun h9=>?_))))))))
  ·exact Zk (wK9 _ _ wk (J2 _ (AG [(i5 0),(i5 1)]) (Zf h9).symm))
  refine Zc (c10 _ (AI R (sQ R (ZA (ob:=.box _ _ _) R iL fR R) (lF Cy DQ R R (mM R (Zb h9 fun x3 ex3 h10=>(sQ R (Cb R B6.slice iL R iL (fun _=>ex3)) (sQ R (Ft (ob:=.arr _ _ _ _) R Qq iL fR R) (sQ R (GJ (d:=.sl (x3.parents.map (AL .i64))) R Ga iL fR (fun _=>ex3) R) (xL A2 R (mM R (aZ (Ze (Aw h10 fun o2 hit2 hk3 he3=>Cu (fun (x5:Int) (out8:List Bool) i13=>⟨[(0,pT 1000 gb1000),(5,.own 14 (i13 0)),(6,rI i4),(35,.r (.sl (x3.parents.map (AL .i64)))),(36,rL x3.parents),(37,rI x5)],(Lo (i13 0) (out8.map Dd) gb1000 ga1001 (w1.versions.map (AJ.row gc1002)) (.fam gb1002 gw1002 gc1002 71 (fl1.map AE.row))),(i13 1),46⟩) (AG [(i5 0),(i5 1)]) hit2 wk ?_))))))))))))))
  intro x5 out8 i13 v2 hv2 hx2
  have h11:Gh x3 x5 out8=some v2:=hv2; unfold Gh at h11
  refine aU (xS R (Ak fun c14=>(cI R h11 (fun h12=>?_) fun h12=>?_)))
  ·exact Zc (c14 _ (aT fun c15=>(Ze (aU (Zb h12 fun x7 ex7 h13=>(xI A2 R ex7 (xV (.int .i64 x7) AH R (AD R (Af R (mM R (Zb h13 fun x8 ex8 h14=>(sQ R (Cb R Ih.slice iL R iL (fun _=>ex8)) (Zl R R (Mv (v:=true) R QQ iL R ex8 iL R R R R) (aZ (c15 _ (aR (Zb h14 fun x9 ex9 h15=>(xA R ex9 (mM R (Zi (CF.mk h15 (AG [(i13 0),(i13 1)]) wk)))))))))))))))))))))
  exact Zk (wK9 _ _ wk (J2 _ (AG [(i13 0),(i13 1)]) (Zf (he3 _ (xH hx2 h12))).symm))
 exact Zk (wK4 _ _ wk (J1 _ (AG [(i5 0),(i5 1)]) (xH hx1 h5)))
end Go.Proofs.YtioekebmplhlmaaGreatDoor.Al
