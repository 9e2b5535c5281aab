/-
  PROVED: 'RightsLockMatches' returns true whatever its arguments of bulk at most 1048576 are, and leaves them as they were (statement 'RightsLockMatchesUptoCardSaid'). Conditions: none but the bulk.
-/
import Derived.Test.YtkefchjpggjibaaGreatDoorWlk100x2
import Derived.Deep.DeepHandedRow
import Derived.JoinedCond
import Derived.Lib.LaidTab
import Derived.OpenShut
import Derived.ProofKit
import Derived.Test.YtkefchjpggjibaaGreatDoorCards
import Derived.Test.YtkefchjpggjibaaGreatDoorChecked
import Derived.Test.YtkefchjpggjibaaGreatDoorRows
import Derived.Test.YtkefchjpggjibaaGreatDoorTie
import Derived.WalkKit
namespace Go.Proofs.YtkefchjpggjibaaGreatDoor.Al.RRightsLock
open Go.Proofs Go.Proofs.YtkefchjpggjibaaGreatDoor.Al Go.Proofs.YtkefchjpggjibaaGreatDoor
open Go.ChangeShapes Go.WideShapes Go.ChangeAt Go.RowKit
set_option linter.unusedVariables false

theorem own : ownKnob Tryz.prog.godebug = none := by kernel_rfl

theorem blk_all {H : Type} (l : List (DataW H)) : (l.map Rows.uptoBulk).sum = Rows.uptoBulkAll l := by
  induction l with
  | nil => simp [Rows.uptoBulkAll]
  | cons d l ih => rw [List.map_cons, List.sum_cons, ih, Rows.uptoBulkAll]
def blk (H : Type) : Blk H where
  B := Rows.uptoBulk
  one := fun d => by
    cases d with
    | lit l => cases l <;> simp [Rows.uptoBulk]
    | nil => simp [Rows.uptoBulk]
    | ptr d => simp [Rows.uptoBulk]
    | slice elems spare => simp [Rows.uptoBulk]
    | agg parts => simp [Rows.uptoBulk]
    | iface t d => simp [Rows.uptoBulk]
    | map entries => simp [Rows.uptoBulk]
    | held h => simp [Rows.uptoBulk]
  str := fun s => by simp [Rows.uptoBulk]
  sl := fun l r => by rw [blk_all, Rows.uptoBulk]; omega
  agg := fun l => by rw [blk_all, Rows.uptoBulk]; omega

theorem tabs {W : World} (h : laidMetH Tryz.prog Rows.rightsLockMatchesUptoRow.laid W) : TabsOk (Cx.start W) := by
  have h' : laidMet Tryz.prog Rows.rightsLockMatchesUptoRow.laid W := h
  refine tabs_start (d1 := Go.Pinned.utf8First) (d2 := Rows.laid_unicode_utf8_acceptRanges) (t1 := 212) (t2 := 215) (e1 := 5) (e2 := 214) (Go.Lib.laidMet.reads h' ?_) (by kernel_rfl) (by kernel_rfl) (by kernel_rfl) Tryz.underlying212 Tryz.underlying5 (by kernel_rfl) (by kernel_rfl)
    (Go.Lib.laidMet.reads h' ?_) (by kernel_rfl) (by kernel_rfl) (by kernel_rfl) Tryz.underlying215 Tryz.underlying214 (fun i f hf => ?_) rfl (by kernel_rfl)
  · exact .tail _ (.tail _ (.tail _ (.tail _ (.tail _ (.tail _ (.head _))))))
  · exact .tail _ (.tail _ (.tail _ (.head _)))
  · rcases i with _ | _ | i
    · cases hf; exact ⟨Tryz.underlying5, rfl, by kernel_rfl⟩
    · cases hf; exact ⟨Tryz.underlying5, rfl, by kernel_rfl⟩
    · cases hf

set_option maxRecDepth 100000 in
theorem contract (H : Type) (enc : TypeId × Value → H) (W : World) (base : Nat) (args : Array Value) (ds gs : List (DataW H)) (before : List MemPlace)
    (hval : ∀ (j : Nat) t v, Tryz.f3.params[j]? = some t → args[j]? = some v → Value.okWide Tryz.prog W .any base t v)
    (hW : DataW.Whole enc Tryz.prog Tryz.f3.params.toList Rows.rightsLockMatchesSpec.vars false W args.toList ds gs before) (hk0 : Rows.uptoSmall H (ds ++ gs) = true) (hL : laidMetH Tryz.prog Rows.rightsLockMatchesUptoRow.laid W) :
    Calls Tryz.prog 3 args W fun e W' => ∃ v, e = .returned v ∧ Rows.rightsLockMatchesSpec.post enc Tryz.prog Tryz.f3 false true false false W args v W' := by
  have hW' := hW
  obtain ⟨p, q, hA0, hV, rfl, hfz, hnd⟩ := hW
  have hA : DataW.TrodAll enc Tryz.prog W 0 (fun _ => true) true Tryz.f3.params.toList args.toList ds p := hA0
  rw [Tryz.params3] at hA hval
  obtain ⟨v0, vs0, d0, ds0, p0, q0, hargs, rfl, rfl, h0, e0⟩ := trodAll_cons hA
  obtain ⟨v1, vs1, d1, ds1, p1, q1, rfl, rfl, rfl, h1, e1⟩ := trodAll_cons e0
  obtain ⟨v2, vs2, d2, ds2, p2, q2, rfl, rfl, rfl, h2, e2⟩ := trodAll_cons e1
  obtain ⟨v3, vs3, d3, ds3, p3, q3, rfl, rfl, rfl, h3, e3⟩ := trodAll_cons e2
  obtain ⟨rfl, rfl, rfl⟩ := trodAll_nil e3
  obtain rfl : args = #[v0, v1, v2, v3] := by cases args; simp_all
  obtain ⟨rfl, rfl⟩ := trodVars_none hV
  have hk : (blk H).B d0 + (blk H).B d1 + (blk H).B d2 + (blk H).B d3 ≤ 1048576 := by
    have := of_decide_eq_true hk0
    simp only [List.append_nil, Rows.uptoBulkAll] at this
    show Rows.uptoBulk d0 + Rows.uptoBulk d1 + Rows.uptoBulk d2 + Rows.uptoBulk d3 ≤ 1048576
    omega
  obtain ⟨x0, k0, r0, m0⟩ := topm_int (blk H) Tryz.underlying3 (hval 0 3 v0 rfl rfl) h0
  obtain ⟨x1, k1, r1, m1⟩ := topm_int (blk H) Tryz.underlying3 (hval 1 3 v1 rfl rfl) h1
  obtain ⟨x2, k2, r2, m2⟩ := topm_int (blk H) Tryz.underlying3 (hval 2 3 v2 rfl rfl) h2
  obtain ⟨x3, k3, r3, m3⟩ := topm_slice (blk H) Tryz.underlying22 (Rdm.slice (blk H) (sz := 1) Tryz.underlying22 (by kernel_rfl) (by decide) (Rdm.str (blk H) Tryz.underlying9) (fun _ => rfl)) (hval 3 22 v3 rfl rfl) h3
  clear hA0
  have h3' : totC x3 ≤ 1048576 := by
    have m3' : (x3.map fun s : List UInt8 => s.length + 1).sum + 1 ≤ (blk H).B d3 := m3
    unfold totC; omega
  have hp := law_RightsLock_true x0 x1 x2 x3 h3'
  obtain ⟨_, _, hc⟩ := w_law_RightsLockMatches hp
  refine (hc (Cx.start W) #[v0, v1, v2, v3] (Cx.start_ok W (tabs hL)) rfl ⟨rfl, fun i a u k1 k2 => ?_⟩).mono fun e W' ⟨u, y, he, hy, hle, hok, hr⟩ => ?_
  · rcases i with _ | _ | _ | _ | i
    · cases k1; cases k2; exact .r r0
    · cases k1; cases k2; exact .r r1
    · cases k1; cases k2; exact .r r2
    · cases k1; cases k2; exact .r r3
    · cases k1
  · subst he; subst hy
    obtain rfl := rep_bool hr
    exact ⟨_, rfl, close_row (by kernel_rfl) (by rw [Tryz.params3]; intro t ht; simp at ht; rcases ht with rfl | rfl <;> exact ⟨by kernel_rfl, of_decide_eq_true (by kernel_rfl)⟩) rfl hW' hle rfl rfl
      (fun _ _ _ => trodAll_cons_mk (shut_bool Tryz.underlying4 _) trodAll_mk0)⟩

/-- A world for the witness: the settled one, the two tables laid. -/
def lay (cs : List Value) : Obj → Obj
  | .cells _ t frozen => .cells cs.toArray t frozen
  | o => o
def litsOf : DataW Unit → List Value
  | .agg l => l.map fun d => match d with | .lit (.int k z) => Value.int k z | _ => undef
  | _ => []
def textOf : DataW Unit → Value
  | .iface _ (.ptr (.agg [.lit (.string s)])) => Value.string ⟨s.toArray⟩
  | _ => undef
noncomputable def holdW (os : Os) : World := World.holding Tryz.prog os ⟨#[], #[], []⟩
noncomputable def laidWorld (os : Os) : World :=
  { holdW os with heap := ((((((((((holdW os).heap.modify 4 (lay (litsOf Rows.laid_math_bits_deBruijn32tab))).modify 5 (lay (litsOf Rows.laid_math_bits_deBruijn64tab))).modify 3 (lay (litsOf Rows.laid_internal_strconv_uint64pow10))).modify gAccept (lay (tabAccept0.flatMap fun p => [Value.int .u8 p.1, Value.int .u8 p.2]))).modify 7 (lay [Value.iface 394 (.pointer (some ⟨(holdW os).heap.size + 0, 0, none⟩))])).modify 6 (lay [Value.iface 394 (.pointer (some ⟨(holdW os).heap.size + 1, 0, none⟩))])).modify gFirst (lay (tabFirst.map fun z => Value.int .u8 z))).push (Obj.cells #[textOf Rows.laid_strconv_ErrRange] 396 (0, 0))).push (Obj.cells #[textOf Rows.laid_strconv_ErrSyntax] 396 (0, 0))) }
theorem laid_met (os : Os) : laidMet Tryz.prog Rows.rightsLockMatchesUptoRow.laid ((laidWorld os).forCall (fun _ _ => 0) ⟨#[], #[.int .i64 0, .int .i64 0, .int .i64 0, .slice none 0 0], []⟩).memory :=
  laidMet_of_run' 8 (by kernel_rfl) (by kernel_rfl)
theorem reads (os : Os) {H : Type} (enc : TypeId × Value → H) : ∃ places, DataW.whole enc Tryz.prog ((laidWorld os).forCall (fun _ _ => 0) ⟨#[], #[.int .i64 0, .int .i64 0, .int .i64 0, .slice none 0 0], []⟩).memory Tryz.f3.params.toList Rows.rightsLockMatchesSpec.vars false (#[.int .i64 0, .int .i64 0, .int .i64 0, .slice none 0 0] : Array Value).toList 8 = some ([.lit (.int .i64 0), .lit (.int .i64 0), .lit (.int .i64 0), .nil], [], places) :=
  ⟨[], by kernel_rfl⟩

set_option maxRecDepth 100000 in
theorem lifted (os : Os) (started : os.Started) (H : Type) (enc : TypeId × Value → H) (F : Stop.Interp) :
    ReturnsInHanded {} Tryz.checked os 3 .any ((Rows.OpenSpec.upto Rows.rightsLockMatchesSpec).preRow enc Tryz.prog Tryz.f3 Rows.rightsLockMatchesUptoRow.domain false Rows.rightsLockMatchesUptoRow.laid) (((Rows.OpenSpec.upto Rows.rightsLockMatchesSpec).at F).post enc Tryz.prog Tryz.f3 false true false false) := by
  obtain ⟨places, hx⟩ := reads os enc
  refine returnsInHanded_of_row (C := Tryz.checked) (s := Rows.OpenSpec.upto Rows.rightsLockMatchesSpec) own started (by kernel_rfl) Tryz.func3
    (witness_row_at (enc := enc) (C := Tryz.checked) false (laidWorld os) #[.int .i64 0, .int .i64 0, .int .i64 0, .slice none 0 0] rfl (by kernel_rfl) (by kernel_rfl) (by kernel_rfl)
      (OpenSpec.preRow_of_cond 8 hx (by kernel_rfl) (fun k hk => by cases hk; kernel_rfl) (by kernel_rfl) (laid_met os))) ?_
  intro W base args ds gs before hval hW _ hk _ hL _ _
  exact contract H enc W base args ds gs before hval hW (hk _ rfl) hL

theorem and_tt {a b : Bool} (ha : a = true) (hb : b = true) : (a && b) = true := by rw [ha, hb]; rfl
set_option maxHeartbeats 4000000 in
theorem closed : joinedFacts Tryz.prog 3 Tryz.f3 (Rows.OpenSpec.upto Rows.rightsLockMatchesSpec).bare Rows.rightsLockMatchesUptoRow = true := by
  unfold joinedFacts
  refine and_tt ?_ (by as_aux_lemma => kernel_rfl)
  refine and_tt ?_ (by as_aux_lemma => kernel_rfl)
  refine and_tt ?_ (by as_aux_lemma => kernel_rfl)
  refine and_tt ?_ (by as_aux_lemma => kernel_rfl)
  refine and_tt ?_ (by as_aux_lemma => kernel_rfl)
  refine and_tt ?_ (by as_aux_lemma => kernel_rfl)
  refine and_tt ?_ (by as_aux_lemma => kernel_rfl)
  refine and_tt ?_ (by as_aux_lemma => kernel_rfl)
  refine and_tt ?_ (by as_aux_lemma => kernel_rfl)
  refine and_tt ?_ (by as_aux_lemma => kernel_rfl)
  refine and_tt ?_ (by as_aux_lemma => kernel_rfl)
  refine and_tt ?_ (by as_aux_lemma => kernel_rfl)
  refine and_tt ?_ (by as_aux_lemma => kernel_rfl)
  refine and_tt ?_ (by as_aux_lemma => kernel_rfl)
  refine and_tt ?_ (by as_aux_lemma => kernel_rfl)
  refine and_tt ?_ (by as_aux_lemma => kernel_rfl)
  refine and_tt ?_ (by as_aux_lemma => kernel_rfl)
  refine and_tt ?_ (by as_aux_lemma => kernel_rfl)
  refine and_tt ?_ (by as_aux_lemma => kernel_rfl)
  refine and_tt ?_ (by as_aux_lemma => kernel_rfl)
  refine and_tt ?_ (by as_aux_lemma => kernel_rfl)
  refine and_tt ?_ (by as_aux_lemma => kernel_rfl)
  refine and_tt ?_ (by as_aux_lemma => kernel_rfl)
  refine and_tt ?_ (by as_aux_lemma => kernel_rfl)
  refine and_tt ?_ (by as_aux_lemma => kernel_rfl)
  refine and_tt ?_ (by as_aux_lemma => kernel_rfl)
  refine and_tt ?_ (by as_aux_lemma => kernel_rfl)
  refine and_tt ?_ (by as_aux_lemma => kernel_rfl)
  refine and_tt ?_ (by as_aux_lemma => kernel_rfl)
  refine and_tt ?_ (by as_aux_lemma => kernel_rfl)
  refine and_tt ?_ (by as_aux_lemma => kernel_rfl)
  kernel_rfl
theorem goes_apart {P : Program} {c : OpenClaim} (hs : c.start = .entering) (h : P.funcs.any Func.goes = false) : false = c.goesBy P := by
  have h' : ∀ g : FuncId, (P.funcs[g]?).any Func.goes = false := fun g => by
    cases e : P.funcs[g]? with
    | none => rfl
    | some x =>
      obtain ⟨hg, rfl⟩ := Array.getElem?_eq_some_iff.1 e
      exact Bool.eq_false_iff.2 fun hx => (Bool.eq_false_iff.1 h) (Array.any_eq_true.2 ⟨g, hg, hx⟩)
  unfold OpenClaim.goesBy Program.goesAt Program.goesFrom Program.goes
  rw [hs, h]
  cases P.funcNamed c.func with
  | none => rfl
  | some f => simp [h']
theorem goes_not : Tryz.prog.funcs.any Func.goes = false := by kernel_rfl

theorem over : Rows.RightsLockMatchesUptoSaid :=
  OpenClaim.holds_of_cond 3 Tryz.f3 rfl rfl rfl rfl rfl rfl rfl ⟨rfl, rfl, rfl, rfl, rfl⟩ rfl rfl rfl rfl rfl (by kernel_rfl) Tryz.func3 closed
    (of_decide_eq_true (by kernel_rfl)) (by unfold Func.isWrapper; first | (rw [if_pos (by decide +kernel)]; kernel_rfl) | (rw [if_neg (by decide +kernel)]; exact ⟨rfl, rfl⟩))
    (fun os started H enc _ F => by rw [OpenClaim.pre_eq_preRow]; exact lifted os started H enc F)

theorem plain (f : FuncId) (fn : Func) (hf : Tryz.pinned.checked.prog.funcNamed "chancery/chancerylaw1.RightsLockMatches" = some f) (hfn : Tryz.pinned.checked.prog.funcs[f]? = some fn) :
    true = Tryz.pinned.checked.prog.looks [] ∧ ∀ (j : Nat) t, fn.params[j]? = some t → Tryz.pinned.checked.prog.wantsStandIn t = false := by
  obtain rfl : f = 3 := Option.some.inj ((show Tryz.prog.funcNamed "chancery/chancerylaw1.RightsLockMatches" = some 3 by kernel_rfl).symm.trans hf) |>.symm
  obtain rfl : fn = Tryz.f3 := (Option.some.inj (Tryz.func3.symm.trans hfn)).symm
  refine ⟨by kernel_rfl, fun j t ht => ?_⟩
  rw [Tryz.params3] at ht
  rcases j with _ | _ | _ | _ | j
  · cases ht; exact (show Tryz.prog.wantsStandIn 3 = false by kernel_rfl)
  · cases ht; exact (show Tryz.prog.wantsStandIn 3 = false by kernel_rfl)
  · cases ht; exact (show Tryz.prog.wantsStandIn 3 = false by kernel_rfl)
  · cases ht; exact (show Tryz.prog.wantsStandIn 22 = false by kernel_rfl)
  · cases ht

theorem proved : Rows.RightsLockMatchesUptoCardSaid :=
  Claim7.holds_tied_plain_at .later [] _ _ _ _ over (fun _ h => by cases h) (by kernel_rfl) (fun _ h => by cases h) rightsLockMatchesUpto_row_tie rfl ⟨rfl, rfl⟩ (by kernel_rfl) rfl plain (goes_apart rfl goes_not)
#print axioms proved
end Go.Proofs.YtkefchjpggjibaaGreatDoor.Al.RRightsLock
