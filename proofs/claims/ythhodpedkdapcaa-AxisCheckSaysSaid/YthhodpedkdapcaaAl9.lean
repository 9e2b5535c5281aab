/-
  Slices of data, struct literals; adopting, freezing; contracts from data to data, and how they are proved.
-/
import Derived.Test.YthhodpedkdapcaaAl8
namespace Go.Proofs.Ythhodpedkdapcaa.Al
section
variable {P : Program} {c : Bool} {o : Oper} {R : Env} {h : Heap} {n : Nat}

/-- A bound of a slice expression: left out, or an operand. -/
def BndEv (c : Bool) (R : Env) (dflt : Nat) : Option Operand → Nat → Prop
  | none, m => m = dflt
  | some x, m => ∃ k z, Ev c R x (.r (.int k z)) ∧ (c = true → 0 ≤ z) ∧ z.toNat = m

theorem run_bound {k : IntKind} {z : Int} {y : Nat} (h0 : 0 ≤ z) (h1 : z ≤ y) (code : BoundsCode) (w : World) : (Instr.sliceBound (.int k z) y code).run P w = .ok z.toNat w := by
  simp [Instr.sliceBound, asIntOf, h0, h1]

theorem sp_slice_ro {t e : TypeId} {sz : Nat} {x : Operand} {lo hi : Option Operand} {xs : List (List RV)} {l m : Nat} (ho : o.op = .slice t x lo hi none) (ht : SliceTy P t e sz) (hx : Ev c R x (.r (.sl xs)))
    (hlo : BndEv c R 0 lo l) (hhi : BndEv c R xs.length hi m) (h1 : c = true → l ≤ m) (h2 : c = true → m ≤ xs.length) (hrow : ∀ row ∈ xs, row.length = sz) : OpQ P c o R h (.r (.sl ((xs.drop l).take (m - l)))) := by
  intro hc z w _ _ he
  obtain ⟨ht1, ii, ht2, ht3⟩ := ht
  have h1' := h1 hc
  have h2' := h2 hc
  have hbnd : ∀ (len cap : Nat), len = xs.length → xs.length ≤ cap → ∀ W, (Instr.sliceBounds true len cap (lo.map w.eval) (hi.map w.eval) none).run P W = .ok (l, m, cap) W := by
    intro len cap hlen hcap W
    have hL : ∀ W, (∃ y, lo = some y ∧ (Instr.sliceBound (w.eval y) m .sliceB).run P W = .ok l W) ∨ lo = none ∧ l = 0 := by
      intro W
      cases lo with
      | none => exact .inr ⟨rfl, hlo⟩
      | some v =>
        obtain ⟨k, zz, e1, e2, e3⟩ := hlo
        refine .inl ⟨v, rfl, ?_⟩
        rw [rep_int (e1.rep he hc), run_bound (e2 hc) (by have := e2 hc; omega), e3]
    cases hi with
    | none =>
      simp only [BndEv] at hhi
      rcases hL W with ⟨y, rfl, hr⟩ | ⟨rfl, rfl⟩
      · rw [hhi] at hr; simp [Instr.sliceBounds, hlen, hr, hhi]
      · simp [Instr.sliceBounds, hlen, hhi]
    | some v =>
      obtain ⟨k, zz, e1, e2, e3⟩ := hhi
      have hH : (Instr.sliceBound (w.eval v) cap .sliceAcap).run P W = .ok m W := by
        rw [rep_int (e1.rep he hc), run_bound (e2 hc) (by have := e2 hc; omega), e3]
      rcases hL W with ⟨y, rfl, hr⟩ | ⟨rfl, rfl⟩
      · simp [Instr.sliceBounds, hH, hr]
      · simp [Instr.sliceBounds, hH]
  rcases rep_sl (hx.rep he hc) with ⟨rfl, hv⟩ | ⟨b, off, cap, size, u, hv, hS, hcap, hm, hsz, hcell, hrep⟩
  · simp only [List.length_nil, Nat.le_zero] at h2'
    subst h2'
    have hl0 : l = 0 := by omega
    subst hl0
    rcases hv with hv | ⟨a0, hv⟩
    · refine ⟨.slice none 0 0, fun w2 hag => ?_, by simpa using AVRep.r .snil⟩
      unfold execOp
      rw [ho]
      simp [hv, Instr.sliceAt, Instr.slice, run_underlying ht1, run_sizeOf ht2, hbnd 0 0 rfl (Nat.le_refl _)]
    · refine ⟨.slice (some a0) 0 0, fun w2 hag => ?_, by simpa using AVRep.r (.sl0 a0)⟩
      unfold execOp
      rw [ho]
      simp [hv, Instr.sliceAt, Instr.slice, run_underlying ht1, run_sizeOf ht2, hbnd 0 0 rfl (Nat.le_refl _)]
  · let k0 := if cap = l then 0 else l * sz
    refine ⟨.slice (some ⟨b, off + k0, none⟩) ((xs.drop l).take (m - l)).length (cap - l), fun w2 hag => ?_, .r (.sl b (off + k0) _ (cap - l) size (fun i k => u (l + i) k) (fun hne => hS (by rintro rfl; simp at hne)) ?_ (by omega) ?_ (fun i row k d k1 k2 => ?_) (fun i row k d k1 k2 => ?_))⟩
    · unfold execOp
      rw [ho]
      have hlen : ((xs.drop l).take (m - l)).length = m - l := by simp; omega
      by_cases hcl : cap = l
      · have hk0 : k0 = 0 := if_pos hcl
        have hb2 := hbnd _ cap rfl hcap w2
        rw [hk0, hlen]
        simp only [hv, Instr.sliceAt, Instr.slice, Sem.run_bind, run_underlying ht1, Result.andThen_ok, Option.map_none, hb2, run_sizeOf ht2, Sem.run_pure, if_pos hcl, Nat.add_zero]
      · simp [hv, Instr.sliceAt, Instr.slice, run_underlying ht1, run_sizeOf ht2, ht3, hbnd _ cap rfl hcap, hcl, k0, Addr.add_lit]
        omega
    · simp; omega
    · exact fun row hr => hsz row (List.mem_of_mem_drop (List.mem_of_mem_take hr))
    · have hx1 : xs[l + i]? = some row := by
        rw [List.getElem?_take] at k1
        split at k1
        · rwa [List.getElem?_drop] at k1
        · cases k1
      have hcl : cap ≠ l := by have := (List.getElem?_eq_some_iff.1 hx1).1; omega
      have hss : size = sz := by rw [← hsz row (List.mem_of_getElem? hx1), hrow row (List.mem_of_getElem? hx1)]
      rw [← hcell _ _ _ _ hx1 k2]
      simp only [k0, if_neg hcl, hss, Nat.add_mul, Nat.add_assoc]
    · have hx1 : xs[l + i]? = some row := by
        rw [List.getElem?_take] at k1
        split at k1
        · rwa [List.getElem?_drop] at k1
        · cases k1
      exact hrep _ _ _ _ hx1 k2

/-! Adopting a nil slice, freezing a row. -/
theorem Weak.adopt {s : St} (t id : Nat) (e : TypeId) (sz : Nat) (h0 : 0 < sz) (ht : get s.e t = .cst (.slice none 0 0)) : Weak s ⟨(t, .own id s.n) :: s.e, (id, some (.arr s.n e sz [])) :: s.h, s.n + 1, s.N⟩ := by
  intro c0 a w ⟨hdef, hsz, y, hyw, hle, hok, hH, hyn, henv⟩
  have hup := Cx.upd hok id (.arr s.n e sz []) y.w none (y.n + 1) (Nat.le_refl _) rfl rfl rfl (fun _ _ _ => rfl) (fun b k hb => by cases hb) (by omega) (by simp [AObj.gen, hyn]) (fun hg => absurd hg (by simp [AObj.gen, hyn]))
    (fun hle => ⟨h0, by simp, .slice none 0 0, [], ⟨rfl, rfl⟩, World.ownsRow_nil _ _ _ _, by simp⟩)
  refine ⟨hdef, hsz, { y with H := fun i => if id = i then some (.arr s.n e sz []) else y.H i, β := fun i => if id = i then none else y.β i, n := y.n + 1 }, hyw, hle.trans hup.1, hup.2, by simp only [hH]; exact hget_upd _ _ _, by simp [hyn], fun t' => ?_⟩
  rw [get_cons]
  split
  · rename_i htt; subst htt
    have h1 := henv t
    rw [ht] at h1
    generalize a.tmps.getD t undef = u at h1 ⊢
    cases h1
    refine .own (by simp [hyn]) rfl fun o ho _ => ?_
    simp only [if_pos] at ho ⊢
    cases ho
    exact ⟨rfl, rfl⟩
  · exact (henv t').mono hup.1

/-- What an own row holds, once its block is among the data. -/
theorem own_frozen {y : Cx} (hok : y.ok) {id g : Nat} {e : TypeId} {sz : Nat} {xs : List (List RV)} {v : Value} (hH : y.H id = some (.arr g e sz xs)) (hv : AVRep y (.own id g) v) {S' : Nat → Prop}
    (hS : ∀ b, y.S b → S' b) (hS' : ∀ b k, y.β id = some (b, k) → S' b) : RRep y.w S' (.sl xs) v := by
  obtain ⟨h0, hrow, us, hd, hown, hc⟩ := rep_own hok hH hv
  unfold hdrOk at hd
  split at hd
  · have : xs = [] := List.eq_nil_of_length_eq_zero hd.1
    subst this
    rw [hd.2]; exact .snil
  · rename_i b cap heq
    subst hd
    have hnc : xs.length ≤ cap ∧ cap ≤ maxLen := by
      rcases hown.2 with ⟨h1, _⟩ | ⟨g', cap', cur, h1, _, _, h2, h3, _⟩
      · cases h1
      · simp only [Value.slice.injEq] at h1; rw [h1.2.2]; exact ⟨h2, h3⟩
    have hch : ∀ i row k d, xs[i]? = some row → row[k]? = some d → us[i * sz + k]? = some (us.getD (i * sz + k) undef) ∧ RRep y.w y.S d (us.getD (i * sz + k) undef) := by
      intro i row k d h1 h2
      obtain ⟨u, h3, h4⟩ := hc i row k d h1 h2
      simp only [List.getD, h3, Option.getD_some]
      exact ⟨trivial, h4⟩
    refine .sl b 0 xs cap sz (fun i k => us.getD (i * sz + k) undef) (fun _ => hS' b cap heq) hnc.1 hnc.2 hrow (fun i row k d h1 h2 => ?_) (fun i row k d h1 h2 => (hch i row k d h1 h2).2.mono (fun _ _ => rfl) hS)
    rw [Nat.zero_add]
    exact ownsRow_cell hown (hch i row k d h1 h2).1

theorem Weak.freeze {s : St} (t id : Nat) {g : Nat} {e : TypeId} {sz : Nat} {xs : List (List RV)} (ht : get s.e t = .own id g) (hh : hget s.h id = some (.arr g e sz xs)) :
    Weak s ⟨(t, .r (.sl xs)) :: s.e, (id, none) :: s.h, s.n, s.N⟩ := by
  intro c0 a w ⟨hdef, hsz, y, hyw, hle, hok, hH, hyn, henv⟩
  have hHid : y.H id = some (.arr g e sz xs) := by rw [hH]; exact hh
  let y' : Cx := { y with S := fun b => y.S b ∨ ∃ k, y.β id = some (b, k), H := hget ((id, none) :: s.h) }
  have hsub : ∀ i o, y'.H i = some o → i ≠ id ∧ y.H i = some o := by
    intro i o ho
    simp only [y', hget_cons] at ho
    split at ho
    · cases ho
    · rename_i hne; rw [hH]; exact ⟨fun e => hne e.symm, ho⟩
  have hle' : y.le y' := ⟨Nat.le_refl _, rfl, rfl, rfl, fun _ _ => rfl, fun _ h => .inl h, rfl, Nat.le_refl _, fun i o ho _ => ⟨o, (hsub i o ho).2, rfl, rfl, rfl⟩⟩
  have hok' : y'.ok := by
    refine ⟨fun b hb => ?_, hok.F_lt, fun b hb => ?_, fun i o ho => ?_, fun i o b k ho hb => ?_, fun i i' o o' b k k' ho ho' => hok.inj i i' o o' b k k' (hsub _ _ ho).2 (hsub _ _ ho').2⟩
    · rcases hb with hb | ⟨k, hb⟩
      · exact hok.S_lt b hb
      · exact (hok.own id _ b k hHid hb).1
    · rcases hb with hb | ⟨k, hb⟩
      · exact hok.SF b hb
      · exact (hok.own id _ b k hHid hb).2.2
    · obtain ⟨k1, k2⟩ := hok.obj i o (hsub _ _ ho).2
      exact ⟨k1, k2.mono hle' fun _ _ _ => rfl⟩
    · obtain ⟨k1, k2, k3⟩ := hok.own i o b k (hsub _ _ ho).2 hb
      refine ⟨k1, ?_, k3⟩
      rintro (h1 | ⟨k', h1⟩)
      · exact k2 h1
      · exact (hsub _ _ ho).1 (hok.inj i id o _ b k k' (hsub _ _ ho).2 hHid hb h1)
  refine ⟨hdef, hsz, y', hyw, hle.trans hle', hok', rfl, hyn, fun t' => ?_⟩
  rw [get_cons]
  split
  · rename_i htt; subst htt
    have h1 := henv t
    rw [ht] at h1
    exact .r (own_frozen hok hHid h1 (fun _ h => .inl h) (fun b k hb => .inr ⟨k, hb⟩))
  · exact (henv t').mono hle'

theorem AOps.weak {ops : Array Oper} {rest : List Oper} {s s' : St} {K : St → Prop} (hw : Weak s s') (h : AOps P ops rest s' K) : AOps P ops rest s K := fun c0 a w hs => h c0 a w (hw _ _ _ hs)

/-! Contracts from data to data. -/
def Callable (P : Program) (f : FuncId) : Prop := ∃ fn, P.funcs[f]? = some fn ∧ fn.body.isNone = false ∧ (fn.name == "runtime.NumGoroutine") = false

mutual
/-- Abstract values that name no object. -/
def AV.closed : AV → Bool
  | .r _ => true
  | .cst _ => true
  | .any => true
  | .rop _ _ => true
  | .agg cs => closedL cs
  | .tup cs => closedL cs
  | .fn _ cs => closedL cs
  | .own _ _ => false
  | .ptr _ _ _ _ => false
  | .whn _ _ => false
def closedL : List AV → Bool
  | [] => true
  | a :: l => a.closed && closedL l
end
theorem closedL_get {cs : List AV} (h : closedL cs = true) {i : Nat} {a : AV} (hi : cs[i]? = some a) : a.closed = true := by
  induction cs generalizing i with
  | nil => simp at hi
  | cons b l ih =>
    simp only [closedL, Bool.and_eq_true] at h
    cases i with
    | zero => simp at hi; subst hi; exact h.1
    | succ i => exact ih h.2 (by simpa using hi)
theorem closedL_map_r (row : List RV) : closedL (row.map AV.r) = true := by
  induction row with
  | nil => rfl
  | cons d l ih => simp [closedL, AV.closed, ih]
theorem closed_agg_r (row : List RV) : (AV.agg (row.map AV.r)).closed = true := by simp [AV.closed, closedL_map_r]

theorem closed_rep {x y : Cx} (hw : y.w = x.w) (hS : ∀ b, x.S b → y.S b) {a : AV} {v : Value} (hv : AVRep x a v) (ha : a.closed = true) : AVRep y a v := by
  have hb : ∀ b, x.S b → y.w.heap[b]? = x.w.heap[b]? := fun _ _ => by rw [hw]
  induction hv with
  | r h => exact .r (h.mono hb hS)
  | cst v => exact .cst v
  | any v => exact .any v
  | rop u h1 h2 h3 => exact .rop u (fun h => hS _ (h1 h)) (fun j d hj => by rw [hw]; exact h2 j d hj) (fun j d hj => (h3 j d hj).mono hb hS)
  | agg hl _ ih => simp only [AV.closed] at ha; exact .agg hl fun i c u h1 h2 => ih i c u h1 h2 (closedL_get ha h1)
  | tup hl _ ih => simp only [AV.closed] at ha; exact .tup hl fun i c u h1 h2 => ih i c u h1 h2 (closedL_get ha h1)
  | fn hl _ ih => simp only [AV.closed] at ha; exact .fn hl fun i c u h1 h2 => ih i c u h1 h2 (closedL_get ha h1)
  | _ => simp [AV.closed] at ha

def ArgsRep (x : Cx) (as : List AV) (vs : List Value) : Prop := vs.length = as.length ∧ ∀ (i : Nat) (a : AV) (u : Value), as[i]? = some a → vs[i]? = some u → AVRep x a u

/-- CALLED WITH SUCH DATA THE FUNCTION RETURNS SUCH DATA; nothing that was there has changed. -/
def ARO (P : Program) (f : FuncId) (args : List AV) (r : AV) : Prop :=
  Callable P f ∧ r.closed = true ∧ ∀ (x : Cx) (vs : Array Value), x.ok → (x.H = fun _ => none) → ArgsRep x args vs.toList →
    Calls P f vs x.w fun e w' => ∃ u y, e = .returned u ∧ y.w = w' ∧ x.le y ∧ y.ok ∧ AVRep y r u

/-- What stands for a value once everything of the call's own is frozen. -/
inductive Fz1 (h : Heap) : AV → AV → Prop
  | closed (a : AV) (ha : a.closed = true) : Fz1 h a a
  | own {id g : Nat} {e : TypeId} {sz : Nat} {xs : List (List RV)} (hh : hget h id = some (.arr g e sz xs)) : Fz1 h (.own id g) (.r (.sl xs))
  | nil : Fz1 h (.cst (.slice none 0 0)) (.r (.sl []))
def FzL (h : Heap) : List AV → List AV → Prop
  | [], [] => True
  | a :: l, b :: m => Fz1 h a b ∧ FzL h l m
  | _, _ => False
inductive Fz (h : Heap) : AV → AV → Prop
  | one {a b : AV} (h1 : Fz1 h a b) : Fz h a b
  | agg {cs ds : List AV} (h1 : FzL h cs ds) : Fz h (.agg cs) (.agg ds)
def FzAll (h : Heap) : List AV → List AV → Prop
  | [], [] => True
  | a :: l, b :: m => Fz h a b ∧ FzAll h l m
  | _, _ => False

/-- All that was the call's own is data now. -/
def Cx.frozen (y : Cx) : Cx := { w := y.w, S := fun b => y.S b ∨ ∃ id o k, y.H id = some o ∧ y.β id = some (b, k), F := y.F, H := fun _ => none, β := fun _ => none, n := y.n }
theorem Cx.frozen_le {y : Cx} : y.le y.frozen := ⟨Nat.le_refl _, rfl, rfl, rfl, fun _ _ => rfl, fun _ h => .inl h, rfl, Nat.le_refl _, fun _ _ h => by cases h⟩
theorem Cx.frozen_ok {y : Cx} (hok : y.ok) : y.frozen.ok := by
  refine ⟨fun b hb => ?_, hok.F_lt, fun b hb => ?_, (fun _ _ h => by cases h), (fun _ _ _ _ h => by cases h), (fun _ _ _ _ _ _ _ h => by cases h)⟩
  · rcases hb with hb | ⟨id, o, k, h1, h2⟩
    · exact hok.S_lt b hb
    · exact (hok.own id o b k h1 h2).1
  · rcases hb with hb | ⟨id, o, k, h1, h2⟩
    · exact hok.SF b hb
    · exact (hok.own id o b k h1 h2).2.2
theorem Fz1.rep {y : Cx} (hok : y.ok) {h : Heap} (hH : y.H = hget h) {a b : AV} (hf : Fz1 h a b) {v : Value} (hv : AVRep y a v) : AVRep y.frozen b v := by
  cases hf with
  | closed _ ha => exact closed_rep (x := y) (y := y.frozen) rfl (fun b h => Or.inl h) hv ha
  | @own id g e sz xs hh =>
    have hHid : y.H id = some (.arr g e sz xs) := by rw [hH]; exact hh
    exact .r (own_frozen hok hHid hv (fun _ h => .inl h) fun b k hb => .inr ⟨_, _, k, hHid, hb⟩)
  | nil => cases hv; exact .r .snil
theorem FzL.get {h : Heap} {cs ds : List AV} (hf : FzL h cs ds) : cs.length = ds.length ∧ ∀ (i : Nat) (b : AV), ds[i]? = some b → ∃ a, cs[i]? = some a ∧ Fz1 h a b := by
  induction cs generalizing ds with
  | nil => cases ds with | nil => exact ⟨rfl, by simp⟩ | cons _ _ => exact hf.elim
  | cons a l ih =>
    cases ds with
    | nil => exact hf.elim
    | cons b m =>
      obtain ⟨h1, h2⟩ := ih hf.2
      refine ⟨by simp [h1], fun i c hi => ?_⟩
      cases i with
      | zero => simp at hi; subst hi; exact ⟨a, rfl, hf.1⟩
      | succ i => simpa using h2 i c (by simpa using hi)
theorem Fz.rep {y : Cx} (hok : y.ok) {h : Heap} (hH : y.H = hget h) {a b : AV} (hf : Fz h a b) {v : Value} (hv : AVRep y a v) : AVRep y.frozen b v := by
  cases hf with
  | one h1 => exact h1.rep hok hH hv
  | agg h1 =>
    obtain ⟨h2, h3⟩ := h1.get
    cases hv with
    | agg hl hall =>
      refine .agg (by omega) fun i c u k1 k2 => ?_
      obtain ⟨a', k3, k4⟩ := h3 i c k1
      exact k4.rep hok hH (hall i a' u k3 k2)
end
end Go.Proofs.Ythhodpedkdapcaa.Al
