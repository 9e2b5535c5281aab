/-
  The operations, told by the model's words; conversions of states.
-/
import Derived.Test.YthhodpedkdapcaaAl22
namespace Go.Proofs.Ythhodpedkdapcaa.Al

@[reducible] def rInt (k : IntKind) (n : Int) : List RV := [.int k n]
@[reducible] def rBool (b : Bool) : List RV := [.bool b]
@[reducible] def rStr (s : List UInt8) : List RV := [.str s]
@[reducible] def rSl {α : Type} (f : α → List RV) (l : List α) : List RV := [.sl (l.map f)]

theorem idx_some {α : Type} {l : List α} {z : Int} {a : α} (h : idx l z = some a) : 0 ≤ z ∧ l[z.toNat]? = some a ∧ z < l.length := by
  unfold idx at h
  split at h
  · have := (List.getElem?_eq_some_iff.1 h).1
    exact ⟨‹_›, h, by omega⟩
  · cases h
theorem slc_some {α : Type} {l l' : List α} {lo hi : Int} (h : slc l lo hi = some l') : 0 ≤ lo ∧ lo ≤ hi ∧ hi ≤ l.length ∧ l' = (l.drop lo.toNat).take (hi.toNat - lo.toNat) := by
  unfold slc at h
  split at h
  · rename_i hc; exact ⟨hc.1, hc.2.1, hc.2.2, (Option.some.inj h).symm⟩
  · cases h

section
variable {P : Program} {c : Bool} {o : Oper} {R : Env} {h : Heap} {n : Nat} {α : Type} {f : α → List RV}

theorem OpQ.to {v v' : AV} (H : OpQ P c o R h v) (e : v = v') : OpQ P c o R h v' := e ▸ H

theorem ms_idx {t e : TypeId} {sz : Nat} {x y : Operand} {l : List α} {k : IntKind} {z : Int} {a : α} (ho : o.op = .indexAddr t x y) (ht : SliceTy P t e sz) (hx : Ev c R x (.r (.sl (l.map f)))) (hy : Ev c R y (.r (.int k z)))
    (hlen : ∀ a, (f a).length = sz) (hi : c = true → idx l z = some a) : OpQ P c o R h (.rop (f a) 0) :=
  sp_indexAddr_ro ho ht hx hy (fun hc => (idx_some (hi hc)).1) (fun hc => by rw [List.getElem?_map, (idx_some (hi hc)).2.1]; rfl) (hlen a)
theorem ms_idx_own {t e e' : TypeId} {sz : Nat} {x y : Operand} {id g : Nat} {l : List α} {k : IntKind} {z : Int} {a : α} (ho : o.op = .indexAddr t x y) (ht : SliceTy P t e sz) (hx : Ev c R x (.own id g))
    (hh : hget h id = some (.arr g e' sz (l.map f))) (hy : Ev c R y (.r (.int k z))) (hi : c = true → idx l z = some a) : OpQ P c o R h (.ptr id g z.toNat 0) :=
  sp_indexAddr_own ho ht hx hh hy (fun hc => (idx_some (hi hc)).1) (fun hc => by rw [List.length_map]; exact (idx_some (hi hc)).2.2)
theorem ms_load_own {t : TypeId} {x : Operand} {id g k : Nat} {e : TypeId} {sz : Nat} {l : List α} {z : Int} {a : α} {d : RV} (ho : o.op = .load t x) (ht : ScalTy P t) (hx : Ev c R x (.ptr id g z.toNat k))
    (hh : c = true → hget h id = some (.arr g e sz (l.map f))) (hi : c = true → idx l z = some a) (hd : (f a)[k]? = some d) : OpQ P c o R h (.r d) :=
  sp_load_arr ho ht hx hh (row := f a) (fun hc => by rw [List.getElem?_map, (idx_some (hi hc)).2.1]; rfl) (fun _ => hd)
theorem ms_loadA_own {t : TypeId} {x : Operand} {id g : Nat} {e : TypeId} {sz : Nat} {l : List α} {z : Int} {a : α} {cs : List AV} (ho : o.op = .load t x) (ht : AggTy P t sz) (hx : Ev c R x (.ptr id g z.toNat 0))
    (hh : c = true → hget h id = some (.arr g e sz (l.map f))) (hi : c = true → idx l z = some a) (hd : (f a).map AV.r = cs) : OpQ P c o R h (.agg cs) := by
  subst hd
  exact sp_loadA_arr ho ht hx hh (row := f a) (fun hc => by rw [List.getElem?_map, (idx_some (hi hc)).2.1]; rfl)
theorem ms_load {t : TypeId} {x : Operand} {row : List RV} {k : Nat} {d : RV} (ho : o.op = .load t x) (ht : ScalTy P t) (hx : Ev c R x (.rop row k)) (hd : row[k]? = some d) : OpQ P c o R h (.r d) := sp_load_ro ho ht hx fun _ => hd
theorem ms_loadA {t : TypeId} {x : Operand} {row : List RV} {sz : Nat} {cs : List AV} (ho : o.op = .load t x) (ht : AggTy P t sz) (hx : Ev c R x (.rop row 0)) (hd : row.length = sz) (hcs : row.map AV.r = cs) : OpQ P c o R h (.agg cs) := by
  subst hcs; exact sp_loadA_ro ho ht hx hd
theorem ms_load_box {t : TypeId} {x : Operand} {id g k : Nat} {e : TypeId} {cs : List AV} {a : AV} (ho : o.op = .load t x) (ht : ScalTy P t) (hx : Ev c R x (.ptr id g 0 k)) (hh : hget h id = some (.box g e cs)) (ha : cs[k]? = some a) : OpQ P c o R h a :=
  sp_load_box ho ht hx (fun _ => hh) (fun _ => ha)
theorem ms_loadA_box {t : TypeId} {x : Operand} {id g : Nat} {e : TypeId} {sz : Nat} {cs : List AV} (ho : o.op = .load t x) (ht : AggTy P t sz) (hx : Ev c R x (.ptr id g 0 0)) (hh : hget h id = some (.box g e cs)) (hl : cs.length = sz) : OpQ P c o R h (.agg cs) :=
  sp_loadA_box ho ht hx (fun _ => hh) hl
theorem ms_idx_str {t : TypeId} {x y : Operand} {s : List UInt8} {k : IntKind} {z : Int} {ch : UInt8} (ho : o.op = .index t x y) (ht : P.underlying t = some .string) (hx : Ev c R x (.r (.str s)))
    (hy : Ev c R y (.r (.int k z))) (hi : c = true → idx s z = some ch) : OpQ P c o R h (.r (.int .u8 ch.toNat)) :=
  sp_index_str ho ht hx hy (fun hc => (idx_some (hi hc)).1) (fun hc => (idx_some (hi hc)).2.1)

theorem ms_add {t t' : TypeId} {x y : Operand} {k : IntKind} {a b r : Int} (ho : o.op = .binOp .add t x y t') (hx : Ev c R x (.r (.int k a))) (hy : Ev c R y (.r (.int k b))) (hr : c = true → chk k (a + b) = some r) : OpQ P c o R h (.r (.int k r)) := by
  intro hc; obtain ⟨h1, rfl⟩ := chk_some (hr hc); exact sp_add ho hx hy h1 hc
theorem ms_sub {t t' : TypeId} {x y : Operand} {k : IntKind} {a b r : Int} (ho : o.op = .binOp .sub t x y t') (hx : Ev c R x (.r (.int k a))) (hy : Ev c R y (.r (.int k b))) (hr : c = true → chk k (a - b) = some r) : OpQ P c o R h (.r (.int k r)) := by
  intro hc; obtain ⟨h1, rfl⟩ := chk_some (hr hc); exact sp_sub ho hx hy h1 hc
theorem ms_mul {t t' : TypeId} {x y : Operand} {k : IntKind} {a b r : Int} (ho : o.op = .binOp .mul t x y t') (hx : Ev c R x (.r (.int k a))) (hy : Ev c R y (.r (.int k b))) (hr : c = true → chk k (a * b) = some r) : OpQ P c o R h (.r (.int k r)) := by
  intro hc; obtain ⟨h1, rfl⟩ := chk_some (hr hc); exact sp_mul ho hx hy h1 hc
theorem ms_neg {t : TypeId} {x : Operand} {k : IntKind} {a r : Int} (ho : o.op = .unOp .neg t x) (hx : Ev c R x (.r (.int k a))) (hr : c = true → chk k (-a) = some r) : OpQ P c o R h (.r (.int k r)) := by
  intro hc; obtain ⟨h1, rfl⟩ := chk_some (hr hc); exact sp_neg ho hx h1 hc
theorem ms_quo {t t' : TypeId} {x y : Operand} {k : IntKind} {a b r : Int} (ho : o.op = .binOp .quo t x y t') (hx : Ev c R x (.r (.int k a))) (hy : Ev c R y (.r (.int k b))) (hr : c = true → quoM k a b = some r) : OpQ P c o R h (.r (.int k r)) := by
  intro hc
  have h0 := hr hc
  unfold quoM at h0
  split at h0
  · cases h0
  · obtain ⟨h1, rfl⟩ := chk_some h0; exact sp_quo ho hx hy ‹_› h1 hc
theorem ms_rem {t t' : TypeId} {x y : Operand} {k : IntKind} {a b r : Int} (ho : o.op = .binOp .rem t x y t') (hx : Ev c R x (.r (.int k a))) (hy : Ev c R y (.r (.int k b))) (hr : c = true → remM a b = some r) : OpQ P c o R h (.r (.int k r)) := by
  intro hc
  have h0 := hr hc
  unfold remM at h0
  split at h0
  · cases h0
  · cases h0; exact sp_rem ho hx hy ‹_› hc
theorem ms_sadd {t t' : TypeId} {x y : Operand} {a b r : List UInt8} (ho : o.op = .binOp .add t x y t') (hx : Ev c R x (.r (.str a))) (hy : Ev c R y (.r (.str b))) (hr : c = true → catM a b = some r) : OpQ P c o R h (.r (.str r)) := by
  intro hc
  have h0 := hr hc
  unfold catM at h0
  split at h0
  · cases h0; exact sp_sadd ho hx hy ‹_› hc
  · cases h0

/-! Slices of data. -/
def BndI (c : Bool) (R : Env) (dflt : Int) : Option Operand → Int → Prop
  | none, z => z = dflt
  | some x, z => ∃ k, Ev c R x (.r (.int k z))
theorem ms_slice {t e : TypeId} {sz : Nat} {x : Operand} {lo hi : Option Operand} {l l' : List α} {zl zh : Int} (ho : o.op = .slice t x lo hi none) (ht : SliceTy P t e sz) (hx : Ev c R x (.r (.sl (l.map f))))
    (hlo : BndI c R 0 lo zl) (hhi : BndI c R l.length hi zh) (hlen : ∀ a, (f a).length = sz) (hs : c = true → slc l zl zh = some l') : OpQ P c o R h (.r (.sl (l'.map f))) := by
  intro hc
  obtain ⟨h1, h2, h3, rfl⟩ := slc_some (hs hc)
  rw [List.map_take, List.map_drop]
  refine sp_slice_ro ho ht hx (l := zl.toNat) (m := zh.toNat) ?_ ?_ (fun _ => by omega) (fun _ => by rw [List.length_map]; omega) (fun row hr => by obtain ⟨a, _, rfl⟩ := List.mem_map.1 hr; exact hlen a) hc
  · cases lo with
    | none => simp only [BndI] at hlo; subst hlo; rfl
    | some v => obtain ⟨k, hk⟩ := hlo; exact ⟨k, zl, hk, fun _ => h1, rfl⟩
  · cases hi with
    | none => simp only [BndI] at hhi; subst hhi; simp [BndEv]
    | some v => obtain ⟨k, hk⟩ := hhi; exact ⟨k, zh, hk, fun _ => by omega, rfl⟩

/-! Rows of the call's own. -/
theorem app_some {by_ : Nat} {xs ys zs : List α} (h : app by_ xs ys = some zs) : (xs.length + ys.length) * by_ ≤ 140737488355328 ∧ xs.length + ys.length ≤ 9223372036854775807 ∧ zs = xs ++ ys := by
  unfold app at h
  split at h
  · exact ⟨‹_ ∧ _›.1, ‹_ ∧ _›.2, (Option.some.inj h).symm⟩
  · cases h
/-- What is appended. -/
def SrcM (R : Env) (h : Heap) (x : Operand) (e : TypeId) (sz : Nat) (f : α → List RV) (ys : List α) : Prop :=
  (Ev true R x (.r (.sl (ys.map f))) ∧ ∀ a, (f a).length = sz) ∨ (∃ id g, Ev true R x (.own id g) ∧ hget h id = some (.arr g e sz (ys.map f))) ∨ (Ev true R x (.cst (.slice none 0 0)) ∧ ys = [])
theorem SrcM.src {x : Operand} {e : TypeId} {sz : Nat} {ys : List α} (hx : SrcM R h x e sz f ys) : SrcEv true R h x sz (ys.map f) := by
  rcases hx with ⟨h1, h2⟩ | ⟨id, g, h1, h2⟩ | ⟨h1, rfl⟩
  · exact .inl ⟨h1, fun _ row hr => by obtain ⟨a, _, rfl⟩ := List.mem_map.1 hr; exact h2 a⟩
  · exact .inr (.inl ⟨id, g, e, h1, h2⟩)
  · exact .inr (.inr ⟨h1, rfl⟩)
theorem ms_app {t e : TypeId} {sz by_ : Nat} {s x : Operand} {id g : Nat} {xs ys zs : List α} (ho : o.op = .call { callee := .builtin .append, args := #[s, x], argTypes := #[t, t] }) (ht : GrowTy P t e sz by_)
    (hs : Ev true R s (.own id g)) (hh : hget h id = some (.arr g e sz (xs.map f))) (hx : SrcM R h x e sz f ys) (hz : app by_ xs ys = some zs) : OpSpec P true o R h n (.own id n) ((id, some (.arr n e sz (zs.map f))) :: h) (n + 1) := by
  obtain ⟨h1, h2, rfl⟩ := app_some hz
  rw [List.map_append]
  exact sp_append ho ht hs hh hx.src (by simpa using h1) (by simpa using h2)
theorem ms_app_nil {t e : TypeId} {sz by_ : Nat} {s x : Operand} (id : Nat) {ys zs : List α} (ho : o.op = .call { callee := .builtin .append, args := #[s, x], argTypes := #[t, t] }) (ht : GrowTy P t e sz by_)
    (hs : Ev true R s (.cst (.slice none 0 0))) (hx : SrcM R h x e sz f ys) (hz : app by_ [] ys = some zs) : OpSpec P true o R h n (.own id n) ((id, some (.arr n e sz (zs.map f))) :: h) (n + 1) := by
  obtain ⟨h1, h2, h3⟩ := app_some hz
  rw [List.nil_append] at h3
  subst h3
  exact sp_append_nil id ho ht hs hx.src (by simpa using h1) (by simpa using h2)
theorem ms_mk {t e : TypeId} {sz by_ : Nat} {l k : Operand} (id : Nat) {m : Int} {z0 : α} {r : List α} (ho : o.op = .makeSlice t l k) (ht : GrowTy P t e sz by_) (hz : ZRow P e (f z0))
    (hl : Ev true R l (.r (.int .i64 m))) (hk : Ev true R k (.r (.int .i64 m))) (hr : mk by_ m z0 = some r) : OpSpec P true o R h n (.own id n) ((id, some (.arr n e sz (r.map f))) :: h) (n + 1) := by
  unfold mk at hr
  split at hr
  · rename_i hc
    cases hr
    rw [List.map_replicate]
    exact sp_makeSlice id ho ht hz hl hk hc.1 hc.2.1 hc.2.2
  · cases hr
theorem ms_lit {t e : TypeId} {sz by_ len : Nat} {parts : Array (Nat × Operand)} (id : Nat) {l : List α} (ho : o.op = .buildSlice t len parts) (ht : GrowTy P t e sz by_)
    (hp : RowsEv true R 0 parts.toList (l.map f)) (hlen : l.length = len) (hrow : ∀ a, (f a).length = sz) (hsmall : Nat.ble (len * sz) 16777216 = true) :
    OpSpec P true o R h n (.own id n) ((id, some (.arr n e sz (l.map f))) :: h) (n + 1) :=
  sp_buildSlice id ho ht hp (by rw [List.length_map]; exact hlen) (fun row hr => by obtain ⟨a, _, rfl⟩ := List.mem_map.1 hr; exact hrow a) hsmall
theorem ms_store {t : TypeId} {x y : Operand} {id g k : Nat} {e : TypeId} {sz : Nat} {l : List α} {z : Int} {a v : α} {b : AV} {d : RV} (ho : o.op = .store t x y) (ht : ∃ i, P.info? t = some i ∧ i.size = 1)
    (hx : Ev true R x (.ptr id g z.toNat k)) (hh : hget h id = some (.arr g e sz (l.map f))) (hi : idx l z = some a) (hy : Ev true R y b) (hd : cellRV b = some d) (h1 : (cellsAV b).length = 1) (hk : Nat.blt k (f a).length = true) (hv : (f a).set k d = f v) :
    OpSpec P true o R h n .any ((id, some (.arr g e sz ((l.set z.toNat v).map f))) :: h) n := by
  have := sp_store_arr (n := n) ho ht hx hh (row := f a) (by rw [List.getElem?_map, (idx_some hi).2.1]; rfl) (lt_of_blt hk) hy hd h1
  rwa [hv, ← List.map_set] at this
theorem ms_len {t : TypeId} {e : TypeId} {sz : Nat} {x : Operand} {l : List α} (ho : o.op = .call { callee := .builtin .len, args := #[x], argTypes := #[t] }) (ht : SliceTy P t e sz) (hx : Ev c R x (.r (.sl (l.map f)))) : OpQ P c o R h (.r (.int .i64 l.length)) := sp_len_roM ho ht hx
theorem ms_len_own {t : TypeId} {e e' : TypeId} {sz sz' : Nat} {x : Operand} {id g : Nat} {l : List α} (ho : o.op = .call { callee := .builtin .len, args := #[x], argTypes := #[t] }) (ht : SliceTy P t e sz) (hx : Ev c R x (.own id g))
    (hh : hget h id = some (.arr g e' sz' (l.map f))) : OpQ P c o R h (.r (.int .i64 l.length)) := sp_len_ownM ho ht hx hh

/-! Variables of the call's own. -/
theorem ms_box {t : TypeId} {x : Operand} {a : AV} (id : Nat) {cs : List AV} (ho : o.op = .box t x) (hx : Ev c R x a) (hcs : cellsAV a = cs) (h1 : cs.all AV.one = true) : OpSpec P c o R h n (.ptr id n 0 0) ((id, some (.box n t cs)) :: h) (n + 1) := by
  subst hcs; exact sp_box id ho hx h1
theorem ms_alloc {t : TypeId} {zv : Value} (id : Nat) {cs : List AV} (ho : o.op = .alloc t) (hz : ZeroTy P t zv) (hcs : cellsAV (zeroAV zv) = cs) (h1 : cs.all AV.one = true) :
    OpSpec P c o R h n (.ptr id n 0 0) ((id, some (.box n t cs)) :: h) (n + 1) := by
  subst hcs; exact sp_alloc id ho hz h1
theorem ms_store_box {t : TypeId} {x y : Operand} {id g k : Nat} {e : TypeId} {cs ds : List AV} {a : AV} {sz : Nat} (ho : o.op = .store t x y) (ht : ∃ i, P.info? t = some i ∧ i.size = sz) (hx : Ev c R x (.ptr id g 0 k))
    (hh : hget h id = some (.box g e cs)) (hy : Ev c R y a) (hsz : (cellsAV a).length = sz) (h1 : (cellsAV a).all AV.one = true) (hfit : Nat.ble (k + sz) cs.length = true) (hds : splice cs k (cellsAV a) = ds) :
    OpSpec P c o R h n .any ((id, some (.box g e ds)) :: h) n := by
  subst hds; exact sp_store_box ho ht hx hh hy hsz h1 hfit

/-! Structs compared. -/
/-- Parts that compare by what they are. -/
def cellEq : AV → AV → Option Bool
  | .r (.int _ m), .r (.int _ n) => some (decide (m = n))
  | .r (.bool a), .r (.bool b) => some (a == b)
  | .r (.str a), .r (.str b) => some (decide (a = b))
  | _, _ => none
end

/-! States: what may be said otherwise. -/
def Cv1 (a b : AV) : Prop := a = b ∨ b = .any ∨ (a = .cst (.slice none 0 0) ∧ b = .r (.sl []))
def CvL : List AV → List AV → Prop
  | [], [] => True
  | a :: l, b :: m => Cv1 a b ∧ CvL l m
  | _, _ => False
def CvA (a b : AV) : Prop := Cv1 a b ∨ ∃ cs ds, a = .agg cs ∧ b = .agg ds ∧ CvL cs ds
def CvE : Env → Env → Prop
  | [], _ => True
  | (t, v) :: r, e => CvA (get e t) v ∧ CvE r e
def CvO (a b : Option AObj) : Prop := a = b ∨ b = none ∨ ∃ g e cs ds, a = some (.box g e cs) ∧ b = some (.box g e ds) ∧ CvL cs ds
def CvH : Heap → Heap → Prop
  | [], _ => True
  | (id, o) :: r, h => CvO (hget h id) o ∧ CvH r h
theorem Cv1.rep {x : Cx} {a b : AV} (h : Cv1 a b) {v : Value} (hv : AVRep x a v) : AVRep x b v := by
  rcases h with rfl | rfl | ⟨rfl, rfl⟩
  · exact hv
  · exact .any _
  · cases hv; exact .r .snil
theorem CvL.get {cs ds : List AV} (h : CvL cs ds) : cs.length = ds.length ∧ ∀ (i : Nat) (b : AV), ds[i]? = some b → ∃ a, cs[i]? = some a ∧ Cv1 a b := by
  induction cs generalizing ds with
  | nil => cases ds with | nil => exact ⟨rfl, by simp⟩ | cons _ _ => exact h.elim
  | cons c l ih =>
    cases ds with
    | nil => exact h.elim
    | cons d m =>
      obtain ⟨h1, h2⟩ := h
      obtain ⟨h3, h4⟩ := ih h2
      refine ⟨by simp [h3], fun i b hb => ?_⟩
      cases i with
      | zero => cases hb; exact ⟨c, rfl, h1⟩
      | succ i => simp only [List.getElem?_cons_succ] at hb ⊢; exact h4 i b hb
theorem CvA.rep {x : Cx} {a b : AV} (h : CvA a b) {v : Value} (hv : AVRep x a v) : AVRep x b v := by
  rcases h with h | ⟨cs, ds, rfl, rfl, h⟩
  · exact h.rep hv
  · obtain ⟨h1, h2⟩ := h.get
    cases hv with
    | agg hl hall =>
      refine .agg (by omega) fun i b u hb hu => ?_
      obtain ⟨a, k1, k2⟩ := h2 i b hb
      exact k2.rep (hall i a u k1 hu)
theorem CvE.get {e' e : Env} (h : CvE e' e) (t : Nat) : Al.get e' t = .any ∨ CvA (Al.get e t) (Al.get e' t) := by
  induction e' with
  | nil => exact .inl rfl
  | cons p r ih =>
    obtain ⟨d, v⟩ := p
    rw [get_cons]
    split
    · rename_i hd; subst hd; exact .inr h.1
    · exact ih h.2
theorem CvH.get {h' h : Heap} (k : CvH h' h) (t : Nat) : hget h' t = none ∨ CvO (hget h t) (hget h' t) := by
  induction h' with
  | nil => exact .inl rfl
  | cons p r ih =>
    obtain ⟨d, v⟩ := p
    rw [hget_cons]
    split
    · rename_i hd; subst hd; exact .inr k.1
    · exact ih k.2

/-- Objects said otherwise, or forgotten; the clock may go on. -/
theorem Cx.recast {y : Cx} (hok : y.ok) (S' : Nat → Prop) (H' : Nat → Option AObj) (n' : Nat) (hn : y.n ≤ n') (hS : ∀ b, y.S b → S' b) (hSlt : ∀ b, S' b → b < y.w.heap.size) (hSF : ∀ b, S' b → ¬ y.F b)
    (hH : ∀ id o', H' id = some o' → ∃ o, y.H id = some o ∧ o.gen = o'.gen ∧ o.shape = o'.shape ∧ (∀ b k, y.β id = some (b, k) → ¬ S' b) ∧ (y.le { y with S := S', H := H', n := n' } → ORep { y with S := S', H := H', n := n' } (y.β id) o → ORep { y with S := S', H := H', n := n' } (y.β id) o')) :
    y.le { y with S := S', H := H', n := n' } ∧ ({ y with S := S', H := H', n := n' } : Cx).ok := by
  have hle : y.le { y with S := S', H := H', n := n' } := ⟨Nat.le_refl _, rfl, rfl, rfl, fun _ _ => rfl, hS, rfl, hn, fun id o' h _ => by
    obtain ⟨o, h1, h2, h3, _⟩ := hH id o' h; exact ⟨o, h1, h2, h3, rfl⟩⟩
  refine ⟨hle, hSlt, hok.F_lt, hSF, fun id o' h => ?_, fun id o' b k h hb => ?_, fun id id' o o' b k k' h h' => ?_⟩
  · obtain ⟨o, h1, h2, h3, _, h5⟩ := hH id o' h
    obtain ⟨k1, k2⟩ := hok.obj id o h1
    exact ⟨by rw [← h2]; exact Nat.lt_of_lt_of_le k1 hn, h5 hle (k2.mono hle fun _ _ _ => rfl)⟩
  · obtain ⟨o, h1, _, _, h4, _⟩ := hH id o' h
    obtain ⟨k1, k2, k3⟩ := hok.own id o b k h1 hb
    exact ⟨k1, h4 b k hb, k3⟩
  · obtain ⟨o1, h1, _⟩ := hH id o h
    obtain ⟨o2, h2, _⟩ := hH id' o' h'
    exact hok.inj id id' o1 o2 b k k' h1 h2

theorem box_cv {x : Cx} {β : Option (Nat × Nat)} {g : Nat} {e : TypeId} {cs ds : List AV} (hl : cs.length = ds.length) (hc : ∀ (i : Nat) (b : AV), ds[i]? = some b → ∃ a, cs[i]? = some a ∧ ∀ v, AVRep x a v → AVRep x b v)
    (h : ORep x β (.box g e cs)) : ORep x β (.box g e ds) := by
  obtain ⟨b, cur, h1, h2, h3, h4⟩ := h
  refine ⟨b, cur, h1, h2, by omega, fun j d hj => ?_⟩
  obtain ⟨a, k1, k2⟩ := hc j d hj
  obtain ⟨u, k3, k4, k5⟩ := h4 j a k1
  exact ⟨u, k3, k4, k2 u k5⟩

theorem Weak.cv {e' e : Env} {h' h : Heap} {n' n N : Nat} (he : CvE e' e) (hh : CvH h' h) (hn : n ≤ n') : Weak ⟨e, h, n, N⟩ ⟨e', h', n', N⟩ := by
  intro c0 a w ⟨hdef, hsz, y, hyw, hle, hok, hH, hyn, henv⟩
  have hrec := Cx.recast hok y.S (hget h') n' (by rw [hyn]; exact hn) (fun _ h => h) hok.S_lt hok.SF (fun id o' ho' => by
    rcases hh.get id with h1 | h1
    · rw [h1] at ho'; cases ho'
    · rw [ho'] at h1
      rcases h1 with h1 | h1 | ⟨g, e0, cs, ds, h1, h2, h3⟩
      · exact ⟨o', by rw [hH]; exact h1, rfl, rfl, fun b k hb => (hok.own id o' b k (by rw [hH]; exact h1) hb).2.1, fun _ h => h⟩
      · cases h1
      · cases h2
        obtain ⟨k1, k2⟩ := h3.get
        refine ⟨.box g e0 cs, by rw [hH]; exact h1, rfl, by simp [AObj.shape, k1], fun b k hb => (hok.own id _ b k (by rw [hH]; exact h1) hb).2.1, fun _ hr => box_cv k1 (fun i b hb => ?_) hr⟩
        obtain ⟨a, k3, k4⟩ := k2 i b hb
        exact ⟨a, k3, fun v hv => k4.rep hv⟩)
  refine ⟨hdef, hsz, { y with S := y.S, H := hget h', n := n' }, hyw, hle.trans hrec.1, hrec.2, rfl, rfl, fun t => ?_⟩
  rcases he.get t with h1 | h1
  · rw [h1]; exact .any _
  · exact h1.rep ((henv t).mono hrec.1)

/-! A row frozen, wherever it is known. -/
def Fr1 (id g : Nat) (xs : List (List RV)) (a b : AV) : Prop := a = b ∨ b = .any ∨ (a = .own id g ∧ b = .r (.sl xs))
def FrL (id g : Nat) (xs : List (List RV)) : List AV → List AV → Prop
  | [], [] => True
  | a :: l, b :: m => Fr1 id g xs a b ∧ FrL id g xs l m
  | _, _ => False
def FrA (id g : Nat) (xs : List (List RV)) (a b : AV) : Prop := Fr1 id g xs a b ∨ ∃ cs ds, a = .agg cs ∧ b = .agg ds ∧ FrL id g xs cs ds
def FrE (id g : Nat) (xs : List (List RV)) : Env → Env → Prop
  | [], _ => True
  | (t, v) :: r, e => FrA id g xs (get e t) v ∧ FrE id g xs r e
def FrO (id g : Nat) (xs : List (List RV)) (a b : Option AObj) : Prop := a = b ∨ b = none ∨ ∃ g0 e cs ds, a = some (.box g0 e cs) ∧ b = some (.box g0 e ds) ∧ FrL id g xs cs ds
def FrH (id g : Nat) (xs : List (List RV)) : Heap → Heap → Prop
  | [], _ => True
  | (i, o) :: r, h => Nat.beq i id = false ∧ FrO id g xs (hget h i) o ∧ FrH id g xs r h
theorem FrL.get {id g : Nat} {xs : List (List RV)} {cs ds : List AV} (h : FrL id g xs cs ds) : cs.length = ds.length ∧ ∀ (i : Nat) (b : AV), ds[i]? = some b → ∃ a, cs[i]? = some a ∧ Fr1 id g xs a b := by
  induction cs generalizing ds with
  | nil => cases ds with | nil => exact ⟨rfl, by simp⟩ | cons _ _ => exact h.elim
  | cons c l ih =>
    cases ds with
    | nil => exact h.elim
    | cons d m =>
      obtain ⟨h1, h2⟩ := h
      obtain ⟨h3, h4⟩ := ih h2
      refine ⟨by simp [h3], fun i b hb => ?_⟩
      cases i with
      | zero => cases hb; exact ⟨c, rfl, h1⟩
      | succ i => simp only [List.getElem?_cons_succ] at hb ⊢; exact h4 i b hb
theorem FrE.get {id g : Nat} {xs : List (List RV)} {e' e : Env} (h : FrE id g xs e' e) (t : Nat) : Al.get e' t = .any ∨ FrA id g xs (Al.get e t) (Al.get e' t) := by
  induction e' with
  | nil => exact .inl rfl
  | cons p r ih =>
    obtain ⟨d, v⟩ := p
    rw [get_cons]
    split
    · rename_i hd; subst hd; exact .inr h.1
    · exact ih h.2
theorem FrH.get {id g : Nat} {xs : List (List RV)} {h' h : Heap} (k : FrH id g xs h' h) (t : Nat) : hget h' t = none ∨ (t ≠ id ∧ FrO id g xs (hget h t) (hget h' t)) := by
  induction h' with
  | nil => exact .inl rfl
  | cons p r ih =>
    obtain ⟨d, v⟩ := p
    rw [hget_cons]
    split
    · rename_i hd; subst hd; exact .inr ⟨Nat.ne_of_beq_eq_false k.1, k.2.1⟩
    · exact ih k.2.2
theorem Weak.frz {e' e : Env} {h' h : Heap} {n N : Nat} (id : Nat) {g : Nat} {et : TypeId} {sz : Nat} {xs : List (List RV)} (hh0 : hget h id = some (.arr g et sz xs)) (he : FrE id g xs e' e) (hh : FrH id g xs h' h) : Weak ⟨e, h, n, N⟩ ⟨e', h', n, N⟩ := by
  intro c0 a w ⟨hdef, hsz, y, hyw, hle, hok, hH, hyn, henv⟩
  have hHid : y.H id = some (.arr g et sz xs) := by rw [hH]; exact hh0
  let S' : Nat → Prop := fun b => y.S b ∨ ∃ k, y.β id = some (b, k)
  have hfr : ∀ {z : Cx}, z.w = y.w → z.S = S' → ∀ {a b : AV}, Fr1 id g xs a b → ∀ v, AVRep y a v → (AVRep z a v) → AVRep z b v := by
    intro z hzw hzS a b hf v hv hv'
    rcases hf with rfl | rfl | ⟨rfl, rfl⟩
    · exact hv'
    · exact .any _
    · refine .r ?_
      have := own_frozen hok hHid hv (S' := S') (fun _ h => .inl h) (fun b k hb => .inr ⟨k, hb⟩)
      rw [hzw, hzS]; exact this
  have hrec := Cx.recast hok S' (hget h') y.n (Nat.le_refl _) (fun _ h => .inl h) (fun b hb => by
      rcases hb with hb | ⟨k, hb⟩
      · exact hok.S_lt b hb
      · exact (hok.own id _ b k hHid hb).1) (fun b hb => by
      rcases hb with hb | ⟨k, hb⟩
      · exact hok.SF b hb
      · exact (hok.own id _ b k hHid hb).2.2) (fun i o' ho' => by
    rcases hh.get i with h1 | ⟨hne, h1⟩
    · rw [h1] at ho'; cases ho'
    · rw [ho'] at h1
      have hS2 : ∀ o, y.H i = some o → ∀ b k, y.β i = some (b, k) → ¬ S' b := by
        intro o ho b k hb
        rintro (h2 | ⟨k', h2⟩)
        · exact (hok.own i o b k ho hb).2.1 h2
        · exact hne (hok.inj i id o _ b k k' ho hHid hb h2)
      rcases h1 with h1 | h1 | ⟨g0, e0, cs, ds, h1, h2, h3⟩
      · exact ⟨o', by rw [hH]; exact h1, rfl, rfl, hS2 o' (by rw [hH]; exact h1), fun _ h => h⟩
      · cases h1
      · cases h2
        obtain ⟨k1, k2⟩ := h3.get
        have hyo : y.H i = some (.box g0 e0 cs) := by rw [hH]; exact h1
        refine ⟨.box g0 e0 cs, hyo, rfl, by simp [AObj.shape, k1], hS2 _ hyo, fun hle2 _ => ?_⟩
        obtain ⟨_, b, cur, m1, m2, m3, m4⟩ := hok.obj i _ hyo
        refine ⟨b, cur, m1, m2, by omega, fun j d hj => ?_⟩
        obtain ⟨a, k3, k4⟩ := k2 j d hj
        obtain ⟨u, k5, k6, k7⟩ := m4 j a k3
        exact ⟨u, k5, k6, hfr (z := { y with S := S', H := hget h', n := y.n }) rfl rfl k4 u k7 (k7.mono hle2)⟩)
  refine ⟨hdef, hsz, { y with S := S', H := hget h', n := y.n }, hyw, hle.trans hrec.1, hrec.2, rfl, hyn, fun t => ?_⟩
  rcases he.get t with h1 | h1
  · rw [h1]; exact .any _
  · rcases h1 with h1 | ⟨cs, ds, h1, h2, h3⟩
    · exact hfr (z := { y with S := S', H := hget h', n := y.n }) rfl rfl h1 _ (henv t) ((henv t).mono hrec.1)
    · rw [h2]
      obtain ⟨k1, k2⟩ := h3.get
      have hv := henv t
      rw [h1] at hv
      generalize hu : a.tmps.getD t undef = v at hv
      cases hv with
      | @agg _ us hl hall =>
        refine .agg (by omega) fun i b u hb hu' => ?_
        obtain ⟨a0, k3, k4⟩ := k2 i b hb
        exact hfr (z := { y with S := S', H := hget h', n := y.n }) rfl rfl k4 u (hall i a0 u k3 hu') ((hall i a0 u k3 hu').mono hrec.1)

/-! What a function gives at its end. -/
theorem ret_cast {ρ : Type} {T r : ρ} {rs : List ResultVar} {x : Exit} {s : St} (F : ρ → AV) (e : some T = some r) (h : RetQ rs (F T) x s) : RetQ rs (F r) x s := by cases e; exact h
theorem reth_cast {ρ : Type} {P : Program} {T r : ρ} {rs : List ResultVar} {k : Nat} {x : Exit} {s : St} (F : ρ → AV → Heap → Prop) (e : some T = some r) (h : RetH P rs k (F T) x s) : RetH P rs k (F r) x s := by cases e; exact h
end Go.Proofs.Ythhodpedkdapcaa.Al
