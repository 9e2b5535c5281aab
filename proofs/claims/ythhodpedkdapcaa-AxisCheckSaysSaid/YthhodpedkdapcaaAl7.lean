/-
  append, make, slice literals, struct literals, stores into rows, slices of data: as specs.
-/
import Derived.Test.YthhodpedkdapcaaAl6
namespace Go.Proofs.Ythhodpedkdapcaa.Al
section
variable {P : Program} {c : Bool} {o : Oper} {R : Env} {h : Heap} {n : Nat}

/-- What is appended, or copied from: data, an own row, nil. -/
def SrcEv (c : Bool) (R : Env) (h : Heap) (x : Operand) (sz : Nat) (ys : List (List RV)) : Prop :=
  (Ev c R x (.r (.sl ys)) ∧ (c = true → ∀ row ∈ ys, row.length = sz)) ∨ (∃ id g e, Ev c R x (.own id g) ∧ hget h id = some (.arr g e sz ys)) ∨ (Ev c R x (.cst (.slice none 0 0)) ∧ ys = [])
theorem SrcEv.src {x : Operand} {sz : Nat} {ys : List (List RV)} (hx : SrcEv c R h x sz ys) (h0 : 0 < sz) (hc : c = true) {z : Cx} {a : Act} (hok : z.ok) (hH : z.H = hget h) (he : EnvOk z R a) :
    SrcOk z (a.eval x) sz ys ∧ ∀ row ∈ ys, row.length = sz := by
  rcases hx with ⟨h1, h2⟩ | ⟨id, g, e, h1, h2⟩ | ⟨h1, rfl⟩
  · exact ⟨src_ro (h1.rep he hc) (h2 hc) h0, h2 hc⟩
  · have hHid : z.H id = some (.arr g e sz ys) := by rw [hH]; exact h2
    exact ⟨src_own hok hHid (h1.rep he hc), (rep_own hok hHid (h1.rep he hc)).2.1⟩
  · have h2 := h1.rep he hc
    generalize a.eval x = v at h2 ⊢
    cases h2
    exact ⟨.inl ⟨rfl, 0, rfl⟩, by simp⟩

theorem sp_append {t e : TypeId} {sz by_ : Nat} {s x : Operand} {id g : Nat} {xs ys : List (List RV)} (ho : o.op = .call { callee := .builtin .append, args := #[s, x], argTypes := #[t, t] }) (ht : GrowTy P t e sz by_)
    (hs : Ev c R s (.own id g)) (hh : hget h id = some (.arr g e sz xs)) (hx : SrcEv c R h x sz ys) (hm : (xs.length + ys.length) * by_ ≤ 140737488355328) (hm2 : xs.length + ys.length ≤ 9223372036854775807) :
    OpSpec P c o R h n (.own id n) ((id, some (.arr n e sz (xs ++ ys))) :: h) (n + 1) := by
  intro hc z w hok hH hn he K Q hK
  have hHid : z.H id = some (.arr g e sz xs) := by rw [hH]; exact hh
  obtain ⟨h0, hrow, us, hd, hown, hcell⟩ := rep_own hok hHid (hs.rep he hc)
  obtain ⟨hsrc, hrow'⟩ := hx.src h0 hc hok hH he
  obtain ⟨v', y, hrun, k1, k2, k3, k4, k5⟩ := append_core hok ht id hown (fun b hb => by
    refine ⟨_, ?_, hHid, ?_⟩
    · exact match z.β id with | some p => p.2 | none => 0
    · unfold hdrOk at hd
      split at hd
      · rw [hd.2] at hb; cases hb
      · rename_i heq; rw [hd] at hb; simp only [Value.ownBlock, Option.some.injEq] at hb; subst hb; simp [heq]) hrow hcell hsrc hrow' (by unfold maxLen; omega) hm o.type
  unfold Oper.wp execOp
  simp only [ho, resolve, invoke, builtin, Sem.run_bind, Sem.run_pure, Result.andThen_ok, List.map_toArray, List.map_cons, List.map_nil, hrun]
  exact hK v' y k1 k2 (by rw [k3, hH, hn, hget_upd]) (by rw [k4, hn]) (by rw [← hn]; exact k5)

theorem sp_append_nil {t e : TypeId} {sz by_ : Nat} {s x : Operand} (id : Nat) {ys : List (List RV)} (ho : o.op = .call { callee := .builtin .append, args := #[s, x], argTypes := #[t, t] }) (ht : GrowTy P t e sz by_)
    (hs : Ev c R s (.cst (.slice none 0 0))) (hx : SrcEv c R h x sz ys) (hm : ys.length * by_ ≤ 140737488355328) (hm2 : ys.length ≤ 9223372036854775807) :
    OpSpec P c o R h n (.own id n) ((id, some (.arr n e sz ys)) :: h) (n + 1) := by
  intro hc z w hok hH hn he K Q hK
  have ht0 := ht
  obtain ⟨_, _, _, _, _, _, _, _, _, h0⟩ := ht0
  obtain ⟨hsrc, hrow'⟩ := hx.src h0 hc hok hH he
  have hsv : w.eval s = .slice none 0 0 := by
    have h2 := hs.rep he hc
    generalize w.eval s = v at h2 ⊢
    cases h2; rfl
  obtain ⟨v', y, hrun, k1, k2, k3, k4, k5⟩ := append_core (xs := []) hok ht id (World.ownsRow_nil z.w 0 e sz) (fun b hb => by cases hb) (by simp) (by simp) hsrc hrow' (by unfold maxLen; simp; omega) (by simpa using hm) o.type
  unfold Oper.wp execOp
  simp only [ho, resolve, invoke, builtin, Sem.run_bind, Sem.run_pure, Result.andThen_ok, List.map_toArray, List.map_cons, List.map_nil, hsv, hrun]
  exact hK v' y k1 k2 (by rw [k3, hH, hn, hget_upd, List.nil_append]) (by rw [k4, hn]) (by rw [← hn]; exact k5)

/-! Literals. -/
theorem set_run (off : Nat) : ∀ (vs : List Value) (j : Nat) (cells : Array Value), off + j + vs.length ≤ cells.size →
    ((vs.zipIdx j).foldl (fun cs p => cs.setIfInBounds (off + p.2) p.1) cells).size = cells.size ∧
    ∀ k, ((vs.zipIdx j).foldl (fun cs p => cs.setIfInBounds (off + p.2) p.1) cells)[k]? = if off + j ≤ k ∧ k < off + j + vs.length then vs[k - (off + j)]? else cells[k]?
  | [], j, cells, _ => ⟨rfl, fun k => by simp; omega⟩
  | v :: vs, j, cells, hl => by
    simp only [List.length_cons] at hl
    obtain ⟨h1, h2⟩ := set_run off vs (j + 1) (cells.setIfInBounds (off + j) v) (by simp; omega)
    simp only [List.zipIdx_cons, List.foldl_cons]
    refine ⟨by rw [h1]; simp, fun k => ?_⟩
    rw [h2]
    by_cases hk : k = off + j
    · subst hk
      rw [if_neg (by omega), if_pos (by simp)]
      simp [show off + j < cells.size by omega]
    · by_cases hk2 : off + j ≤ k ∧ k < off + j + (v :: vs).length
      · rw [if_pos hk2, if_pos (by simp only [List.length_cons] at hk2; omega)]
        rw [show k - (off + j) = (k - (off + (j + 1))) + 1 by omega, List.getElem?_cons_succ]
      · rw [if_neg hk2, if_neg (by simp only [List.length_cons] at hk2; omega)]
        simp [show off + j ≠ k from fun e => hk e.symm]

theorem fill_one (off : Nat) (v : Value) (cells : Array Value) (hl : off + v.cells.size ≤ cells.size) :
    (v.cells.zipIdx.foldl (fun cs (c, j) => cs.setIfInBounds (off + j) c) cells).size = cells.size ∧
    ∀ k, (v.cells.zipIdx.foldl (fun cs (c, j) => cs.setIfInBounds (off + j) c) cells)[k]? = if off ≤ k ∧ k < off + v.cells.size then v.cells[k - off]? else cells[k]? := by
  have := set_run off v.cells.toList 0 cells (by simpa using hl)
  simp only [Nat.add_zero, Array.length_toList] at this
  rw [← Array.foldl_toList, Array.toList_zipIdx]
  refine ⟨this.1, fun k => ?_⟩
  rw [← Array.getElem?_toList] at *
  simpa using this.2 k

theorem fill_rows (size : Nat) : ∀ (vals : List (Nat × Value)) (start : Nat) (us : Array Value), (∀ j p, vals[j]? = some p → p.1 = start + j ∧ p.2.cells.size = size) → (start + vals.length) * size ≤ us.size →
    ∃ us', Instr.fill (fun i => some (i * size, size)) us vals = some us' ∧ us'.size = us.size ∧ (∀ k, k < start * size → us'[k]? = us[k]?) ∧
      ∀ j p k, vals[j]? = some p → k < size → us'[(start + j) * size + k]? = p.2.cells[k]?
  | [], start, us, _, _ => ⟨us, rfl, rfl, fun _ _ => rfl, by simp⟩
  | p :: vals, start, us, hp, hl => by
    obtain ⟨i, v⟩ := p
    obtain ⟨h1, h2⟩ := hp 0 (i, v) rfl
    simp only [Nat.add_zero] at h1 h2
    subst h1
    have hle : i * size + size ≤ us.size := by
      have : (i + 1) * size ≤ (i + (vals.length + 1)) * size := Nat.mul_le_mul_right _ (by omega)
      simp only [List.length_cons] at hl
      rw [Nat.add_mul, Nat.one_mul] at this
      omega
    obtain ⟨k1, k2⟩ := fill_one (i * size) v us (by rw [h2]; exact hle)
    obtain ⟨us', f1, f2, f3, f4⟩ := fill_rows size vals (i + 1) _ (fun j q hq => by
      have := hp (j + 1) q (by simpa using hq)
      exact ⟨by omega, this.2⟩) (by rw [k1]; simp only [List.length_cons] at hl; rwa [show i + 1 + vals.length = i + (vals.length + 1) by omega])
    refine ⟨us', ?_, f2.trans k1, fun k hk => ?_, fun j q k hq hk => ?_⟩
    · simp only [Instr.fill]
      rw [if_neg (by simp [h2]; omega)]
      exact f1
    · rw [f3 k (by rw [Nat.add_mul]; omega), k2, if_neg (by omega)]
    · cases j with
      | zero =>
        cases hq
        rw [Nat.add_zero, f3 _ (by rw [Nat.add_mul]; omega), k2, if_pos (by omega)]
        congr 1; omega
      | succ j =>
        have := f4 j q k (by simpa using hq) hk
        rwa [show i + 1 + j = i + (j + 1) by omega] at this

def cellRV : AV → Option RV
  | .r d => some d
  | .cst (.slice none 0 0) => some (.sl [])
  | _ => none
def cellsRV : List AV → Option (List RV)
  | [] => some []
  | a :: l => match cellRV a, cellsRV l with
    | some d, some r => some (d :: r)
    | _, _ => none
def rowRV (a : AV) : Option (List RV) := cellsRV (cellsAV a)
theorem cellRV_rep {x : Cx} {a : AV} {d : RV} {v : Value} (h : cellRV a = some d) (hv : AVRep x a v) : RRep x.w x.S d v := by
  unfold cellRV at h
  split at h
  · cases h; cases hv with | r hr => exact hr
  · cases h; cases hv; exact .snil
  · cases h
theorem cellsRV_get {l : List AV} {row : List RV} (h : cellsRV l = some row) : row.length = l.length ∧ ∀ (j : Nat) (d : RV), row[j]? = some d → ∃ a : AV, l[j]? = some a ∧ cellRV a = some d := by
  induction l generalizing row with
  | nil => simp only [cellsRV, Option.some.injEq] at h; subst h; simp
  | cons a l ih =>
    simp only [cellsRV] at h
    split at h
    · rename_i d r h1 h2
      cases h
      obtain ⟨k1, k2⟩ := ih h2
      refine ⟨by simp [k1], fun j d' hj => ?_⟩
      cases j with
      | zero => simp at hj; subst hj; exact ⟨a, rfl, h1⟩
      | succ j => simpa using k2 j d' (by simpa using hj)
    · cases h
theorem cellRV_one {a : AV} {d : RV} (h : cellRV a = some d) : a.one = true := by
  unfold cellRV at h
  split at h <;> first | rfl | cases h
theorem rowRV_rep {x : Cx} {a : AV} {row : List RV} {v : Value} (h : rowRV a = some row) (hv : AVRep x a v) : v.cells.size = row.length ∧ ∀ (k : Nat) (d : RV), row[k]? = some d → ∃ u : Value, v.cells[k]? = some u ∧ RRep x.w x.S d u := by
  obtain ⟨h1, h2⟩ := cellsRV_get h
  have hone : ∀ b ∈ cellsAV a, b.one = true := by
    intro b hb
    obtain ⟨j, hj⟩ := List.mem_iff_getElem?.1 hb
    have hjl : j < row.length := by rw [h1]; exact (List.getElem?_eq_some_iff.1 hj).1
    obtain ⟨a', k1, k2⟩ := h2 j _ (List.getElem?_eq_getElem hjl)
    rw [hj] at k1; cases k1
    exact cellRV_one k2
  obtain ⟨k1, k2, _⟩ := cellsAV_rep hv hone
  refine ⟨by rw [k1, h1], fun k d hd => ?_⟩
  obtain ⟨b, k3, k4⟩ := h2 k d hd
  obtain ⟨u, k5, _, k6⟩ := k2 k b k3
  exact ⟨u, k5, cellRV_rep k4 k6⟩

/-- The parts of a slice literal, in order, none left out. -/
def RowsEv (c : Bool) (R : Env) : Nat → List (Nat × Operand) → List (List RV) → Prop
  | _, [], [] => True
  | i, (j, x) :: r, row :: rows => j = i ∧ (∃ a, Ev c R x a ∧ rowRV a = some row) ∧ RowsEv c R (i + 1) r rows
  | _, _, _ => False
theorem RowsEv.get {ps : List (Nat × Operand)} {rows : List (List RV)} : ∀ {i : Nat}, RowsEv c R i ps rows → ps.length = rows.length ∧ ∀ (j : Nat) (p : Nat × Operand), ps[j]? = some p → p.1 = i + j ∧ ∃ row a, rows[j]? = some row ∧ Ev c R p.2 a ∧ rowRV a = some row := by
  induction ps generalizing rows with
  | nil => intro i h; cases rows with | nil => exact ⟨rfl, by simp⟩ | cons _ _ => exact h.elim
  | cons p ps ih =>
    intro i h
    cases rows with
    | nil => exact h.elim
    | cons row rows =>
      obtain ⟨h1, ⟨a, h2, h3⟩, h4⟩ := h
      obtain ⟨k1, k2⟩ := ih h4
      refine ⟨by simp [k1], fun j q hq => ?_⟩
      cases j with
      | zero => simp at hq; subst hq; exact ⟨by omega, row, a, rfl, h2, h3⟩
      | succ j =>
        obtain ⟨k3, k4⟩ := k2 j q (by simpa using hq)
        exact ⟨by omega, by simpa using k4⟩

/-- A new row of the call's own. -/
theorem newRow_spec {x : Cx} (hok : x.ok) (id : Nat) (e : TypeId) (sz : Nat) (xs : List (List RV)) (cells : Array Value) (h0 : 0 < sz) (hrow : ∀ row ∈ xs, row.length = sz) (hl : cells.size = xs.length * sz) (hm : xs.length ≤ maxLen)
    (hc : ∀ i row k d, xs[i]? = some row → row[k]? = some d → ∃ u, cells[i * sz + k]? = some u ∧ RRep x.w x.S d u) :
    ∃ y : Cx, x.le y ∧ y.ok ∧ y.w = x.w.alloc (.cells cells e) ∧ y.H = (fun i => if id = i then some (.arr x.n e sz xs) else x.H i) ∧ y.n = x.n + 1 ∧
      AVRep y (.own id x.n) (.slice (some ⟨x.w.heap.size, 0, none⟩) xs.length xs.length) := by
  have hup := Cx.upd hok id (.arr x.n e sz xs) (x.w.alloc (.cells cells e)) (some (x.w.heap.size, xs.length)) (x.n + 1) (by simp) rfl rfl rfl
    (fun b hb _ => heap_alloc_old _ _ hb) (fun b k hb => by cases hb; simp) (by omega) (by simp [AObj.gen]) (fun hg => absurd hg (by simp [AObj.gen]))
    (fun hle => ⟨h0, hrow, _, cells.toList, rfl, ⟨by simpa using hl, .inr ⟨x.w.heap.size, xs.length, cells, rfl, Nat.zero_le _, heap_alloc_new _ _, Nat.le_refl _, hm, hl, by rw [← hl, ← Array.length_toList]; exact List.take_length⟩⟩, fun i row k d h1 h2 => by
      obtain ⟨u, k1, k2⟩ := hc i row k d h1 h2
      exact ⟨u, by simpa using k1, k2.mono (fun b hb => hle.blk b (.inl hb)) (fun _ h => h)⟩⟩)
  refine ⟨_, hup.1, hup.2, rfl, rfl, rfl, .own (by simp) rfl fun o' ho' _ => ?_⟩
  simp only [if_pos] at ho'
  cases ho'
  show hdrOk (if id = id then _ else _) _ _
  rw [if_pos rfl]
  rfl

theorem sp_buildSlice {t e : TypeId} {sz by_ len : Nat} {parts : Array (Nat × Operand)} (id : Nat) {rows : List (List RV)} (ho : o.op = .buildSlice t len parts) (ht : GrowTy P t e sz by_)
    (hp : RowsEv c R 0 parts.toList rows) (hlen : rows.length = len) (hrow : ∀ row ∈ rows, row.length = sz) (hsmall : Nat.ble (len * sz) 16777216 = true) :
    OpSpec P c o R h n (.own id n) ((id, some (.arr n e sz rows)) :: h) (n + 1) := by
  intro hc z w hok hH hn he K Q hK
  obtain ⟨ht1, ii, zv, hi, hisz, _, hz, hzs, _, h0⟩ := ht
  have hsm : len * sz ≤ 16777216 := Nat.le_of_ble_eq_true hsmall
  have hlm : len ≤ len * sz := Nat.le_mul_of_pos_right _ h0
  obtain ⟨hpl, hpg⟩ := hp.get
  have hinit : ∃ init : Array Value, init.size = len * sz ∧ ∀ W, (Instr.buildSlice t len (parts.map fun (i, x) => (i, w.eval x))).run P W =
      match Instr.fill (fun i => some (i * sz, sz)) init (parts.toList.map fun (i, x) => (i, w.eval x)) with
      | some cells => .ok (.slice (some ⟨W.heap.size, 0, none⟩) len len) (W.alloc (.cells cells e))
      | none => .halt (.stuck "buildSlice: a part of the wrong size") W := by
    refine ⟨(Array.range (len * sz)).map (fun i => (if len * sz = 0 then #[] else zv.cells)[i % (if len * sz = 0 then #[] else zv.cells).size]!), by simp, fun W => ?_⟩
    have hnot : ¬ 2 ^ 24 < len * sz := by omega
    by_cases hl0 : len * sz = 0
    · simp only [Instr.buildSlice, Sem.run_bind, run_underlying ht1, Result.andThen_ok, run_sizeOf hi, hisz, hl0]
      simp
      split <;> simp_all [newRow, Instr.fill]
    · simp only [Instr.buildSlice, Sem.run_bind, run_underlying ht1, Result.andThen_ok, run_sizeOf hi, hisz]
      simp only [hnot, hl0, zeroValue, typeInfo, if_false, Sem.run_bind, run_program, Result.andThen_ok, hi, hz, Sem.run_pure, Array.toList_map]
      generalize Instr.fill _ _ _ = r
      cases r <;> simp [newRow]
  obtain ⟨init, hisize, hrun⟩ := hinit
  obtain ⟨us', f1, f2, _, f4⟩ := fill_rows sz (parts.toList.map fun (i, x) => (i, w.eval x)) 0 init (fun j p hj => by
    simp only [List.getElem?_map, Option.map_eq_some_iff] at hj
    obtain ⟨q, hq, rfl⟩ := hj
    obtain ⟨h1, row, a, h2, h3, h4⟩ := hpg j q hq
    refine ⟨by simpa using h1, ?_⟩
    rw [(rowRV_rep h4 (h3.rep he hc)).1]
    exact hrow row (List.mem_of_getElem? h2)) (by rw [hisize]; simp only [List.length_map, hpl, hlen, Nat.zero_add]; exact Nat.le_refl _)
  obtain ⟨y, k1, k2, k3, k4, k5, k6⟩ := newRow_spec hok id e sz rows us' h0 hrow (by rw [f2, hisize, hlen]) (by unfold maxLen; omega) (fun i row k d h1 h2 => by
    have hi' : i < parts.toList.length := by rw [hpl]; exact (List.getElem?_eq_some_iff.1 h1).1
    obtain ⟨_, row', a, h3, h4, h5⟩ := hpg i _ (List.getElem?_eq_getElem hi')
    rw [h1] at h3; cases h3
    obtain ⟨u, h6, h7⟩ := (rowRV_rep h5 (h4.rep he hc)).2 k d h2
    refine ⟨u, ?_, h7⟩
    have hk : k < sz := by rw [← hrow row (List.mem_of_getElem? h1)]; exact (List.getElem?_eq_some_iff.1 h2).1
    have := f4 i (parts.toList[i].1, w.eval parts.toList[i].2) k (by simp [List.getElem?_map, List.getElem?_eq_getElem hi']) hk
    rw [Nat.zero_add] at this
    rw [this]; exact h6)
  unfold Oper.wp execOp
  simp only [ho, Sem.run_bind, hrun, f1, Result.andThen_ok, Sem.run_pure]
  have := hK _ y k1 k2 (by rw [k4, hH, hn, hget_upd]) (by rw [k5, hn]) (by rw [← hn]; exact k6)
  rw [k3, hlen] at this
  exact this
end
end Go.Proofs.Ythhodpedkdapcaa.Al
