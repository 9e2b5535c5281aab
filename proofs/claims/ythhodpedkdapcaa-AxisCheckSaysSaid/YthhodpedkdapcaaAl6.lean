/-
  Rows that grow: append, make, slice literals; stores into a row; slices of data.
-/
import Derived.Test.YthhodpedkdapcaaAl5
namespace Go.Proofs.Ythhodpedkdapcaa.Al
section
variable {P : Program} {c : Bool} {o : Oper} {R : Env} {h : Heap} {n : Nat}

/-- The row of a slice type: element, cells, bytes, zero. -/
def GrowTy (P : Program) (t e : TypeId) (sz by_ : Nat) : Prop :=
  P.underlying t = some (.slice e) ∧ ∃ i z, P.info? e = some i ∧ i.size = sz ∧ i.bytes = by_ ∧ i.zero = some z ∧ z.cells.size = sz ∧ (∀ u ∈ z.cells.toList, u.oneCell' = true) ∧ 0 < sz
theorem GrowTy.slice {t e : TypeId} {sz b : Nat} (h : GrowTy P t e sz b) : SliceTy P t e sz := by
  obtain ⟨h1, i, z, h2, h3, _⟩ := h
  exact ⟨h1, i, h2, h3⟩

/-- Where a slice of the call's own lies. -/
def blkOf : Value → Option (Nat × Nat)
  | .slice (some a) _ cap => some (a.block, cap)
  | _ => none

theorem flat_get {xs : List (List RV)} {sz : Nat} (hrow : ∀ row ∈ xs, row.length = sz) {us : List Value} {Q : RV → Value → Prop}
    (hl : us.length = xs.length * sz) (hq : ∀ j u, us[j]? = some u → ∃ row d, xs[j / sz]? = some row ∧ row[j % sz]? = some d ∧ Q d u) (hsz : 0 < sz) {i k : Nat} {row : List RV} {d : RV} (h1 : xs[i]? = some row) (h2 : row[k]? = some d) :
    ∃ u, us[i * sz + k]? = some u ∧ Q d u := by
  have hi : i < xs.length := (List.getElem?_eq_some_iff.1 h1).1
  have hk : k < sz := by rw [← hrow row (List.mem_of_getElem? h1)]; exact (List.getElem?_eq_some_iff.1 h2).1
  have hlt : i * sz + k < us.length := by
    rw [hl]
    calc i * sz + k < i * sz + sz := by omega
      _ = (i + 1) * sz := by rw [Nat.add_mul, Nat.one_mul]
      _ ≤ xs.length * sz := Nat.mul_le_mul_right _ hi
  refine ⟨us[i * sz + k], List.getElem?_eq_getElem hlt, ?_⟩
  obtain ⟨row', d', h3, h4, h5⟩ := hq _ _ (List.getElem?_eq_getElem hlt)
  have e1 : (i * sz + k) / sz = i := by rw [Nat.mul_comm, Nat.mul_add_div hsz, Nat.div_eq_of_lt hk, Nat.add_zero]
  have e2 : (i * sz + k) % sz = k := by rw [Nat.mul_comm, Nat.mul_add_mod, Nat.mod_eq_of_lt hk]
  rw [e1, h1] at h3
  cases h3
  rw [e2, h2] at h4
  cases h4
  exact h5

/-- What is appended: the cells lie there. -/
def SrcOk (x : Cx) (v : Value) (sz : Nat) (ys : List (List RV)) : Prop :=
  (ys = [] ∧ ∃ c, v = .slice none 0 c) ∨ ∃ (a : Addr) (cap : Nat) (news : List Value), v = .slice (some a) ys.length cap ∧ news.length = ys.length * sz ∧ (∀ j u, news[j]? = some u → x.w.cell? (Addr.add a j) = some u) ∧ (∀ u ∈ news, u.oneCell' = true) ∧
    ∀ i row k d, ys[i]? = some row → row[k]? = some d → ∃ u, news[i * sz + k]? = some u ∧ RRep x.w x.S d u

theorem src_ro {x : Cx} {v : Value} {ys : List (List RV)} {sz : Nat} (hv : AVRep x (.r (.sl ys)) v) (hsz : ∀ row ∈ ys, row.length = sz) (h0 : 0 < sz) : SrcOk x v sz ys := by
  rcases rep_sl hv with ⟨rfl, rfl | ⟨a, rfl⟩⟩ | ⟨b, off, cap, size, u, rfl, hS, hcap, hm, hrow, hcell, hrep⟩
  · exact .inl ⟨rfl, 0, rfl⟩
  · exact .inr ⟨_, 0, [], rfl, by simp, by simp, by simp, by simp⟩
  · by_cases hy : ys = []
    · subst hy
      exact .inr ⟨_, cap, [], rfl, by simp, by simp, by simp, by simp⟩
    · have hs : size = sz := by
        obtain ⟨row, hr⟩ := List.exists_mem_of_ne_nil _ hy
        rw [← hrow row hr, hsz row hr]
      subst hs
      have hget : ∀ j, j < ys.length * size → ∃ row d, ys[j / size]? = some row ∧ row[j % size]? = some d := by
        intro j hj
        have h1 : j / size < ys.length := by rw [Nat.div_lt_iff_lt_mul h0]; exact hj
        have h2 : j % size < (ys[j / size]).length := by rw [hrow _ (List.getElem_mem _)]; exact Nat.mod_lt _ h0
        exact ⟨_, _, List.getElem?_eq_getElem h1, List.getElem?_eq_getElem h2⟩
      have hdm : ∀ j, j / size * size + j % size = j := fun j => Nat.div_add_mod' j size
      refine .inr ⟨⟨b, off, none⟩, cap, (List.range (ys.length * size)).map fun j => u (j / size) (j % size), rfl, by simp, fun j w hj => ?_, fun w hw => ?_, fun i row k d h1 h2 => ?_⟩
      · simp only [List.getElem?_map, Option.map_eq_some_iff] at hj
        obtain ⟨j', h3, rfl⟩ := hj
        obtain ⟨h4, h5⟩ := List.getElem?_eq_some_iff.1 h3
        simp only [List.getElem_range] at h5; subst h5
        simp only [List.length_range] at h4
        obtain ⟨row, d, k1, k2⟩ := hget _ h4
        rw [Addr.add_lit, ← hcell _ _ _ _ k1 k2, Nat.add_assoc, hdm]
      · simp only [List.mem_map, List.mem_range] at hw
        obtain ⟨j, hj, rfl⟩ := hw
        obtain ⟨row, d, k1, k2⟩ := hget _ hj
        exact (hrep _ _ _ _ k1 k2).one
      · refine flat_get hrow (Q := fun d u => RRep x.w x.S d u) (by simp) (fun j w hj => ?_) h0 h1 h2
        simp only [List.getElem?_map, Option.map_eq_some_iff] at hj
        obtain ⟨j', h3, rfl⟩ := hj
        obtain ⟨h4, h5⟩ := List.getElem?_eq_some_iff.1 h3
        simp only [List.getElem_range] at h5; subst h5
        simp only [List.length_range] at h4
        obtain ⟨row, d, k1, k2⟩ := hget _ h4
        exact ⟨row, d, k1, k2, hrep _ _ _ _ k1 k2⟩

/-- Each cell of an own row is of one cell. -/
theorem own_cells_one {x : Cx} {sz : Nat} {xs : List (List RV)} {us : List Value} (hl : us.length = xs.length * sz) (h0 : 0 < sz) (hrow : ∀ row ∈ xs, row.length = sz)
    (hc : ∀ i row k d, xs[i]? = some row → row[k]? = some d → ∃ u, us[i * sz + k]? = some u ∧ RRep x.w x.S d u) : ∀ u ∈ us, u.oneCell' = true := by
  intro u hu
  obtain ⟨j, hj⟩ := List.mem_iff_getElem?.1 hu
  have hj1 : j < xs.length * sz := by rw [← hl]; exact (List.getElem?_eq_some_iff.1 hj).1
  have h1 : j / sz < xs.length := by rw [Nat.div_lt_iff_lt_mul h0]; exact hj1
  have h2 : j % sz < (xs[j / sz]).length := by rw [hrow _ (List.getElem_mem _)]; exact Nat.mod_lt _ h0
  obtain ⟨v, h3, h4⟩ := hc _ _ _ _ (List.getElem?_eq_getElem h1) (List.getElem?_eq_getElem h2)
  rw [Nat.div_add_mod', hj] at h3
  cases h3
  exact h4.one

theorem src_own {x : Cx} (hok : x.ok) {id g : Nat} {e : TypeId} {sz : Nat} {ys : List (List RV)} {v : Value} (hH : x.H id = some (.arr g e sz ys)) (hv : AVRep x (.own id g) v) : SrcOk x v sz ys := by
  obtain ⟨h0, hrow, us, hd, hown, hc⟩ := rep_own hok hH hv
  have hone := own_cells_one hown.1 h0 hrow hc
  unfold hdrOk at hd
  split at hd
  · have hy : ys = [] := List.eq_nil_of_length_eq_zero hd.1
    exact .inl ⟨hy, 0, hd.2⟩
  · subst hd
    exact .inr ⟨_, _, us, rfl, hown.1, hown.cells (by rfl), hone, hc⟩

/-- append onto a row of the call's own. -/
theorem append_core {x : Cx} (hok : x.ok) {t e : TypeId} {sz by_ : Nat} (ht : GrowTy P t e sz by_) (id : Nat) {xs ys : List (List RV)} {us : List Value} {v u : Value} (hown : x.w.ownsRow 0 e sz v xs.length us)
    (hβ : ∀ b, v.ownBlock = some b → ∃ o0 k, x.H id = some o0 ∧ x.β id = some (b, k)) (hrow : ∀ row ∈ xs, row.length = sz)
    (hc : ∀ i row k d, xs[i]? = some row → row[k]? = some d → ∃ u, us[i * sz + k]? = some u ∧ RRep x.w x.S d u)
    (hsrc : SrcOk x u sz ys) (hrow' : ∀ row ∈ ys, row.length = sz) (hm : xs.length + ys.length ≤ maxLen) (hb : (xs.length + ys.length) * by_ ≤ 140737488355328) (ty : TypeId) :
    ∃ v' y, (Builtin.append_ #[t, t] ty #[v, u]).run P x.w = .ok v' y.w ∧ x.le y ∧ y.ok ∧ y.H = (fun i => if id = i then some (.arr x.n e sz (xs ++ ys)) else x.H i) ∧ y.n = x.n + 1 ∧ AVRep y (.own id x.n) v' := by
  obtain ⟨ht1, ii, z, hi, hisz, hiby, hz, hzs, _, h0⟩ := ht
  have key : ∃ (v' : Value) (w' : World) (news : List Value), (Builtin.append_ #[t, t] ty #[v, u]).run P x.w = .ok v' w' ∧ w'.ownsRow 0 e sz v' (xs.length + ys.length) (us ++ news) ∧ x.w.grownBy w' v.ownBlock ∧
      (v'.ownBlock = v.ownBlock ∨ v'.ownBlock = some x.w.heap.size) ∧ news.length = ys.length * sz ∧ ∀ i row k d, ys[i]? = some row → row[k]? = some d → ∃ u, news[i * sz + k]? = some u ∧ RRep x.w x.S d u := by
    rcases hsrc with ⟨hy, cc, rfl⟩ | ⟨a, cap, news, rfl, hl, hcells, hone, hrep⟩
    · subst hy
      refine ⟨v, x.w, [], ?_, by simpa using hown, ⟨rfl, rfl, rfl, Nat.le_refl _, fun _ _ _ => rfl⟩, .inl rfl, by simp, by simp⟩
      rcases hown.2 with ⟨rfl, h1⟩ | ⟨g, cap, cur, rfl, _, _, hnc, _⟩
      · simp [Builtin.append_, run_underlying ht1, sizeOf, typeInfo, hi, Builtin.lenOf, Builtin.firstCells]
      · simp [Builtin.append_, run_underlying ht1, sizeOf, typeInfo, hi, Builtin.lenOf, Builtin.firstCells, hnc, storeCells]
    · obtain ⟨v', w', hrun, k1, k2, _, k4⟩ := run_append_own_at (P := P) x.w 0 t ty e ii z sz by_ ht1 hi hz hisz hiby hzs h0 v xs.length us hown a ys.length cap news hl hcells hone hm hb (Nat.zero_le _)
      exact ⟨v', w', news, hrun, k1, k2, k4, hl, hrep⟩
  obtain ⟨v', w', news, hrun, hown', hgr, hblk, hnl, hnews⟩ := key
  have hlt := hown'.lt
  have hhdr : hdrOk (blkOf v') (xs ++ ys).length v' := by
    rcases hown'.2 with ⟨rfl, h1⟩ | ⟨g, cap, cur, rfl, _⟩
    · exact ⟨by rw [List.length_append]; exact h1, rfl⟩
    · simp [hdrOk, blkOf]
  have hbo : ∀ b k, blkOf v' = some (b, k) → v'.ownBlock = some b := by
    intro b k hbk
    cases v' with
    | slice a l cp =>
      cases a with
      | none => cases hbk
      | some a => simp only [blkOf, Option.some.injEq, Prod.mk.injEq] at hbk; simp [Value.ownBlock, hbk.1]
    | _ => cases hbk
  have hup := Cx.upd hok id (.arr x.n e sz (xs ++ ys)) w' (blkOf v') (x.n + 1) hgr.size hgr.os hgr.tape hgr.output
    (fun b hbl hne => hgr.block b hbl (fun heq => by
      obtain ⟨o0, k, h1, h2⟩ := hβ b heq.symm
      exact hne o0 k h1 h2))
    (fun b k hbk => by
      have h1 := hbo b k hbk
      refine ⟨(hlt b h1).2, ?_⟩
      rcases hblk with h2 | h2
      · rw [h2] at h1
        obtain ⟨o0, k', h3, h4⟩ := hβ b h1
        exact .inr ⟨o0, k', h3, h4⟩
      · rw [h2] at h1; cases h1; exact .inl (Nat.le_refl _))
    (by omega) (by simp [AObj.gen]) (fun hg => absurd hg (by simp [AObj.gen]))
    (fun hle => by
      have hbs : ∀ b, x.S b → w'.heap[b]? = x.w.heap[b]? := fun b hb => hle.blk b (.inl hb)
      refine ⟨h0, fun row hr => (List.mem_append.1 hr).elim (hrow row) (hrow' row), v', us ++ news, hhdr, by rw [List.length_append]; exact hown', fun i row k d h1 h2 => ?_⟩
      have hul := hown.1
      by_cases hi' : i < xs.length
      · rw [List.getElem?_append_left hi'] at h1
        obtain ⟨u, h3, h4⟩ := hc i row k d h1 h2
        refine ⟨u, ?_, h4.mono hbs (fun _ h => h)⟩
        rw [List.getElem?_append_left ((List.getElem?_eq_some_iff.1 h3).1)]
        exact h3
      · rw [List.getElem?_append_right (by omega)] at h1
        obtain ⟨u, h3, h4⟩ := hnews _ row k d h1 h2
        refine ⟨u, ?_, h4.mono hbs (fun _ h => h)⟩
        have e1 : i * sz + k = us.length + ((i - xs.length) * sz + k) := by
          rw [hul, Nat.sub_mul]
          have : xs.length * sz ≤ i * sz := Nat.mul_le_mul_right _ (by omega)
          omega
        rw [e1, List.getElem?_append_right (by omega), Nat.add_sub_cancel_left]
        exact h3)
  refine ⟨v', _, hrun, hup.1, hup.2, rfl, rfl, .own (by simp) ?_ fun o' ho' _ => ?_⟩
  · rcases hown'.2 with ⟨rfl, _⟩ | ⟨g, cap, cur, rfl, _⟩ <;> rfl
  · simp only [if_pos] at ho' ⊢
    cases ho'
    simpa [AObj.shape] using hhdr
end
end Go.Proofs.Ythhodpedkdapcaa.Al
