/-
  What single operations do: addresses of fields, loads, parts, slices, nil checks, conversions, min and max.
-/
import Derived.Test.YthhodpedkdapcaaAl3
namespace Go.Proofs.Ythhodpedkdapcaa.Al
section
variable {P : Program} {c : Bool} {o : Oper} {R : Env} {h : Heap}

theorem sp_index_str {t : TypeId} {x i : Operand} {s : List UInt8} {k : IntKind} {n : Int} {ch : UInt8} (ho : o.op = .index t x i) (ht : P.underlying t = some .string) (hx : Ev c R x (.r (.str s)))
    (hi : Ev c R i (.r (.int k n))) (h0 : c = true → 0 ≤ n) (hrow : c = true → s[n.toNat]? = some ch) : OpQ P c o R h (.r (.int .u8 ch.toNat)) := by
  intro hc z w _ _ he
  refine ⟨.int .u8 ch.toNat, fun w2 hag => ?_, .r (.int _ _)⟩
  obtain ⟨hl, hv⟩ := List.getElem?_eq_some_iff.1 (hrow hc)
  have hl' : n.toNat < (⟨s.toArray⟩ : ByteArray).size := hl
  have h1 : (if 0 ≤ n then (⟨s.toArray⟩ : ByteArray)[n.toNat]? else none) = some ch := by
    rw [if_pos (h0 hc), ByteArray.getElem?_lt' _ _ hl']
    exact congrArg some hv
  unfold execOp
  rw [ho]
  simp only [rep_str (hx.rep he hc), rep_int (hi.rep he hc), Instr.index, asIntOf]
  simp [run_underlying ht, h1]

theorem sp_fieldAddr_ro {t : TypeId} {x : Operand} {f off : Nat} {row : List RV} {k : Nat} (ho : o.op = .fieldAddr t x f) (ht : FieldTy P t f off) (hx : Ev c R x (.rop row k)) : OpQ P c o R h (.rop row (k + off)) := by
  intro hc z w _ _ he
  obtain ⟨fs, fl, i, h1, h2, h3, h4, h5⟩ := ht
  have hv := hx.rep he hc
  generalize hw : w.eval x = v at hv
  cases hv with
  | @rop _ _ b off' u hS hcl hr =>
    refine ⟨.pointer (some ⟨b, off' + (k + off), none⟩), fun w2 hag => ?_, .rop u hS hcl hr⟩
    unfold execOp
    rw [ho]
    simp [hw, Instr.fieldAt, run_underlying h1, h2, Instr.sureAddr, fieldPlace, run_sizeOf h4, h5, h3, Addr.add_lit, Nat.add_assoc]
theorem sp_fieldAddr_own {t : TypeId} {x : Operand} {f off : Nat} {id g i k : Nat} {ob : AObj} (ho : o.op = .fieldAddr t x f) (ht : FieldTy P t f off) (hx : Ev c R x (.ptr id g i k)) (hh : c = true → hget h id = some ob)
    (hg : ob.gen = g) : OpQ P c o R h (.ptr id g i (k + off)) := by
  intro hc z w _ hH he
  obtain ⟨fs, fl, ii, h1, h2, h3, h4, h5⟩ := ht
  have hv := hx.rep he hc
  generalize hw : w.eval x = v at hv
  cases hv with
  | ptr hgn _ hp =>
    have hob : z.H id = some ob := by rw [hH]; exact hh hc
    obtain ⟨b, cap, hβ, rfl⟩ := hp ob hob hg
    refine ⟨.pointer (some ⟨b, i * ob.shape.2.1 + (k + off), none⟩), fun w2 hag => ?_, .ptr hgn rfl fun o' ho' _ => ?_⟩
    · unfold execOp
      rw [ho]
      simp [hw, Instr.fieldAt, run_underlying h1, h2, Instr.sureAddr, fieldPlace, run_sizeOf h4, h5, h3, Addr.add_lit, Nat.add_assoc]
    · rw [hob] at ho'; cases ho'; exact ⟨b, cap, hβ, rfl⟩

theorem run_load_cell {w : World} {b k : Nat} {u : Value} (hc : w.cell? ⟨b, k, none⟩ = some u) : (load (⟨b, k, none⟩ : Addr)).run P w = .ok u w := by simp [hc]
theorem run_loadAt_scal {t : TypeId} (ht : ScalTy P t) {w : World} {b k : Nat} {u : Value} (hc : w.cell? ⟨b, k, none⟩ = some u) : (Instr.loadAt t (.pointer (some ⟨b, k, none⟩))).run P w = .ok u w := by
  obtain ⟨d, i, h1, h2, _, _⟩ := ht
  simp [Instr.loadAt, Instr.sureAddr, loadVar, run_isAgg h1, h2, hc]
theorem run_loadAt_agg {t : TypeId} {sz : Nat} (ht : AggTy P t sz) {w : World} {b k : Nat} (f : Nat → Value) (hc : ∀ j, j < sz → w.cell? ⟨b, k + j, none⟩ = some (f j)) :
    (Instr.loadAt t (.pointer (some ⟨b, k, none⟩))).run P w = .ok (.agg ((List.range sz).map f).toArray) w := by
  obtain ⟨d, i, h1, h2, h3, h4⟩ := ht
  have h5 := run_loadCells (P := P) w ⟨b, k, none⟩ sz f (fun j hj => by rw [Addr.add_lit]; exact hc j hj)
  simp [Instr.loadAt, Instr.sureAddr, loadVar, run_isAgg h1, h2, run_sizeOf h3, h4, h5]

theorem agg_of_fun {x : Cx} {cs : List AV} {sz : Nat} (hl : cs.length = sz) (f : Nat → Value) (hf : ∀ j a, cs[j]? = some a → AVRep x a (f j)) : AVRep x (.agg cs) (.agg ((List.range sz).map f).toArray) := by
  refine .agg (by simp [hl]) fun i a u h1 h2 => ?_
  have hi : i < sz := by have := (List.getElem?_eq_some_iff.1 h1).1; omega
  simp [hi] at h2
  subst h2
  exact hf i a h1

theorem sp_load_ro {t : TypeId} {x : Operand} {row : List RV} {k : Nat} {d : RV} (ho : o.op = .load t x) (ht : ScalTy P t) (hx : Ev c R x (.rop row k)) (hd : c = true → row[k]? = some d) : OpQ P c o R h (.r d) := by
  intro hc z w _ _ he
  have hv := hx.rep he hc
  generalize hw : w.eval x = v at hv
  cases hv with
  | @rop _ _ b off' u hS hcl hr =>
    refine ⟨u k, fun w2 hag => ?_, .r (hr _ _ (hd hc))⟩
    unfold execOp
    rw [ho]
    have hne : row ≠ [] := by have := hd hc; rintro rfl; simp at this
    simp [hw, run_loadAt_scal ht ((hag.cellS (hS hne)).trans (hcl _ _ (hd hc)))]
theorem sp_loadA_ro {t : TypeId} {x : Operand} {row : List RV} {sz : Nat} (ho : o.op = .load t x) (ht : AggTy P t sz) (hx : Ev c R x (.rop row 0)) (hd : row.length = sz) : OpQ P c o R h (.agg (row.map .r)) := by
  intro hc z w _ _ he
  have hv := hx.rep he hc
  generalize hw : w.eval x = v at hv
  cases hv with
  | @rop _ _ b off' u hS hcl hr =>
    refine ⟨.agg ((List.range sz).map u).toArray, fun w2 hag => ?_, agg_of_fun (by simp [hd]) u fun j a hj => ?_⟩
    · unfold execOp
      rw [ho]
      have := run_loadAt_agg ht (w := w2) (b := b) (k := off' + 0) u (fun j hj => (hag.cellS (hS (by rintro rfl; simp at hd; omega))).trans (hcl j (row[j]'(by omega)) (List.getElem?_eq_getElem _)))
      simp only [Nat.add_zero] at this
      simp [hw, this]
    · simp only [List.getElem?_map, Option.map_eq_some_iff] at hj
      obtain ⟨d, h1, rfl⟩ := hj
      exact .r (hr _ _ h1)

theorem rep_box {x : Cx} (hok : x.ok) {id g k : Nat} {e : TypeId} {cs : List AV} {v : Value} (hH : x.H id = some (.box g e cs)) (hv : AVRep x (.ptr id g 0 k) v) :
    ∃ b cur, x.β id = some (b, 1) ∧ v = .pointer (some ⟨b, k, none⟩) ∧ x.w.heap[b]? = some (.cells cur e (0, 0)) ∧ cur.size = cs.length ∧
      ∀ (j : Nat) (a : AV), cs[j]? = some a → ∃ u : Value, cur[j]? = some u ∧ u.oneCell' = true ∧ AVRep x a u := by
  obtain ⟨_, b, cur, h1, h2, h3, h4⟩ := hok.obj _ _ hH
  cases hv with
  | ptr _ _ hv =>
    obtain ⟨b', cap, h5, h6⟩ := hv _ hH rfl
    rw [h1] at h5
    simp only [Option.some.injEq, Prod.mk.injEq] at h5
    obtain ⟨rfl, rfl⟩ := h5
    exact ⟨b, cur, h1, by rw [h6, Nat.zero_mul, Nat.zero_add], h2, h3, h4⟩

theorem sp_load_box {t : TypeId} {x : Operand} {id g k : Nat} {e : TypeId} {cs : List AV} {a : AV} (ho : o.op = .load t x) (ht : ScalTy P t) (hx : Ev c R x (.ptr id g 0 k)) (hh : c = true → hget h id = some (.box g e cs))
    (ha : c = true → cs[k]? = some a) : OpQ P c o R h a := by
  intro hc z w hok hH he
  have hHid : z.H id = some (.box g e cs) := by rw [hH]; exact hh hc
  obtain ⟨b, cur, h1, h2, h3, h4, h5⟩ := rep_box hok hHid (hx.rep he hc)
  obtain ⟨u, h6, _, h7⟩ := h5 _ _ (ha hc)
  refine ⟨u, fun w2 hag => ?_, h7⟩
  unfold execOp
  rw [ho]
  simp [h2, run_loadAt_scal ht ((hag.cellO hHid h1).trans ((cell_of_row _ b k cur e _ h3).trans h6))]
theorem sp_loadA_box {t : TypeId} {x : Operand} {id g : Nat} {e : TypeId} {sz : Nat} {cs : List AV} (ho : o.op = .load t x) (ht : AggTy P t sz) (hx : Ev c R x (.ptr id g 0 0)) (hh : c = true → hget h id = some (.box g e cs))
    (hl : cs.length = sz) : OpQ P c o R h (.agg cs) := by
  intro hc z w hok hH he
  have hHid : z.H id = some (.box g e cs) := by rw [hH]; exact hh hc
  obtain ⟨b, cur, h1, h2, h3, h4, h5⟩ := rep_box hok hHid (hx.rep he hc)
  have hcell : ∀ j, j < sz → z.w.cell? ⟨b, 0 + j, none⟩ = some ((fun j => cur.getD j undef) j) := by
    intro j hj
    have hj' : j < cur.size := by omega
    rw [Nat.zero_add, cell_of_row _ b j cur e _ h3]
    simp [hj']
  refine ⟨.agg ((List.range sz).map fun j => cur.getD j undef).toArray, fun w2 hag => ?_, agg_of_fun hl _ fun j a hj => ?_⟩
  · unfold execOp
    rw [ho]
    simp [h2, run_loadAt_agg ht _ (fun j hj => (hag.cellO hHid h1).trans (hcell j hj))]
  · obtain ⟨u, h6, _, h7⟩ := h5 _ _ hj
    obtain ⟨h8, h9⟩ := Array.getElem?_eq_some_iff.1 h6
    simpa [h8, h9] using h7

theorem ownsRow_cell {w : World} {e : TypeId} {sz n cap b : Nat} {us : List Value} (h : w.ownsRow 0 e sz (.slice (some ⟨b, 0, none⟩) n cap) n us) {j : Nat} {u : Value} (hj : us[j]? = some u) : w.cell? ⟨b, j, none⟩ = some u := by
  have := h.cells (g := b) rfl j u hj
  rwa [Addr.add_lit, Nat.zero_add] at this

theorem rep_elem {x : Cx} (hok : x.ok) {id g i k : Nat} {e : TypeId} {sz : Nat} {xs : List (List RV)} {v : Value} (hH : x.H id = some (.arr g e sz xs)) (_hi : i < xs.length) (hv : AVRep x (.ptr id g i k) v) :
    ∃ b cap us, x.β id = some (b, cap) ∧ v = .pointer (some ⟨b, i * sz + k, none⟩) ∧ x.w.ownsRow 0 e sz (.slice (some ⟨b, 0, none⟩) xs.length cap) xs.length us ∧ (∀ row ∈ xs, row.length = sz) ∧
      ∀ i row c d, xs[i]? = some row → row[c]? = some d → ∃ u, us[i * sz + c]? = some u ∧ RRep x.w x.S d u := by
  obtain ⟨_, h0, h1, hdr, us, h2, h3, h4⟩ := hok.obj _ _ hH
  cases hv with
  | ptr _ _ hv =>
    obtain ⟨b, cap, h5, h6⟩ := hv _ hH rfl
    rw [h5] at h2
    simp only [hdrOk] at h2
    subst h2
    exact ⟨b, cap, us, h5, h6, h3, h1, h4⟩

theorem sp_load_arr {t : TypeId} {x : Operand} {id g i k : Nat} {e : TypeId} {sz : Nat} {xs : List (List RV)} {row : List RV} {d : RV} (ho : o.op = .load t x) (ht : ScalTy P t) (hx : Ev c R x (.ptr id g i k)) (hh : c = true → hget h id = some (.arr g e sz xs))
    (hrow : c = true → xs[i]? = some row) (ha : c = true → row[k]? = some d) : OpQ P c o R h (.r d) := by
  intro hc z w hok hH he
  have hHid : z.H id = some (.arr g e sz xs) := by rw [hH]; exact hh hc
  obtain ⟨b, cap, us, h1, h2, h3, _, h5⟩ := rep_elem hok hHid (List.getElem?_eq_some_iff.1 (hrow hc)).1 (hx.rep he hc)
  obtain ⟨u, h6, h7⟩ := h5 _ _ _ _ (hrow hc) (ha hc)
  refine ⟨u, fun w2 hag => ?_, .r h7⟩
  unfold execOp
  rw [ho]
  simp [h2, run_loadAt_scal ht ((hag.cellO hHid h1).trans (ownsRow_cell h3 h6))]
theorem sp_loadA_arr {t : TypeId} {x : Operand} {id g i : Nat} {e : TypeId} {sz : Nat} {xs : List (List RV)} {row : List RV} (ho : o.op = .load t x) (ht : AggTy P t sz) (hx : Ev c R x (.ptr id g i 0)) (hh : c = true → hget h id = some (.arr g e sz xs))
    (hrow : c = true → xs[i]? = some row) : OpQ P c o R h (.agg (row.map .r)) := by
  intro hc z w hok hH he
  have hHid : z.H id = some (.arr g e sz xs) := by rw [hH]; exact hh hc
  obtain ⟨b, cap, us, h1, h2, h3, h4, h5⟩ := rep_elem hok hHid (List.getElem?_eq_some_iff.1 (hrow hc)).1 (hx.rep he hc)
  have hl := h4 row (List.mem_of_getElem? (hrow hc))
  have hcell : ∀ j, j < sz → z.w.cell? ⟨b, i * sz + 0 + j, none⟩ = some ((fun j => us.getD (i * sz + j) undef) j) := by
    intro j hj
    obtain ⟨u, h6, _⟩ := h5 i row j (row[j]'(by omega)) (hrow hc) (List.getElem?_eq_getElem _)
    rw [Nat.add_zero, ownsRow_cell h3 h6]
    simp [List.getD, h6]
  refine ⟨.agg ((List.range sz).map fun j => us.getD (i * sz + j) undef).toArray, fun w2 hag => ?_, agg_of_fun (by simp [hl]) _ fun j a hj => ?_⟩
  · unfold execOp
    rw [ho]
    simp only [h2, run_loadAt_agg ht _ (fun j hj => (hag.cellO hHid h1).trans (hcell j hj)), Sem.run_bind, Result.andThen_ok, Sem.run_pure]
  · simp only [List.getElem?_map, Option.map_eq_some_iff] at hj
    obtain ⟨d, h6, rfl⟩ := hj
    obtain ⟨u, h7, h8⟩ := h5 i row j d (hrow hc) h6
    simpa [List.getD, h7] using AVRep.r h8

theorem sp_extract {x : Operand} {vs : List AV} {i : Nat} {a : AV} (ho : o.op = .extract x i) (hx : Ev c R x (.tup vs)) (ha : vs[i]? = some a) : OpQ P c o R h a := by
  intro hc z w _ _ he
  have hv := hx.rep he hc
  generalize hw : w.eval x = v at hv
  cases hv with
  | @tup _ us hl hall =>
    have hi : i < us.size := by have := (List.getElem?_eq_some_iff.1 ha).1; omega
    refine ⟨us[i], fun w2 hag => ?_, hall i a us[i] ha (Array.getElem?_eq_getElem hi)⟩
    unfold execOp
    rw [ho]
    simp [hw, Instr.extract, Array.getElem?_eq_getElem hi]

theorem sp_nilCheck_ro {x : Operand} {row : List RV} {k : Nat} (ho : o.op = .nilCheck x) (hx : Ev c R x (.rop row k)) : OpQ P c o R h (.rop row k) := by
  intro hc z w _ _ he
  have hv := hx.rep he hc
  refine ⟨w.eval x, fun w2 hag => ?_, hv⟩
  generalize hw : w.eval x = v at hv
  cases hv with
  | @rop _ _ b off' u hS hcl hr =>
    unfold execOp
    rw [ho]
    simp [hw]
theorem sp_nilCheck_own {x : Operand} {id g i k : Nat} {ob : AObj} (ho : o.op = .nilCheck x) (hx : Ev c R x (.ptr id g i k)) (hh : c = true → hget h id = some ob) (hg : ob.gen = g) : OpQ P c o R h (.ptr id g i k) := by
  intro hc z w _ hH he
  have hv := hx.rep he hc
  refine ⟨w.eval x, fun w2 hag => ?_, hv⟩
  generalize hw : w.eval x = v at hv
  cases hv with
  | ptr hgn _ hp =>
    obtain ⟨b, cap, hβ, rfl⟩ := hp ob (by rw [hH]; exact hh hc) hg
    unfold execOp
    rw [ho]
    simp [hw]

theorem sp_convert_int {t t' : TypeId} {x : Operand} {k k' : IntKind} {n : Int} {d : TypeDesc} (ho : o.op = .convert t t' x) (ht : P.underlying t = some d) (ht' : P.underlying t' = some (.int k')) (hx : Ev c R x (.r (.int k n))) :
    OpQ P c o R h (.r (.int k' (k'.wrap n))) := by
  intro hc z w _ _ he
  refine ⟨.int k' (k'.wrap n), fun w2 hag => ?_, .r (.int _ _)⟩
  unfold execOp
  rw [ho]
  simp [rep_int (hx.rep he hc), convert, run_underlying ht, run_underlying ht', Conv.intToInt]

theorem sp_min {ats : Array TypeId} {x y : Operand} {k : IntKind} {m n : Int} (ho : o.op = .call { callee := .builtin .min, args := #[x, y], argTypes := ats }) (hx : Ev c R x (.r (.int k m))) (hy : Ev c R y (.r (.int k n))) :
    OpQ P c o R h (.r (.int k (min m n))) := by
  intro hc z w _ _ he
  refine ⟨.int k (if n < m then n else m), fun w2 hag => ?_, ?_⟩
  · unfold execOp
    rw [ho]
    simp [resolve, invoke, builtin, rep_int (hx.rep he hc), rep_int (hy.rep he hc), Builtin.min_, Builtin.min2]
  · have : (if n < m then n else m) = min m n := by omega
    rw [this]; exact .r (.int _ _)
theorem sp_max {ats : Array TypeId} {x y : Operand} {k : IntKind} {m n : Int} (ho : o.op = .call { callee := .builtin .max, args := #[x, y], argTypes := ats }) (hx : Ev c R x (.r (.int k m))) (hy : Ev c R y (.r (.int k n))) :
    OpQ P c o R h (.r (.int k (max m n))) := by
  intro hc z w _ _ he
  refine ⟨.int k (if n > m then n else m), fun w2 hag => ?_, ?_⟩
  · unfold execOp
    rw [ho]
    simp [resolve, invoke, builtin, rep_int (hx.rep he hc), rep_int (hy.rep he hc), Builtin.max_, Builtin.max2]
  · have : (if n > m then n else m) = max m n := by omega
    rw [this]; exact .r (.int _ _)
end
end Go.Proofs.Ythhodpedkdapcaa.Al
