/-
  Facts on types, out of the program's tables; small helpers for walks.
-/
import Derived.Test.YthhodpedkdapcaaAl13
namespace Go.Proofs.Ythhodpedkdapcaa.Al
section
variable {P : Program} {t e : TypeId} {z : Value} {sz b : Nat}
theorem info_of (h : (P.info? t).map (fun i => (i.zero, i.size, i.bytes)) = some (some z, sz, b)) : ∃ i, P.info? t = some i ∧ i.zero = some z ∧ i.size = sz ∧ i.bytes = b := by
  cases hi : P.info? t with
  | none => rw [hi] at h; cases h
  | some i =>
    rw [hi] at h
    simp only [Option.map_some, Option.some.injEq, Prod.mk.injEq] at h
    exact ⟨i, rfl, h.1, h.2.1, h.2.2⟩
theorem GrowTy.of (h1 : P.underlying t = some (.slice e)) (h2 : (P.info? e).map (fun i => (i.zero, i.size, i.bytes)) = some (some z, sz, b)) (h3 : z.cells.size = sz) (h4 : z.cells.toList.all Value.oneCell' = true) (h5 : 0 < sz) : GrowTy P t e sz b := by
  obtain ⟨i, k1, k2, k3, k4⟩ := info_of h2
  exact ⟨h1, i, z, k1, k3, k4, k2, h3, fun u hu => List.all_eq_true.1 h4 u hu, h5⟩
theorem ScalTy.of {d : TypeDesc} (h1 : P.underlying t = some d) (h2 : Scal d = true) (h3 : (P.info? t).map (fun i => (i.zero, i.size, i.bytes)) = some (some z, 1, b)) : ScalTy P t := by
  obtain ⟨i, k1, _, k3, _⟩ := info_of h3
  exact ⟨d, i, h1, h2, k1, k3⟩
theorem AggTy.of {d : TypeDesc} (h1 : P.underlying t = some d) (h2 : Scal d = false) (h3 : (P.info? t).map (fun i => (i.zero, i.size, i.bytes)) = some (some z, sz, b)) : AggTy P t sz := by
  obtain ⟨i, k1, _, k3, _⟩ := info_of h3
  exact ⟨d, i, h1, h2, k1, k3⟩
theorem size_of (h3 : (P.info? t).map (fun i => (i.zero, i.size, i.bytes)) = some (some z, sz, b)) : ∃ i, P.info? t = some i ∧ i.size = sz := by
  obtain ⟨i, k1, _, k3, _⟩ := info_of h3
  exact ⟨i, k1, k3⟩
theorem ZeroTy.of (h3 : (P.info? t).map (fun i => (i.zero, i.size, i.bytes)) = some (some z, sz, b)) : ZeroTy P t z := by
  obtain ⟨i, k1, k2, _, _⟩ := info_of h3
  exact ⟨i, k1, k2⟩
theorem ZRow.of {zrow : List RV} (h3 : (P.info? t).map (fun i => (i.zero, i.size, i.bytes)) = some (some z, sz, b)) (h : rowRV (zeroAV z) = some zrow) : ZRow P t zrow := by
  obtain ⟨i, k1, k2, _, _⟩ := info_of h3
  exact ⟨i, z, k1, k2, h⟩
theorem FieldTy.of {fs : Array Field} {fl : Field} {f off : Nat} (h1 : P.underlying t = some (.struct fs)) (h2 : fs[f]? = some fl) (h3 : fl.offset = off) (h4 : (P.info? fl.type).map (fun i => (i.zero, i.size, i.bytes)) = some (some z, sz, b)) (h5 : sz ≠ 0) : FieldTy P t f off := by
  obtain ⟨i, k1, _, k3, _⟩ := info_of h4
  exact ⟨fs, fl, i, h1, h2, h3, k1, by rw [k3]; exact h5⟩
theorem FieldSc.of {fs : Array Field} {fl : Field} {d : TypeDesc} {f off : Nat} (h1 : P.underlying t = some (.struct fs)) (h2 : fs[f]? = some fl) (h3 : fl.offset = off) (h4 : P.underlying fl.type = some d) (h5 : Scal d = true) : FieldSc P t f off := ⟨fs, fl, d, h1, h2, h3, h4, h5⟩
theorem BuildTy.of {fs : Array Field} {places : List (Nat × Nat)} {zs : List Value} (h1 : P.underlying t = some (.struct fs)) (h2 : ∀ w, (fs.mapM (m := Sem) fun f => do pure (f.offset, ← sizeOf f.type)).run P w = .ok places.toArray w)
    (h3 : (P.info? t).map (fun i => (i.zero, i.size, i.bytes)) = some (some (.agg zs.toArray), sz, b)) : BuildTy P t places zs := by
  obtain ⟨i, k1, k2, _, _⟩ := info_of h3
  exact ⟨fs, h1, h2, i, k1, k2⟩
end
/-- A store into one element of a row that a list of data maps to. -/
theorem sp_store_map {P : Program} {c : Bool} {o : Oper} {R : Env} {h : Heap} {n : Nat} {α : Type} [Inhabited α] {t : TypeId} {x y : Operand} {id g k : Nat} {z : Int} {i : Nat} {e : TypeId} {sz : Nat} {l : List α} {f : α → List RV} {a : AV} {d : RV} (v : α)
    (ho : o.op = .store t x y) (ht : ∃ i, P.info? t = some i ∧ i.size = 1) (hx : Ev c R x (.ptr id g z.toNat k)) (hz : z = i) (hh : hget h id = some (.arr g e sz (l.map f))) (hi : i < l.length) (hk : k < (f l[i]!).length) (hy : Ev c R y a) (hd : cellRV a = some d)
    (h1 : (cellsAV a).length = 1) (hv : (f l[i]!).set k d = f v) : OpSpec P c o R h n .any ((id, some (.arr g e sz ((l.set i v).map f))) :: h) n := by
  have hz' : z.toNat = i := by omega
  rw [hz'] at hx
  have := sp_store_arr (n := n) ho ht hx hh (row := f l[i]!) (by simp [hi]) hk hy hd h1
  rwa [hv, ← List.map_set] at this
theorem sp_len_roM {P : Program} {c : Bool} {o : Oper} {R : Env} {h : Heap} {α : Type} {t : TypeId} {e : TypeId} {sz : Nat} {x : Operand} {l : List α} {f : α → List RV} (ho : o.op = .call { callee := .builtin .len, args := #[x], argTypes := #[t] }) (ht : SliceTy P t e sz)
    (hx : Ev c R x (.r (.sl (l.map f)))) : OpQ P c o R h (.r (.int .i64 l.length)) := by
  have := sp_len_ro (h := h) ho ht hx
  rwa [List.length_map] at this
theorem sp_len_ownM {P : Program} {c : Bool} {o : Oper} {R : Env} {h : Heap} {α : Type} {t : TypeId} {e e' : TypeId} {sz sz' : Nat} {x : Operand} {id g : Nat} {l : List α} {f : α → List RV} (ho : o.op = .call { callee := .builtin .len, args := #[x], argTypes := #[t] })
    (ht : SliceTy P t e sz) (hx : Ev c R x (.own id g)) (hh : hget h id = some (.arr g e' sz' (l.map f))) : OpQ P c o R h (.r (.int .i64 l.length)) := by
  have := sp_len_own ho ht hx hh
  rwa [List.length_map] at this
theorem int_eq {k : IntKind} {x y : Int} (h : x = y) : AV.r (.int k x) = AV.r (.int k y) := by rw [h]
theorem sl_eq {x y : List (List RV)} (h : x = y) : AV.r (.sl x) = AV.r (.sl y) := by rw [h]
theorem bool_eq {x y : Bool} (h : x = y) : AV.r (.bool x) = AV.r (.bool y) := by rw [h]
theorem arr_eq {g : Nat} {e : TypeId} {sz : Nat} {xs ys : List (List RV)} (h : xs = ys) : some (AObj.arr g e sz xs) = some (AObj.arr g e sz ys) := by rw [h]
theorem str_at {s : List UInt8} {z : Int} {i : Nat} (hz : z = i) (h : i < s.length) : s[z.toNat]? = some s[i]! := by
  subst hz
  simp [h]

/-! Rows that a plain list lays: the index said by hand. -/
theorem get_map {α : Type} [Inhabited α] {l : List α} {f : α → List RV} {i : Nat} (h : i < l.length) : (l.map f)[i]? = some (f l[i]!) := by simp [h]
theorem sp_indexAddr_roM {P : Program} {c : Bool} {o : Oper} {R : Env} {h : Heap} {α : Type} [Inhabited α] {t e : TypeId} {sz : Nat} {x y : Operand} {l : List α} {f : α → List RV} {k : IntKind} {z : Int} (i : Nat) (ho : o.op = .indexAddr t x y) (ht : SliceTy P t e sz) (hx : Ev c R x (.r (.sl (l.map f))))
    (hy : Ev c R y (.r (.int k z))) (hlen : (f l[i]!).length = sz) (hz : c = true → z = i) (hi : c = true → i < l.length) : OpQ P c o R h (.rop (f l[i]!) 0) :=
  sp_indexAddr_ro ho ht hx hy (fun hc => by have := hz hc; omega) (fun hc => row_map (hz hc) (hi hc)) hlen
theorem sp_indexAddr_ownM {P : Program} {c : Bool} {o : Oper} {R : Env} {h : Heap} {α : Type} {t e e' : TypeId} {sz : Nat} {x y : Operand} {id g : Nat} {l : List α} {f : α → List RV} {k : IntKind} {z : Int} (i : Nat) (ho : o.op = .indexAddr t x y) (ht : SliceTy P t e sz) (hx : Ev c R x (.own id g))
    (hh : hget h id = some (.arr g e' sz (l.map f))) (hy : Ev c R y (.r (.int k z))) (hz : c = true → z = i) (hi : c = true → i < l.length) : OpQ P c o R h (.ptr id g i 0) := by
  intro hc
  have h1 := hz hc
  have h2 := hi hc
  have h3 : z < ((l.map f).length : Nat) := by rw [List.length_map]; omega
  have := sp_indexAddr_own ho ht hx hh hy (fun _ => by omega) (fun _ => h3) hc
  rwa [show z.toNat = i by omega] at this
theorem sp_load_arrM {P : Program} {c : Bool} {o : Oper} {R : Env} {h : Heap} {α : Type} [Inhabited α] {t : TypeId} {x : Operand} {id g i k : Nat} {e : TypeId} {sz : Nat} {l : List α} {f : α → List RV} {d : RV} (ho : o.op = .load t x) (ht : ScalTy P t) (hx : Ev c R x (.ptr id g i k))
    (hh : c = true → hget h id = some (.arr g e sz (l.map f))) (ha : c = true → (f l[i]!)[k]? = some d) (hi : c = true → i < l.length) : OpQ P c o R h (.r d) :=
  sp_load_arr ho ht hx hh (fun hc => get_map (hi hc)) ha
theorem sp_loadA_arrM {P : Program} {c : Bool} {o : Oper} {R : Env} {h : Heap} {α : Type} [Inhabited α] {t : TypeId} {x : Operand} {id g i : Nat} {e : TypeId} {sz : Nat} {l : List α} {f : α → List RV} (ho : o.op = .load t x) (ht : AggTy P t sz) (hx : Ev c R x (.ptr id g i 0))
    (hh : c = true → hget h id = some (.arr g e sz (l.map f))) (hi : c = true → i < l.length) : OpQ P c o R h (.agg ((f l[i]!).map .r)) :=
  sp_loadA_arr ho ht hx hh (fun hc => get_map (hi hc))
theorem sp_storeM {P : Program} {c : Bool} {o : Oper} {R : Env} {h : Heap} {n : Nat} {α : Type} [Inhabited α] {t : TypeId} {x y : Operand} {id g k i : Nat} {e : TypeId} {sz : Nat} {l : List α} {f : α → List RV} {a : AV} {d : RV} (v : α)
    (ho : o.op = .store t x y) (ht : ∃ i, P.info? t = some i ∧ i.size = 1) (hx : Ev c R x (.ptr id g i k)) (hh : hget h id = some (.arr g e sz (l.map f))) (hy : Ev c R y a) (hd : cellRV a = some d)
    (h1 : (cellsAV a).length = 1) (hi : i < l.length) (hk : k < (f l[i]!).length) (hv : (f l[i]!).set k d = f v) : OpSpec P c o R h n .any ((id, some (.arr g e sz ((l.set i v).map f))) :: h) n := by
  have := sp_store_arr (n := n) ho ht hx hh (row := f l[i]!) (by simp [hi]) hk hy hd h1
  rwa [hv, ← List.map_set] at this
theorem set_get {α : Type} [Inhabited α] {l : List α} {i : Nat} {v : α} (h : i < l.length) : (l.set i v)[i]! = v := by simp [h]
/-! What a function gives at its end. -/
theorem ret_closed {s : St} {t : Nat} {r : AV} {x : Exit} (hx : x = .ret ∨ x = .normal) (h : get s.e t = r) (hc : r.closed = true) : RetQ [.tmp t] r x s := by
  rcases hx with rfl | rfl <;> exact h ▸ .one (.closed _ (h ▸ hc))
theorem ret_own {s : St} {t id g : Nat} {e : TypeId} {sz : Nat} {xs : List (List RV)} {r : AV} {x : Exit} (hx : x = .ret ∨ x = .normal) (ht : get s.e t = .own id g) (hh : hget s.h id = some (.arr g e sz xs)) (hr : r = .r (.sl xs)) : RetQ [.tmp t] r x s := by
  subst hr
  rcases hx with rfl | rfl <;> (show Fz s.h (get s.e t) _; rw [ht]; exact .one (.own hh))
theorem ret_nil {s : St} {t : Nat} {r : AV} {x : Exit} (hx : x = .ret ∨ x = .normal) (ht : get s.e t = .cst (.slice none 0 0)) (hr : r = .r (.sl [])) : RetQ [.tmp t] r x s := by
  subst hr
  rcases hx with rfl | rfl <;> (show Fz s.h (get s.e t) _; rw [ht]; exact .one .nil)
/-- Ways that meet: what follows is walked once. -/
theorem join_k {K A : St → Prop} {G : Prop} {α : Type} (_ : ∀ s, A s → K s) (S : α → St) (R : α → Prop) (h : ∀ a, R a → A (S a)) (k : (∀ a, R a → A (S a)) → G) : G := k h
theorem rep_bool' {x : Cx} {b : Bool} {v : Value} (h : AVRep x (.r (.bool b)) v) : v = .bool b := by
  cases h with
  | r h => cases h; rfl
theorem sp_boolop {P : Program} {c : Bool} {o : Oper} {R : Env} {h : Heap} {op : BinOp} {t t' : TypeId} {x y : Operand} {m n : Bool} {v : RV} {u : Value} (ho : o.op = .binOp op t x y t') (hx : Ev c R x (.r (.bool m))) (hy : Ev c R y (.r (.bool n)))
    (hr : ∀ w, (binOp op t (.bool m) (.bool n)).run P w = .ok u w) (hu : ∀ w S, RRep w S v u) : OpQ P c o R h (.r v) := by
  intro hc z a _ _ he
  refine ⟨u, fun w2 hag => ?_, .r (hu _ _)⟩
  unfold execOp
  rw [ho]
  simp only [rep_bool' (hx.rep he hc), rep_bool' (hy.rep he hc), eqGuard_at_bool]
  simp [hr]
theorem sp_beql {P : Program} {c : Bool} {o : Oper} {R : Env} {h : Heap} {t t' : TypeId} {x y : Operand} {m n : Bool} (ho : o.op = .binOp .eql t x y t') (ht : P.underlying t = some .bool) (hx : Ev c R x (.r (.bool m))) (hy : Ev c R y (.r (.bool n))) :
    OpQ P c o R h (.r (.bool (m == n))) := sp_boolop ho hx hy (fun w => by simp [binOp, run_equal_bool _ t m n ht]) (fun _ _ => .bool _)
theorem sp_bneq {P : Program} {c : Bool} {o : Oper} {R : Env} {h : Heap} {t t' : TypeId} {x y : Operand} {m n : Bool} (ho : o.op = .binOp .neq t x y t') (ht : P.underlying t = some .bool) (hx : Ev c R x (.r (.bool m))) (hy : Ev c R y (.r (.bool n))) :
    OpQ P c o R h (.r (.bool (!(m == n)))) := sp_boolop ho hx hy (fun w => by simp [binOp, run_equal_bool _ t m n ht]) (fun _ _ => .bool _)
end Go.Proofs.Ythhodpedkdapcaa.Al
