/-
  What single operations do: those that only compute or read.
-/
import Derived.Test.YthhodpedkdapcaaAl2
namespace Go.Proofs.Ythhodpedkdapcaa.Al

def Scal : TypeDesc → Bool
  | .struct _ | .array _ _ => false
  | _ => true
/-- A type of one cell. -/
def ScalTy (P : Program) (t : TypeId) : Prop := ∃ d i, P.underlying t = some d ∧ Scal d = true ∧ P.info? t = some i ∧ i.size = 1
/-- A struct or an array of so many cells. -/
def AggTy (P : Program) (t : TypeId) (sz : Nat) : Prop := ∃ d i, P.underlying t = some d ∧ Scal d = false ∧ P.info? t = some i ∧ i.size = sz
def SliceTy (P : Program) (t e : TypeId) (sz : Nat) : Prop := P.underlying t = some (.slice e) ∧ ∃ i, P.info? e = some i ∧ i.size = sz
def FieldTy (P : Program) (t : TypeId) (f off : Nat) : Prop := ∃ fs fl i, P.underlying t = some (.struct fs) ∧ fs[f]? = some fl ∧ fl.offset = off ∧ P.info? fl.type = some i ∧ i.size ≠ 0

section
variable {P : Program} {c : Bool} {o : Oper} {R : Env} {h : Heap}

theorem run_isAgg {t : TypeId} {d : TypeDesc} (hd : P.underlying t = some d) (w : World) : (isAgg t).run P w = .ok (!Scal d) w := by
  cases d <;> simp [isAgg, run_underlying hd, Scal]
theorem run_sizeOf {t : TypeId} {i : TypeInfo} (hi : P.info? t = some i) (w : World) : (sizeOf t).run P w = .ok i.size w := by
  simp [sizeOf, typeInfo, hi]

theorem sp_move {x : Operand} {v : AV} (ho : o.op = .move x) (hx : Ev c R x v) : OpQ P c o R h v := by
  intro hc y a _ _ he
  exact ⟨a.eval x, fun _ _ => by unfold execOp; rw [ho]; rfl, hx.rep he hc⟩
theorem sp_assign {x : Operand} {v : AV} (ho : o.op = .assign x) (hx : Ev c R x v) : OpQ P c o R h v := by
  intro hc y a _ _ he
  exact ⟨a.eval x, fun _ _ => by unfold execOp; rw [ho]; rfl, hx.rep he hc⟩

theorem rep_int {x : Cx} {k : IntKind} {n : Int} {v : Value} (h : AVRep x (.r (.int k n)) v) : v = .int k n := by
  cases h with
  | r h => cases h; rfl
theorem rep_bool {x : Cx} {b : Bool} {v : Value} (h : AVRep x (.r (.bool b)) v) : v = .bool b := by
  cases h with
  | r h => cases h; rfl
theorem rep_str {x : Cx} {s : List UInt8} {v : Value} (h : AVRep x (.r (.str s)) v) : v = .string ⟨s.toArray⟩ := by
  cases h with
  | r h => cases h; rfl

theorem sp_binop {op : BinOp} {t t' : TypeId} {x y : Operand} {k : IntKind} {m n : Int} {v : RV} {u : Value} (ho : o.op = .binOp op t x y t') (hx : Ev c R x (.r (.int k m))) (hy : Ev c R y (.r (.int k n)))
    (hr : ∀ w, (binOp op t (.int k m) (.int k n)).run P w = .ok u w) (hu : ∀ w S, RRep w S v u) : OpQ P c o R h (.r v) := by
  intro hc z a _ _ he
  refine ⟨u, fun w2 hag => ?_, .r (hu _ _)⟩
  unfold execOp
  rw [ho]
  simp only [rep_int (hx.rep he hc), rep_int (hy.rep he hc), eqGuard_at_int]
  simp [hr]

theorem sp_add {t t' : TypeId} {x y : Operand} {k : IntKind} {m n : Int} (ho : o.op = .binOp .add t x y t') (hx : Ev c R x (.r (.int k m))) (hy : Ev c R y (.r (.int k n)))
    (hb : k.wrap (m + n) = m + n) : OpQ P c o R h (.r (.int k (m + n))) :=
  sp_binop ho hx hy (fun w => by rw [binOp_add]; simp only [Op.intArith, hb]; rfl) (fun _ _ => .int _ _)
theorem sp_sub {t t' : TypeId} {x y : Operand} {k : IntKind} {m n : Int} (ho : o.op = .binOp .sub t x y t') (hx : Ev c R x (.r (.int k m))) (hy : Ev c R y (.r (.int k n)))
    (hb : k.wrap (m - n) = m - n) : OpQ P c o R h (.r (.int k (m - n))) :=
  sp_binop ho hx hy (fun w => by rw [binOp_sub]; simp only [Op.intArith, hb]; rfl) (fun _ _ => .int _ _)
theorem sp_mul {t t' : TypeId} {x y : Operand} {k : IntKind} {m n : Int} (ho : o.op = .binOp .mul t x y t') (hx : Ev c R x (.r (.int k m))) (hy : Ev c R y (.r (.int k n)))
    (hb : k.wrap (m * n) = m * n) : OpQ P c o R h (.r (.int k (m * n))) :=
  sp_binop ho hx hy (fun w => by rw [binOp_mul]; simp only [Op.intArith, hb]; rfl) (fun _ _ => .int _ _)
theorem sp_addw {t t' : TypeId} {x y : Operand} {k : IntKind} {m n : Int} (ho : o.op = .binOp .add t x y t') (hx : Ev c R x (.r (.int k m))) (hy : Ev c R y (.r (.int k n))) :
    OpQ P c o R h (.r (.int k (k.wrap (m + n)))) :=
  sp_binop ho hx hy (fun w => by rw [binOp_add]; simp only [Op.intArith]; rfl) (fun _ _ => .int _ _)
theorem sp_subw {t t' : TypeId} {x y : Operand} {k : IntKind} {m n : Int} (ho : o.op = .binOp .sub t x y t') (hx : Ev c R x (.r (.int k m))) (hy : Ev c R y (.r (.int k n))) :
    OpQ P c o R h (.r (.int k (k.wrap (m - n)))) :=
  sp_binop ho hx hy (fun w => by rw [binOp_sub]; simp only [Op.intArith]; rfl) (fun _ _ => .int _ _)
theorem sp_quo {t t' : TypeId} {x y : Operand} {k : IntKind} {m n : Int} (ho : o.op = .binOp .quo t x y t') (hx : Ev c R x (.r (.int k m))) (hy : Ev c R y (.r (.int k n)))
    (h0 : n ≠ 0) (hb : k.wrap (m.tdiv n) = m.tdiv n) : OpQ P c o R h (.r (.int k (m.tdiv n))) :=
  sp_binop ho hx hy (fun w => by rw [binOp_quo]; simp only [Op.intDiv, if_neg h0, hb]; rfl) (fun _ _ => .int _ _)
theorem sp_rem {t t' : TypeId} {x y : Operand} {k : IntKind} {m n : Int} (ho : o.op = .binOp .rem t x y t') (hx : Ev c R x (.r (.int k m))) (hy : Ev c R y (.r (.int k n)))
    (h0 : n ≠ 0) : OpQ P c o R h (.r (.int k (m.tmod n))) :=
  sp_binop ho hx hy (fun w => by rw [binOp_rem]; simp only [Op.intDiv, if_neg h0]; rfl) (fun _ _ => .int _ _)
theorem sp_eql {t t' : TypeId} {x y : Operand} {k : IntKind} {m n : Int} (ho : o.op = .binOp .eql t x y t') (hx : Ev c R x (.r (.int k m))) (hy : Ev c R y (.r (.int k n))) :
    OpQ P c o R h (.r (.bool (decide (m = n)))) :=
  sp_binop ho hx hy (fun w => by rw [binOp_eql]; rfl) (fun _ _ => .bool _)
theorem sp_neq {t t' : TypeId} {x y : Operand} {k : IntKind} {m n : Int} (ho : o.op = .binOp .neq t x y t') (hx : Ev c R x (.r (.int k m))) (hy : Ev c R y (.r (.int k n))) :
    OpQ P c o R h (.r (.bool (!decide (m = n)))) :=
  sp_binop ho hx hy (fun w => by rw [binOp_neq]; rfl) (fun _ _ => .bool _)
theorem sp_lss {t t' : TypeId} {x y : Operand} {k : IntKind} {m n : Int} (ho : o.op = .binOp .lss t x y t') (hx : Ev c R x (.r (.int k m))) (hy : Ev c R y (.r (.int k n))) :
    OpQ P c o R h (.r (.bool (decide (m < n)))) :=
  sp_binop ho hx hy (fun w => by rw [binOp_lss]; rfl) (fun _ _ => .bool _)
theorem sp_leq {t t' : TypeId} {x y : Operand} {k : IntKind} {m n : Int} (ho : o.op = .binOp .leq t x y t') (hx : Ev c R x (.r (.int k m))) (hy : Ev c R y (.r (.int k n))) :
    OpQ P c o R h (.r (.bool (decide (m ≤ n)))) :=
  sp_binop ho hx hy (fun w => by rw [binOp_leq]; rfl) (fun _ _ => .bool _)
theorem sp_gtr {t t' : TypeId} {x y : Operand} {k : IntKind} {m n : Int} (ho : o.op = .binOp .gtr t x y t') (hx : Ev c R x (.r (.int k m))) (hy : Ev c R y (.r (.int k n))) :
    OpQ P c o R h (.r (.bool (decide (n < m)))) :=
  sp_binop ho hx hy (fun w => by rw [binOp_gtr]; rfl) (fun _ _ => .bool _)
theorem sp_geq {t t' : TypeId} {x y : Operand} {k : IntKind} {m n : Int} (ho : o.op = .binOp .geq t x y t') (hx : Ev c R x (.r (.int k m))) (hy : Ev c R y (.r (.int k n))) :
    OpQ P c o R h (.r (.bool (decide (n ≤ m)))) :=
  sp_binop ho hx hy (fun w => by rw [binOp_geq]; rfl) (fun _ _ => .bool _)

/-- Go's order of strings. -/
def sLt (a b : List UInt8) : Bool := Op.bytesLess a b

theorem sp_strop {op : BinOp} {t t' : TypeId} {x y : Operand} {a b : List UInt8} {v : RV} {u : Value} (ho : o.op = .binOp op t x y t') (hx : Ev c R x (.r (.str a))) (hy : Ev c R y (.r (.str b)))
    (hr : ∀ w, (binOp op t (.string ⟨a.toArray⟩) (.string ⟨b.toArray⟩)).run P w = .ok u w) (hu : ∀ w S, RRep w S v u) : OpQ P c o R h (.r v) := by
  intro hc z w _ _ he
  refine ⟨u, fun w2 hag => ?_, .r (hu _ _)⟩
  unfold execOp
  rw [ho]
  simp only [rep_str (hx.rep he hc), rep_str (hy.rep he hc), eqGuard_at_string]
  simp [hr]
theorem sp_seql {t t' : TypeId} {x y : Operand} {a b : List UInt8} (ho : o.op = .binOp .eql t x y t') (hx : Ev c R x (.r (.str a))) (hy : Ev c R y (.r (.str b))) :
    OpQ P c o R h (.r (.bool (decide (a = b)))) :=
  sp_strop (u := .bool (a == b)) ho hx hy (fun w => by simp [binOp, Op.stringOp, ByteArray.toList_eq]) (fun _ _ => by
    have : (a == b) = decide (a = b) := by by_cases h : a = b <;> simp [h]
    rw [this]; exact .bool _)
theorem sp_sneq {t t' : TypeId} {x y : Operand} {a b : List UInt8} (ho : o.op = .binOp .neq t x y t') (hx : Ev c R x (.r (.str a))) (hy : Ev c R y (.r (.str b))) :
    OpQ P c o R h (.r (.bool (!decide (a = b)))) :=
  sp_strop (u := .bool (!(a == b))) ho hx hy (fun w => by simp [binOp, Op.stringOp, ByteArray.toList_eq]) (fun _ _ => by
    have : (a == b) = decide (a = b) := by by_cases h : a = b <;> simp [h]
    rw [this]; exact .bool _)
theorem sp_slss {t t' : TypeId} {x y : Operand} {a b : List UInt8} (ho : o.op = .binOp .lss t x y t') (hx : Ev c R x (.r (.str a))) (hy : Ev c R y (.r (.str b))) :
    OpQ P c o R h (.r (.bool (sLt a b))) :=
  sp_strop (u := .bool (sLt a b)) ho hx hy (fun w => by simp [binOp, Op.stringOp, ByteArray.toList_eq, sLt]) (fun _ _ => .bool _)
theorem sp_sgeq {t t' : TypeId} {x y : Operand} {a b : List UInt8} (ho : o.op = .binOp .geq t x y t') (hx : Ev c R x (.r (.str a))) (hy : Ev c R y (.r (.str b))) :
    OpQ P c o R h (.r (.bool (!sLt a b))) :=
  sp_strop (u := .bool (!sLt a b)) ho hx hy (fun w => by simp [binOp, Op.stringOp, ByteArray.toList_eq, sLt]) (fun _ _ => .bool _)
theorem sp_sleq {t t' : TypeId} {x y : Operand} {a b : List UInt8} (ho : o.op = .binOp .leq t x y t') (hx : Ev c R x (.r (.str a))) (hy : Ev c R y (.r (.str b))) :
    OpQ P c o R h (.r (.bool (sLt a b || decide (a = b)))) :=
  sp_strop (u := .bool (sLt a b || (a == b))) ho hx hy (fun w => by simp [binOp, Op.stringOp, ByteArray.toList_eq, sLt]) (fun _ _ => by
    have : (a == b) = decide (a = b) := by by_cases h : a = b <;> simp [h]
    rw [this]; exact .bool _)
theorem sp_sgtr {t t' : TypeId} {x y : Operand} {a b : List UInt8} (ho : o.op = .binOp .gtr t x y t') (hx : Ev c R x (.r (.str a))) (hy : Ev c R y (.r (.str b))) :
    OpQ P c o R h (.r (.bool (!(sLt a b || decide (a = b))))) :=
  sp_strop (u := .bool (!(sLt a b || (a == b)))) ho hx hy (fun w => by simp [binOp, Op.stringOp, ByteArray.toList_eq, sLt]) (fun _ _ => by
    have : (a == b) = decide (a = b) := by by_cases h : a = b <;> simp [h]
    rw [this]; exact .bool _)
theorem sp_sadd {t t' : TypeId} {x y : Operand} {a b : List UInt8} (ho : o.op = .binOp .add t x y t') (hx : Ev c R x (.r (.str a))) (hy : Ev c R y (.r (.str b)))
    (hl : a.length + b.length ≤ 9223372036854775807) : OpQ P c o R h (.r (.str (a ++ b))) :=
  sp_strop (u := .string (⟨a.toArray⟩ ++ ⟨b.toArray⟩)) ho hx hy (fun w => by
    have h1 : (⟨a.toArray⟩ : ByteArray).size = a.length := rfl
    have h2 : (⟨b.toArray⟩ : ByteArray).size = b.length := rfl
    have : ¬ (9223372036854775807 : Int) < (a.length : Int) + (b.length : Int) := by omega
    simp [binOp, Op.stringOp, h1, h2, this]) (fun w S => by
    have h1 : (a ++ b) = ((⟨a.toArray⟩ : ByteArray) ++ ⟨b.toArray⟩).data.toList := by simp [ByteArray.data_append]
    rw [h1]; exact .str _)

theorem sp_not {t : TypeId} {x : Operand} {b : Bool} (ho : o.op = .unOp .not t x) (hx : Ev c R x (.r (.bool b))) : OpQ P c o R h (.r (.bool (!b))) := by
  intro hc z w _ _ he
  refine ⟨.bool (!b), fun w2 hag => ?_, .r (.bool _)⟩
  unfold execOp
  rw [ho]
  simp [rep_bool (hx.rep he hc), Op.unary]
theorem sp_neg {t : TypeId} {x : Operand} {k : IntKind} {m : Int} (ho : o.op = .unOp .neg t x) (hx : Ev c R x (.r (.int k m))) (hb : k.wrap (-m) = -m) : OpQ P c o R h (.r (.int k (-m))) := by
  intro hc z w _ _ he
  refine ⟨.int k (-m), fun w2 hag => ?_, .r (.int _ _)⟩
  unfold execOp
  rw [ho]
  simp [rep_int (hx.rep he hc), Op.unary, Op.intArith, hb]

/-- 'a && b': b stands behind a guard. -/
theorem sp_and {x y : Operand} {a b : Bool} (ho : o.op = .pick x y (.const (.bool false))) (hx : Ev c R x (.r (.bool a))) (hy : Ev (c && (a == true)) R y (.r (.bool b))) :
    OpQ P c o R h (.r (.bool (a && b))) := by
  intro hc z w _ _ he
  refine ⟨.bool (a && b), fun w2 hag => ?_, .r (.bool _)⟩
  unfold execOp
  rw [ho]
  simp only [rep_bool (hx.rep he hc), asBool]
  cases a with
  | true =>
    have h2 : w.eval y = .bool b := rep_bool (hy.rep he (by simp [hc]))
    simp [h2]
  | false => simp [Act.eval]
/-- 'a || b' -/
theorem sp_or {x y : Operand} {a b : Bool} (ho : o.op = .pick x (.const (.bool true)) y) (hx : Ev c R x (.r (.bool a))) (hy : Ev (c && (a == false)) R y (.r (.bool b))) :
    OpQ P c o R h (.r (.bool (a || b))) := by
  intro hc z w _ _ he
  refine ⟨.bool (a || b), fun w2 hag => ?_, .r (.bool _)⟩
  unfold execOp
  rw [ho]
  simp only [rep_bool (hx.rep he hc), asBool]
  cases a with
  | false =>
    have h2 : w.eval y = .bool b := rep_bool (hy.rep he (by simp [hc]))
    simp [h2]
  | true => simp [Act.eval]

theorem rep_sl {x : Cx} {xs : List (List RV)} {v : Value} (hv : AVRep x (.r (.sl xs)) v) : (xs = [] ∧ (v = .slice none 0 0 ∨ ∃ a, v = .slice (some a) 0 0)) ∨
    ∃ (b off cap size : Nat) (u : Nat → Nat → Value), v = .slice (some ⟨b, off, none⟩) xs.length cap ∧ (xs ≠ [] → x.S b) ∧ xs.length ≤ cap ∧ cap ≤ maxLen ∧ (∀ row ∈ xs, row.length = size) ∧
      (∀ i row k d, xs[i]? = some row → row[k]? = some d → x.w.cell? ⟨b, off + i * size + k, none⟩ = some (u i k)) ∧
      ∀ i row k d, xs[i]? = some row → row[k]? = some d → RRep x.w x.S d (u i k) := by
  cases hv with
  | r h => cases h with
    | snil => exact .inl ⟨rfl, .inl rfl⟩
    | sl0 a => exact .inl ⟨rfl, .inr ⟨a, rfl⟩⟩
    | sl b off _ cap size u h1 h2 h3 h4 h5 h6 => exact .inr ⟨b, off, cap, size, u, rfl, h1, h2, h3, h4, h5, h6⟩

theorem sp_len_ro {t : TypeId} {e : TypeId} {sz : Nat} {x : Operand} {xs : List (List RV)} (ho : o.op = .call { callee := .builtin .len, args := #[x], argTypes := #[t] }) (ht : SliceTy P t e sz) (hx : Ev c R x (.r (.sl xs))) :
    OpQ P c o R h (.r (.int .i64 xs.length)) := by
  intro hc z w _ _ he
  refine ⟨.int .i64 xs.length, fun w2 hag => ?_, .r (.int _ _)⟩
  unfold execOp
  rw [ho]
  rcases rep_sl (hx.rep he hc) with ⟨h1, h2 | ⟨a, h2⟩⟩ | ⟨b, off, cap, size, u, h2, _⟩
  · subst h1; simp [resolve, invoke, builtin, h2, Builtin.len_, run_underlying ht.1, goInt]
  · subst h1; simp [resolve, invoke, builtin, h2, Builtin.len_, run_underlying ht.1, goInt]
  · simp [resolve, invoke, builtin, h2, Builtin.len_, run_underlying ht.1, goInt]
theorem sp_len_own {t : TypeId} {e e' : TypeId} {sz sz' : Nat} {x : Operand} {id g : Nat} {xs : List (List RV)} (ho : o.op = .call { callee := .builtin .len, args := #[x], argTypes := #[t] }) (ht : SliceTy P t e sz) (hx : Ev c R x (.own id g))
    (hh : hget h id = some (.arr g e' sz' xs)) : OpQ P c o R h (.r (.int .i64 xs.length)) := by
  intro hc z w _ hH he
  refine ⟨.int .i64 xs.length, fun w2 hag => ?_, .r (.int _ _)⟩
  unfold execOp
  rw [ho]
  have h0 := hx.rep he hc
  generalize hv : w.eval x = v at h0
  cases h0 with
  | own _ _ h1 =>
    have h2 := h1 _ (by rw [hH]; exact hh) rfl
    simp only [AObj.shape] at h2
    unfold hdrOk at h2
    split at h2
    · obtain ⟨h3, rfl⟩ := h2
      simp [resolve, invoke, builtin, hv, h3, Builtin.len_, run_underlying ht.1, goInt]
    · subst h2
      simp [resolve, invoke, builtin, hv, Builtin.len_, run_underlying ht.1, goInt]
theorem sp_len_nil {t : TypeId} {e : TypeId} {sz : Nat} {x : Operand} (ho : o.op = .call { callee := .builtin .len, args := #[x], argTypes := #[t] }) (ht : SliceTy P t e sz) (hx : Ev c R x (.cst (.slice none 0 0))) :
    OpQ P c o R h (.r (.int .i64 0)) := by
  intro hc z w _ _ he
  refine ⟨.int .i64 0, fun w2 hag => ?_, .r (.int _ _)⟩
  unfold execOp
  rw [ho]
  have h0 := hx.rep he hc
  generalize hv : w.eval x = v at h0
  cases h0
  simp [resolve, invoke, builtin, hv, Builtin.len_, run_underlying ht.1, goInt]
theorem sp_len_str {t : TypeId} {x : Operand} {s : List UInt8} (ho : o.op = .call { callee := .builtin .len, args := #[x], argTypes := #[t] }) (ht : P.underlying t = some .string) (hx : Ev c R x (.r (.str s))) :
    OpQ P c o R h (.r (.int .i64 s.length)) := by
  intro hc z w _ _ he
  refine ⟨.int .i64 s.length, fun w2 hag => ?_, .r (.int _ _)⟩
  unfold execOp
  rw [ho]
  have hsz : (⟨s.toArray⟩ : ByteArray).size = s.length := rfl
  simp [resolve, invoke, builtin, rep_str (hx.rep he hc), Builtin.len_, run_underlying ht, goInt, hsz]

theorem sp_indexAddr_ro {t e : TypeId} {sz : Nat} {x i : Operand} {xs : List (List RV)} {k : IntKind} {n : Int} {row : List RV} (ho : o.op = .indexAddr t x i) (ht : SliceTy P t e sz) (hx : Ev c R x (.r (.sl xs)))
    (hi : Ev c R i (.r (.int k n))) (h0 : c = true → 0 ≤ n) (hrow : c = true → xs[n.toNat]? = some row) (hlen : row.length = sz) : OpQ P c o R h (.rop row 0) := by
  intro hc z w _ _ he
  obtain ⟨ht1, ii, ht2, ht3⟩ := ht
  have hr := hrow hc
  have hlt : n.toNat < xs.length := (List.getElem?_eq_some_iff.1 hr).1
  have h0' := h0 hc
  have hlt' : n < xs.length := by omega
  rcases rep_sl (hx.rep he hc) with ⟨h1, _⟩ | ⟨b, off, cap, size, u, h2, hS, hcap, hm, hsz, hcell, hrep⟩
  · subst h1; simp at hlt
  · have hsize : size = sz := by rw [← hsz row (List.mem_of_getElem? hr)]; exact hlen
    subst hsize
    refine ⟨.pointer (some ⟨b, (off + n.toNat * size) + 0, none⟩), fun w2 hag => ?_, .rop (fun j => u n.toNat j) (fun _ => hS (by rintro rfl; simp at hlt)) (fun j d hj => hcell _ _ _ _ hr hj) (fun j d hj => hrep _ _ _ _ hr hj)⟩
    unfold execOp
    rw [ho]
    simp [h2, rep_int (hi.rep he hc), Instr.indexAt, asIntOf, run_underlying ht1, h0', hlt', run_sizeOf ht2, ht3, Addr.add_lit]

theorem rep_own {x : Cx} (hok : x.ok) {id g : Nat} {e : TypeId} {sz : Nat} {xs : List (List RV)} {v : Value} (hH : x.H id = some (.arr g e sz xs)) (hv : AVRep x (.own id g) v) :
    0 < sz ∧ (∀ row ∈ xs, row.length = sz) ∧ ∃ us, hdrOk (x.β id) xs.length v ∧ x.w.ownsRow 0 e sz v xs.length us ∧
      ∀ i row c d, xs[i]? = some row → row[c]? = some d → ∃ u, us[i * sz + c]? = some u ∧ RRep x.w x.S d u := by
  obtain ⟨_, h0, h1, hdr, us, h2, h3, h4⟩ := hok.obj _ _ hH
  cases hv with
  | own _ _ hv =>
    have h5 := hv _ hH rfl
    simp only [AObj.shape] at h5
    have : v = hdr := by
      unfold hdrOk at h2 h5
      split at h2 <;> simp_all
    subst this
    exact ⟨h0, h1, us, h2, h3, h4⟩

theorem sp_indexAddr_own {t e : TypeId} {sz : Nat} {x i : Operand} {id g : Nat} {e' : TypeId} {xs : List (List RV)} {k : IntKind} {n : Int} (ho : o.op = .indexAddr t x i) (ht : SliceTy P t e sz) (hx : Ev c R x (.own id g))
    (hh : hget h id = some (.arr g e' sz xs)) (hi : Ev c R i (.r (.int k n))) (h0 : c = true → 0 ≤ n) (h1 : c = true → n < xs.length) : OpQ P c o R h (.ptr id g n.toNat 0) := by
  intro hc z w hok hH he
  obtain ⟨ht1, ii, ht2, ht3⟩ := ht
  have h0' := h0 hc
  have hlt' := h1 hc
  have hHid : z.H id = some (.arr g e' sz xs) := by rw [hH]; exact hh
  have hv := hx.rep he hc
  obtain ⟨_, _, us, hd, _, _⟩ := rep_own hok hHid hv
  have hg : g < z.n := by cases hv with | own hg _ _ => exact hg
  cases hβ : z.β id with
  | none => rw [hβ] at hd; have := hd.1; omega
  | some p =>
    obtain ⟨b, cap⟩ := p
    rw [hβ] at hd
    simp only [hdrOk] at hd
    refine ⟨.pointer (some ⟨b, n.toNat * sz + 0, none⟩), fun w2 hag => ?_, .ptr hg rfl fun o' ho' hgen => ?_⟩
    · unfold execOp
      rw [ho]
      simp [hd, rep_int (hi.rep he hc), Instr.indexAt, asIntOf, run_underlying ht1, h0', hlt', run_sizeOf ht2, ht3, Addr.add_lit]
    · rw [hHid] at ho'; cases ho'
      exact ⟨b, cap, hβ, rfl⟩

end
end Go.Proofs.Ythhodpedkdapcaa.Al
