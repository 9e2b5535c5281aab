/-
  Structs compared; whole structs stored into rows.
-/
import Derived.Test.YthhodpedkdapcaaAl24
import Derived.Laws.StructEq
namespace Go.Proofs.Ythhodpedkdapcaa.Al

/-- Two plain parts, compared. -/
def eqD : Option TypeDesc → AV → AV → Option Bool
  | some (.int _), .r (.int k m), .r (.int k' n) => if k = k' then some (decide (m = n)) else none
  | some .bool, .r (.bool a), .r (.bool b) => some (a == b)
  | some .string, .r (.str a), .r (.str b) => some (decide (a = b))
  | _, _, _ => none
/-- Structs of plain parts, compared. -/
def eqL : List (Option TypeDesc) → List AV → List AV → Option Bool
  | [], [], [] => some true
  | d :: ds, a :: l, b :: m => match eqD d a b, eqL ds l m with
    | some x, some y => some (x && y)
    | _, _ => none
  | _, _, _ => none
def FieldsEq (P : Program) : Nat → List Field → List (Option TypeDesc) → Prop
  | _, [], [] => True
  | i, f :: fs, d :: ds => (f.name == "_") = false ∧ f.offset = i ∧ P.underlying f.type = d ∧ FieldsEq P (i + 1) fs ds
  | _, _, _ => False
def EqTy (P : Program) (t : TypeId) (ds : List (Option TypeDesc)) : Prop := P.underlying t = some (.struct (P.fieldsOf t)) ∧ P.stoodInHeld t = false ∧ P.eqGuardType P.depth t = false ∧ FieldsEq P 0 (P.fieldsOf t).toList ds

theorem eqD_run {P : Program} {x : Cx} {d : Nat} {t : TypeId} {a b : AV} {u v : Value} {r : Bool} (ha : AVRep x a u) (hb : AVRep x b v) (hr : eqD (P.underlying t) a b = some r) (w : World) :
    (Op.equalIn (d + 1) t u v).run P w = .ok r w ∧ ∃ e, P.underlying t = some e ∧ Scal e = true := by
  unfold eqD at hr
  split at hr
  · rename_i hd
    obtain rfl := rep_int ha
    obtain rfl := rep_int hb
    split at hr
    · rename_i hk; subst hk; cases hr
      refine ⟨?_, _, hd, rfl⟩
      rw [run_equalIn_int w d t _ _ _ _ hd]
      congr 1
    · cases hr
  · rename_i hd
    obtain rfl := rep_bool ha
    obtain rfl := rep_bool hb
    cases hr
    exact ⟨run_equalIn_bool' w d t _ _ hd, _, hd, rfl⟩
  · rename_i hd
    obtain rfl := rep_str ha
    obtain rfl := rep_str hb
    cases hr
    refine ⟨?_, _, hd, rfl⟩
    rw [run_equalIn_string w d t _ _ hd]
    congr 1
    simp [ByteArray.toList_eq]
    rename_i a b
    by_cases h : a = b <;> simp [h]
  · cases hr

theorem eqFields_run {P : Program} {x : Cx} {d : Nat} {us vs : Array Value} (w : World) : ∀ (fs : List Field) (ds : List (Option TypeDesc)) (i : Nat) (cs es : List AV) (r : Bool), FieldsEq P i fs ds → cs.length + i = us.size → es.length + i = vs.size →
    (∀ (j : Nat) (c : AV) (u : Value), cs[j]? = some c → us[i + j]? = some u → AVRep x c u) → (∀ (j : Nat) (c : AV) (u : Value), es[j]? = some c → vs[i + j]? = some u → AVRep x c u) →
    eqL ds cs es = some r → (Op.eqFields (d + 1) us vs fs).run P w = .ok r w
  | [], ds, i, cs, es, r, hf, hl, hm, hc, he, hr => by
    cases ds with
    | cons _ _ => exact hf.elim
    | nil =>
      unfold eqL at hr
      split at hr
      · cases hr; simp [Op.eqFields]
      · rename_i h; cases h
      · cases hr
  | f :: fs, ds, i, cs, es, r, hf, hl, hm, hc, he, hr => by
    cases ds with
    | nil => exact hf.elim
    | cons dd ds =>
      obtain ⟨h1, h2, h3, h4⟩ := hf
      cases cs with
      | nil => simp [eqL] at hr
      | cons a l =>
        cases es with
        | nil => simp [eqL] at hr
        | cons b m =>
          simp only [eqL] at hr
          split at hr
          · rename_i xb yb e1 e2
            cases hr
            have hui : i < us.size := by simp at hl; omega
            have hvi : i < vs.size := by simp at hm; omega
            have ra := hc 0 a us[i] rfl (by simp)
            have rb := he 0 b vs[i] rfl (by simp)
            subst h3
            obtain ⟨k1, e, k2, k3⟩ := eqD_run (d := d) ra rb e1 w
            have hpu : (part f.type us f.offset).run P w = .ok us[i] w := by
              rw [h2]; simp [part, run_isAgg k2, k3, Array.getElem?_eq_getElem hui]
            have hpv : (part f.type vs f.offset).run P w = .ok vs[i] w := by
              rw [h2]; simp [part, run_isAgg k2, k3, Array.getElem?_eq_getElem hvi]
            have hl' : l.length + (i + 1) = us.size := by simp at hl; omega
            have hm' : m.length + (i + 1) = vs.size := by simp at hm; omega
            have ih := eqFields_run (d := d) (x := x) (us := us) (vs := vs) w fs ds (i + 1) l m yb h4 hl' hm'
              (fun j c u hj hu => hc (j + 1) c u (by simpa using hj) (by rw [← hu, show i + 1 + j = i + (j + 1) by omega])) (fun j c u hj hu => he (j + 1) c u (by simpa using hj) (by rw [← hu, show i + 1 + j = i + (j + 1) by omega])) e2
            have hne : f.name ≠ "_" := by intro h; rw [h] at h1; simp at h1
            simp only [Op.eqFields, if_pos hne, Sem.run_bind, hpu, hpv, Result.andThen_ok, k1]
            cases xb
            · simp
            · simpa using ih
          · cases hr

section
variable {P : Program} {c : Bool} {o : Oper} {R : Env} {h : Heap}
theorem aggeq_core {t : TypeId} {x y : Operand} {cs ds : List AV} {kk : List (Option TypeDesc)} {r : Bool} {z : Cx} {a : Act} (ht : EqTy P t kk) (hx : AVRep z (.agg cs) (a.eval x)) (hy : AVRep z (.agg ds) (a.eval y)) (he : eqL kk cs ds = some r) :
    ∃ us vs, a.eval x = .agg us ∧ a.eval y = .agg vs ∧ ∀ w, (Op.equalIn 10000 t (.agg us) (.agg vs)).run P w = .ok r w := by
  generalize a.eval x = u at hx
  generalize a.eval y = v at hy
  cases hx with
  | @agg _ us hl hall =>
    cases hy with
    | @agg _ vs hm hbll =>
      obtain ⟨h1, h2, _, h4⟩ := ht
      refine ⟨us, vs, rfl, rfl, fun w => ?_⟩
      rw [run_equalIn_agg w 9999 t us vs h1 h2]
      exact eqFields_run (x := z) w _ kk 0 cs ds r h4 hl hm (fun j b u hj hu => hall j b u hj (by simpa using hu)) (fun j b u hj hu => hbll j b u hj (by simpa using hu)) he
theorem sp_aggeql {t t' : TypeId} {x y : Operand} {cs ds : List AV} {kk : List (Option TypeDesc)} {r : Bool} (ho : o.op = .binOp .eql t x y t') (ht : EqTy P t kk) (hx : Ev c R x (.agg cs)) (hy : Ev c R y (.agg ds)) (he : eqL kk cs ds = some r) : OpQ P c o R h (.r (.bool r)) := by
  intro hc z a _ _ hev
  obtain ⟨us, vs, h1, h2, h3⟩ := aggeq_core ht (hx.rep hev hc) (hy.rep hev hc) he
  refine ⟨.bool r, fun w2 _ => ?_, .r (.bool _)⟩
  unfold execOp
  rw [ho]
  simp only [h1, h2]
  simp [run_eqGuard_agg w2 .eql t x y us vs ht.2.2.1, run_eql_struct, h3]
theorem sp_aggneq {t t' : TypeId} {x y : Operand} {cs ds : List AV} {kk : List (Option TypeDesc)} {r : Bool} (ho : o.op = .binOp .neq t x y t') (ht : EqTy P t kk) (hx : Ev c R x (.agg cs)) (hy : Ev c R y (.agg ds)) (he : eqL kk cs ds = some r) : OpQ P c o R h (.r (.bool (!r))) := by
  intro hc z a _ _ hev
  obtain ⟨us, vs, h1, h2, h3⟩ := aggeq_core ht (hx.rep hev hc) (hy.rep hev hc) he
  refine ⟨.bool (!r), fun w2 _ => ?_, .r (.bool _)⟩
  unfold execOp
  rw [ho]
  simp only [h1, h2]
  simp [run_eqGuard_agg w2 .neq t x y us vs ht.2.2.1, run_neq_struct, h3]
end
end Go.Proofs.Ythhodpedkdapcaa.Al
