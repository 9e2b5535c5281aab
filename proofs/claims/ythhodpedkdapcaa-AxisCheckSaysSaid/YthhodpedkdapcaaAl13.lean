/-
  Struct literals, parts of structs; small helpers for walks.
-/
import Derived.Test.YthhodpedkdapcaaAl12
namespace Go.Proofs.Ythhodpedkdapcaa.Al
section
variable {P : Program} {c : Bool} {o : Oper} {R : Env} {h : Heap} {n : Nat}

theorem w64 {x : Int} (h1 : -9223372036854775808 ≤ x) (h2 : x ≤ 9223372036854775807) : IntKind.i64.wrap x = x := by
  rw [IntKind.wrap_i64]; omega
theorem row_map {α : Type} [Inhabited α] {l : List α} {f : α → List RV} {z : Int} {i : Nat} (hz : z = i) (h : i < l.length) : (l.map f)[z.toNat]? = some (f l[i]!) := by
  subst hz
  simp [h]
theorem row_rep {m i : Nat} {z : Int} {row : List RV} (hz : z = i) (h : i < m) : (List.replicate m row)[z.toNat]? = some row := by
  subst hz
  simp [h]

/-! Struct literals. -/
def BuildTy (P : Program) (t : TypeId) (places : List (Nat × Nat)) (z : List Value) : Prop :=
  ∃ fs : Array Field, P.underlying t = some (.struct fs) ∧ (∀ w, (fs.mapM (m := Sem) fun f => do pure (f.offset, ← sizeOf f.type)).run P w = .ok places.toArray w) ∧ ∃ i, P.info? t = some i ∧ i.zero = some (.agg z.toArray)

def fillAV : List AV → List (Nat × AV) → List AV
  | cs, [] => cs
  | cs, (off, a) :: r => fillAV (splice cs off (cellsAV a)) r
/-- The parts of a struct literal. -/
def PartsEv (c : Bool) (R : Env) (places : List (Nat × Nat)) (len : Nat) : List (Nat × Operand) → List (Nat × AV) → Prop
  | [], [] => True
  | (i, x) :: r, (off, a) :: q => places[i]? = some (off, (cellsAV a).length) ∧ Nat.ble (off + (cellsAV a).length) len = true ∧ (cellsAV a).all AV.one = true ∧ Ev c R x a ∧ PartsEv c R places len r q
  | _, _ => False

theorem fill_av {x : Cx} {a : Act} {places : List (Nat × Nat)} (hc : c = true) (he : EnvOk x R a) : ∀ (ps : List (Nat × Operand)) (q : List (Nat × AV)) (us : Array Value) (cs : List AV), us.size = cs.length →
    (∀ (j : Nat) (b : AV) (u : Value), cs[j]? = some b → us[j]? = some u → AVRep x b u) → PartsEv c R places cs.length ps q →
    ∃ us', Instr.fill (places[·]?) us (ps.map fun (i, y) => (i, a.eval y)) = some us' ∧ us'.size = (fillAV cs q).length ∧ ∀ (j : Nat) (b : AV) (u : Value), (fillAV cs q)[j]? = some b → us'[j]? = some u → AVRep x b u
  | [], [], us, cs, hl, hcs, _ => ⟨us, rfl, hl, hcs⟩
  | [], _ :: _, _, _, _, _, hp => hp.elim
  | _ :: _, [], _, _, _, _, hp => hp.elim
  | (i, y) :: ps, (off, b) :: q, us, cs, hl, hcs, hp => by
    obtain ⟨h1, h2, h3, h4, h5⟩ := hp
    have h2' : off + (cellsAV b).length ≤ cs.length := Nat.le_of_ble_eq_true h2
    obtain ⟨k1, k2, _⟩ := cellsAV_rep (h4.rep he hc) (fun d hd => List.all_eq_true.1 h3 d hd)
    have hsl : (splice cs off (cellsAV b)).length = cs.length := by simp [splice]; omega
    obtain ⟨f1, f2⟩ := fill_one off (a.eval y) us (by omega)
    obtain ⟨us', g1, g2, g3⟩ := fill_av hc he ps q _ (splice cs off (cellsAV b)) (by rw [f1, hl, hsl]) (fun j d u hj hu => by
      have hsp := splice_get cs (cellsAV b) off j h2'
      unfold splice at hj
      rw [hsp] at hj
      rw [f2] at hu
      rw [k1] at hu
      split at hj
      · rename_i hcond
        rw [if_pos hcond] at hu
        obtain ⟨u', m1, _, m2⟩ := k2 _ _ hj
        rw [hu] at m1; cases m1; exact m2
      · rename_i hcond
        rw [if_neg hcond] at hu
        exact hcs j d u hj hu) (by rw [hsl]; exact h5)
    refine ⟨us', ?_, g2, g3⟩
    simp only [List.map_cons, Instr.fill, h1]
    rw [if_neg (by simp [k1]; omega)]
    exact g1

theorem sp_build {t : TypeId} {parts : Array (Nat × Operand)} {places : List (Nat × Nat)} {z : List Value} {q : List (Nat × AV)} {cs : List AV} (ho : o.op = .build t parts) (ht : BuildTy P t places z)
    (hp : PartsEv c R places z.length parts.toList q) (hcs : fillAV (z.map ofConst) q = cs) : OpQ P c o R h (.agg cs) := by
  intro hc y a _ _ he
  subst hcs
  obtain ⟨fs, h1, h2, i, h3, h4⟩ := ht
  obtain ⟨us', f1, f2, f3⟩ := fill_av hc he parts.toList q z.toArray (z.map ofConst) (by simp) (fun j b u k1 k2 => by
    have k2' : z[j]? = some u := by simpa using k2
    rw [List.getElem?_map, k2'] at k1
    simp only [Option.map_some, Option.some.injEq] at k1
    subst k1; exact ofConst_rep y u) (by rw [List.length_map]; exact hp)
  refine ⟨.agg us', fun w2 _ => ?_, .agg f2.symm fun j b u k1 k2 => f3 j b u k1 k2⟩
  unfold execOp
  rw [ho]
  simp only [Instr.build, zeroValue, typeInfo, Sem.run_bind, run_program, Result.andThen_ok, h3, Sem.run_pure, h4, run_underlying h1, h2, Value.cells, Array.toList_map]
  have : (fun x : Nat => places.toArray[x]?) = (places[·]?) := by funext x; simp
  rw [this, f1]
  rfl

def FieldSc (P : Program) (t : TypeId) (f off : Nat) : Prop := ∃ (fs : Array Field) (fl : Field) (d : TypeDesc), P.underlying t = some (.struct fs) ∧ fs[f]? = some fl ∧ fl.offset = off ∧ P.underlying fl.type = some d ∧ Scal d = true
theorem sp_field {t : TypeId} {x : Operand} {f off : Nat} {cs : List AV} {a : AV} (ho : o.op = .field t x f) (ht : FieldSc P t f off) (hx : Ev c R x (.agg cs)) (ha : cs[off]? = some a) : OpQ P c o R h a := by
  intro hc z w _ _ he
  obtain ⟨fs, fl, d, h1, h2, h3, h4, h5⟩ := ht
  have hv := hx.rep he hc
  generalize hw : w.eval x = v at hv
  cases hv with
  | @agg _ us hl hall =>
    have hi : off < us.size := by have := (List.getElem?_eq_some_iff.1 ha).1; omega
    refine ⟨us[off], fun w2 _ => ?_, hall off a us[off] ha (Array.getElem?_eq_getElem hi)⟩
    unfold execOp
    rw [ho]
    simp [hw, Instr.field, run_underlying h1, h2, asAgg, part, run_isAgg h4, h5, h3, Array.getElem?_eq_getElem hi]
end
end Go.Proofs.Ythhodpedkdapcaa.Al
