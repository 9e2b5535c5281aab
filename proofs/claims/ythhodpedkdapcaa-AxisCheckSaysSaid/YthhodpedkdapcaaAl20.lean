/-
  Closures; a nil slice in a variable of the call's own taken for a row of its own.
-/
import Derived.Test.YthhodpedkdapcaaAl19
namespace Go.Proofs.Ythhodpedkdapcaa.Al

theorem Weak.adoptBox {s : St} (bid j id : Nat) (e : TypeId) (sz : Nat) {g : Nat} {eb : TypeId} {cs : List AV} (h0 : 0 < sz) (hb : hget s.h bid = some (.box g eb cs)) (hj : cs[j]? = some (.cst (.slice none 0 0))) (hne : id ≠ bid) :
    Weak s ⟨s.e, (bid, some (.box g eb (cs.set j (.own id s.n)))) :: (id, some (.arr s.n e sz [])) :: s.h, s.n + 1, s.N⟩ := by
  intro c0 a w ⟨hdef, hsz, y, hyw, hle, hok, hH, hyn, henv⟩
  have hup := Cx.upd hok id (.arr s.n e sz []) y.w none (y.n + 1) (Nat.le_refl _) rfl rfl rfl (fun _ _ _ => rfl) (fun b k hb => by cases hb) (by omega) (by simp [AObj.gen, hyn]) (fun hg => absurd hg (by simp [AObj.gen, hyn]))
    (fun hle => ⟨h0, by simp, .slice none 0 0, [], ⟨rfl, rfl⟩, World.ownsRow_nil _ _ _ _, by simp⟩)
  generalize hy1 : ({ y with H := fun i => if id = i then some (.arr s.n e sz []) else y.H i, β := fun i => if id = i then none else y.β i, n := y.n + 1 } : Cx) = y1 at hup
  have hy1H : y1.H = hget ((id, some (.arr s.n e sz [])) :: s.h) := by rw [← hy1]; simp only [hH]; exact hget_upd _ _ _
  have hbid : y1.H bid = some (.box g eb cs) := by rw [hy1H, hget_cons, if_neg hne]; exact hb
  have hid : y1.H id = some (.arr s.n e sz []) := by rw [hy1H, hget_cons, if_pos rfl]
  have hβid : y1.β id = none := by rw [← hy1]; simp
  have hy1n : y1.n = s.n + 1 := by rw [← hy1]; simp [hyn]
  have hy1w : y1.w = y.w := by rw [← hy1]
  obtain ⟨hg1, hrep1⟩ := hup.2.obj bid _ hbid
  have hup2 := Cx.upd hup.2 bid (.box g eb (cs.set j (.own id s.n))) y1.w (y1.β bid) y1.n (Nat.le_refl _) rfl rfl rfl (fun _ _ _ => rfl)
    (fun b k hbk => ⟨(hup.2.own bid _ b k hbid hbk).1, .inr ⟨_, k, hbid, hbk⟩⟩) (Nat.le_refl _) hg1 (fun _ => ⟨_, hbid, rfl, by simp [AObj.shape], rfl⟩)
    (fun hle2 => by
      obtain ⟨b, cur, k1, k2, k3, k4⟩ := hrep1
      refine ⟨b, cur, k1, k2, by rw [k3]; simp, fun i c hi => ?_⟩
      by_cases hij : j = i
      · subst hij
        obtain ⟨u, e1, e2, e3⟩ := k4 j _ hj
        have hjl : j < cs.length := (List.getElem?_eq_some_iff.1 hj).1
        rw [List.getElem?_set_self hjl] at hi
        cases hi
        cases e3
        refine ⟨_, e1, e2, .own (by rw [hy1n]; omega) e2 fun o ho _ => ?_⟩
        simp only [if_neg (Ne.symm hne)] at ho ⊢
        rw [hid] at ho; cases ho
        rw [hβid]
        exact ⟨rfl, rfl⟩
      · rw [List.getElem?_set_ne hij] at hi
        obtain ⟨u, e1, e2, e3⟩ := k4 i c hi
        exact ⟨u, e1, e2, e3.mono hle2⟩)
  refine ⟨hdef, hsz, _, by show y1.w = w; rw [hy1w]; exact hyw, (hle.trans hup.1).trans hup2.1, hup2.2, ?_, by show y1.n = s.n + 1; exact hy1n, fun t => ((henv t).mono hup.1).mono hup2.1⟩
  simp only [hy1H]
  exact hget_upd _ _ _

def EvAll (c : Bool) (R : Env) : List Operand → List AV → Prop
  | [], [] => True
  | x :: xs, b :: bs => Ev c R x b ∧ EvAll c R xs bs
  | _, _ => False
theorem EvAll.rep {c : Bool} {R : Env} {x : Cx} {a : Act} (hc : c = true) (he : EnvOk x R a) {xs : List Operand} {bs : List AV} (h : EvAll c R xs bs) : bs.length = xs.length ∧ ∀ (i : Nat) (b : AV) (u : Value), bs[i]? = some b → (xs.map a.eval)[i]? = some u → AVRep x b u := by
  induction xs generalizing bs with
  | nil => cases bs with | nil => exact ⟨rfl, by simp⟩ | cons _ _ => exact h.elim
  | cons y l ih =>
    cases bs with
    | nil => exact h.elim
    | cons b m =>
      obtain ⟨h1, h2⟩ := ih h.2
      refine ⟨by simp [h1], fun i b' u k1 k2 => ?_⟩
      cases i with
      | zero => simp at k1 k2; subst k1; subst k2; exact h.1.rep he hc
      | succ i => exact h2 i b' u (by simpa using k1) (by simpa using k2)
/-- A closure. -/
theorem sp_makeFunc {P : Program} {c : Bool} {o : Oper} {R : Env} {h : Heap} {f : FuncId} {xs : Array Operand} {bs : List AV} (ho : o.op = .makeFunc (.func f) #[] xs) (hx : EvAll c R xs.toList bs) : OpQ P c o R h (.fn f bs) := by
  intro hc y a _ _ he
  obtain ⟨h1, h2⟩ := hx.rep hc he
  refine ⟨.func (.func f) #[] (xs.map a.eval), fun w2 _ => ?_, .fn (by simpa using h1) fun i b u k1 k2 => h2 i b u k1 (by simpa using k2)⟩
  unfold execOp
  rw [ho]
  simp [show ∀ W, (Instr.makeFunc (Fn.func f) #[] (xs.map a.eval)).run P W = .ok (.func (.func f) #[] (xs.map a.eval)) W from fun _ => rfl]
end Go.Proofs.Ythhodpedkdapcaa.Al
