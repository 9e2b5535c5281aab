/-
  Calls of functions from data to data; how such a contract is proved from a body's walk; struct literals.
-/
import Derived.Test.YthhodpedkdapcaaAl9
namespace Go.Proofs.Ythhodpedkdapcaa.Al
section
variable {P : Program} {c : Bool} {o : Oper} {R : Env} {h : Heap} {n : Nat}

theorem run_callV {f : FuncId} (hf : Callable P f) {fo : Operand} {xs : Array Operand} {ats : Array TypeId} (ho : o.op = .call { callee := .value fo, args := xs, argTypes := ats }) {ρ : Operand → Value} {us : Array Value}
    (hfo : ρ fo = .func (.func f) #[] us) (w : World) : (execOp ρ o).run P w = .ok (.enter f (xs.map ρ ++ us)) w := by
  obtain ⟨fn, h1, h2, h3⟩ := hf
  unfold execOp
  rw [ho]
  simp only [resolve, hfo, Deferred.ofValue, Sem.run_bind, Sem.run_pure, Result.andThen_ok, invoke, callFunc, run_program, h1, h3, h2]
  simp

/-- The operands of a call: each its data. -/
def ArgsEv (c : Bool) (R : Env) (h : Heap) : List Operand → List AV → Prop
  | [], [] => True
  | x :: xs, b :: bs => (∃ a, Ev c R x a ∧ Fz h a b) ∧ ArgsEv c R h xs bs
  | _, _ => False
theorem ArgsEv.get {xs : List Operand} {bs : List AV} (hx : ArgsEv c R h xs bs) : xs.length = bs.length ∧ ∀ (i : Nat) (b : AV), bs[i]? = some b → ∃ x a, xs[i]? = some x ∧ Ev c R x a ∧ Fz h a b := by
  induction xs generalizing bs with
  | nil => cases bs with | nil => exact ⟨rfl, by simp⟩ | cons _ _ => exact hx.elim
  | cons x l ih =>
    cases bs with
    | nil => exact hx.elim
    | cons b m =>
      obtain ⟨h1, h2⟩ := ih hx.2
      obtain ⟨a, k1, k2⟩ := hx.1
      refine ⟨by simp [h1], fun i c hi => ?_⟩
      cases i with
      | zero => simp at hi; subst hi; exact ⟨x, a, rfl, k1, k2⟩
      | succ i => simpa using h2 i c (by simpa using hi)

/-- Values in which no slice is. -/
def AV.flat : AV → Bool
  | .r (.int _ _) | .r (.bool _) | .r (.str _) => true
  | .tup cs => cs.all fun | .r (.int _ _) | .r (.bool _) | .r (.str _) => true | _ => false
  | _ => false
theorem flat_rep1 {x y : Cx} {d : RV} (hd : (AV.r d).flat = true) {v : Value} (hv : AVRep x (.r d) v) : AVRep y (.r d) v := by
  cases hv with
  | r h => cases h <;> first | exact .r (.int _ _) | exact .r (.bool _) | exact .r (.str _) | (simp [AV.flat] at hd)
theorem flat_rep {x y : Cx} {a : AV} (ha : a.flat = true) {v : Value} (hv : AVRep x a v) : AVRep y a v := by
  cases a with
  | r d => exact flat_rep1 ha hv
  | tup cs =>
    cases hv with
    | tup hl hall =>
      refine .tup hl fun i c u h1 h2 => ?_
      have h3 := List.all_eq_true.1 ha c (List.mem_of_getElem? h1)
      cases c with
      | r d => exact flat_rep1 (by cases d <;> simp_all [AV.flat]) (hall i _ u h1 h2)
      | _ => simp at h3
  | _ => simp [AV.flat] at ha

/-- A CALL BY ITS CONTRACT. 'r' is flat, or no argument is a row of the call's own. -/
theorem sp_call {f : FuncId} {fo : Operand} {xs : Array Operand} {ats : Array TypeId} {caps bs : List AV} {r : AV} (ho : o.op = .call { callee := .value fo, args := xs, argTypes := ats }) (hfo : Ev c R fo (.fn f caps)) (hcaps : closedL caps = true)
    (hx : ArgsEv c R h xs.toList bs) (hr : c = true → ARO P f (bs ++ caps) r) (hfl : r.flat = true) : OpSpec P c o R h n r h n := by
  intro hc z w hok hH hn he K Q hK
  obtain ⟨hcall, _, hcon⟩ := hr hc
  obtain ⟨hlen, hget⟩ := hx.get
  have hv := hfo.rep he hc
  generalize hfv : w.eval fo = v at hv
  cases hv with
  | @fn _ _ us hl hall =>
    have hrun := run_callV hcall ho hfv z.w
    have hargs : ArgsRep z.frozen (bs ++ caps) (xs.map w.eval ++ us).toList := by
      refine ⟨by simp [hl]; simpa using hlen, fun i a u h1 h2 => ?_⟩
      have h2' : ((xs.toList.map w.eval) ++ us.toList)[i]? = some u := by simpa using h2
      by_cases hi : i < bs.length
      · rw [List.getElem?_append_left hi] at h1
        obtain ⟨x, b, k1, k2, k3⟩ := hget i a h1
        rw [List.getElem?_append_left (by simp at hlen ⊢; omega), List.getElem?_map, k1] at h2'
        simp only [Option.map_some, Option.some.injEq] at h2'
        subst h2'
        exact k3.rep hok hH (k2.rep he hc)
      · rw [List.getElem?_append_right (by omega)] at h1
        rw [List.getElem?_append_right (by simp at hlen ⊢; omega)] at h2'
        have hxl : (xs.toList.map w.eval).length = bs.length := by simpa using hlen
        rw [hxl] at h2'
        exact closed_rep (x := z) (y := z.frozen) rfl (fun b h => Or.inl h) (hall _ a u h1 (by simpa using h2')) (closedL_get hcaps h1)
    unfold Oper.wp
    rw [hrun]
    refine (hcon z.frozen _ (Cx.frozen_ok hok) rfl hargs).mono fun e w' ⟨u, y, he', hyw, hle, hyok, hyr⟩ => ?_
    subst he'
    subst hyw
    have hupd : z.le { y with S := z.S, H := z.H, β := z.β, n := z.n } ∧ ({ y with S := z.S, H := z.H, β := z.β, n := z.n } : Cx).ok := by
      have hle2 : z.le { y with S := z.S, H := z.H, β := z.β, n := z.n } :=
        ⟨hle.size, hle.os, hle.tape, hle.output, fun b hb => hle.blk b (hb.imp (fun h => Or.inl h) id), fun _ h => h, hle.F, Nat.le_refl _, fun id o h _ => ⟨o, h, rfl, rfl, rfl⟩⟩
      refine ⟨hle2, fun b hb => Nat.lt_of_lt_of_le (hok.S_lt b hb) hle.size, hyok.F_lt, fun b hb => ?_, fun id ob hob => ?_, fun id ob b k h1 h2 => ?_, hok.inj⟩
      · rw [show ({ y with S := z.S, H := z.H, β := z.β, n := z.n } : Cx).F = z.F from hle.F]; exact hok.SF b hb
      · obtain ⟨k1, k2⟩ := hok.obj id ob hob
        exact ⟨k1, k2.mono hle2 fun b k hb => hle.blk b (.inl (.inr ⟨id, ob, k, hob, hb⟩))⟩
      · obtain ⟨k1, k2, k3⟩ := hok.own id ob b k h1 h2
        exact ⟨Nat.lt_of_lt_of_le k1 hle.size, k2, by rw [show ({ y with S := z.S, H := z.H, β := z.β, n := z.n } : Cx).F = z.F from hle.F]; exact k3⟩
    exact hK u { y with S := z.S, H := z.H, β := z.β, n := z.n } hupd.1 hupd.2 hH hn (flat_rep hfl hyr)

/-- The operands of a call, none of them the call's own. -/
def ArgsCl (c : Bool) (R : Env) : List Operand → List AV → Prop
  | [], [] => True
  | x :: xs, b :: bs => ((Ev c R x b ∧ b.closed = true) ∨ (Ev c R x (.cst (.slice none 0 0)) ∧ b = .r (.sl []))) ∧ ArgsCl c R xs bs
  | _, _ => False
theorem ArgsCl.get {xs : List Operand} {bs : List AV} (hx : ArgsCl c R xs bs) : xs.length = bs.length ∧ ∀ (i : Nat) (b : AV), bs[i]? = some b → ∃ x, xs[i]? = some x ∧ ((Ev c R x b ∧ b.closed = true) ∨ (Ev c R x (.cst (.slice none 0 0)) ∧ b = .r (.sl []))) := by
  induction xs generalizing bs with
  | nil => cases bs with | nil => exact ⟨rfl, by simp⟩ | cons _ _ => exact hx.elim
  | cons x l ih =>
    cases bs with
    | nil => exact hx.elim
    | cons b m =>
      obtain ⟨h1, h2⟩ := ih hx.2
      refine ⟨by simp [h1], fun i c hi => ?_⟩
      cases i with
      | zero => simp at hi; subst hi; exact ⟨x, rfl, hx.1⟩
      | succ i => simpa using h2 i c (by simpa using hi)

/-- All that is the call's own, put aside. -/
def Cx.aside (z : Cx) : Cx := { w := z.w, S := z.S, F := fun b => z.F b ∨ ∃ id o k, z.H id = some o ∧ z.β id = some (b, k), H := fun _ => none, β := fun _ => none, n := z.n }
theorem Cx.aside_ok {z : Cx} (hok : z.ok) : z.aside.ok := by
  refine ⟨hok.S_lt, fun b hb => ?_, fun b hb hf => ?_, (fun _ _ h => by cases h), (fun _ _ _ _ h => by cases h), (fun _ _ _ _ _ _ _ h => by cases h)⟩
  · rcases hb with hb | ⟨id, o, k, h1, h2⟩
    · exact hok.F_lt b hb
    · exact (hok.own id o b k h1 h2).1
  · rcases hf with hf | ⟨id, o, k, h1, h2⟩
    · exact hok.SF b hb hf
    · exact (hok.own id o b k h1 h2).2.1 hb

theorem sp_callS {f : FuncId} {fo : Operand} {xs : Array Operand} {ats : Array TypeId} {caps bs : List AV} {r : AV} (ho : o.op = .call { callee := .value fo, args := xs, argTypes := ats }) (hfo : Ev c R fo (.fn f caps)) (hcaps : closedL caps = true)
    (hx : ArgsCl c R xs.toList bs) (hr : c = true → ARO P f (bs ++ caps) r) : OpSpec P c o R h n r h n := by
  intro hc z w hok hH hn he K Q hK
  obtain ⟨hcall, hrcl, hcon⟩ := hr hc
  obtain ⟨hlen, hget⟩ := hx.get
  have hv := hfo.rep he hc
  generalize hfv : w.eval fo = v at hv
  cases hv with
  | @fn _ _ us hl hall =>
    have hrun := run_callV hcall ho hfv z.w
    have hargs : ArgsRep z.aside (bs ++ caps) (xs.map w.eval ++ us).toList := by
      refine ⟨by simp [hl]; simpa using hlen, fun i a u h1 h2 => ?_⟩
      have h2' : ((xs.toList.map w.eval) ++ us.toList)[i]? = some u := by simpa using h2
      by_cases hi : i < bs.length
      · rw [List.getElem?_append_left hi] at h1
        obtain ⟨x, k1, k2⟩ := hget i a h1
        rw [List.getElem?_append_left (by simp at hlen ⊢; omega), List.getElem?_map, k1] at h2'
        simp only [Option.map_some, Option.some.injEq] at h2'
        subst h2'
        rcases k2 with ⟨k2, k3⟩ | ⟨k2, rfl⟩
        · exact closed_rep (x := z) (y := z.aside) rfl (fun b h => h) (k2.rep he hc) k3
        · have := k2.rep he hc
          generalize w.eval x = v at this ⊢
          cases this; exact .r .snil
      · rw [List.getElem?_append_right (by omega)] at h1
        rw [List.getElem?_append_right (by simp at hlen ⊢; omega)] at h2'
        have hxl : (xs.toList.map w.eval).length = bs.length := by simpa using hlen
        rw [hxl] at h2'
        exact closed_rep (x := z) (y := z.aside) rfl (fun b h => h) (hall _ a u h1 (by simpa using h2')) (closedL_get hcaps h1)
    unfold Oper.wp
    rw [hrun]
    refine (hcon z.aside _ (Cx.aside_ok hok) rfl hargs).mono fun e w' ⟨u, y, he', hyw, hle, hyok, hyr⟩ => ?_
    subst he'
    subst hyw
    have hyF : y.F = z.aside.F := hle.F
    have hupd : z.le { y with F := z.F, H := z.H, β := z.β, n := z.n } ∧ ({ y with F := z.F, H := z.H, β := z.β, n := z.n } : Cx).ok := by
      have hle2 : z.le { y with F := z.F, H := z.H, β := z.β, n := z.n } :=
        ⟨hle.size, hle.os, hle.tape, hle.output, fun b hb => hle.blk b (hb.imp id (fun h => Or.inl h)), fun b h => hle.S b h, rfl, Nat.le_refl _, fun id o h _ => ⟨o, h, rfl, rfl, rfl⟩⟩
      refine ⟨hle2, hyok.S_lt, fun b hb => Nat.lt_of_lt_of_le (hok.F_lt b hb) hle.size, fun b hb hf => ?_, fun id ob hob => ?_, fun id ob b k h1 h2 => ?_, hok.inj⟩
      · exact hyok.SF b hb (by rw [hyF]; exact .inl hf)
      · obtain ⟨k1, k2⟩ := hok.obj id ob hob
        exact ⟨k1, k2.mono hle2 fun b k hb => hle.blk b (.inr (.inr ⟨id, ob, k, hob, hb⟩))⟩
      · obtain ⟨k1, k2, k3⟩ := hok.own id ob b k h1 h2
        refine ⟨Nat.lt_of_lt_of_le k1 hle.size, fun hs => ?_, k3⟩
        exact hyok.SF b hs (by rw [hyF]; exact .inr ⟨id, ob, k, h1, h2⟩)
    exact hK u { y with F := z.F, H := z.H, β := z.β, n := z.n } hupd.1 hupd.2 hH hn (closed_rep (x := y) (y := { y with F := z.F, H := z.H, β := z.β, n := z.n }) rfl (fun _ h => h) hyr hrcl)

/-! A contract from a body's walk. -/
def argEnv : Nat → List AV → Env
  | _, [] => []
  | i, a :: l => (i, a) :: argEnv (i + 1) l
theorem argEnv_get (l : List AV) : ∀ (i t : Nat), get (argEnv i l) t = .any ∨ ∃ j a, t = i + j ∧ l[j]? = some a ∧ get (argEnv i l) t = a := by
  induction l with
  | nil => intro i t; exact .inl rfl
  | cons a l ih =>
    intro i t
    simp only [argEnv, get_cons]
    split
    · rename_i ht; subst ht; exact .inr ⟨0, a, rfl, rfl, rfl⟩
    · rcases ih (i + 1) t with h1 | ⟨j, b, h1, h2, h3⟩
      · exact .inl h1
      · exact .inr ⟨j + 1, b, by omega, by simpa using h2, h3⟩

/-- What a function hands back. -/
def RetOne : ResultVar → St → AV → Prop
  | .tmp t, s, r => Fz s.h (get s.e t) r
  | .cell _ _, _, _ => False
def RetAll : List ResultVar → St → List AV → Prop
  | [], _, [] => True
  | x :: l, s, r :: rs => RetOne x s r ∧ RetAll l s rs
  | _, _, _ => False
def RetQ (rs : List ResultVar) (r : AV) : Exit → St → Prop
  | .normal, s | .ret, s => match rs with
    | [x] => RetOne x s r
    | _ => ∃ l, r = .tup l ∧ RetAll rs s l
  | _, _ => False

theorem run_results {fn : Func} {tmps : Array Value} {w : World} (us : List Value) (ht : ∀ (i : Nat) (x : ResultVar), fn.results[i]? = some x → ∃ t, x = .tmp t ∧ us[i]? = some (tmps.getD t undef)) (hl : us.length = fn.results.size) :
    (results fn tmps).run P w = .ok (if h : us.toArray.size = 1 then us.toArray[0] else .tuple us.toArray) w := by
  have key : ∀ (rs : List ResultVar) (us : List Value), us.length = rs.length → (∀ (i : Nat) (x : ResultVar), rs[i]? = some x → ∃ t, x = .tmp t ∧ us[i]? = some (tmps.getD t undef)) →
      (rs.mapM (m := Sem) fun | .tmp t => pure (tmps.getD t undef) | .cell a t => do loadVar t (← asAddr (tmps.getD a undef))).run P w = .ok us w := by
    intro rs
    induction rs with
    | nil => intro us hl _; simp at hl; subst hl; rfl
    | cons x rs ih =>
      intro us hl ht
      cases us with
      | nil => simp at hl
      | cons u us =>
        obtain ⟨t, rfl, h2⟩ := ht 0 x rfl
        simp at h2
        have h3 := ih us (by simpa using hl) (fun i y hy => by simpa using ht (i + 1) y (by simpa using hy))
        simp only [List.mapM_cons, Sem.run_bind, Sem.run_pure, Result.andThen_ok, h3, h2]
        simp
  have h1 := key fn.results.toList us (by simpa using hl) (fun i x hx => ht i x (by simpa using hx))
  unfold results
  rw [← Array.toArray_toList (xs := fn.results), List.mapM_toArray]
  simp only [Sem.run_bind, Sem.run_map, Sem.run_pure]
  erw [h1]
  rfl
end
end Go.Proofs.Ythhodpedkdapcaa.Al
