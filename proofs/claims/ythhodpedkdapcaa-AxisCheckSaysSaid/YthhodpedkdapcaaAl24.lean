/-
  More of the logic for printed walks.
-/
import Derived.Test.YthhodpedkdapcaaAl23
namespace Go.Proofs.Ythhodpedkdapcaa.Al
/-- What follows stands behind a name, and may be reached by weakening. -/
theorem AW.seq_w {P : Program} {Q : Exit → St → Prop} {s : St} {x y : Code} (h : ∀ K : St → Prop, (∀ s, AW P y Q s → K s) → (∀ s s', Weak s s' → K s' → K s) → AW P x (ThenQ K Q) s) : AW P (.seq x y) Q s :=
  .seq (h _ (fun _ h => h) fun _ _ hw h => .weak hw h)

/-- The next round of a loop. -/
def NextQ {σ ρ : Type} (v : σ ⊕ ρ) (R : σ → St → Prop) (st : St) : Prop := ∃ a, v = .inl a ∧ ∃ st', Weak st st' ∧ R a st'
theorem NextQ.mk {σ ρ : Type} {v : σ ⊕ ρ} {R : σ → St → Prop} {st st' : St} {a : σ} (e : v = .inl a) (hw : Weak st st') (hR : R a st') : NextQ v R st := ⟨a, e, st', hw, hR⟩
theorem AW.iterQ {σ ρ : Type} {f : σ → Option (σ ⊕ ρ)} {P : Program} {Q : Exit → St → Prop} {s s0 : St} {x : Code} {a0 : σ} {o : ρ} (R : σ → St → Prop) (hit : Al.iter f a0 = some o) (hw : Weak s s0) (h0 : R a0 s0)
    (round : ∀ a st v, R a st → f a = some v → (∀ q, v = .inr q → o = q) → AW P x (ThenQ (NextQ v R) Q) st) : AW P (.loop x) Q s := AW.iter R hit ⟨s0, hw, h0⟩ round

/-- An end that is reached by weakening. -/
def RetW (Q : Exit → St → Prop) (e : Exit) (s : St) : Prop := ∃ s', Weak s s' ∧ Q e s'
theorem RetW.mk {Q : Exit → St → Prop} {e : Exit} {s s' : St} (hw : Weak s s') (h : Q e s') : RetW Q e s := ⟨s', hw, h⟩
theorem AW.retW {P : Program} {c : Code} {Q : Exit → St → Prop} {s : St} (h : AW P c (RetW Q) s) : AW P c Q s :=
  fun c0 a w hs => wp_mono (h c0 a w hs) fun _ _ _ ⟨_, ⟨s'', hw, hq⟩, hs'⟩ => ⟨s'', hq, hw _ _ _ hs'⟩
theorem AHC.mkw {P : Program} {f : FuncId} {fn : Func} {code : Code} {args : List AV} {k N : Nat} {hc : Heap} {Post : AV → Heap → Prop} (hf : P.funcs[f]? = some fn) (hb : fn.body = some code) (hname : (fn.name == "runtime.NumGoroutine") = false) (hN : fn.ntmps = N)
    (hlen : args.length ≤ N) (hw : ∀ n0, AW P code (RetW (RetH P fn.results.toList k Post)) ⟨argEnv 0 args, hc, n0, N⟩) : AHC P f k args hc Post := AHC.mk hf hb hname hN hlen fun n0 => (hw n0).retW

/-! Structs compared. -/
def cellsEq : List AV → List AV → Option Bool
  | [], [] => none
  | [a], [b] => cellEq a b
  | a :: l, b :: m => match cellEq a b, cellsEq l m with
    | some x, some y => some (x && y)
    | _, _ => none
  | _, _ => none

theorem ret0 {ρ : Type} {T r : ρ} {x : Exit} {s : St}  (e : some T = some r) (hx : x = .ret ∨ x = .normal)  : RetQ [] (.tup []) x s := by
  cases e
  rcases hx with rfl | rfl
  · exact ⟨_, rfl, trivial⟩
  · exact ⟨_, rfl, trivial⟩
theorem ret1 {ρ : Type} {T r : ρ} {x : Exit} {s : St} {t0 : Nat} (F0 : ρ → AV) (e : some T = some r) (hx : x = .ret ∨ x = .normal) (h0 : Fz s.h (get s.e t0) (F0 T)) : RetQ [.tmp t0] (F0 r) x s := by
  cases e
  rcases hx with rfl | rfl
  · exact h0
  · exact h0
theorem ret2 {ρ : Type} {T r : ρ} {x : Exit} {s : St} {t0 t1 : Nat} (F0 : ρ → AV) (F1 : ρ → AV) (e : some T = some r) (hx : x = .ret ∨ x = .normal) (h0 : Fz s.h (get s.e t0) (F0 T)) (h1 : Fz s.h (get s.e t1) (F1 T)) : RetQ [.tmp t0, .tmp t1] (.tup [F0 r, F1 r]) x s := by
  cases e
  rcases hx with rfl | rfl
  · exact ⟨_, rfl, ⟨h0, h1, trivial⟩⟩
  · exact ⟨_, rfl, ⟨h0, h1, trivial⟩⟩
theorem ret3 {ρ : Type} {T r : ρ} {x : Exit} {s : St} {t0 t1 t2 : Nat} (F0 : ρ → AV) (F1 : ρ → AV) (F2 : ρ → AV) (e : some T = some r) (hx : x = .ret ∨ x = .normal) (h0 : Fz s.h (get s.e t0) (F0 T)) (h1 : Fz s.h (get s.e t1) (F1 T)) (h2 : Fz s.h (get s.e t2) (F2 T)) : RetQ [.tmp t0, .tmp t1, .tmp t2] (.tup [F0 r, F1 r, F2 r]) x s := by
  cases e
  rcases hx with rfl | rfl
  · exact ⟨_, rfl, ⟨h0, h1, h2, trivial⟩⟩
  · exact ⟨_, rfl, ⟨h0, h1, h2, trivial⟩⟩
theorem ret4 {ρ : Type} {T r : ρ} {x : Exit} {s : St} {t0 t1 t2 t3 : Nat} (F0 : ρ → AV) (F1 : ρ → AV) (F2 : ρ → AV) (F3 : ρ → AV) (e : some T = some r) (hx : x = .ret ∨ x = .normal) (h0 : Fz s.h (get s.e t0) (F0 T)) (h1 : Fz s.h (get s.e t1) (F1 T)) (h2 : Fz s.h (get s.e t2) (F2 T)) (h3 : Fz s.h (get s.e t3) (F3 T)) : RetQ [.tmp t0, .tmp t1, .tmp t2, .tmp t3] (.tup [F0 r, F1 r, F2 r, F3 r]) x s := by
  cases e
  rcases hx with rfl | rfl
  · exact ⟨_, rfl, ⟨h0, h1, h2, h3, trivial⟩⟩
  · exact ⟨_, rfl, ⟨h0, h1, h2, h3, trivial⟩⟩
theorem ret5 {ρ : Type} {T r : ρ} {x : Exit} {s : St} {t0 t1 t2 t3 t4 : Nat} (F0 : ρ → AV) (F1 : ρ → AV) (F2 : ρ → AV) (F3 : ρ → AV) (F4 : ρ → AV) (e : some T = some r) (hx : x = .ret ∨ x = .normal) (h0 : Fz s.h (get s.e t0) (F0 T)) (h1 : Fz s.h (get s.e t1) (F1 T)) (h2 : Fz s.h (get s.e t2) (F2 T)) (h3 : Fz s.h (get s.e t3) (F3 T)) (h4 : Fz s.h (get s.e t4) (F4 T)) : RetQ [.tmp t0, .tmp t1, .tmp t2, .tmp t3, .tmp t4] (.tup [F0 r, F1 r, F2 r, F3 r, F4 r]) x s := by
  cases e
  rcases hx with rfl | rfl
  · exact ⟨_, rfl, ⟨h0, h1, h2, h3, h4, trivial⟩⟩
  · exact ⟨_, rfl, ⟨h0, h1, h2, h3, h4, trivial⟩⟩
theorem ret6 {ρ : Type} {T r : ρ} {x : Exit} {s : St} {t0 t1 t2 t3 t4 t5 : Nat} (F0 : ρ → AV) (F1 : ρ → AV) (F2 : ρ → AV) (F3 : ρ → AV) (F4 : ρ → AV) (F5 : ρ → AV) (e : some T = some r) (hx : x = .ret ∨ x = .normal) (h0 : Fz s.h (get s.e t0) (F0 T)) (h1 : Fz s.h (get s.e t1) (F1 T)) (h2 : Fz s.h (get s.e t2) (F2 T)) (h3 : Fz s.h (get s.e t3) (F3 T)) (h4 : Fz s.h (get s.e t4) (F4 T)) (h5 : Fz s.h (get s.e t5) (F5 T)) : RetQ [.tmp t0, .tmp t1, .tmp t2, .tmp t3, .tmp t4, .tmp t5] (.tup [F0 r, F1 r, F2 r, F3 r, F4 r, F5 r]) x s := by
  cases e
  rcases hx with rfl | rfl
  · exact ⟨_, rfl, ⟨h0, h1, h2, h3, h4, h5, trivial⟩⟩
  · exact ⟨_, rfl, ⟨h0, h1, h2, h3, h4, h5, trivial⟩⟩
/-- Clocks in a row. -/
def vec (l : List Nat) : Nat → Nat := fun k => l.getD k 0
theorem ob1k {a0 α : Type} {m : Option (a0)} {f : a0 → Option α} {r : α} {G : Prop} (h : bnd1 m f = some r) (k : ∀ x0, m = some x0 → f x0 = some r → G) : G := by
  cases m with
  | none => cases h
  | some p => exact k _ rfl h
theorem jb1k {a0 α : Type} {m : Option (a0)} {f : a0 → Option α} {r : α} {G : Prop} (h : bnd1 m f = some r) (k : ∀ p, m = some p → (∀ x0, p = x0 → f x0 = some r) → G) : G := by
  obtain ⟨p, h1, h2⟩ := jb1 h; exact k p h1 h2
theorem jc1k {a0 α : Type} {m : Option (Ctl (a0) α)} {f : a0 → Option α} {r : α} {G : Prop} (h : ctl1 m f = some r) (k : ∀ o, m = some o → (∀ x0, o = .nrm x0 → f x0 = some r) → (∀ t, o = .ext t → some t = some r) → G) : G := by
  obtain ⟨p, h1, h2, h3⟩ := jc1 h; exact k p h1 h2 h3
def NextQ1 {a0 ρ : Type} (v : (a0) ⊕ ρ) (R : a0 → (Nat → Nat) → St) (st : St) : Prop := ∃ x0 i, v = .inl x0 ∧ Weak st (R x0 i)
theorem NextQ1.mk {a0 ρ : Type} {v : (a0) ⊕ ρ} {R : a0 → (Nat → Nat) → St} {st : St} {x0 : _} (e : some (Sum.inl x0) = some v) (i : Nat → Nat) (hw : Weak st (R x0 i)) : NextQ1 v R st := ⟨_, i, (Option.some.inj e).symm, hw⟩
theorem AW.iter1 {a0 ρ : Type} {f : (a0) → Option ((a0) ⊕ ρ)} {P : Program} {Q : Exit → St → Prop} {s : St} {x : Code} {x0 : a0} {o : ρ} (R : a0 → (Nat → Nat) → St) (i0 : Nat → Nat) (hit : Al.iter f x0 = some o) (hw : Weak s (R x0 i0))
    (round : ∀ x0 i v, f x0 = some v → (∀ q, v = .inr q → o = q) → AW P x (ThenQ (NextQ1 v R) Q) (R x0 i)) : AW P (.loop x) Q s := by
  refine AW.iter (fun (a : a0) st => ∃ i, st = R a i) hit ⟨_, hw, i0, rfl⟩ ?_
  rintro x0 st v ⟨i, rfl⟩ hv hx
  refine (round x0 i v hv hx).mono fun e st' hq => ?_
  cases e with
  | normal =>
    obtain ⟨y0, i', e, hw'⟩ := hq
    exact ⟨_, e, _, hw', i', rfl⟩
  | exit _ => exact hq
  | goto _ => exact hq
  | ret => exact hq
  | panic _ => exact hq
  | outgrown => exact hq
theorem ob2k {a0 a1 α : Type} {m : Option (a0 × a1)} {f : a0 → a1 → Option α} {r : α} {G : Prop} (h : bnd2 m f = some r) (k : ∀ x0 x1, m = some (x0, x1) → f x0 x1 = some r → G) : G := by
  cases m with
  | none => cases h
  | some p => exact k _ _ rfl h
theorem jb2k {a0 a1 α : Type} {m : Option (a0 × a1)} {f : a0 → a1 → Option α} {r : α} {G : Prop} (h : bnd2 m f = some r) (k : ∀ p, m = some p → (∀ x0 x1, p = (x0, x1) → f x0 x1 = some r) → G) : G := by
  obtain ⟨p, h1, h2⟩ := jb2 h; exact k p h1 h2
theorem jc2k {a0 a1 α : Type} {m : Option (Ctl (a0 × a1) α)} {f : a0 → a1 → Option α} {r : α} {G : Prop} (h : ctl2 m f = some r) (k : ∀ o, m = some o → (∀ x0 x1, o = .nrm (x0, x1) → f x0 x1 = some r) → (∀ t, o = .ext t → some t = some r) → G) : G := by
  obtain ⟨p, h1, h2, h3⟩ := jc2 h; exact k p h1 h2 h3
def NextQ2 {a0 a1 ρ : Type} (v : (a0 × a1) ⊕ ρ) (R : a0 → a1 → (Nat → Nat) → St) (st : St) : Prop := ∃ x0 x1 i, v = .inl (x0, x1) ∧ Weak st (R x0 x1 i)
theorem NextQ2.mk {a0 a1 ρ : Type} {v : (a0 × a1) ⊕ ρ} {R : a0 → a1 → (Nat → Nat) → St} {st : St} {x0 : a0} {x1 : a1} (e : some (Sum.inl (x0, x1)) = some v) (i : Nat → Nat) (hw : Weak st (R x0 x1 i)) : NextQ2 v R st := ⟨_, _, i, (Option.some.inj e).symm, hw⟩
theorem AW.iter2 {a0 a1 ρ : Type} {f : (a0 × a1) → Option ((a0 × a1) ⊕ ρ)} {P : Program} {Q : Exit → St → Prop} {s : St} {x : Code} {x0 : a0} {x1 : a1} {o : ρ} (R : a0 → a1 → (Nat → Nat) → St) (i0 : Nat → Nat) (hit : Al.iter f (x0, x1) = some o) (hw : Weak s (R x0 x1 i0))
    (round : ∀ x0 x1 i v, f (x0, x1) = some v → (∀ q, v = .inr q → o = q) → AW P x (ThenQ (NextQ2 v R) Q) (R x0 x1 i)) : AW P (.loop x) Q s := by
  refine AW.iter (fun (a : a0 × a1) st => ∃ i, st = R a.1 a.2 i) hit ⟨_, hw, i0, rfl⟩ ?_
  rintro ⟨x0, x1⟩ st v ⟨i, rfl⟩ hv hx
  refine (round x0 x1 i v hv hx).mono fun e st' hq => ?_
  cases e with
  | normal =>
    obtain ⟨y0, y1, i', e, hw'⟩ := hq
    exact ⟨_, e, _, hw', i', rfl⟩
  | exit _ => exact hq
  | goto _ => exact hq
  | ret => exact hq
  | panic _ => exact hq
  | outgrown => exact hq
theorem ob3k {a0 a1 a2 α : Type} {m : Option (a0 × a1 × a2)} {f : a0 → a1 → a2 → Option α} {r : α} {G : Prop} (h : bnd3 m f = some r) (k : ∀ x0 x1 x2, m = some (x0, x1, x2) → f x0 x1 x2 = some r → G) : G := by
  cases m with
  | none => cases h
  | some p => exact k _ _ _ rfl h
theorem jb3k {a0 a1 a2 α : Type} {m : Option (a0 × a1 × a2)} {f : a0 → a1 → a2 → Option α} {r : α} {G : Prop} (h : bnd3 m f = some r) (k : ∀ p, m = some p → (∀ x0 x1 x2, p = (x0, x1, x2) → f x0 x1 x2 = some r) → G) : G := by
  obtain ⟨p, h1, h2⟩ := jb3 h; exact k p h1 h2
theorem jc3k {a0 a1 a2 α : Type} {m : Option (Ctl (a0 × a1 × a2) α)} {f : a0 → a1 → a2 → Option α} {r : α} {G : Prop} (h : ctl3 m f = some r) (k : ∀ o, m = some o → (∀ x0 x1 x2, o = .nrm (x0, x1, x2) → f x0 x1 x2 = some r) → (∀ t, o = .ext t → some t = some r) → G) : G := by
  obtain ⟨p, h1, h2, h3⟩ := jc3 h; exact k p h1 h2 h3
def NextQ3 {a0 a1 a2 ρ : Type} (v : (a0 × a1 × a2) ⊕ ρ) (R : a0 → a1 → a2 → (Nat → Nat) → St) (st : St) : Prop := ∃ x0 x1 x2 i, v = .inl (x0, x1, x2) ∧ Weak st (R x0 x1 x2 i)
theorem NextQ3.mk {a0 a1 a2 ρ : Type} {v : (a0 × a1 × a2) ⊕ ρ} {R : a0 → a1 → a2 → (Nat → Nat) → St} {st : St} {x0 : a0} {x1 : a1} {x2 : a2} (e : some (Sum.inl (x0, x1, x2)) = some v) (i : Nat → Nat) (hw : Weak st (R x0 x1 x2 i)) : NextQ3 v R st := ⟨_, _, _, i, (Option.some.inj e).symm, hw⟩
theorem AW.iter3 {a0 a1 a2 ρ : Type} {f : (a0 × a1 × a2) → Option ((a0 × a1 × a2) ⊕ ρ)} {P : Program} {Q : Exit → St → Prop} {s : St} {x : Code} {x0 : a0} {x1 : a1} {x2 : a2} {o : ρ} (R : a0 → a1 → a2 → (Nat → Nat) → St) (i0 : Nat → Nat) (hit : Al.iter f (x0, x1, x2) = some o) (hw : Weak s (R x0 x1 x2 i0))
    (round : ∀ x0 x1 x2 i v, f (x0, x1, x2) = some v → (∀ q, v = .inr q → o = q) → AW P x (ThenQ (NextQ3 v R) Q) (R x0 x1 x2 i)) : AW P (.loop x) Q s := by
  refine AW.iter (fun (a : a0 × a1 × a2) st => ∃ i, st = R a.1 a.2.1 a.2.2 i) hit ⟨_, hw, i0, rfl⟩ ?_
  rintro ⟨x0, x1, x2⟩ st v ⟨i, rfl⟩ hv hx
  refine (round x0 x1 x2 i v hv hx).mono fun e st' hq => ?_
  cases e with
  | normal =>
    obtain ⟨y0, y1, y2, i', e, hw'⟩ := hq
    exact ⟨_, e, _, hw', i', rfl⟩
  | exit _ => exact hq
  | goto _ => exact hq
  | ret => exact hq
  | panic _ => exact hq
  | outgrown => exact hq
theorem ob4k {a0 a1 a2 a3 α : Type} {m : Option (a0 × a1 × a2 × a3)} {f : a0 → a1 → a2 → a3 → Option α} {r : α} {G : Prop} (h : bnd4 m f = some r) (k : ∀ x0 x1 x2 x3, m = some (x0, x1, x2, x3) → f x0 x1 x2 x3 = some r → G) : G := by
  cases m with
  | none => cases h
  | some p => exact k _ _ _ _ rfl h
theorem jb4k {a0 a1 a2 a3 α : Type} {m : Option (a0 × a1 × a2 × a3)} {f : a0 → a1 → a2 → a3 → Option α} {r : α} {G : Prop} (h : bnd4 m f = some r) (k : ∀ p, m = some p → (∀ x0 x1 x2 x3, p = (x0, x1, x2, x3) → f x0 x1 x2 x3 = some r) → G) : G := by
  obtain ⟨p, h1, h2⟩ := jb4 h; exact k p h1 h2
theorem jc4k {a0 a1 a2 a3 α : Type} {m : Option (Ctl (a0 × a1 × a2 × a3) α)} {f : a0 → a1 → a2 → a3 → Option α} {r : α} {G : Prop} (h : ctl4 m f = some r) (k : ∀ o, m = some o → (∀ x0 x1 x2 x3, o = .nrm (x0, x1, x2, x3) → f x0 x1 x2 x3 = some r) → (∀ t, o = .ext t → some t = some r) → G) : G := by
  obtain ⟨p, h1, h2, h3⟩ := jc4 h; exact k p h1 h2 h3
def NextQ4 {a0 a1 a2 a3 ρ : Type} (v : (a0 × a1 × a2 × a3) ⊕ ρ) (R : a0 → a1 → a2 → a3 → (Nat → Nat) → St) (st : St) : Prop := ∃ x0 x1 x2 x3 i, v = .inl (x0, x1, x2, x3) ∧ Weak st (R x0 x1 x2 x3 i)
theorem NextQ4.mk {a0 a1 a2 a3 ρ : Type} {v : (a0 × a1 × a2 × a3) ⊕ ρ} {R : a0 → a1 → a2 → a3 → (Nat → Nat) → St} {st : St} {x0 : a0} {x1 : a1} {x2 : a2} {x3 : a3} (e : some (Sum.inl (x0, x1, x2, x3)) = some v) (i : Nat → Nat) (hw : Weak st (R x0 x1 x2 x3 i)) : NextQ4 v R st := ⟨_, _, _, _, i, (Option.some.inj e).symm, hw⟩
theorem AW.iter4 {a0 a1 a2 a3 ρ : Type} {f : (a0 × a1 × a2 × a3) → Option ((a0 × a1 × a2 × a3) ⊕ ρ)} {P : Program} {Q : Exit → St → Prop} {s : St} {x : Code} {x0 : a0} {x1 : a1} {x2 : a2} {x3 : a3} {o : ρ} (R : a0 → a1 → a2 → a3 → (Nat → Nat) → St) (i0 : Nat → Nat) (hit : Al.iter f (x0, x1, x2, x3) = some o) (hw : Weak s (R x0 x1 x2 x3 i0))
    (round : ∀ x0 x1 x2 x3 i v, f (x0, x1, x2, x3) = some v → (∀ q, v = .inr q → o = q) → AW P x (ThenQ (NextQ4 v R) Q) (R x0 x1 x2 x3 i)) : AW P (.loop x) Q s := by
  refine AW.iter (fun (a : a0 × a1 × a2 × a3) st => ∃ i, st = R a.1 a.2.1 a.2.2.1 a.2.2.2 i) hit ⟨_, hw, i0, rfl⟩ ?_
  rintro ⟨x0, x1, x2, x3⟩ st v ⟨i, rfl⟩ hv hx
  refine (round x0 x1 x2 x3 i v hv hx).mono fun e st' hq => ?_
  cases e with
  | normal =>
    obtain ⟨y0, y1, y2, y3, i', e, hw'⟩ := hq
    exact ⟨_, e, _, hw', i', rfl⟩
  | exit _ => exact hq
  | goto _ => exact hq
  | ret => exact hq
  | panic _ => exact hq
  | outgrown => exact hq
theorem ob5k {a0 a1 a2 a3 a4 α : Type} {m : Option (a0 × a1 × a2 × a3 × a4)} {f : a0 → a1 → a2 → a3 → a4 → Option α} {r : α} {G : Prop} (h : bnd5 m f = some r) (k : ∀ x0 x1 x2 x3 x4, m = some (x0, x1, x2, x3, x4) → f x0 x1 x2 x3 x4 = some r → G) : G := by
  cases m with
  | none => cases h
  | some p => exact k _ _ _ _ _ rfl h
theorem jb5k {a0 a1 a2 a3 a4 α : Type} {m : Option (a0 × a1 × a2 × a3 × a4)} {f : a0 → a1 → a2 → a3 → a4 → Option α} {r : α} {G : Prop} (h : bnd5 m f = some r) (k : ∀ p, m = some p → (∀ x0 x1 x2 x3 x4, p = (x0, x1, x2, x3, x4) → f x0 x1 x2 x3 x4 = some r) → G) : G := by
  obtain ⟨p, h1, h2⟩ := jb5 h; exact k p h1 h2
theorem jc5k {a0 a1 a2 a3 a4 α : Type} {m : Option (Ctl (a0 × a1 × a2 × a3 × a4) α)} {f : a0 → a1 → a2 → a3 → a4 → Option α} {r : α} {G : Prop} (h : ctl5 m f = some r) (k : ∀ o, m = some o → (∀ x0 x1 x2 x3 x4, o = .nrm (x0, x1, x2, x3, x4) → f x0 x1 x2 x3 x4 = some r) → (∀ t, o = .ext t → some t = some r) → G) : G := by
  obtain ⟨p, h1, h2, h3⟩ := jc5 h; exact k p h1 h2 h3
def NextQ5 {a0 a1 a2 a3 a4 ρ : Type} (v : (a0 × a1 × a2 × a3 × a4) ⊕ ρ) (R : a0 → a1 → a2 → a3 → a4 → (Nat → Nat) → St) (st : St) : Prop := ∃ x0 x1 x2 x3 x4 i, v = .inl (x0, x1, x2, x3, x4) ∧ Weak st (R x0 x1 x2 x3 x4 i)
theorem NextQ5.mk {a0 a1 a2 a3 a4 ρ : Type} {v : (a0 × a1 × a2 × a3 × a4) ⊕ ρ} {R : a0 → a1 → a2 → a3 → a4 → (Nat → Nat) → St} {st : St} {x0 : a0} {x1 : a1} {x2 : a2} {x3 : a3} {x4 : a4} (e : some (Sum.inl (x0, x1, x2, x3, x4)) = some v) (i : Nat → Nat) (hw : Weak st (R x0 x1 x2 x3 x4 i)) : NextQ5 v R st := ⟨_, _, _, _, _, i, (Option.some.inj e).symm, hw⟩
theorem AW.iter5 {a0 a1 a2 a3 a4 ρ : Type} {f : (a0 × a1 × a2 × a3 × a4) → Option ((a0 × a1 × a2 × a3 × a4) ⊕ ρ)} {P : Program} {Q : Exit → St → Prop} {s : St} {x : Code} {x0 : a0} {x1 : a1} {x2 : a2} {x3 : a3} {x4 : a4} {o : ρ} (R : a0 → a1 → a2 → a3 → a4 → (Nat → Nat) → St) (i0 : Nat → Nat) (hit : Al.iter f (x0, x1, x2, x3, x4) = some o) (hw : Weak s (R x0 x1 x2 x3 x4 i0))
    (round : ∀ x0 x1 x2 x3 x4 i v, f (x0, x1, x2, x3, x4) = some v → (∀ q, v = .inr q → o = q) → AW P x (ThenQ (NextQ5 v R) Q) (R x0 x1 x2 x3 x4 i)) : AW P (.loop x) Q s := by
  refine AW.iter (fun (a : a0 × a1 × a2 × a3 × a4) st => ∃ i, st = R a.1 a.2.1 a.2.2.1 a.2.2.2.1 a.2.2.2.2 i) hit ⟨_, hw, i0, rfl⟩ ?_
  rintro ⟨x0, x1, x2, x3, x4⟩ st v ⟨i, rfl⟩ hv hx
  refine (round x0 x1 x2 x3 x4 i v hv hx).mono fun e st' hq => ?_
  cases e with
  | normal =>
    obtain ⟨y0, y1, y2, y3, y4, i', e, hw'⟩ := hq
    exact ⟨_, e, _, hw', i', rfl⟩
  | exit _ => exact hq
  | goto _ => exact hq
  | ret => exact hq
  | panic _ => exact hq
  | outgrown => exact hq
theorem ob6k {a0 a1 a2 a3 a4 a5 α : Type} {m : Option (a0 × a1 × a2 × a3 × a4 × a5)} {f : a0 → a1 → a2 → a3 → a4 → a5 → Option α} {r : α} {G : Prop} (h : bnd6 m f = some r) (k : ∀ x0 x1 x2 x3 x4 x5, m = some (x0, x1, x2, x3, x4, x5) → f x0 x1 x2 x3 x4 x5 = some r → G) : G := by
  cases m with
  | none => cases h
  | some p => exact k _ _ _ _ _ _ rfl h
theorem jb6k {a0 a1 a2 a3 a4 a5 α : Type} {m : Option (a0 × a1 × a2 × a3 × a4 × a5)} {f : a0 → a1 → a2 → a3 → a4 → a5 → Option α} {r : α} {G : Prop} (h : bnd6 m f = some r) (k : ∀ p, m = some p → (∀ x0 x1 x2 x3 x4 x5, p = (x0, x1, x2, x3, x4, x5) → f x0 x1 x2 x3 x4 x5 = some r) → G) : G := by
  obtain ⟨p, h1, h2⟩ := jb6 h; exact k p h1 h2
theorem jc6k {a0 a1 a2 a3 a4 a5 α : Type} {m : Option (Ctl (a0 × a1 × a2 × a3 × a4 × a5) α)} {f : a0 → a1 → a2 → a3 → a4 → a5 → Option α} {r : α} {G : Prop} (h : ctl6 m f = some r) (k : ∀ o, m = some o → (∀ x0 x1 x2 x3 x4 x5, o = .nrm (x0, x1, x2, x3, x4, x5) → f x0 x1 x2 x3 x4 x5 = some r) → (∀ t, o = .ext t → some t = some r) → G) : G := by
  obtain ⟨p, h1, h2, h3⟩ := jc6 h; exact k p h1 h2 h3
def NextQ6 {a0 a1 a2 a3 a4 a5 ρ : Type} (v : (a0 × a1 × a2 × a3 × a4 × a5) ⊕ ρ) (R : a0 → a1 → a2 → a3 → a4 → a5 → (Nat → Nat) → St) (st : St) : Prop := ∃ x0 x1 x2 x3 x4 x5 i, v = .inl (x0, x1, x2, x3, x4, x5) ∧ Weak st (R x0 x1 x2 x3 x4 x5 i)
theorem NextQ6.mk {a0 a1 a2 a3 a4 a5 ρ : Type} {v : (a0 × a1 × a2 × a3 × a4 × a5) ⊕ ρ} {R : a0 → a1 → a2 → a3 → a4 → a5 → (Nat → Nat) → St} {st : St} {x0 : a0} {x1 : a1} {x2 : a2} {x3 : a3} {x4 : a4} {x5 : a5} (e : some (Sum.inl (x0, x1, x2, x3, x4, x5)) = some v) (i : Nat → Nat) (hw : Weak st (R x0 x1 x2 x3 x4 x5 i)) : NextQ6 v R st := ⟨_, _, _, _, _, _, i, (Option.some.inj e).symm, hw⟩
theorem AW.iter6 {a0 a1 a2 a3 a4 a5 ρ : Type} {f : (a0 × a1 × a2 × a3 × a4 × a5) → Option ((a0 × a1 × a2 × a3 × a4 × a5) ⊕ ρ)} {P : Program} {Q : Exit → St → Prop} {s : St} {x : Code} {x0 : a0} {x1 : a1} {x2 : a2} {x3 : a3} {x4 : a4} {x5 : a5} {o : ρ} (R : a0 → a1 → a2 → a3 → a4 → a5 → (Nat → Nat) → St) (i0 : Nat → Nat) (hit : Al.iter f (x0, x1, x2, x3, x4, x5) = some o) (hw : Weak s (R x0 x1 x2 x3 x4 x5 i0))
    (round : ∀ x0 x1 x2 x3 x4 x5 i v, f (x0, x1, x2, x3, x4, x5) = some v → (∀ q, v = .inr q → o = q) → AW P x (ThenQ (NextQ6 v R) Q) (R x0 x1 x2 x3 x4 x5 i)) : AW P (.loop x) Q s := by
  refine AW.iter (fun (a : a0 × a1 × a2 × a3 × a4 × a5) st => ∃ i, st = R a.1 a.2.1 a.2.2.1 a.2.2.2.1 a.2.2.2.2.1 a.2.2.2.2.2 i) hit ⟨_, hw, i0, rfl⟩ ?_
  rintro ⟨x0, x1, x2, x3, x4, x5⟩ st v ⟨i, rfl⟩ hv hx
  refine (round x0 x1 x2 x3 x4 x5 i v hv hx).mono fun e st' hq => ?_
  cases e with
  | normal =>
    obtain ⟨y0, y1, y2, y3, y4, y5, i', e, hw'⟩ := hq
    exact ⟨_, e, _, hw', i', rfl⟩
  | exit _ => exact hq
  | goto _ => exact hq
  | ret => exact hq
  | panic _ => exact hq
  | outgrown => exact hq
theorem ob7k {a0 a1 a2 a3 a4 a5 a6 α : Type} {m : Option (a0 × a1 × a2 × a3 × a4 × a5 × a6)} {f : a0 → a1 → a2 → a3 → a4 → a5 → a6 → Option α} {r : α} {G : Prop} (h : bnd7 m f = some r) (k : ∀ x0 x1 x2 x3 x4 x5 x6, m = some (x0, x1, x2, x3, x4, x5, x6) → f x0 x1 x2 x3 x4 x5 x6 = some r → G) : G := by
  cases m with
  | none => cases h
  | some p => exact k _ _ _ _ _ _ _ rfl h
theorem jb7k {a0 a1 a2 a3 a4 a5 a6 α : Type} {m : Option (a0 × a1 × a2 × a3 × a4 × a5 × a6)} {f : a0 → a1 → a2 → a3 → a4 → a5 → a6 → Option α} {r : α} {G : Prop} (h : bnd7 m f = some r) (k : ∀ p, m = some p → (∀ x0 x1 x2 x3 x4 x5 x6, p = (x0, x1, x2, x3, x4, x5, x6) → f x0 x1 x2 x3 x4 x5 x6 = some r) → G) : G := by
  obtain ⟨p, h1, h2⟩ := jb7 h; exact k p h1 h2
theorem jc7k {a0 a1 a2 a3 a4 a5 a6 α : Type} {m : Option (Ctl (a0 × a1 × a2 × a3 × a4 × a5 × a6) α)} {f : a0 → a1 → a2 → a3 → a4 → a5 → a6 → Option α} {r : α} {G : Prop} (h : ctl7 m f = some r) (k : ∀ o, m = some o → (∀ x0 x1 x2 x3 x4 x5 x6, o = .nrm (x0, x1, x2, x3, x4, x5, x6) → f x0 x1 x2 x3 x4 x5 x6 = some r) → (∀ t, o = .ext t → some t = some r) → G) : G := by
  obtain ⟨p, h1, h2, h3⟩ := jc7 h; exact k p h1 h2 h3
def NextQ7 {a0 a1 a2 a3 a4 a5 a6 ρ : Type} (v : (a0 × a1 × a2 × a3 × a4 × a5 × a6) ⊕ ρ) (R : a0 → a1 → a2 → a3 → a4 → a5 → a6 → (Nat → Nat) → St) (st : St) : Prop := ∃ x0 x1 x2 x3 x4 x5 x6 i, v = .inl (x0, x1, x2, x3, x4, x5, x6) ∧ Weak st (R x0 x1 x2 x3 x4 x5 x6 i)
theorem NextQ7.mk {a0 a1 a2 a3 a4 a5 a6 ρ : Type} {v : (a0 × a1 × a2 × a3 × a4 × a5 × a6) ⊕ ρ} {R : a0 → a1 → a2 → a3 → a4 → a5 → a6 → (Nat → Nat) → St} {st : St} {x0 : a0} {x1 : a1} {x2 : a2} {x3 : a3} {x4 : a4} {x5 : a5} {x6 : a6} (e : some (Sum.inl (x0, x1, x2, x3, x4, x5, x6)) = some v) (i : Nat → Nat) (hw : Weak st (R x0 x1 x2 x3 x4 x5 x6 i)) : NextQ7 v R st := ⟨_, _, _, _, _, _, _, i, (Option.some.inj e).symm, hw⟩
theorem AW.iter7 {a0 a1 a2 a3 a4 a5 a6 ρ : Type} {f : (a0 × a1 × a2 × a3 × a4 × a5 × a6) → Option ((a0 × a1 × a2 × a3 × a4 × a5 × a6) ⊕ ρ)} {P : Program} {Q : Exit → St → Prop} {s : St} {x : Code} {x0 : a0} {x1 : a1} {x2 : a2} {x3 : a3} {x4 : a4} {x5 : a5} {x6 : a6} {o : ρ} (R : a0 → a1 → a2 → a3 → a4 → a5 → a6 → (Nat → Nat) → St) (i0 : Nat → Nat) (hit : Al.iter f (x0, x1, x2, x3, x4, x5, x6) = some o) (hw : Weak s (R x0 x1 x2 x3 x4 x5 x6 i0))
    (round : ∀ x0 x1 x2 x3 x4 x5 x6 i v, f (x0, x1, x2, x3, x4, x5, x6) = some v → (∀ q, v = .inr q → o = q) → AW P x (ThenQ (NextQ7 v R) Q) (R x0 x1 x2 x3 x4 x5 x6 i)) : AW P (.loop x) Q s := by
  refine AW.iter (fun (a : a0 × a1 × a2 × a3 × a4 × a5 × a6) st => ∃ i, st = R a.1 a.2.1 a.2.2.1 a.2.2.2.1 a.2.2.2.2.1 a.2.2.2.2.2.1 a.2.2.2.2.2.2 i) hit ⟨_, hw, i0, rfl⟩ ?_
  rintro ⟨x0, x1, x2, x3, x4, x5, x6⟩ st v ⟨i, rfl⟩ hv hx
  refine (round x0 x1 x2 x3 x4 x5 x6 i v hv hx).mono fun e st' hq => ?_
  cases e with
  | normal =>
    obtain ⟨y0, y1, y2, y3, y4, y5, y6, i', e, hw'⟩ := hq
    exact ⟨_, e, _, hw', i', rfl⟩
  | exit _ => exact hq
  | goto _ => exact hq
  | ret => exact hq
  | panic _ => exact hq
  | outgrown => exact hq
theorem ob8k {a0 a1 a2 a3 a4 a5 a6 a7 α : Type} {m : Option (a0 × a1 × a2 × a3 × a4 × a5 × a6 × a7)} {f : a0 → a1 → a2 → a3 → a4 → a5 → a6 → a7 → Option α} {r : α} {G : Prop} (h : bnd8 m f = some r) (k : ∀ x0 x1 x2 x3 x4 x5 x6 x7, m = some (x0, x1, x2, x3, x4, x5, x6, x7) → f x0 x1 x2 x3 x4 x5 x6 x7 = some r → G) : G := by
  cases m with
  | none => cases h
  | some p => exact k _ _ _ _ _ _ _ _ rfl h
theorem jb8k {a0 a1 a2 a3 a4 a5 a6 a7 α : Type} {m : Option (a0 × a1 × a2 × a3 × a4 × a5 × a6 × a7)} {f : a0 → a1 → a2 → a3 → a4 → a5 → a6 → a7 → Option α} {r : α} {G : Prop} (h : bnd8 m f = some r) (k : ∀ p, m = some p → (∀ x0 x1 x2 x3 x4 x5 x6 x7, p = (x0, x1, x2, x3, x4, x5, x6, x7) → f x0 x1 x2 x3 x4 x5 x6 x7 = some r) → G) : G := by
  obtain ⟨p, h1, h2⟩ := jb8 h; exact k p h1 h2
theorem jc8k {a0 a1 a2 a3 a4 a5 a6 a7 α : Type} {m : Option (Ctl (a0 × a1 × a2 × a3 × a4 × a5 × a6 × a7) α)} {f : a0 → a1 → a2 → a3 → a4 → a5 → a6 → a7 → Option α} {r : α} {G : Prop} (h : ctl8 m f = some r) (k : ∀ o, m = some o → (∀ x0 x1 x2 x3 x4 x5 x6 x7, o = .nrm (x0, x1, x2, x3, x4, x5, x6, x7) → f x0 x1 x2 x3 x4 x5 x6 x7 = some r) → (∀ t, o = .ext t → some t = some r) → G) : G := by
  obtain ⟨p, h1, h2, h3⟩ := jc8 h; exact k p h1 h2 h3
def NextQ8 {a0 a1 a2 a3 a4 a5 a6 a7 ρ : Type} (v : (a0 × a1 × a2 × a3 × a4 × a5 × a6 × a7) ⊕ ρ) (R : a0 → a1 → a2 → a3 → a4 → a5 → a6 → a7 → (Nat → Nat) → St) (st : St) : Prop := ∃ x0 x1 x2 x3 x4 x5 x6 x7 i, v = .inl (x0, x1, x2, x3, x4, x5, x6, x7) ∧ Weak st (R x0 x1 x2 x3 x4 x5 x6 x7 i)
theorem NextQ8.mk {a0 a1 a2 a3 a4 a5 a6 a7 ρ : Type} {v : (a0 × a1 × a2 × a3 × a4 × a5 × a6 × a7) ⊕ ρ} {R : a0 → a1 → a2 → a3 → a4 → a5 → a6 → a7 → (Nat → Nat) → St} {st : St} {x0 : a0} {x1 : a1} {x2 : a2} {x3 : a3} {x4 : a4} {x5 : a5} {x6 : a6} {x7 : a7} (e : some (Sum.inl (x0, x1, x2, x3, x4, x5, x6, x7)) = some v) (i : Nat → Nat) (hw : Weak st (R x0 x1 x2 x3 x4 x5 x6 x7 i)) : NextQ8 v R st := ⟨_, _, _, _, _, _, _, _, i, (Option.some.inj e).symm, hw⟩
theorem AW.iter8 {a0 a1 a2 a3 a4 a5 a6 a7 ρ : Type} {f : (a0 × a1 × a2 × a3 × a4 × a5 × a6 × a7) → Option ((a0 × a1 × a2 × a3 × a4 × a5 × a6 × a7) ⊕ ρ)} {P : Program} {Q : Exit → St → Prop} {s : St} {x : Code} {x0 : a0} {x1 : a1} {x2 : a2} {x3 : a3} {x4 : a4} {x5 : a5} {x6 : a6} {x7 : a7} {o : ρ} (R : a0 → a1 → a2 → a3 → a4 → a5 → a6 → a7 → (Nat → Nat) → St) (i0 : Nat → Nat) (hit : Al.iter f (x0, x1, x2, x3, x4, x5, x6, x7) = some o) (hw : Weak s (R x0 x1 x2 x3 x4 x5 x6 x7 i0))
    (round : ∀ x0 x1 x2 x3 x4 x5 x6 x7 i v, f (x0, x1, x2, x3, x4, x5, x6, x7) = some v → (∀ q, v = .inr q → o = q) → AW P x (ThenQ (NextQ8 v R) Q) (R x0 x1 x2 x3 x4 x5 x6 x7 i)) : AW P (.loop x) Q s := by
  refine AW.iter (fun (a : a0 × a1 × a2 × a3 × a4 × a5 × a6 × a7) st => ∃ i, st = R a.1 a.2.1 a.2.2.1 a.2.2.2.1 a.2.2.2.2.1 a.2.2.2.2.2.1 a.2.2.2.2.2.2.1 a.2.2.2.2.2.2.2 i) hit ⟨_, hw, i0, rfl⟩ ?_
  rintro ⟨x0, x1, x2, x3, x4, x5, x6, x7⟩ st v ⟨i, rfl⟩ hv hx
  refine (round x0 x1 x2 x3 x4 x5 x6 x7 i v hv hx).mono fun e st' hq => ?_
  cases e with
  | normal =>
    obtain ⟨y0, y1, y2, y3, y4, y5, y6, y7, i', e, hw'⟩ := hq
    exact ⟨_, e, _, hw', i', rfl⟩
  | exit _ => exact hq
  | goto _ => exact hq
  | ret => exact hq
  | panic _ => exact hq
  | outgrown => exact hq
theorem ob9k {a0 a1 a2 a3 a4 a5 a6 a7 a8 α : Type} {m : Option (a0 × a1 × a2 × a3 × a4 × a5 × a6 × a7 × a8)} {f : a0 → a1 → a2 → a3 → a4 → a5 → a6 → a7 → a8 → Option α} {r : α} {G : Prop} (h : bnd9 m f = some r) (k : ∀ x0 x1 x2 x3 x4 x5 x6 x7 x8, m = some (x0, x1, x2, x3, x4, x5, x6, x7, x8) → f x0 x1 x2 x3 x4 x5 x6 x7 x8 = some r → G) : G := by
  cases m with
  | none => cases h
  | some p => exact k _ _ _ _ _ _ _ _ _ rfl h
theorem jb9k {a0 a1 a2 a3 a4 a5 a6 a7 a8 α : Type} {m : Option (a0 × a1 × a2 × a3 × a4 × a5 × a6 × a7 × a8)} {f : a0 → a1 → a2 → a3 → a4 → a5 → a6 → a7 → a8 → Option α} {r : α} {G : Prop} (h : bnd9 m f = some r) (k : ∀ p, m = some p → (∀ x0 x1 x2 x3 x4 x5 x6 x7 x8, p = (x0, x1, x2, x3, x4, x5, x6, x7, x8) → f x0 x1 x2 x3 x4 x5 x6 x7 x8 = some r) → G) : G := by
  obtain ⟨p, h1, h2⟩ := jb9 h; exact k p h1 h2
theorem jc9k {a0 a1 a2 a3 a4 a5 a6 a7 a8 α : Type} {m : Option (Ctl (a0 × a1 × a2 × a3 × a4 × a5 × a6 × a7 × a8) α)} {f : a0 → a1 → a2 → a3 → a4 → a5 → a6 → a7 → a8 → Option α} {r : α} {G : Prop} (h : ctl9 m f = some r) (k : ∀ o, m = some o → (∀ x0 x1 x2 x3 x4 x5 x6 x7 x8, o = .nrm (x0, x1, x2, x3, x4, x5, x6, x7, x8) → f x0 x1 x2 x3 x4 x5 x6 x7 x8 = some r) → (∀ t, o = .ext t → some t = some r) → G) : G := by
  obtain ⟨p, h1, h2, h3⟩ := jc9 h; exact k p h1 h2 h3
def NextQ9 {a0 a1 a2 a3 a4 a5 a6 a7 a8 ρ : Type} (v : (a0 × a1 × a2 × a3 × a4 × a5 × a6 × a7 × a8) ⊕ ρ) (R : a0 → a1 → a2 → a3 → a4 → a5 → a6 → a7 → a8 → (Nat → Nat) → St) (st : St) : Prop := ∃ x0 x1 x2 x3 x4 x5 x6 x7 x8 i, v = .inl (x0, x1, x2, x3, x4, x5, x6, x7, x8) ∧ Weak st (R x0 x1 x2 x3 x4 x5 x6 x7 x8 i)
theorem NextQ9.mk {a0 a1 a2 a3 a4 a5 a6 a7 a8 ρ : Type} {v : (a0 × a1 × a2 × a3 × a4 × a5 × a6 × a7 × a8) ⊕ ρ} {R : a0 → a1 → a2 → a3 → a4 → a5 → a6 → a7 → a8 → (Nat → Nat) → St} {st : St} {x0 : a0} {x1 : a1} {x2 : a2} {x3 : a3} {x4 : a4} {x5 : a5} {x6 : a6} {x7 : a7} {x8 : a8} (e : some (Sum.inl (x0, x1, x2, x3, x4, x5, x6, x7, x8)) = some v) (i : Nat → Nat) (hw : Weak st (R x0 x1 x2 x3 x4 x5 x6 x7 x8 i)) : NextQ9 v R st := ⟨_, _, _, _, _, _, _, _, _, i, (Option.some.inj e).symm, hw⟩
theorem AW.iter9 {a0 a1 a2 a3 a4 a5 a6 a7 a8 ρ : Type} {f : (a0 × a1 × a2 × a3 × a4 × a5 × a6 × a7 × a8) → Option ((a0 × a1 × a2 × a3 × a4 × a5 × a6 × a7 × a8) ⊕ ρ)} {P : Program} {Q : Exit → St → Prop} {s : St} {x : Code} {x0 : a0} {x1 : a1} {x2 : a2} {x3 : a3} {x4 : a4} {x5 : a5} {x6 : a6} {x7 : a7} {x8 : a8} {o : ρ} (R : a0 → a1 → a2 → a3 → a4 → a5 → a6 → a7 → a8 → (Nat → Nat) → St) (i0 : Nat → Nat) (hit : Al.iter f (x0, x1, x2, x3, x4, x5, x6, x7, x8) = some o) (hw : Weak s (R x0 x1 x2 x3 x4 x5 x6 x7 x8 i0))
    (round : ∀ x0 x1 x2 x3 x4 x5 x6 x7 x8 i v, f (x0, x1, x2, x3, x4, x5, x6, x7, x8) = some v → (∀ q, v = .inr q → o = q) → AW P x (ThenQ (NextQ9 v R) Q) (R x0 x1 x2 x3 x4 x5 x6 x7 x8 i)) : AW P (.loop x) Q s := by
  refine AW.iter (fun (a : a0 × a1 × a2 × a3 × a4 × a5 × a6 × a7 × a8) st => ∃ i, st = R a.1 a.2.1 a.2.2.1 a.2.2.2.1 a.2.2.2.2.1 a.2.2.2.2.2.1 a.2.2.2.2.2.2.1 a.2.2.2.2.2.2.2.1 a.2.2.2.2.2.2.2.2 i) hit ⟨_, hw, i0, rfl⟩ ?_
  rintro ⟨x0, x1, x2, x3, x4, x5, x6, x7, x8⟩ st v ⟨i, rfl⟩ hv hx
  refine (round x0 x1 x2 x3 x4 x5 x6 x7 x8 i v hv hx).mono fun e st' hq => ?_
  cases e with
  | normal =>
    obtain ⟨y0, y1, y2, y3, y4, y5, y6, y7, y8, i', e, hw'⟩ := hq
    exact ⟨_, e, _, hw', i', rfl⟩
  | exit _ => exact hq
  | goto _ => exact hq
  | ret => exact hq
  | panic _ => exact hq
  | outgrown => exact hq
theorem ob10k {a0 a1 a2 a3 a4 a5 a6 a7 a8 a9 α : Type} {m : Option (a0 × a1 × a2 × a3 × a4 × a5 × a6 × a7 × a8 × a9)} {f : a0 → a1 → a2 → a3 → a4 → a5 → a6 → a7 → a8 → a9 → Option α} {r : α} {G : Prop} (h : bnd10 m f = some r) (k : ∀ x0 x1 x2 x3 x4 x5 x6 x7 x8 x9, m = some (x0, x1, x2, x3, x4, x5, x6, x7, x8, x9) → f x0 x1 x2 x3 x4 x5 x6 x7 x8 x9 = some r → G) : G := by
  cases m with
  | none => cases h
  | some p => exact k _ _ _ _ _ _ _ _ _ _ rfl h
theorem jb10k {a0 a1 a2 a3 a4 a5 a6 a7 a8 a9 α : Type} {m : Option (a0 × a1 × a2 × a3 × a4 × a5 × a6 × a7 × a8 × a9)} {f : a0 → a1 → a2 → a3 → a4 → a5 → a6 → a7 → a8 → a9 → Option α} {r : α} {G : Prop} (h : bnd10 m f = some r) (k : ∀ p, m = some p → (∀ x0 x1 x2 x3 x4 x5 x6 x7 x8 x9, p = (x0, x1, x2, x3, x4, x5, x6, x7, x8, x9) → f x0 x1 x2 x3 x4 x5 x6 x7 x8 x9 = some r) → G) : G := by
  obtain ⟨p, h1, h2⟩ := jb10 h; exact k p h1 h2
theorem jc10k {a0 a1 a2 a3 a4 a5 a6 a7 a8 a9 α : Type} {m : Option (Ctl (a0 × a1 × a2 × a3 × a4 × a5 × a6 × a7 × a8 × a9) α)} {f : a0 → a1 → a2 → a3 → a4 → a5 → a6 → a7 → a8 → a9 → Option α} {r : α} {G : Prop} (h : ctl10 m f = some r) (k : ∀ o, m = some o → (∀ x0 x1 x2 x3 x4 x5 x6 x7 x8 x9, o = .nrm (x0, x1, x2, x3, x4, x5, x6, x7, x8, x9) → f x0 x1 x2 x3 x4 x5 x6 x7 x8 x9 = some r) → (∀ t, o = .ext t → some t = some r) → G) : G := by
  obtain ⟨p, h1, h2, h3⟩ := jc10 h; exact k p h1 h2 h3
def NextQ10 {a0 a1 a2 a3 a4 a5 a6 a7 a8 a9 ρ : Type} (v : (a0 × a1 × a2 × a3 × a4 × a5 × a6 × a7 × a8 × a9) ⊕ ρ) (R : a0 → a1 → a2 → a3 → a4 → a5 → a6 → a7 → a8 → a9 → (Nat → Nat) → St) (st : St) : Prop := ∃ x0 x1 x2 x3 x4 x5 x6 x7 x8 x9 i, v = .inl (x0, x1, x2, x3, x4, x5, x6, x7, x8, x9) ∧ Weak st (R x0 x1 x2 x3 x4 x5 x6 x7 x8 x9 i)
theorem NextQ10.mk {a0 a1 a2 a3 a4 a5 a6 a7 a8 a9 ρ : Type} {v : (a0 × a1 × a2 × a3 × a4 × a5 × a6 × a7 × a8 × a9) ⊕ ρ} {R : a0 → a1 → a2 → a3 → a4 → a5 → a6 → a7 → a8 → a9 → (Nat → Nat) → St} {st : St} {x0 : a0} {x1 : a1} {x2 : a2} {x3 : a3} {x4 : a4} {x5 : a5} {x6 : a6} {x7 : a7} {x8 : a8} {x9 : a9} (e : some (Sum.inl (x0, x1, x2, x3, x4, x5, x6, x7, x8, x9)) = some v) (i : Nat → Nat) (hw : Weak st (R x0 x1 x2 x3 x4 x5 x6 x7 x8 x9 i)) : NextQ10 v R st := ⟨_, _, _, _, _, _, _, _, _, _, i, (Option.some.inj e).symm, hw⟩
theorem AW.iter10 {a0 a1 a2 a3 a4 a5 a6 a7 a8 a9 ρ : Type} {f : (a0 × a1 × a2 × a3 × a4 × a5 × a6 × a7 × a8 × a9) → Option ((a0 × a1 × a2 × a3 × a4 × a5 × a6 × a7 × a8 × a9) ⊕ ρ)} {P : Program} {Q : Exit → St → Prop} {s : St} {x : Code} {x0 : a0} {x1 : a1} {x2 : a2} {x3 : a3} {x4 : a4} {x5 : a5} {x6 : a6} {x7 : a7} {x8 : a8} {x9 : a9} {o : ρ} (R : a0 → a1 → a2 → a3 → a4 → a5 → a6 → a7 → a8 → a9 → (Nat → Nat) → St) (i0 : Nat → Nat) (hit : Al.iter f (x0, x1, x2, x3, x4, x5, x6, x7, x8, x9) = some o) (hw : Weak s (R x0 x1 x2 x3 x4 x5 x6 x7 x8 x9 i0))
    (round : ∀ x0 x1 x2 x3 x4 x5 x6 x7 x8 x9 i v, f (x0, x1, x2, x3, x4, x5, x6, x7, x8, x9) = some v → (∀ q, v = .inr q → o = q) → AW P x (ThenQ (NextQ10 v R) Q) (R x0 x1 x2 x3 x4 x5 x6 x7 x8 x9 i)) : AW P (.loop x) Q s := by
  refine AW.iter (fun (a : a0 × a1 × a2 × a3 × a4 × a5 × a6 × a7 × a8 × a9) st => ∃ i, st = R a.1 a.2.1 a.2.2.1 a.2.2.2.1 a.2.2.2.2.1 a.2.2.2.2.2.1 a.2.2.2.2.2.2.1 a.2.2.2.2.2.2.2.1 a.2.2.2.2.2.2.2.2.1 a.2.2.2.2.2.2.2.2.2 i) hit ⟨_, hw, i0, rfl⟩ ?_
  rintro ⟨x0, x1, x2, x3, x4, x5, x6, x7, x8, x9⟩ st v ⟨i, rfl⟩ hv hx
  refine (round x0 x1 x2 x3 x4 x5 x6 x7 x8 x9 i v hv hx).mono fun e st' hq => ?_
  cases e with
  | normal =>
    obtain ⟨y0, y1, y2, y3, y4, y5, y6, y7, y8, y9, i', e, hw'⟩ := hq
    exact ⟨_, e, _, hw', i', rfl⟩
  | exit _ => exact hq
  | goto _ => exact hq
  | ret => exact hq
  | panic _ => exact hq
  | outgrown => exact hq
theorem ob11k {a0 a1 a2 a3 a4 a5 a6 a7 a8 a9 a10 α : Type} {m : Option (a0 × a1 × a2 × a3 × a4 × a5 × a6 × a7 × a8 × a9 × a10)} {f : a0 → a1 → a2 → a3 → a4 → a5 → a6 → a7 → a8 → a9 → a10 → Option α} {r : α} {G : Prop} (h : bnd11 m f = some r) (k : ∀ x0 x1 x2 x3 x4 x5 x6 x7 x8 x9 x10, m = some (x0, x1, x2, x3, x4, x5, x6, x7, x8, x9, x10) → f x0 x1 x2 x3 x4 x5 x6 x7 x8 x9 x10 = some r → G) : G := by
  cases m with
  | none => cases h
  | some p => exact k _ _ _ _ _ _ _ _ _ _ _ rfl h
theorem jb11k {a0 a1 a2 a3 a4 a5 a6 a7 a8 a9 a10 α : Type} {m : Option (a0 × a1 × a2 × a3 × a4 × a5 × a6 × a7 × a8 × a9 × a10)} {f : a0 → a1 → a2 → a3 → a4 → a5 → a6 → a7 → a8 → a9 → a10 → Option α} {r : α} {G : Prop} (h : bnd11 m f = some r) (k : ∀ p, m = some p → (∀ x0 x1 x2 x3 x4 x5 x6 x7 x8 x9 x10, p = (x0, x1, x2, x3, x4, x5, x6, x7, x8, x9, x10) → f x0 x1 x2 x3 x4 x5 x6 x7 x8 x9 x10 = some r) → G) : G := by
  obtain ⟨p, h1, h2⟩ := jb11 h; exact k p h1 h2
theorem jc11k {a0 a1 a2 a3 a4 a5 a6 a7 a8 a9 a10 α : Type} {m : Option (Ctl (a0 × a1 × a2 × a3 × a4 × a5 × a6 × a7 × a8 × a9 × a10) α)} {f : a0 → a1 → a2 → a3 → a4 → a5 → a6 → a7 → a8 → a9 → a10 → Option α} {r : α} {G : Prop} (h : ctl11 m f = some r) (k : ∀ o, m = some o → (∀ x0 x1 x2 x3 x4 x5 x6 x7 x8 x9 x10, o = .nrm (x0, x1, x2, x3, x4, x5, x6, x7, x8, x9, x10) → f x0 x1 x2 x3 x4 x5 x6 x7 x8 x9 x10 = some r) → (∀ t, o = .ext t → some t = some r) → G) : G := by
  obtain ⟨p, h1, h2, h3⟩ := jc11 h; exact k p h1 h2 h3
def NextQ11 {a0 a1 a2 a3 a4 a5 a6 a7 a8 a9 a10 ρ : Type} (v : (a0 × a1 × a2 × a3 × a4 × a5 × a6 × a7 × a8 × a9 × a10) ⊕ ρ) (R : a0 → a1 → a2 → a3 → a4 → a5 → a6 → a7 → a8 → a9 → a10 → (Nat → Nat) → St) (st : St) : Prop := ∃ x0 x1 x2 x3 x4 x5 x6 x7 x8 x9 x10 i, v = .inl (x0, x1, x2, x3, x4, x5, x6, x7, x8, x9, x10) ∧ Weak st (R x0 x1 x2 x3 x4 x5 x6 x7 x8 x9 x10 i)
theorem NextQ11.mk {a0 a1 a2 a3 a4 a5 a6 a7 a8 a9 a10 ρ : Type} {v : (a0 × a1 × a2 × a3 × a4 × a5 × a6 × a7 × a8 × a9 × a10) ⊕ ρ} {R : a0 → a1 → a2 → a3 → a4 → a5 → a6 → a7 → a8 → a9 → a10 → (Nat → Nat) → St} {st : St} {x0 : a0} {x1 : a1} {x2 : a2} {x3 : a3} {x4 : a4} {x5 : a5} {x6 : a6} {x7 : a7} {x8 : a8} {x9 : a9} {x10 : a10} (e : some (Sum.inl (x0, x1, x2, x3, x4, x5, x6, x7, x8, x9, x10)) = some v) (i : Nat → Nat) (hw : Weak st (R x0 x1 x2 x3 x4 x5 x6 x7 x8 x9 x10 i)) : NextQ11 v R st := ⟨_, _, _, _, _, _, _, _, _, _, _, i, (Option.some.inj e).symm, hw⟩
theorem AW.iter11 {a0 a1 a2 a3 a4 a5 a6 a7 a8 a9 a10 ρ : Type} {f : (a0 × a1 × a2 × a3 × a4 × a5 × a6 × a7 × a8 × a9 × a10) → Option ((a0 × a1 × a2 × a3 × a4 × a5 × a6 × a7 × a8 × a9 × a10) ⊕ ρ)} {P : Program} {Q : Exit → St → Prop} {s : St} {x : Code} {x0 : a0} {x1 : a1} {x2 : a2} {x3 : a3} {x4 : a4} {x5 : a5} {x6 : a6} {x7 : a7} {x8 : a8} {x9 : a9} {x10 : a10} {o : ρ} (R : a0 → a1 → a2 → a3 → a4 → a5 → a6 → a7 → a8 → a9 → a10 → (Nat → Nat) → St) (i0 : Nat → Nat) (hit : Al.iter f (x0, x1, x2, x3, x4, x5, x6, x7, x8, x9, x10) = some o) (hw : Weak s (R x0 x1 x2 x3 x4 x5 x6 x7 x8 x9 x10 i0))
    (round : ∀ x0 x1 x2 x3 x4 x5 x6 x7 x8 x9 x10 i v, f (x0, x1, x2, x3, x4, x5, x6, x7, x8, x9, x10) = some v → (∀ q, v = .inr q → o = q) → AW P x (ThenQ (NextQ11 v R) Q) (R x0 x1 x2 x3 x4 x5 x6 x7 x8 x9 x10 i)) : AW P (.loop x) Q s := by
  refine AW.iter (fun (a : a0 × a1 × a2 × a3 × a4 × a5 × a6 × a7 × a8 × a9 × a10) st => ∃ i, st = R a.1 a.2.1 a.2.2.1 a.2.2.2.1 a.2.2.2.2.1 a.2.2.2.2.2.1 a.2.2.2.2.2.2.1 a.2.2.2.2.2.2.2.1 a.2.2.2.2.2.2.2.2.1 a.2.2.2.2.2.2.2.2.2.1 a.2.2.2.2.2.2.2.2.2.2 i) hit ⟨_, hw, i0, rfl⟩ ?_
  rintro ⟨x0, x1, x2, x3, x4, x5, x6, x7, x8, x9, x10⟩ st v ⟨i, rfl⟩ hv hx
  refine (round x0 x1 x2 x3 x4 x5 x6 x7 x8 x9 x10 i v hv hx).mono fun e st' hq => ?_
  cases e with
  | normal =>
    obtain ⟨y0, y1, y2, y3, y4, y5, y6, y7, y8, y9, y10, i', e, hw'⟩ := hq
    exact ⟨_, e, _, hw', i', rfl⟩
  | exit _ => exact hq
  | goto _ => exact hq
  | ret => exact hq
  | panic _ => exact hq
  | outgrown => exact hq
theorem ob12k {a0 a1 a2 a3 a4 a5 a6 a7 a8 a9 a10 a11 α : Type} {m : Option (a0 × a1 × a2 × a3 × a4 × a5 × a6 × a7 × a8 × a9 × a10 × a11)} {f : a0 → a1 → a2 → a3 → a4 → a5 → a6 → a7 → a8 → a9 → a10 → a11 → Option α} {r : α} {G : Prop} (h : bnd12 m f = some r) (k : ∀ x0 x1 x2 x3 x4 x5 x6 x7 x8 x9 x10 x11, m = some (x0, x1, x2, x3, x4, x5, x6, x7, x8, x9, x10, x11) → f x0 x1 x2 x3 x4 x5 x6 x7 x8 x9 x10 x11 = some r → G) : G := by
  cases m with
  | none => cases h
  | some p => exact k _ _ _ _ _ _ _ _ _ _ _ _ rfl h
theorem jb12k {a0 a1 a2 a3 a4 a5 a6 a7 a8 a9 a10 a11 α : Type} {m : Option (a0 × a1 × a2 × a3 × a4 × a5 × a6 × a7 × a8 × a9 × a10 × a11)} {f : a0 → a1 → a2 → a3 → a4 → a5 → a6 → a7 → a8 → a9 → a10 → a11 → Option α} {r : α} {G : Prop} (h : bnd12 m f = some r) (k : ∀ p, m = some p → (∀ x0 x1 x2 x3 x4 x5 x6 x7 x8 x9 x10 x11, p = (x0, x1, x2, x3, x4, x5, x6, x7, x8, x9, x10, x11) → f x0 x1 x2 x3 x4 x5 x6 x7 x8 x9 x10 x11 = some r) → G) : G := by
  obtain ⟨p, h1, h2⟩ := jb12 h; exact k p h1 h2
theorem jc12k {a0 a1 a2 a3 a4 a5 a6 a7 a8 a9 a10 a11 α : Type} {m : Option (Ctl (a0 × a1 × a2 × a3 × a4 × a5 × a6 × a7 × a8 × a9 × a10 × a11) α)} {f : a0 → a1 → a2 → a3 → a4 → a5 → a6 → a7 → a8 → a9 → a10 → a11 → Option α} {r : α} {G : Prop} (h : ctl12 m f = some r) (k : ∀ o, m = some o → (∀ x0 x1 x2 x3 x4 x5 x6 x7 x8 x9 x10 x11, o = .nrm (x0, x1, x2, x3, x4, x5, x6, x7, x8, x9, x10, x11) → f x0 x1 x2 x3 x4 x5 x6 x7 x8 x9 x10 x11 = some r) → (∀ t, o = .ext t → some t = some r) → G) : G := by
  obtain ⟨p, h1, h2, h3⟩ := jc12 h; exact k p h1 h2 h3
def NextQ12 {a0 a1 a2 a3 a4 a5 a6 a7 a8 a9 a10 a11 ρ : Type} (v : (a0 × a1 × a2 × a3 × a4 × a5 × a6 × a7 × a8 × a9 × a10 × a11) ⊕ ρ) (R : a0 → a1 → a2 → a3 → a4 → a5 → a6 → a7 → a8 → a9 → a10 → a11 → (Nat → Nat) → St) (st : St) : Prop := ∃ x0 x1 x2 x3 x4 x5 x6 x7 x8 x9 x10 x11 i, v = .inl (x0, x1, x2, x3, x4, x5, x6, x7, x8, x9, x10, x11) ∧ Weak st (R x0 x1 x2 x3 x4 x5 x6 x7 x8 x9 x10 x11 i)
theorem NextQ12.mk {a0 a1 a2 a3 a4 a5 a6 a7 a8 a9 a10 a11 ρ : Type} {v : (a0 × a1 × a2 × a3 × a4 × a5 × a6 × a7 × a8 × a9 × a10 × a11) ⊕ ρ} {R : a0 → a1 → a2 → a3 → a4 → a5 → a6 → a7 → a8 → a9 → a10 → a11 → (Nat → Nat) → St} {st : St} {x0 : a0} {x1 : a1} {x2 : a2} {x3 : a3} {x4 : a4} {x5 : a5} {x6 : a6} {x7 : a7} {x8 : a8} {x9 : a9} {x10 : a10} {x11 : a11} (e : some (Sum.inl (x0, x1, x2, x3, x4, x5, x6, x7, x8, x9, x10, x11)) = some v) (i : Nat → Nat) (hw : Weak st (R x0 x1 x2 x3 x4 x5 x6 x7 x8 x9 x10 x11 i)) : NextQ12 v R st := ⟨_, _, _, _, _, _, _, _, _, _, _, _, i, (Option.some.inj e).symm, hw⟩
theorem AW.iter12 {a0 a1 a2 a3 a4 a5 a6 a7 a8 a9 a10 a11 ρ : Type} {f : (a0 × a1 × a2 × a3 × a4 × a5 × a6 × a7 × a8 × a9 × a10 × a11) → Option ((a0 × a1 × a2 × a3 × a4 × a5 × a6 × a7 × a8 × a9 × a10 × a11) ⊕ ρ)} {P : Program} {Q : Exit → St → Prop} {s : St} {x : Code} {x0 : a0} {x1 : a1} {x2 : a2} {x3 : a3} {x4 : a4} {x5 : a5} {x6 : a6} {x7 : a7} {x8 : a8} {x9 : a9} {x10 : a10} {x11 : a11} {o : ρ} (R : a0 → a1 → a2 → a3 → a4 → a5 → a6 → a7 → a8 → a9 → a10 → a11 → (Nat → Nat) → St) (i0 : Nat → Nat) (hit : Al.iter f (x0, x1, x2, x3, x4, x5, x6, x7, x8, x9, x10, x11) = some o) (hw : Weak s (R x0 x1 x2 x3 x4 x5 x6 x7 x8 x9 x10 x11 i0))
    (round : ∀ x0 x1 x2 x3 x4 x5 x6 x7 x8 x9 x10 x11 i v, f (x0, x1, x2, x3, x4, x5, x6, x7, x8, x9, x10, x11) = some v → (∀ q, v = .inr q → o = q) → AW P x (ThenQ (NextQ12 v R) Q) (R x0 x1 x2 x3 x4 x5 x6 x7 x8 x9 x10 x11 i)) : AW P (.loop x) Q s := by
  refine AW.iter (fun (a : a0 × a1 × a2 × a3 × a4 × a5 × a6 × a7 × a8 × a9 × a10 × a11) st => ∃ i, st = R a.1 a.2.1 a.2.2.1 a.2.2.2.1 a.2.2.2.2.1 a.2.2.2.2.2.1 a.2.2.2.2.2.2.1 a.2.2.2.2.2.2.2.1 a.2.2.2.2.2.2.2.2.1 a.2.2.2.2.2.2.2.2.2.1 a.2.2.2.2.2.2.2.2.2.2.1 a.2.2.2.2.2.2.2.2.2.2.2 i) hit ⟨_, hw, i0, rfl⟩ ?_
  rintro ⟨x0, x1, x2, x3, x4, x5, x6, x7, x8, x9, x10, x11⟩ st v ⟨i, rfl⟩ hv hx
  refine (round x0 x1 x2 x3 x4 x5 x6 x7 x8 x9 x10 x11 i v hv hx).mono fun e st' hq => ?_
  cases e with
  | normal =>
    obtain ⟨y0, y1, y2, y3, y4, y5, y6, y7, y8, y9, y10, y11, i', e, hw'⟩ := hq
    exact ⟨_, e, _, hw', i', rfl⟩
  | exit _ => exact hq
  | goto _ => exact hq
  | ret => exact hq
  | panic _ => exact hq
  | outgrown => exact hq
theorem ob13k {a0 a1 a2 a3 a4 a5 a6 a7 a8 a9 a10 a11 a12 α : Type} {m : Option (a0 × a1 × a2 × a3 × a4 × a5 × a6 × a7 × a8 × a9 × a10 × a11 × a12)} {f : a0 → a1 → a2 → a3 → a4 → a5 → a6 → a7 → a8 → a9 → a10 → a11 → a12 → Option α} {r : α} {G : Prop} (h : bnd13 m f = some r) (k : ∀ x0 x1 x2 x3 x4 x5 x6 x7 x8 x9 x10 x11 x12, m = some (x0, x1, x2, x3, x4, x5, x6, x7, x8, x9, x10, x11, x12) → f x0 x1 x2 x3 x4 x5 x6 x7 x8 x9 x10 x11 x12 = some r → G) : G := by
  cases m with
  | none => cases h
  | some p => exact k _ _ _ _ _ _ _ _ _ _ _ _ _ rfl h
theorem jb13k {a0 a1 a2 a3 a4 a5 a6 a7 a8 a9 a10 a11 a12 α : Type} {m : Option (a0 × a1 × a2 × a3 × a4 × a5 × a6 × a7 × a8 × a9 × a10 × a11 × a12)} {f : a0 → a1 → a2 → a3 → a4 → a5 → a6 → a7 → a8 → a9 → a10 → a11 → a12 → Option α} {r : α} {G : Prop} (h : bnd13 m f = some r) (k : ∀ p, m = some p → (∀ x0 x1 x2 x3 x4 x5 x6 x7 x8 x9 x10 x11 x12, p = (x0, x1, x2, x3, x4, x5, x6, x7, x8, x9, x10, x11, x12) → f x0 x1 x2 x3 x4 x5 x6 x7 x8 x9 x10 x11 x12 = some r) → G) : G := by
  obtain ⟨p, h1, h2⟩ := jb13 h; exact k p h1 h2
theorem jc13k {a0 a1 a2 a3 a4 a5 a6 a7 a8 a9 a10 a11 a12 α : Type} {m : Option (Ctl (a0 × a1 × a2 × a3 × a4 × a5 × a6 × a7 × a8 × a9 × a10 × a11 × a12) α)} {f : a0 → a1 → a2 → a3 → a4 → a5 → a6 → a7 → a8 → a9 → a10 → a11 → a12 → Option α} {r : α} {G : Prop} (h : ctl13 m f = some r) (k : ∀ o, m = some o → (∀ x0 x1 x2 x3 x4 x5 x6 x7 x8 x9 x10 x11 x12, o = .nrm (x0, x1, x2, x3, x4, x5, x6, x7, x8, x9, x10, x11, x12) → f x0 x1 x2 x3 x4 x5 x6 x7 x8 x9 x10 x11 x12 = some r) → (∀ t, o = .ext t → some t = some r) → G) : G := by
  obtain ⟨p, h1, h2, h3⟩ := jc13 h; exact k p h1 h2 h3
def NextQ13 {a0 a1 a2 a3 a4 a5 a6 a7 a8 a9 a10 a11 a12 ρ : Type} (v : (a0 × a1 × a2 × a3 × a4 × a5 × a6 × a7 × a8 × a9 × a10 × a11 × a12) ⊕ ρ) (R : a0 → a1 → a2 → a3 → a4 → a5 → a6 → a7 → a8 → a9 → a10 → a11 → a12 → (Nat → Nat) → St) (st : St) : Prop := ∃ x0 x1 x2 x3 x4 x5 x6 x7 x8 x9 x10 x11 x12 i, v = .inl (x0, x1, x2, x3, x4, x5, x6, x7, x8, x9, x10, x11, x12) ∧ Weak st (R x0 x1 x2 x3 x4 x5 x6 x7 x8 x9 x10 x11 x12 i)
theorem NextQ13.mk {a0 a1 a2 a3 a4 a5 a6 a7 a8 a9 a10 a11 a12 ρ : Type} {v : (a0 × a1 × a2 × a3 × a4 × a5 × a6 × a7 × a8 × a9 × a10 × a11 × a12) ⊕ ρ} {R : a0 → a1 → a2 → a3 → a4 → a5 → a6 → a7 → a8 → a9 → a10 → a11 → a12 → (Nat → Nat) → St} {st : St} {x0 : a0} {x1 : a1} {x2 : a2} {x3 : a3} {x4 : a4} {x5 : a5} {x6 : a6} {x7 : a7} {x8 : a8} {x9 : a9} {x10 : a10} {x11 : a11} {x12 : a12} (e : some (Sum.inl (x0, x1, x2, x3, x4, x5, x6, x7, x8, x9, x10, x11, x12)) = some v) (i : Nat → Nat) (hw : Weak st (R x0 x1 x2 x3 x4 x5 x6 x7 x8 x9 x10 x11 x12 i)) : NextQ13 v R st := ⟨_, _, _, _, _, _, _, _, _, _, _, _, _, i, (Option.some.inj e).symm, hw⟩
theorem AW.iter13 {a0 a1 a2 a3 a4 a5 a6 a7 a8 a9 a10 a11 a12 ρ : Type} {f : (a0 × a1 × a2 × a3 × a4 × a5 × a6 × a7 × a8 × a9 × a10 × a11 × a12) → Option ((a0 × a1 × a2 × a3 × a4 × a5 × a6 × a7 × a8 × a9 × a10 × a11 × a12) ⊕ ρ)} {P : Program} {Q : Exit → St → Prop} {s : St} {x : Code} {x0 : a0} {x1 : a1} {x2 : a2} {x3 : a3} {x4 : a4} {x5 : a5} {x6 : a6} {x7 : a7} {x8 : a8} {x9 : a9} {x10 : a10} {x11 : a11} {x12 : a12} {o : ρ} (R : a0 → a1 → a2 → a3 → a4 → a5 → a6 → a7 → a8 → a9 → a10 → a11 → a12 → (Nat → Nat) → St) (i0 : Nat → Nat) (hit : Al.iter f (x0, x1, x2, x3, x4, x5, x6, x7, x8, x9, x10, x11, x12) = some o) (hw : Weak s (R x0 x1 x2 x3 x4 x5 x6 x7 x8 x9 x10 x11 x12 i0))
    (round : ∀ x0 x1 x2 x3 x4 x5 x6 x7 x8 x9 x10 x11 x12 i v, f (x0, x1, x2, x3, x4, x5, x6, x7, x8, x9, x10, x11, x12) = some v → (∀ q, v = .inr q → o = q) → AW P x (ThenQ (NextQ13 v R) Q) (R x0 x1 x2 x3 x4 x5 x6 x7 x8 x9 x10 x11 x12 i)) : AW P (.loop x) Q s := by
  refine AW.iter (fun (a : a0 × a1 × a2 × a3 × a4 × a5 × a6 × a7 × a8 × a9 × a10 × a11 × a12) st => ∃ i, st = R a.1 a.2.1 a.2.2.1 a.2.2.2.1 a.2.2.2.2.1 a.2.2.2.2.2.1 a.2.2.2.2.2.2.1 a.2.2.2.2.2.2.2.1 a.2.2.2.2.2.2.2.2.1 a.2.2.2.2.2.2.2.2.2.1 a.2.2.2.2.2.2.2.2.2.2.1 a.2.2.2.2.2.2.2.2.2.2.2.1 a.2.2.2.2.2.2.2.2.2.2.2.2 i) hit ⟨_, hw, i0, rfl⟩ ?_
  rintro ⟨x0, x1, x2, x3, x4, x5, x6, x7, x8, x9, x10, x11, x12⟩ st v ⟨i, rfl⟩ hv hx
  refine (round x0 x1 x2 x3 x4 x5 x6 x7 x8 x9 x10 x11 x12 i v hv hx).mono fun e st' hq => ?_
  cases e with
  | normal =>
    obtain ⟨y0, y1, y2, y3, y4, y5, y6, y7, y8, y9, y10, y11, y12, i', e, hw'⟩ := hq
    exact ⟨_, e, _, hw', i', rfl⟩
  | exit _ => exact hq
  | goto _ => exact hq
  | ret => exact hq
  | panic _ => exact hq
  | outgrown => exact hq
/-- The call by a contract with an effect; what is left stands over a row of clocks. -/
theorem AOps.stepHI {P : Program} {ops : Array Oper} {rest : List Oper} {s : St} {K : St → Prop} {o : Oper} {d : Nat} {f : FuncId} {fo : Operand} {xs : Array Operand} {ats : Array TypeId} {caps bs : List AV} (L : List Nat) {hc : Heap} {F : (Nat → Nat) → AV} {G : (Nat → Nat) → Heap} (hg : o.guard = none) (hd : o.dst = some d) (hN : Nat.blt d s.N = true)
    (ho : o.op = .call { callee := .value fo, args := xs, argTypes := ats }) (hfo : Ev true s.e fo (.fn f (renL L caps))) (hcc : canonL L.length caps = true) (hx : ArgsRn s.e L xs.toList bs) (hsh : Shares s.h L hc) (hnd : L.Nodup)
    (hcon : AHC P f L.length (bs ++ caps) hc (fun r h' => ∃ i, r = F i ∧ h' = G i))
    (hr : ∀ i n', AOps P ops rest { e := (d, ren L (F i)) :: s.e, h := backH L (G i) 1000 L ++ s.h, n := n', N := s.N } K) : AOps P ops (o :: rest) s K :=
  AOps.stepH L hg hd hN ho hfo hcc hx hsh hnd hcon (by rintro r h' n' ⟨i, rfl, rfl⟩; exact hr i n')
theorem AOps.stepHI0 {P : Program} {ops : Array Oper} {rest : List Oper} {s : St} {K : St → Prop} {o : Oper} {f : FuncId} {fo : Operand} {xs : Array Operand} {ats : Array TypeId} {caps bs : List AV} (L : List Nat) {hc : Heap} {F : (Nat → Nat) → AV} {G : (Nat → Nat) → Heap} (hg : o.guard = none) (hd : o.dst = none)
    (ho : o.op = .call { callee := .value fo, args := xs, argTypes := ats }) (hfo : Ev true s.e fo (.fn f (renL L caps))) (hcc : canonL L.length caps = true) (hx : ArgsRn s.e L xs.toList bs) (hsh : Shares s.h L hc) (hnd : L.Nodup)
    (hcon : AHC P f L.length (bs ++ caps) hc (fun r h' => ∃ i, r = F i ∧ h' = G i))
    (hr : ∀ i n', AOps P ops rest { e := s.e, h := backH L (G i) 1000 L ++ s.h, n := n', N := s.N } K) : AOps P ops (o :: rest) s K :=
  AOps.stepH0 L hg hd ho hfo hcc hx hsh hnd hcon (by rintro r h' n' ⟨i, rfl, rfl⟩; exact hr i n')
end Go.Proofs.Ythhodpedkdapcaa.Al
