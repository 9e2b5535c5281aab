/- The program logic, a part of it. -/
import Derived.Test.YtelkfhdgmbahgaaAl1
import Derived.Laws.BytesString
import Derived.Laws.RangeString
import Derived.MapKept
import Derived.Maps.RangeRun
namespace Go.Proofs.Ytelkfhdgmbahgaa.Al
end Go.Proofs.Ytelkfhdgmbahgaa.Al
namespace Go.Proofs.Ytelkfhdgmbahgaa.Al
section
variable {P : Program} {o : Oper} {R : Env} {h : Heap} {n : Nat}
theorem msA_box {t : TypeId} {x : Operand} {a : AV} (id : Nat) {cs : List AV} (ho : o.op = .box t x) (hx : Ev true R x a) (hcs : cellsAV a = cs) (h1 : cs.all AV.one = true) : OpSpecA P o R h n (.ptr id n 0 0) ((id, some (.box n t cs)) :: h) (n + 1) := by
  subst hcs
  intro z w hok hH hn he K Q hK
  obtain ⟨y, k1, k2, k3, k4, k5, k6⟩ := newVar_spec hok id t a (hx.rep he rfl) (fun b hb => List.all_eq_true.1 h1 b hb)
  unfold Oper.wp execOp
  rw [ho]
  simp only [Instr.box, Sem.run_bind, run_newVar, Result.andThen_ok, Sem.run_pure]
  have := hK (.pointer (some ⟨z.w.heap.size, 0, none⟩)) y k1 k2 (by rw [k4, hH, hn, hget_upd]) (by rw [k5, hn]) (by rw [← hn]; exact k6) (fun b hb => by rw [k3]; exact heap_alloc_old _ _ hb)
  rw [k3] at this
  exact this
end
end Go.Proofs.Ytelkfhdgmbahgaa.Al


namespace Go.Proofs.Ytelkfhdgmbahgaa.Al
structure PO where
  d : Option Nat
  v : (Nat → Nat) → AV
  hp : Option (Nat × ((Nat → Nat) → Option AObj))
  dep : List Nat
def PO.wE (p : PO) : Option (Nat × ((Nat → Nat) → AV)) := match p.d with | some d => some (d, p.v) | none => none
def PO.wH (p : PO) : Option (Nat × ((Nat → Nat) → Option AObj)) := p.hp
section
variable {α : Type} (wr : PO → Option (Nat × ((Nat → Nat) → α))) (D : Nat → Bool) (G : Nat → Nat)
def runL : List (Nat × α) → List PO → Nat → List (Nat × α)
  | e, [], _ => e
  | e, p :: L, k => match D k with
    | true => match wr p with
      | some (d, v) => runL ((d, v G) :: e) L (k + 1)
      | none => runL e L (k + 1)
    | false => runL e L (k + 1)
def NoW (t : Nat) (L : List PO) (k : Nat) : Prop := ∀ (j : Nat) (p : PO) v, L[j]? = some p → D (k + j) = true → wr p ≠ some (t, v)
end
theorem NoW.tail {α : Type} {wr : PO → Option (Nat × ((Nat → Nat) → α))} {D : Nat → Bool} {t : Nat} {p : PO} {L : List PO} {k : Nat} (h : NoW wr D t (p :: L) k) : NoW wr D t L (k + 1) :=
  fun j q v h1 h2 => h (j + 1) q v (by simpa using h1) (by rwa [show k + (j + 1) = k + 1 + j by omega])
section
variable {α : Type} {wr : PO → Option (Nat × ((Nat → Nat) → α))} {D : Nat → Bool} {G : Nat → Nat} {lk : List (Nat × α) → Nat → α} (hlk : ∀ d v R t, lk ((d, v) :: R) t = if d = t then v else lk R t)
include hlk
theorem runL_none {t : Nat} : ∀ (L : List PO) (e : List (Nat × α)) (k : Nat), NoW wr D t L k → lk (runL wr D G e L k) t = lk e t
  | [], _, _, _ => rfl
  | p :: L, e, k, h => by
    unfold runL
    cases hD : D k with
    | false => exact runL_none L e (k + 1) h.tail
    | true =>
      cases hw : wr p with
      | none => exact runL_none L e (k + 1) h.tail
      | some q =>
        obtain ⟨d, v⟩ := q
        have hdt : d ≠ t := fun e => h 0 p v rfl hD (by rw [hw, e])
        exact (runL_none L _ (k + 1) h.tail).trans (by rw [hlk, if_neg hdt])
theorem runL_some {t : Nat} {p : PO} {v : (Nat → Nat) → α} (hw : wr p = some (t, v)) : ∀ (L : List PO) (e : List (Nat × α)) (k j : Nat), L[j]? = some p → D (k + j) = true → NoW wr D t (L.drop (j + 1)) (k + j + 1) → lk (runL wr D G e L k) t = v G
  | [], _, _, _, h, _, _ => by simp at h
  | q :: L, e, k, 0, h1, h2, h3 => by
    cases h1
    unfold runL
    rw [show D k = true from h2, hw]
    exact (runL_none hlk L _ (k + 1) (by simpa using h3)).trans (by rw [hlk, if_pos rfl])
  | q :: L, e, k, j + 1, h1, h2, h3 => by
    have h1' : L[j]? = some p := by simpa using h1
    have h2' : D (k + 1 + j) = true := by rwa [show k + 1 + j = k + (j + 1) by omega]
    have h3' : NoW wr D t (L.drop (j + 1)) (k + 1 + j + 1) := by rw [show k + 1 + j + 1 = k + (j + 1) + 1 by omega]; simpa using h3
    unfold runL
    cases D k with
    | false => exact runL_some hw L e (k + 1) j h1' h2' h3'
    | true =>
      cases wr q with
      | none => exact runL_some hw L e (k + 1) j h1' h2' h3'
      | some r => exact runL_some hw L _ (k + 1) j h1' h2' h3'
theorem runL_congr {t : Nat} {D' : Nat → Bool} {G' : Nat → Nat} : ∀ (L : List PO) (e e' : List (Nat × α)) (k : Nat), lk e' t = lk e t →
    (∀ (j : Nat) (p : PO) v, L[j]? = some p → wr p = some (t, v) → D' (k + j) = D (k + j) ∧ (D (k + j) = true → v G' = v G)) → lk (runL wr D' G' e' L k) t = lk (runL wr D G e L k) t
  | [], _, _, _, h, _ => h
  | p :: L, e, e', k, h, hw => by
    have ht : ∀ (j : Nat) (q : PO) v, L[j]? = some q → wr q = some (t, v) → D' (k + 1 + j) = D (k + 1 + j) ∧ (D (k + 1 + j) = true → v G' = v G) := fun j q v h1 h2 => by
      have := hw (j + 1) q v (by simpa using h1) h2
      rwa [show k + (j + 1) = k + 1 + j by omega] at this
    unfold runL
    cases hp : wr p with
    | none =>
      have ih := runL_congr L e e' (k + 1) h ht
      cases D' k <;> cases D k <;> exact ih
    | some q =>
      obtain ⟨d, v⟩ := q
      by_cases hdt : d = t
      · subst hdt
        obtain ⟨h1, h2⟩ := hw 0 p v rfl hp
        rw [Nat.add_zero] at h1 h2
        rw [h1]
        cases hD : D k with
        | false => exact runL_congr L e e' (k + 1) h ht
        | true => exact runL_congr L _ _ (k + 1) (by rw [hlk, hlk, if_pos rfl, if_pos rfl, h2 hD]) ht
      · have e1 : lk ((d, v G') :: e') t = lk e' t := by rw [hlk, if_neg hdt]
        have e2 : lk ((d, v G) :: e) t = lk e t := by rw [hlk, if_neg hdt]
        cases D' k <;> cases D k
        · exact runL_congr L _ _ (k + 1) h ht
        · exact runL_congr L _ _ (k + 1) (by rw [e2]; exact h) ht
        · exact runL_congr L _ _ (k + 1) (by rw [e1]; exact h) ht
        · exact runL_congr L _ _ (k + 1) (by rw [e1, e2]; exact h) ht
end
abbrev runE (D : Nat → Bool) (G : Nat → Nat) (e : Env) (L : List PO) : Env := runL PO.wE D G e L 0
abbrev runH (D : Nat → Bool) (G : Nat → Nat) (h : Heap) (L : List PO) : Heap := runL PO.wH D G h L 0
def updG (G : Nat → Nat) (i n : Nat) : Nat → Nat := fun k => if k = i then n else G k
section
variable {P : Program} {ops : Array Oper}
def wt (ops : Array Oper) : Nat → Nat → Nat → Bool
  | 0, _, _ => false
  | f + 1, j, i => Region.waitsFor .any ops j i || (List.range j).any fun m => Region.waitsFor .any ops j m && wt ops f m i
def Cl (ops : Array Oper) (D : Nat → Bool) : Prop := ∀ j k, D j = true → Region.waitsFor .any ops j k = true → D k = true
theorem Cl.wt {D : Nat → Bool} (h : Cl ops D) : ∀ (f j i : Nat), Al.wt ops f j i = true → D j = true → D i = true
  | 0, _, _, h1, _ => by cases h1
  | f + 1, j, i, h1, h2 => by
    unfold Al.wt at h1
    rw [Bool.or_eq_true] at h1
    rcases h1 with h1 | h1
    · exact h j i h2 h1
    · obtain ⟨m, _, h3⟩ := List.any_eq_true.1 h1
      rw [Bool.and_eq_true] at h3
      exact h.wt f m i h3.2 (h j m h2 h3.1)
structure RdyP (ops : Array Oper) (D : Nat → Bool) (i : Nat) : Prop where
  cl : Cl ops D
  hw : ∀ k, Region.waitsFor .any ops i k = true → D k = true
  un : D i = false
theorem RdyP.yes {D : Nat → Bool} {i : Nat} (h : RdyP ops D i) {k : Nat} (hk : Al.wt ops 40 i k = true) : D k = true := by
  unfold Al.wt at hk
  rw [Bool.or_eq_true] at hk
  rcases hk with hk | hk
  · exact h.hw k hk
  · obtain ⟨m, _, h3⟩ := List.any_eq_true.1 hk
    rw [Bool.and_eq_true] at h3
    exact h.cl.wt 39 m k h3.2 (h.hw m h3.1)
theorem RdyP.no {D : Nat → Bool} {i : Nat} (h : RdyP ops D i) {k : Nat} (hk : Al.wt ops 40 k i = true) : D k = false := by
  cases hD : D k with
  | false => rfl
  | true => have := h.cl.wt 40 k i hk hD; rw [h.un] at this; cases this
def InvP (c0 : Cx) (s : St) (L : List PO) (listed : Array Bool) (a : Act) (w : World) : Prop :=
  a.defers = [] ∧ a.tmps.size = s.N ∧ ∃ (y : Cx) (G : Nat → Nat), y.w = w ∧ c0.le y ∧ y.ok ∧ (∀ id, y.H id = hget (runH (fun k => listed.getD k false) G s.h L) id) ∧
    (∀ t, AVRep y (get (runE (fun k => listed.getD k false) G s.e L) t) (a.tmps.getD t undef))
def OpSpecN (P : Program) (o : Oper) (R : Env) (h : Heap) (n : Nat) (v : AV) (h' : Heap) : Prop :=
  ∀ (x : Cx) (a : Act), x.ok → x.H = hget h → x.n = n → EnvOk x R a → ∀ (K : Act → World → Prop) (Q : Exit → Act → World → Prop),
    (∀ (u : Value) (y : Cx), x.le y → y.ok → y.H = hget h' → AVRep y v u → K (a.put o.dst u) y.w) → o.wp P a x.w K Q
theorem OpSpec.toN {o : Oper} {R : Env} {h : Heap} {n : Nat} {v : AV} {h' : Heap} {n' : Nat} (hs : OpSpec P true o R h n v h' n') : OpSpecN P o R h n v h' :=
  fun x a h1 h2 h3 h4 K Q hK => hs rfl x a h1 h2 h3 h4 K Q fun u y k1 k2 k3 _ k5 => hK u y k1 k2 k3 k5
theorem GuardC.same {R R' : Env} {o : Oper} {c : Bool} (h : GuardC R ops o c) (hR : ∀ t, get R' t = get R t) : GuardC R' ops o c := by
  cases h with
  | one hg hj hb => exact .one hg hj ((hR _).trans hb)
  | two hg hj hb => exact .two hg hj ((hR _).trans hb)
def Ob (P : Program) (ops : Array Oper) (s : St) (L : List PO) (i : Nat) (p : PO) (o : Oper) : Prop :=
  o.dst = p.d ∧ (∀ d, p.d = some d → Nat.blt d s.N = true) ∧ ∀ (D : Nat → Bool) (G : Nat → Nat) (e : Env) (h : Heap) (n : Nat), RdyP ops D i →
    (∀ t, get e t = get (runE D G s.e L) t) → (∀ id, hget h id = hget (runH D G s.h L) id) →
    (o.guard = none ∧ ∃ h', OpSpecN P o e h n (p.v (updG G i n)) h' ∧ (∀ id, hget h' id = match p.hp with | some (j, ob) => if j = id then ob (updG G i n) else hget h id | none => hget h id)) ∨
    (p.hp = none ∧ ∃ c v0, p.v (updG G i n) = .whn c v0 ∧ GuardC e ops o c ∧ (c = true → ∃ h2, OpSpecN P o e h n v0 h2 ∧ ∀ id, hget h2 id = hget h id))
def noWE (L : List PO) (t : Nat) : Bool := L.all fun p => match p.d with | some d => !Nat.beq d t | none => true
def noWH (L : List PO) (t : Nat) : Bool := L.all fun p => match p.hp with | some (d, _) => !Nat.beq d t | none => true
def oneEB : List PO → Bool
  | [] => true
  | p :: L => (match p.d with | some d => noWE L d | none => true) && oneEB L
def ordHB (ops : Array Oper) (L : List PO) : Bool := (List.range L.length).all fun j => (List.range j).all fun i => match L[i]?.bind (·.hp), L[j]?.bind (·.hp) with
  | some (a, _), some (b, _) => !Nat.beq a b || wt ops 40 j i
  | _, _ => true
theorem noWE_spec {L : List PO} {t : Nat} (h : noWE L t = true) {j : Nat} {p : PO} (hj : L[j]? = some p) : p.d ≠ some t := fun hd => by
  have := List.all_eq_true.1 h p (List.mem_of_getElem? hj)
  rw [hd] at this
  simp at this
theorem noWH_spec {L : List PO} {t : Nat} (h : noWH L t = true) {j : Nat} {p : PO} (hj : L[j]? = some p) : ∀ ob, p.hp ≠ some (t, ob) := fun ob hd => by
  have := List.all_eq_true.1 h p (List.mem_of_getElem? hj)
  rw [hd] at this
  simp at this
theorem wE_some {p : PO} {t : Nat} {v} (h : p.wE = some (t, v)) : p.d = some t ∧ v = p.v := by
  unfold PO.wE at h
  split at h
  · rename_i d hd; simp only [Option.some.injEq, Prod.mk.injEq] at h; rw [hd, h.1]; exact ⟨rfl, h.2.symm⟩
  · cases h
theorem wE_mk {p : PO} {t : Nat} (h : p.d = some t) : p.wE = some (t, p.v) := by unfold PO.wE; rw [h]
theorem wH_some {p : PO} {t : Nat} {v} (h : p.wH = some (t, v)) : ∃ ob, p.hp = some (t, ob) ∧ v = ob := ⟨v, h, rfl⟩
theorem wH_mk {p : PO} {t : Nat} {ob} (h : p.hp = some (t, ob)) : p.wH = some (t, ob) := h
theorem oneE_later : ∀ {L : List PO}, oneEB L = true → ∀ {j : Nat} {p : PO} {t : Nat}, L[j]? = some p → p.d = some t → noWE (L.drop (j + 1)) t = true
  | [], _, _, _, _, h, _ => by simp at h
  | q :: L, h, 0, p, t, h1, h2 => by
    cases h1
    simp only [oneEB, Bool.and_eq_true, h2] at h
    simpa using h.1
  | q :: L, h, j + 1, p, t, h1, h2 => by
    simp only [oneEB, Bool.and_eq_true] at h
    simpa using oneE_later h.2 (j := j) (by simpa using h1) h2
theorem noWE_NoW {L : List PO} {t : Nat} (h : noWE L t = true) {D : Nat → Bool} {k : Nat} : NoW PO.wE D t L k := fun _ _ _ h1 _ h3 => noWE_spec h h1 (wE_some h3).1
theorem noWH_NoW {L : List PO} {t : Nat} (h : noWH L t = true) {D : Nat → Bool} {k : Nat} : NoW PO.wH D t L k := fun _ _ _ h1 _ h3 => by obtain ⟨ob, h4, _⟩ := wH_some h3; exact noWH_spec h h1 ob h4
theorem ordH_later {L : List PO} (hB : ordHB ops L = true) {D : Nat → Bool} (hcl : Cl ops D) {i : Nat} {p : PO} {t : Nat} {ob} (hp : L[i]? = some p) (ht : p.hp = some (t, ob)) (hun : D i = false) : NoW PO.wH D t (L.drop (i + 1)) (i + 1) := by
  intro j q v h1 h2 h3
  obtain ⟨ob2, h4, _⟩ := wH_some h3
  rw [List.getElem?_drop] at h1
  have hlt : i + 1 + j < L.length := (List.getElem?_eq_some_iff.1 h1).1
  have := List.all_eq_true.1 (List.all_eq_true.1 hB (i + 1 + j) (List.mem_range.2 hlt)) i (List.mem_range.2 (by omega))
  simp only [hp, h1, Option.bind_some, ht, h4, Bool.or_eq_true, Bool.not_eq_true'] at this
  rcases this with h5 | h5
  · simp at h5
  · have := hcl.wt 40 _ _ h5 h2
    rw [hun] at this; cases this
def depB (ops : Array Oper) (L : List PO) : Bool := (List.range L.length).all fun j => match L[j]? with
  | some p => p.dep.all fun k => Nat.beq k j || wt ops 40 j k
  | none => true
def Locs : List PO → Prop
  | [] => True
  | p :: L => (∀ G G' : Nat → Nat, (∀ k, p.dep.contains k = true → G k = G' k) → p.v G' = p.v G ∧ ∀ id ob, p.hp = some (id, ob) → ob G' = ob G) ∧ Locs L
theorem Locs.at : ∀ {L : List PO}, Locs L → ∀ {j : Nat} {p : PO}, L[j]? = some p → ∀ G G' : Nat → Nat, (∀ k, p.dep.contains k = true → G k = G' k) → p.v G' = p.v G ∧ ∀ id ob, p.hp = some (id, ob) → ob G' = ob G
  | _ :: _, h, 0, _, hj => by cases hj; exact h.1
  | _ :: _, h, j + 1, _, hj => Locs.at h.2 (j := j) (by simpa using hj)
theorem depB_at {L : List PO} (hB : depB ops L = true) {D : Nat → Bool} (hcl : Cl ops D) {j : Nat} {p : PO} (hp : L[j]? = some p) (hl : D j = true) {k : Nat} (hk : p.dep.contains k = true) : D k = true := by
  have hlt : j < L.length := (List.getElem?_eq_some_iff.1 hp).1
  have h1 := List.all_eq_true.1 hB j (List.mem_range.2 hlt)
  simp only [hp] at h1
  have h2 := List.all_eq_true.1 h1 k (by simpa using hk)
  simp only [Bool.or_eq_true] at h2
  rcases h2 with h2 | h2
  · rw [Nat.eq_of_beq_eq_true h2]; exact hl
  · exact hcl.wt 40 _ _ h2 hl
theorem InvP.put {c0 : Cx} {s : St} {L : List PO} {listed : Array Bool} {a : Act} {i : Nat} {p : PO} {y z : Cx} {G : Nat → Nat} {u : Value} (hp : L[i]? = some p) (hN : ∀ d, p.d = some d → Nat.blt d s.N = true) (hE : oneEB L = true) (hH : ordHB ops L = true)
    (hD : depB ops L = true) (hLoc : Locs L) (hi : i < listed.size) (hr : RdyP ops (fun k => listed.getD k false) i) (hdef : a.defers = []) (hsz : a.tmps.size = s.N) (hle : c0.le y)
    (he : ∀ t, AVRep y (get (runE (fun k => listed.getD k false) G s.e L) t) (a.tmps.getD t undef)) (hyz : y.le z) (hzok : z.ok)
    (hzH : ∀ id, z.H id = match p.hp with | some (j, ob) => if j = id then ob (updG G i y.n) else hget (runH (fun k => listed.getD k false) G s.h L) id | none => hget (runH (fun k => listed.getD k false) G s.h L) id)
    (hv : AVRep z (p.v (updG G i y.n)) u) : InvP c0 s L (listed.setIfInBounds i true) (a.put p.d u) z.w := by
  have hD' : ∀ k, (listed.setIfInBounds i true).getD k false = (listed.getD k false || decide (k = i)) := fun k => by
    by_cases hk : i = k
    · subst hk; simp [hi]
    · rw [getD_set_ne false hk]; simp [Ne.symm hk]
  have hsame : ∀ k, k ≠ i → (listed.setIfInBounds i true).getD k false = listed.getD k false := fun k hk => by rw [hD']; simp [hk]
  have hval : ∀ (j : Nat) (q : PO), L[j]? = some q → listed.getD j false = true → q.v (updG G i y.n) = q.v G ∧ ∀ id ob, q.hp = some (id, ob) → ob (updG G i y.n) = ob G := fun j q hj hl => by
    refine hLoc.at hj G _ fun k hk => ?_
    have hlk := depB_at hD hr.cl hj hl hk
    have : k ≠ i := fun e => by subst e; rw [hr.un] at hlk; cases hlk
    simp [updG, this]
  have hdi : (fun k => (listed.setIfInBounds i true).getD k false) (0 + i) = true := by show (listed.setIfInBounds i true).getD (0 + i) false = true; rw [Nat.zero_add, hD']; simp
  refine ⟨by cases hdd : p.d <;> simpa [Act.put, hdd] using hdef, ?_, z, updG G i y.n, rfl, hle.trans hyz, hzok, fun id => ?_, fun t => ?_⟩
  · cases hdd : p.d <;> simpa [Act.put, hdd] using hsz
  · rw [hzH]
    have rest : (∀ ob, p.hp ≠ some (id, ob)) → hget (runH (fun k => listed.getD k false) G s.h L) id = hget (runH (fun k => (listed.setIfInBounds i true).getD k false) (updG G i y.n) s.h L) id := fun hne => by
      refine (runL_congr hget_cons L _ _ 0 rfl fun j q v h1 h2 => ?_).symm
      obtain ⟨ob, h4, h5⟩ := wH_some h2
      have hji : j ≠ i := fun e => by subst e; rw [hp] at h1; cases h1; exact hne ob h4
      rw [Nat.zero_add]
      exact ⟨hsame j hji, fun hl => by rw [h5]; exact (hval j q h1 hl).2 id ob h4⟩
    cases hhp : p.hp with
    | none => exact rest fun ob => by rw [hhp]; simp
    | some r =>
      obtain ⟨j, ob⟩ := r
      by_cases hj : j = id
      · subst hj
        simp only [if_true]
        have hlater := ordH_later hH hr.cl hp hhp hr.un
        refine (runL_some hget_cons (wH_mk hhp) L _ 0 i hp hdi ?_).symm
        rw [Nat.zero_add]
        intro m q v h1 h2 h3
        exact hlater m q v h1 ((hsame _ (by omega)).symm.trans h2) h3
      · simp only [if_neg hj]
        exact rest fun ob' => by rw [hhp]; intro e; cases e; exact hj rfl
  · by_cases hpt : p.d = some t
    · have e1 : get (runE (fun k => (listed.setIfInBounds i true).getD k false) (updG G i y.n) s.e L) t = p.v (updG G i y.n) :=
        runL_some get_cons (wE_mk hpt) L _ 0 i hp hdi (noWE_NoW (oneE_later hE hp hpt))
      have hN' : t < a.tmps.size := by rw [hsz]; exact lt_of_blt (hN t hpt)
      rw [e1, hpt]
      simp only [Act.put, getD_set hN', if_true]
      exact hv
    · have e1 : get (runE (fun k => (listed.setIfInBounds i true).getD k false) (updG G i y.n) s.e L) t = get (runE (fun k => listed.getD k false) G s.e L) t := by
        refine runL_congr get_cons L _ _ 0 rfl fun j q v h1 h2 => ?_
        obtain ⟨h4, h5⟩ := wE_some h2
        have hji : j ≠ i := fun e => by subst e; rw [hp] at h1; cases h1; exact hpt h4
        rw [Nat.zero_add]
        exact ⟨hsame j hji, fun hl => by rw [h5]; exact (hval j q h1 hl).1⟩
      rw [e1]
      have h0 := (he t).mono hyz
      cases hdd : p.d with
      | none => exact h0
      | some d =>
        have hdt : d ≠ t := fun e => hpt (by rw [hdd, e])
        have hN' : d < a.tmps.size := by rw [hsz]; exact lt_of_blt (hN d hdd)
        simp only [Act.put, getD_set hN', if_neg hdt]
        exact h0
theorem InvP.step {c0 : Cx} {s : St} {L : List PO} {listed : Array Bool} {a : Act} {w : World} {i : Nat} {p : PO} {o : Oper} {Q : Exit → Act → World → Prop} (hp : L[i]? = some p) (ho : ops[i]? = some o) (hOb : Ob P ops s L i p o) (hE : oneEB L = true) (hH : ordHB ops L = true)
    (hD : depB ops L = true) (hLoc : Locs L) (hi : i < listed.size) (hr : RdyP ops (fun k => listed.getD k false) i) (hinv : InvP c0 s L listed a w) :
    wpOp P ops Q i (InvP c0 s L (listed.setIfInBounds i true)) a w := by
  obtain ⟨hdef, hsz, y, G, hyw, hle, hok, hyH, he⟩ := hinv
  subst hyw
  obtain ⟨hd, hN, hob⟩ := hOb
  unfold wpOp
  simp only [ho]
  rcases hob (fun k => listed.getD k false) G _ _ y.n hr (fun t => rfl) (fun id => rfl) with ⟨hg, h', hspec, hh'⟩ | ⟨hhp, c, v0, hv0, hG, hspec⟩
  · rw [if_pos (by simp [Region.wanted, hg])]
    refine .inl (hspec y a hok (funext fun id => hyH id) rfl (fun t => he t) _ Q fun u z hyz hzok hzH hv => ?_)
    rw [hd]
    exact InvP.put hp hN hE hH hD hLoc hi hr hdef hsz hle he hyz hzok (fun id => by rw [hzH]; exact hh' id) hv
  · have hw : Region.wanted o (yielded ops a.tmps) = c := GuardC.wanted (s := ⟨_, [], 0, 0⟩) hG (fun t => he t)
    rw [hw]
    cases c with
    | true =>
      obtain ⟨h2, hs2, hh2⟩ := hspec rfl
      rw [if_pos rfl]
      refine .inl (hs2 y a hok (funext fun id => hyH id) rfl (fun t => he t) _ Q fun u z hyz hzok hzH hv => ?_)
      rw [hd]
      refine InvP.put hp hN hE hH hD hLoc hi hr hdef hsz hle he hyz hzok (fun id => by rw [hzH, hhp]; exact hh2 id) ?_
      rw [hv0]; exact .whn (fun _ => hv) (fun h => by cases h)
    | false =>
      rw [if_neg (by decide), hd]
      refine InvP.put hp hN hE hH hD hLoc hi hr hdef hsz hle he (.refl y) hok (fun id => by rw [hhp]; exact hyH id) ?_
      rw [hv0]; exact .whn (fun h => by cases h) (fun _ => rfl)
def InsE (e : Env) : Env → Prop
  | [] => True
  | (t, a) :: r => get e t = a ∧ InsE e r
def InsH (e : Heap) : Heap → Prop
  | [] => True
  | (t, a) :: r => hget e t = a ∧ InsH e r
theorem get_pre {e0 e : Env} (he : ∀ t, get e t = get e0 t) : ∀ (r : Env), InsE e0 r → ∀ t, get (r ++ e) t = get e0 t
  | [], _, t => he t
  | (t0, a) :: r, ⟨h1, h2⟩, t => by
    rw [List.cons_append, get_cons]
    split
    · rename_i ht; subst ht; exact h1.symm
    · exact get_pre he r h2 t
theorem hget_pre {e0 e : Heap} (he : ∀ t, hget e t = hget e0 t) : ∀ (r : Heap), InsH e0 r → ∀ t, hget (r ++ e) t = hget e0 t
  | [], _, t => he t
  | (t0, a) :: r, ⟨h1, h2⟩, t => by
    rw [List.cons_append, hget_cons]
    split
    · rename_i ht; subst ht; exact h1.symm
    · exact hget_pre he r h2 t
theorem OpSpecN.same {o : Oper} {R R' : Env} {h h' : Heap} {n : Nat} {v : AV} {h2 : Heap} (hs : OpSpecN P o R h n v h2) (hR : ∀ t, get R' t = get R t) (hh : ∀ id, hget h' id = hget h id) : OpSpecN P o R' h' n v h2 := by
  intro x a hok hH hn he K Q hK
  exact hs x a hok (by rw [hH]; exact funext hh) hn (fun t => by rw [← hR]; exact he t) K Q hK
theorem Ob.quietN {s : St} {L : List PO} {i : Nat} {p : PO} {o : Oper} (hg : o.guard = none) (hd : o.dst = p.d) (hN : ∀ d, p.d = some d → Nat.blt d s.N = true) (hp : p.hp = none) (ie : (Nat → Nat) → Env) (ih : (Nat → Nat) → Heap)
    (hE : ∀ D G, RdyP ops D i → InsE (runE D G s.e L) (ie G)) (hH : ∀ D G, RdyP ops D i → InsH (runH D G s.h L) (ih G))
    (hv : ∀ G n, p.v (updG G i n) = p.v G) (h : ∀ G e h' n, ∃ h2, OpSpecN P o (ie G ++ e) (ih G ++ h') n (p.v G) h2 ∧ ∀ id, hget h2 id = hget (ih G ++ h') id) : Ob P ops s L i p o := by
  refine ⟨hd, hN, fun D G e h' n hr he hh => .inl ⟨hg, ?_⟩⟩
  have g1 := get_pre he _ (hE D G hr)
  have g2 := hget_pre hh _ (hH D G hr)
  obtain ⟨h2, k1, k2⟩ := h G e h' n
  refine ⟨h2, ?_, fun id => by rw [hp, k2, g2, hh]⟩
  rw [hv]
  exact k1.same (fun t => by rw [g1, he]) (fun id => by rw [g2, hh])
theorem Ob.quiet {s : St} {L : List PO} {i : Nat} {p : PO} {o : Oper} {n1 : Nat → Nat} (hg : o.guard = none) (hd : o.dst = p.d) (hN : ∀ d, p.d = some d → Nat.blt d s.N = true) (hp : p.hp = none) (ie : (Nat → Nat) → Env) (ih : (Nat → Nat) → Heap)
    (hE : ∀ D G, RdyP ops D i → InsE (runE D G s.e L) (ie G)) (hH : ∀ D G, RdyP ops D i → InsH (runH D G s.h L) (ih G))
    (hv : ∀ G n, p.v (updG G i n) = p.v G) (h : ∀ G e h' n, OpSpec P true o (ie G ++ e) (ih G ++ h') n (p.v G) (ih G ++ h') (n1 n)) : Ob P ops s L i p o :=
  Ob.quietN hg hd hN hp ie ih hE hH hv fun G e h' n => ⟨_, (h G e h' n).toN, fun _ => rfl⟩
theorem Ob.makeN {s : St} {L : List PO} {i : Nat} {p : PO} {o : Oper} {id : Nat} {ob : (Nat → Nat) → Option AObj} (hg : o.guard = none) (hd : o.dst = p.d) (hN : ∀ d, p.d = some d → Nat.blt d s.N = true) (hp : p.hp = some (id, ob)) (ie : (Nat → Nat) → Env) (ih : (Nat → Nat) → Heap)
    (hE : ∀ D G, RdyP ops D i → InsE (runE D G s.e L) (ie G)) (hH : ∀ D G, RdyP ops D i → InsH (runH D G s.h L) (ih G))
    (h : ∀ (G : Nat → Nat) e h' n, OpSpecN P o (ie G ++ e) (ih G ++ h') n (p.v (updG G i n)) ((id, ob (updG G i n)) :: (ih G ++ h'))) : Ob P ops s L i p o := by
  refine ⟨hd, hN, fun D G e h' n hr he hh => .inl ⟨hg, ?_⟩⟩
  have g1 := get_pre he _ (hE D G hr)
  have g2 := hget_pre hh _ (hH D G hr)
  refine ⟨_, (h G e h' n).same (fun t => by rw [g1, he]) (fun j => by rw [g2, hh]), fun j => ?_⟩
  rw [hp, hget_cons]
  simp only
  split
  · rfl
  · rw [g2, hh]
theorem Ob.make {s : St} {L : List PO} {i : Nat} {p : PO} {o : Oper} {id : Nat} {ob : (Nat → Nat) → Option AObj} {n1 : Nat → Nat} (hg : o.guard = none) (hd : o.dst = p.d) (hN : ∀ d, p.d = some d → Nat.blt d s.N = true) (hp : p.hp = some (id, ob)) (ie : (Nat → Nat) → Env) (ih : (Nat → Nat) → Heap)
    (hE : ∀ D G, RdyP ops D i → InsE (runE D G s.e L) (ie G)) (hH : ∀ D G, RdyP ops D i → InsH (runH D G s.h L) (ih G))
    (h : ∀ (G : Nat → Nat) e h' n, OpSpec P true o (ie G ++ e) (ih G ++ h') n (p.v (updG G i n)) ((id, ob (updG G i n)) :: (ih G ++ h')) (n1 n)) : Ob P ops s L i p o :=
  Ob.makeN hg hd hN hp ie ih hE hH fun G e h' n => (h G e h' n).toN
theorem OpSpecN.frz {o : Oper} {R : Env} {h : Heap} {n id g : Nat} {e : TypeId} {sz : Nat} {xs : List (List RV)} (hs : OpSpecN P o R h n (.own id g) ((id, some (.arr g e sz xs)) :: h)) : OpSpecN P o R h n (.r (.sl xs)) ((id, none) :: h) := by
  intro x a hok hH hn he K Q hK
  refine hs x a hok hH hn he K Q fun u y k1 k2 k3 k4 => ?_
  have hHid : y.H id = some (.arr g e sz xs) := by rw [k3, hget_cons, if_pos rfl]
  let y' : Cx := { y with S := fun b => y.S b ∨ ∃ k, y.β id = some (b, k), H := hget ((id, none) :: h) }
  have hsub : ∀ i o, y'.H i = some o → i ≠ id ∧ y.H i = some o := by
    intro i o ho
    simp only [y', hget_cons] at ho
    split at ho
    · cases ho
    · rename_i hne
      refine ⟨fun e => hne e.symm, ?_⟩
      rw [k3, hget_cons, if_neg hne]; exact ho
  have hle' : y.le y' := ⟨Nat.le_refl _, rfl, rfl, rfl, fun _ _ => rfl, fun _ h => .inl h, rfl, Nat.le_refl _, fun i o ho _ => ⟨o, (hsub i o ho).2, rfl, rfl, rfl⟩⟩
  have hok' : y'.ok := by
    refine ⟨fun b hb => ?_, k2.F_lt, fun b hb => ?_, fun i o ho => ?_, fun i o b k ho hb => ?_, fun i i' o o' b k k' ho ho' => k2.inj i i' o o' b k k' (hsub _ _ ho).2 (hsub _ _ ho').2, k2.tabs.le hle'⟩
    · rcases hb with hb | ⟨k, hb⟩
      · exact k2.S_lt b hb
      · exact (k2.own id _ b k hHid hb).1
    · rcases hb with hb | ⟨k, hb⟩
      · exact k2.SF b hb
      · exact (k2.own id _ b k hHid hb).2.2
    · obtain ⟨j1, j2⟩ := k2.obj i o (hsub _ _ ho).2
      exact ⟨j1, j2.mono hle' fun _ _ _ => rfl⟩
    · obtain ⟨j1, j2, j3⟩ := k2.own i o b k (hsub _ _ ho).2 hb
      refine ⟨j1, ?_, j3⟩
      rintro (h1 | ⟨k', h1⟩)
      · exact j2 h1
      · exact (hsub _ _ ho).1 (k2.inj i id o _ b k k' (hsub _ _ ho).2 hHid hb h1)
  exact hK u y' (k1.trans hle') hok' rfl (.r (own_frozen k2 hHid k4 (fun _ h => .inl h) (fun b k hb => .inr ⟨k, hb⟩)))
end
section
variable {ops : Array Oper} {D : Nat → Bool} {G : Nat → Nat} {e : Env} {h : Heap} {L : List PO} {t : Nat}
theorem inE_base (hB : noWE L t = true) {a : AV} (ha : get e t = a) : get (runE D G e L) t = a := (runL_none get_cons L e 0 (noWE_NoW hB)).trans ha
theorem inE_op {i : Nat} (hr : RdyP ops D i) (j : Nat) {p : PO} {a : AV} (hj : L[j]? = some p) (hd : p.d = some t) (hw : wt ops 40 i j = true) (hB : noWE (L.drop (j + 1)) t = true) (ha : p.v G = a) : get (runE D G e L) t = a :=
  (runL_some get_cons (wE_mk hd) L e 0 j hj (by rw [Nat.zero_add]; exact hr.yes hw) (noWE_NoW hB)).trans ha
theorem inH_base (hB : noWH L t = true) {a : Option AObj} (ha : hget h t = a) : hget (runH D G h L) t = a := (runL_none hget_cons L h 0 (noWH_NoW hB)).trans ha
def laterB (ops : Array Oper) (i t : Nat) : List PO → Nat → Bool
  | [], _ => true
  | p :: L, k => (match p.hp with | some (d, _) => !Nat.beq d t || Nat.beq k i || wt ops 40 k i | none => true) && laterB ops i t L (k + 1)
theorem laterB_NoW {i : Nat} (hr : RdyP ops D i) : ∀ {L : List PO} {k : Nat}, laterB ops i t L k = true → NoW PO.wH D t L k
  | [], _, _ => fun j _ _ h => by simp at h
  | q :: L, k, hB => by
    simp only [laterB, Bool.and_eq_true] at hB
    intro j p v h1 h2 h3
    match j with
    | 0 =>
      cases h1
      obtain ⟨ob, h4, _⟩ := wH_some h3
      rw [h4] at hB
      simp only [Bool.or_eq_true, Bool.not_eq_true'] at hB
      rcases hB.1 with (h5 | h5) | h5
      · simp at h5
      · rw [Nat.add_zero, Nat.eq_of_beq_eq_true h5, hr.un] at h2; cases h2
      · rw [Nat.add_zero, hr.no h5] at h2; cases h2
    | j + 1 => exact laterB_NoW hr hB.2 j p v (by simpa using h1) (by rwa [show k + 1 + j = k + (j + 1) by omega]) h3
theorem inH_baseL {i : Nat} (hr : RdyP ops D i) (hB : laterB ops i t L 0 = true) {a : Option AObj} (ha : hget h t = a) : hget (runH D G h L) t = a := (runL_none hget_cons L h 0 (laterB_NoW hr hB)).trans ha
theorem inH_op {i : Nat} (hr : RdyP ops D i) (j : Nat) {p : PO} {ob} {a : Option AObj} (hj : L[j]? = some p) (hd : p.hp = some (t, ob)) (hw : wt ops 40 i j = true) (hB : laterB ops i t (L.drop (j + 1)) (j + 1) = true) (ha : ob G = a) : hget (runH D G h L) t = a :=
  (runL_some hget_cons (wH_mk hd) L h 0 j hj (by rw [Nat.zero_add]; exact hr.yes hw) (by rw [Nat.zero_add]; exact laterB_NoW hr hB)).trans ha
end
end Go.Proofs.Ytelkfhdgmbahgaa.Al


namespace Go.Proofs.Ytelkfhdgmbahgaa.Al
section
variable {P : Program} {ops : Array Oper}
def backB (ops : Array Oper) (n : Nat) : Bool := (List.range n).all fun i => match ops[i]? with | some o => o.after.all fun e => !Region.binds .any e || decide (e.on < i) | none => false
def Obs (P : Program) (ops : Array Oper) (s : St) (L0 : List PO) : Nat → List PO → List Oper → Prop
  | _, [], _ => True
  | _, _ :: _, [] => False
  | i, p :: L, o :: l => Ob P ops s L0 i p o ∧ Obs P ops s L0 (i + 1) L l
theorem Obs.at {s : St} {L0 : List PO} : ∀ {L : List PO} {l : List Oper} {i0 : Nat}, Obs P ops s L0 i0 L l → ∀ {j : Nat} {p : PO} {o : Oper}, L[j]? = some p → l[j]? = some o → Ob P ops s L0 (i0 + j) p o
  | _ :: _, _ :: _, i0, h, 0, _, _, h1, h2 => by cases h1; cases h2; exact h.1
  | _ :: L, _ :: l, i0, h, j + 1, p, o, h1, h2 => by
    have := Obs.at (j := j) h.2 (p := p) (o := o) (by simpa using h1) (by simpa using h2)
    rwa [show i0 + (j + 1) = i0 + 1 + j by omega]
  | _ :: _, [], _, h, _, _, _, _, _ => h.elim
  | [], _, _, _, _, _, _, h1, _ => by simp at h1
def countF (listed : Array Bool) : Nat → Nat
  | 0 => 0
  | n + 1 => countF listed n + (if listed.getD n false then 0 else 1)
theorem countF_set {listed : Array Bool} {i : Nat} (hi : i < listed.size) (hun : listed.getD i false = false) : ∀ n, countF (listed.setIfInBounds i true) n + (if i < n then 1 else 0) = countF listed n
  | 0 => by simp [countF]
  | n + 1 => by
    have ih := countF_set hi hun n
    unfold countF
    by_cases hin : i = n
    · subst hin
      rw [hun]
      have : (listed.setIfInBounds i true).getD i false = true := by simp [hi]
      rw [this]
      simp at ih ⊢
      exact ih
    · rw [getD_set_ne false hin]
      have : (i < n + 1) ↔ (i < n) := by omega
      simp only [this]
      omega
theorem countF_pos {listed : Array Bool} : ∀ {n : Nat}, 0 < countF listed n → ∃ i, i < n ∧ listed.getD i false = false ∧ ∀ j, j < i → listed.getD j false = true
  | 0, h => by simp [countF] at h
  | n + 1, h => by
    by_cases h0 : 0 < countF listed n
    · obtain ⟨i, h1, h2, h3⟩ := countF_pos h0
      exact ⟨i, by omega, h2, h3⟩
    · have hall : ∀ m, m ≤ n → countF listed m = 0 := by
        intro m hm
        have : countF listed m ≤ countF listed n := by
          clear h h0
          induction n with
          | zero => have : m = 0 := by omega
                    subst this; exact Nat.le_refl _
          | succ n ih =>
            by_cases hmn : m = n + 1
            · subst hmn; exact Nat.le_refl _
            · exact Nat.le_trans (ih (by omega)) (Nat.le_add_right ..)
        omega
      unfold countF at h
      refine ⟨n, by omega, ?_, fun j hj => ?_⟩
      · cases hl : listed.getD n false with
        | false => rfl
        | true => rw [hl] at h; simp at h; omega
      · have := hall (j + 1) (by omega)
        unfold countF at this
        cases hl : listed.getD j false with
        | true => rfl
        | false => rw [hl] at this; simp at this
theorem countF_zero {listed : Array Bool} : ∀ {n : Nat}, countF listed n = 0 → ∀ j, j < n → listed.getD j false = true
  | 0, _, j, hj => by omega
  | n + 1, h, j, hj => by
    unfold countF at h
    by_cases hjn : j = n
    · subst hjn
      cases hl : listed.getD j false with
      | true => rfl
      | false => rw [hl] at h; simp at h
    · exact countF_zero (n := n) (by omega) j (by omega)
theorem countF_all {listed : Array Bool} (h : ∀ j, listed.getD j false = false) : ∀ n, countF listed n = n
  | 0 => rfl
  | n + 1 => by unfold countF; rw [countF_all h n, h n]; simp
theorem wpAny_par {c0 : Cx} {s : St} {L : List PO} {n g : Nat} {l : List Oper} {Q : Exit → Act → World → Prop} (hl : l.toArray = ops) (hn : n < ops.size) (hLn : L.length = n) (hback : backB ops n = true) (hs : Region.sinkB .any ops n = true) (hc : Region.chainB .any ops n = true)
    (hD : depB ops L = true) (hE : oneEB L = true) (hH : ordHB ops L = true) (hLoc : Locs L) (hOb : Obs P ops s L 0 L l)
    (hend : ∀ listed a w, HeadInv .any ops n listed → (∀ j, j < n → listed.getD j false = true) → InvP c0 s L listed a w → wpAny P .any ops Q g listed a w) :
    ∀ (f : Nat) (listed : Array Bool) (a : Act) (w : World), countF listed n = f → HeadInv .any ops n listed → InvP c0 s L listed a w → wpAny P .any ops Q (f + g) listed a w := by
  intro f
  induction f with
  | zero =>
    intro listed a w hcnt inv hinv
    rw [Nat.zero_add]
    exact hend listed a w inv (countF_zero hcnt) hinv
  | succ f ih =>
    intro listed a w hcnt inv hinv
    rw [show f + 1 + g = (f + g) + 1 by omega]
    obtain ⟨i0, hi0, hun0, hbefore⟩ := countF_pos (listed := listed) (n := n) (by omega)
    have hs0 : i0 < listed.size := by rw [inv.size]; omega
    have hready0 : i0 ∈ Region.ready .any ops listed := by
      refine mem_ready.2 ⟨getD_in hs0 hun0, ?_⟩
      have hio : ∃ o, ops[i0]? = some o := ⟨ops[i0]'(by omega), by simp [Array.getElem?_eq_getElem (show i0 < ops.size by omega)]⟩
      obtain ⟨o, ho⟩ := hio
      refine ⟨o, ho, fun e he hb => ?_⟩
      have h1 := List.all_eq_true.1 hback i0 (List.mem_range.2 hi0)
      simp only [ho] at h1
      have h2 := (Array.all_eq_true_iff_forall_mem.1 h1) e he
      simp only [hb, Bool.not_true, Bool.false_or, decide_eq_true_eq] at h2
      exact hbefore _ h2
    refine ⟨fun h => (by rw [h] at hready0; cases hready0), fun i hi => ?_⟩
    have hin : i < n := by
      rcases Nat.lt_or_ge i n with h | h
      · exact h
      · exact absurd hi (tail_waits hs hc hn inv _ i0 rfl hi0 (getD_in hs0 hun0) i h)
    obtain ⟨hun, o, ho, hall⟩ := mem_ready.1 hi
    have hunf := getD_both hun
    have his : i < listed.size := by rw [inv.size]; omega
    obtain ⟨p, hp⟩ : ∃ p, L[i]? = some p := ⟨L[i]'(by omega), by simp [List.getElem?_eq_getElem (show i < L.length by omega)]⟩
    have hol : l[i]? = some o := by rw [← ho, ← hl]; simp
    have hob := hOb.at hp hol
    rw [Nat.zero_add] at hob
    have hrd : RdyP ops (fun k => listed.getD k false) i := by
      refine ⟨fun j k hj hk => ?_, fun k hk => ?_, hunf⟩
      · obtain ⟨oj, hoj, e, he, hb, hon⟩ := Region.waitsFor_spec hk
        rw [← hon]; exact inv.closed j oj hoj hj e he hb
      · obtain ⟨oi, hoi, e, he, hb, hon⟩ := Region.waitsFor_spec hk
        have : oi = o := Option.some.inj (hoi.symm.trans ho)
        subst this
        rw [← hon]; exact hall e he hb
    have step := InvP.step (Q := Q) hp ho hob hE hH hD hLoc his hrd hinv
    refine wpOp_mono (fun a' w' h' => ih _ a' w' ?_ (inv.set hi hin) h') step
    have := countF_set his hunf n
    rw [if_pos hin] at this
    omega
def regPB (ops : Array Oper) (n : Nat) (L : List PO) : Bool :=
  decide (n < ops.size) && decide (L.length = n) && backB ops n && Region.sinkB .any ops n && Region.chainB .any ops n && depB ops L && oneEB L && ordHB ops L
    && Region.seqB .any ops (ops.size - n) n (setAll (Array.replicate ops.size false) (List.range n))
theorem setAll_getD : ∀ (is : List Nat) (l : Array Bool) (j : Nat), (∀ i ∈ is, i < l.size) → (setAll l is).getD j false = (l.getD j false || is.contains j)
  | [], l, j, _ => by simp [setAll]
  | i :: is, l, j, h => by
    show (setAll (l.setIfInBounds i true) is).getD j false = _
    rw [setAll_getD is _ j (fun k hk => by simp; exact h k (List.mem_cons_of_mem _ hk))]
    by_cases hij : i = j
    · subst hij
      have := h i (List.mem_cons_self ..)
      simp [this]
    · rw [getD_set_ne false hij]
      simp [Ne.symm hij]
theorem runL_all {α : Type} {wr : PO → Option (Nat × ((Nat → Nat) → α))} {D D' : Nat → Bool} {G : Nat → Nat} : ∀ (L : List PO) (e : List (Nat × α)) (k : Nat), (∀ j, k ≤ j → j < k + L.length → D j = D' j) → runL wr D G e L k = runL wr D' G e L k
  | [], _, _, _ => rfl
  | p :: L, e, k, h => by
    have h0 := h k (Nat.le_refl _) (by simp)
    have ih := fun e => runL_all (wr := wr) (G := G) L e (k + 1) (fun j h1 h2 => h j (by omega) (by simp; omega))
    unfold runL
    rw [h0]
    simp only [ih]
theorem AW.regionP {id : Nat} {l : List Oper} {s : St} {Q : Exit → St → Prop} (n : Nat) (L : List PO) {lt : List Oper} (hm : P.follows .mixedOrders = true) (hB : regPB l.toArray n L = true) (hLoc : Locs L) (e4 : l.drop n = lt)
    (hOb : Obs P l.toArray s L 0 L l)
    (h : ∀ (G : Nat → Nat) (n' : Nat), AOps P l.toArray lt ⟨runE (fun _ => true) G s.e L, runH (fun _ => true) G s.h L, n', s.N⟩ (Q .normal)) : AW P (.region id l.toArray true) Q s := by
  intro c0 a w ⟨hdef, hsz, y, hyw, hle, hok, hH, hn, he⟩
  subst hyw
  obtain ⟨r1, r2⟩ := Cx.redraw hok
  simp only [regPB, Bool.and_eq_true, decide_eq_true_eq] at hB
  obtain ⟨⟨⟨⟨⟨⟨⟨⟨b1, b2⟩, b3⟩, b4⟩, b5⟩, b6⟩, b7⟩, b8⟩, b9⟩ := hB
  refine wp_region_any hm ?_
  generalize hz : ({ y with w := { y.w with drawn := y.w.drawn + 1 } } : Cx) = z at r1 r2
  have hzw : z.w = { y.w with drawn := y.w.drawn + 1 } := by rw [← hz]
  have hzH : z.H = hget s.h := by rw [← hz]; exact hH
  rw [← hzw]
  have hrep : ∀ j, (Array.replicate l.toArray.size false).getD j false = false := getD_replicate_false _
  have key := wpAny_par (P := P) (c0 := c0) (s := s) (L := L) (n := n) (g := l.toArray.size - n) (l := l) (Q := fun e a' w' => ∃ s', Q e s' ∧ Sim c0 s' a' w') rfl b1 b2 b3 b4 b5 b6 b7 b8 hLoc hOb
    (fun listed a' w' inv hall hinv => by
      have hlisted : listed = setAll (Array.replicate l.toArray.size false) (List.range n) := by
        have hsz1 : listed.size = (setAll (Array.replicate l.toArray.size false) (List.range n)).size := by rw [inv.size, setAll_size]; simp
        refine Array.ext hsz1 fun j h1 h2 => ?_
        have h3 := setAll_getD (List.range n) (Array.replicate l.toArray.size false) j (fun i hi => by have := List.mem_range.1 hi; rw [Array.size_replicate]; omega)
        rw [hrep] at h3
        have e1 : listed[j] = listed.getD j false := by unfold Array.getD; rw [dif_pos h1]; rfl
        have e2 : (setAll (Array.replicate l.toArray.size false) (List.range n))[j] = (setAll (Array.replicate l.toArray.size false) (List.range n)).getD j false := by unfold Array.getD; rw [dif_pos h2]; rfl
        rw [e1, e2, h3]
        by_cases hj : j < n
        · rw [hall j hj]; simp [hj]
        · have hjl : j < l.toArray.size := by rw [inv.size] at h1; exact h1
          rw [getD_both (inv.tail j (by omega) hjl)]; simp [hj]
      obtain ⟨i1, i2, z', G, i3, i4, i5, i6, i7⟩ := hinv
      subst i3
      have hdl : (l.drop n).length = l.toArray.size - n := by simp
      have hD : ∀ j, 0 ≤ j → j < 0 + L.length → (fun _ => true) j = (fun k => listed.getD k false) j := fun j _ hj => (hall j (by omega)).symm
      have := wpAny_of_seq (P := P) (md := .any) (ops := l.toArray) (Q' := fun e a' w' => ∃ s', Q e s' ∧ Sim c0 s' a' w') (l.drop n) n listed a' z'.w (fun j => by simp [List.getElem?_drop]) (by rw [hdl, hlisted]; exact b9) ?_
      · rwa [hdl] at this
      · rw [e4]
        refine h G z'.n c0 a' z'.w ⟨i1, i2, z', rfl, i4, i5, funext fun id => ?_, rfl, fun t => ?_⟩ _ fun s'' a'' w'' j1 j2 => ⟨s'', j1, j2⟩
        · rw [i6]; show _ = hget (runL _ _ _ _ _ _) _; rw [runL_all L _ 0 hD]
        · show AVRep z' (get (runL _ _ _ _ _ _) t) _
          rw [runL_all L _ 0 hD]; exact i7 t)
    n (Array.replicate l.toArray.size false) a z.w (countF_all hrep n)
    ⟨by simp, fun j oj _ hl => (by rw [hrep] at hl; cases hl), fun t _ ht => getD_in (by simpa using ht) (hrep _)⟩
    ⟨hdef, hsz, z, fun _ => 0, rfl, hle.trans r1, r2, fun id => by rw [hzH]; exact (runL_none hget_cons L _ 0 fun j p _ _ h1 => by rw [hrep] at h1; cases h1).symm, fun t => by
      have e1 : get (runE (fun k => (Array.replicate l.toArray.size false).getD k false) (fun _ => 0) s.e L) t = get s.e t := runL_none get_cons L _ 0 fun j p _ _ h1 => by rw [hrep] at h1; cases h1
      rw [e1]
      exact (he t).mono r1⟩
  have e : n + (l.toArray.size - n) = l.toArray.size := by omega
  rw [e] at key
  exact key
end
end Go.Proofs.Ytelkfhdgmbahgaa.Al


namespace Go.Proofs.Ytelkfhdgmbahgaa.Al
section
variable {P : Program} {c : Bool} {o : Oper} {R : Env} {h : Heap}
def ArrTy (P : Program) (t : TypeId) (n : Nat) (e : TypeId) : Prop := P.underlying t = some (.array n e) ∧ ScalTy P e
def BuildArr (P : Program) (t : TypeId) (places : List (Nat × Nat)) (z : List Value) : Prop :=
  ∃ n e sz, P.underlying t = some (.array n e) ∧ (∃ i, P.info? e = some i ∧ i.size = sz) ∧ (∀ i p, places[i]? = some p → p = (i * sz, sz)) ∧ ∃ i, P.info? t = some i ∧ i.zero = some (.agg z.toArray)
theorem ArrTy.of {t : TypeId} {n : Nat} {e : TypeId} (h1 : P.underlying t = some (.array n e)) (h2 : ScalTy P e) : ArrTy P t n e := ⟨h1, h2⟩
theorem BuildArr.of {t : TypeId} {n : Nat} {e : TypeId} {sz b sz' : Nat} {ze : Value} {be : Nat} {places : List (Nat × Nat)} {zs : List Value} (h1 : P.underlying t = some (.array n e))
    (h2 : (P.info? e).map (fun i => (i.zero, i.size, i.bytes)) = some (some ze, sz, be)) (h4 : ∀ i p, places[i]? = some p → p = (i * sz, sz)) (h3 : (P.info? t).map (fun i => (i.zero, i.size, i.bytes)) = some (some (.agg zs.toArray), sz', b)) : BuildArr P t places zs := by
  cases hi : P.info? t with
  | none => rw [hi] at h3; cases h3
  | some i =>
    rw [hi] at h3
    simp only [Option.map_some, Option.some.injEq, Prod.mk.injEq] at h3
    exact ⟨n, e, sz, h1, size_of h2, h4, i, hi, h3.1⟩
end
end Go.Proofs.Ytelkfhdgmbahgaa.Al


namespace Go.Proofs.Ytelkfhdgmbahgaa.Al
section
variable {P : Program} {c : Bool} {o : Oper} {R : Env} {h : Heap} {n : Nat}
end
end Go.Proofs.Ytelkfhdgmbahgaa.Al


namespace Go.Proofs.Ytelkfhdgmbahgaa.Al
def UwE2 (c : Bool) : Env → Env → Prop
  | [], _ => True
  | (t, v) :: r, e => (get e t = v ∨ get e t = .whn c v ∨ (∃ b v0, get e t = .whn (c && b) v0 ∧ v = .whn b v0) ∨ ∃ b1 b2 v0, get e t = .whn ((c && b1) && b2) v0 ∧ v = .whn (b1 && b2) v0) ∧ UwE2 c r e
theorem UwE2.get {c : Bool} {e' e : Env} (h : UwE2 c e' e) (t : Nat) : Al.get e' t = .any ∨ Al.get e t = Al.get e' t ∨ Al.get e t = .whn c (Al.get e' t) ∨
    (∃ b v0, Al.get e t = .whn (c && b) v0 ∧ Al.get e' t = .whn b v0) ∨ ∃ b1 b2 v0, Al.get e t = .whn ((c && b1) && b2) v0 ∧ Al.get e' t = .whn (b1 && b2) v0 := by
  induction e' with
  | nil => exact .inl rfl
  | cons p r ih =>
    obtain ⟨d, v⟩ := p
    rw [get_cons]
    split
    · rename_i hd; subst hd; exact .inr h.1
    · exact ih h.2
end Go.Proofs.Ytelkfhdgmbahgaa.Al


namespace Go.Proofs.Ytelkfhdgmbahgaa.Al
section
variable {P : Program} {c : Bool} {o : Oper} {R : Env} {h : Heap} {n : Nat}
variable {α : Type} {f : α → List RV}
end
end Go.Proofs.Ytelkfhdgmbahgaa.Al


namespace Go.Proofs.Ytelkfhdgmbahgaa.Al
section
variable {P : Program} {c : Bool} {o : Oper} {R : Env} {h : Heap} {n : Nat}
end
end Go.Proofs.Ytelkfhdgmbahgaa.Al


namespace Go.Proofs.Ytelkfhdgmbahgaa.Al
section
variable {P : Program} {c : Bool} {o : Oper} {R : Env} {h : Heap} {n : Nat}
end
end Go.Proofs.Ytelkfhdgmbahgaa.Al


namespace Go.Proofs.Ytelkfhdgmbahgaa.Al
section
variable {P : Program} {c : Bool} {o : Oper} {R : Env} {h : Heap}
end
theorem Weak.ren {s : St} (t i j : Nat) {g : Nat} {e : TypeId} {sz : Nat} {xs : List (List RV)} (hij : (i == j) = false) (ht : get s.e t = .own i g) (hh : hget s.h i = some (.arr g e sz xs)) :
    Weak s ⟨(t, .own j s.n) :: s.e, (j, some (.arr s.n e sz xs)) :: (i, none) :: s.h, s.n + 1, s.N⟩ := by
  have hne : i ≠ j := by simpa using hij
  intro c0 a w ⟨hdef, hsz, y, hyw, hle, hok, hH, hyn, henv⟩
  have hHi : y.H i = some (.arr g e sz xs) := by rw [hH]; exact hh
  let z : Cx := { y with H := fun d => if j = d then some (.arr s.n e sz xs) else if i = d then none else y.H d, β := fun d => if j = d then y.β i else y.β d, n := y.n + 1 }
  have hzl : y.le z := by
    refine ⟨Nat.le_refl _, rfl, rfl, rfl, fun _ _ => rfl, fun _ h => h, rfl, Nat.le_succ _, fun d o' ho' hg => ?_⟩
    dsimp only [z] at ho' ⊢
    split at ho'
    · cases ho'
      exact absurd hg (by simp [AObj.gen, hyn])
    · rename_i hj
      split at ho'
      · cases ho'
      · exact ⟨o', ho', rfl, rfl, by rw [if_neg hj]⟩
  have hzok : z.ok := by
    refine ⟨hok.S_lt, hok.F_lt, hok.SF, fun d o ho => ?_, fun d o b k ho hb => ?_, fun d d' o o' b k k' ho ho' hb hb' => ?_, hok.tabs.le hzl⟩
    · dsimp only [z] at ho ⊢
      split at ho
      · rename_i hj
        cases ho
        rw [if_pos hj]
        refine ⟨by simp [AObj.gen, hyn], ?_⟩
        have h2 := (hok.obj i _ hHi).2
        exact (show ORep y (y.β i) (.arr s.n e sz xs) from h2).mono hzl fun b k _ => rfl
      · rename_i hj
        split at ho
        · cases ho
        · rw [if_neg hj]
          obtain ⟨h1, h2⟩ := hok.obj d o ho
          exact ⟨Nat.lt_succ_of_lt h1, h2.mono hzl fun b k _ => rfl⟩
    · dsimp only [z] at ho hb ⊢
      split at hb
      · exact hok.own i _ b k hHi hb
      · rename_i hj
        rw [if_neg hj] at ho
        split at ho
        · cases ho
        · exact hok.own d o b k ho hb
    · dsimp only [z] at ho ho' hb hb'
      by_cases h1 : j = d <;> by_cases h2 : j = d'
      · rw [← h1, ← h2]
      · rw [if_pos h1] at hb
        rw [if_neg h2] at ho' hb'
        split at ho'
        · cases ho'
        · rename_i h3
          exact absurd (hok.inj i d' _ _ b k k' hHi ho' hb hb') h3
      · rw [if_neg h1] at ho hb
        rw [if_pos h2] at hb'
        split at ho
        · cases ho
        · rename_i h3
          exact absurd (hok.inj d i _ _ b k k' ho hHi hb hb').symm h3
      · rw [if_neg h1] at ho hb
        rw [if_neg h2] at ho' hb'
        split at ho
        · cases ho
        · split at ho'
          · cases ho'
          · exact hok.inj d d' _ _ b k k' ho ho' hb hb'
  refine ⟨hdef, hsz, z, hyw, hle.trans hzl, hzok, ?_, by simp [z, hyn], fun t' => ?_⟩
  · funext d
    show (if j = d then _ else if i = d then _ else y.H d) = _
    rw [hget_cons, hget_cons, hH]
  · rw [get_cons]
    split
    · rename_i htt
      have h1 := henv t
      rw [ht, htt] at h1
      generalize a.tmps.getD t' undef = u at h1 ⊢
      cases h1 with
      | own h1 h2 h3 =>
        refine .own (by simp [z, hyn]) h2 fun o ho _ => ?_
        dsimp only [z] at ho ⊢
        rw [if_pos rfl] at ho ⊢
        cases ho
        have h5 := h3 _ hHi rfl
        exact h5
    · exact (henv t').mono hzl
end Go.Proofs.Ytelkfhdgmbahgaa.Al


namespace Go.Proofs.Ytelkfhdgmbahgaa.Al
section
variable {P : Program} {c : Bool} {o : Oper} {R : Env} {h : Heap} {n : Nat}
theorem AW.split {Q : Exit → St → Prop} {s : St} {x : Code} (b : Bool) (h1 : b = true → AW P x Q s) (h2 : b = false → AW P x Q s) : AW P x Q s := by
  cases b
  · exact h2 rfl
  · exact h1 rfl
end
end Go.Proofs.Ytelkfhdgmbahgaa.Al


namespace Go.Proofs.Ytelkfhdgmbahgaa.Al
open Go.ChangeMaps (setBlock)
open Go.MapKept Go.RowKit
def mfind : List (Int × Nat) → Int → Option Nat
  | [], _ => none
  | p :: r, k => if k == p.1 then some 0 else (mfind r k).map (· + 1)
def ments (ks : List (Int × Nat)) (us : List Value) : List MapEntry := (ks.zip us).map fun p => { key := .int .i64 p.1.1, val := p.2, born := p.1.2 }
theorem findNow_ints (k : Int) : ∀ (ks : List (Int × Nat)) (us : List Value) (i : Nat), us.length = ks.length →
    Instr.findNow (.int .i64) (.int .i64 k) (ments ks us) i = some ((mfind ks k).map fun j => (i + j, us.getD j undef))
  | [], us, i, _ => by simp [ments, Instr.findNow, mfind]
  | p :: ks, [], i, h => by simp at h
  | p :: ks, u :: us, i, h => by
    have ih := findNow_ints k ks us (i + 1) (by simpa using h)
    simp only [ments] at ih
    simp only [ments, List.zip_cons_cons, List.map_cons, Instr.findNow, Instr.sameNow, if_true, mfind]
    by_cases hk : (k == p.1) = true
    · simp [hk]
    · have hk' : (k == p.1) = false := by simpa using hk
      simp only [hk', ih, Bool.false_eq_true, if_false]
      cases mfind ks k with
      | none => rfl
      | some j => simp [Nat.add_assoc, Nat.add_comm 1 j]
theorem mfind_lt {ks : List (Int × Nat)} {k : Int} {j : Nat} (h : mfind ks k = some j) : j < ks.length := by
  induction ks generalizing j with
  | nil => cases h
  | cons p r ih =>
    simp only [mfind] at h
    split at h
    · cases h; simp
    · rw [Option.map_eq_some_iff] at h
      obtain ⟨j', h1, rfl⟩ := h
      have := ih h1
      simp; omega
section
variable {P : Program} {c : Bool} {o : Oper} {R : Env} {h : Heap} {n : Nat}
theorem rep_mp {x : Cx} (hok : x.ok) {id g clock : Nat} {ks : List (Int × Nat)} {vs : List AV} {v : Value} (hH : x.H id = some (.mp g ks vs clock)) (hv : AVRep x (.mref id g) v) :
    ∃ (b : Nat) (us : List Value), x.β id = some (b, 1) ∧ v = .map (some b) ∧ us.length = ks.length ∧ vs.length = ks.length ∧ x.w.heap[b]? = some (.map (ments ks us).toArray clock) ∧
      ∀ (j : Nat) (c : AV) (u : Value), vs[j]? = some c → us[j]? = some u → AVRep x c u := by
  obtain ⟨_, b, us, h1, h2, h3, h4, h5⟩ := hok.obj _ _ hH
  cases hv with
  | mref _ _ hv =>
    obtain ⟨b', cap, k1, k2⟩ := hv _ hH rfl
    rw [h1] at k1
    simp only [Option.some.injEq, Prod.mk.injEq] at k1
    obtain ⟨rfl, rfl⟩ := k1
    exact ⟨b, us, h1, k2, h2, h3, h4, h5⟩
theorem ms_makeMap {t : TypeId} (id : Nat) (ho : o.op = .makeMap t none) : OpSpec P c o R h n (.mref id n) ((id, some (.mp n [] [] 0)) :: h) (n + 1) := by
  intro hc z w hok hH hn he K Q hK
  have hup := Cx.upd hok id (.mp z.n [] [] 0) (z.w.alloc (.map #[] 0)) (some (z.w.heap.size, 1)) (z.n + 1) (by simp) rfl rfl rfl
    (fun b hb _ => heap_alloc_old _ _ hb) (fun b k hb => by cases hb; simp) (by omega) (by simp [AObj.gen]) (fun hg => absurd hg (by simp [AObj.gen]))
    (fun hle => ⟨z.w.heap.size, [], rfl, rfl, rfl, heap_alloc_new _ _, fun j c u h1 _ => by simp at h1⟩)
  unfold Oper.wp execOp
  rw [ho]
  simp only [Option.map_none, Sem.run_bind, run_makeMap, Result.andThen_ok, Sem.run_pure]
  refine hK (.map (some z.w.heap.size)) _ hup.1 hup.2 (by simp only [hH, hn]; exact hget_upd _ _ _) (by simp [hn]) (.mref (by simp [hn]) rfl fun o' ho' _ => ?_)
  exact ⟨z.w.heap.size, 1, by simp, rfl⟩
theorem run_lookup_ints {t kt et : TypeId} (ht : P.underlying t = some (.map kt et)) (hk : P.underlying kt = some (.int .i64)) {w : World} {b clock : Nat} {ks : List (Int × Nat)} {us : List Value} (hl : us.length = ks.length)
    (hb : w.heap[b]? = some (.map (ments ks us).toArray clock)) (k : Int) (zv : Value) (hz : (zeroValue et).run P w = .ok zv w) (ok : Bool) :
    (Instr.lookup t (.map (some b)) (.int .i64 k) ok).run P w = .ok (match mfind ks k with
      | some j => if ok then .tuple #[us.getD j undef, .bool true] else us.getD j undef
      | none => if ok then .tuple #[zv, .bool false] else zv) w := by
  have hf := run_findKey (P := P) (w := w) hk (findNow_ints k ks us 0 hl)
  unfold Instr.lookup
  simp only [Sem.run_bind, run_underlying ht, Result.andThen_ok, MapKept.run_getObj_map hb, Sem.run_pure, run_checkKey hk (k := .int .i64 k) (by simp [IsKey]), hf]
  cases mfind ks k with
  | none => cases ok <;> simp [hz]
  | some j => cases ok <;> simp
theorem ms_lookup_t {t kt et : TypeId} {x i : Operand} {id g clock : Nat} {ks : List (Int × Nat)} {vs : List AV} {k : Int} {j : Nat} {a : AV} (ok : Bool) (zv : Value) (ho : o.op = .lookup t x i ok) (ht : P.underlying t = some (.map kt et))
    (hk : P.underlying kt = some (.int .i64)) (hz : ∀ w, (zeroValue et).run P w = .ok zv w) (hx : Ev c R x (.mref id g)) (hi : Ev c R i (.r (.int .i64 k))) (hh : hget h id = some (.mp g ks vs clock)) (hj : mfind ks k = some j) (ha : vs[j]? = some a) :
    OpQ P c o R h (match ok with | true => .tup [a, .r (.bool true)] | false => a) := by
  intro hc z w hok hH he
  obtain ⟨b, us, h1, h2, h3, h4, h5, h6⟩ := rep_mp hok (by rw [hH]; exact hh) (hx.rep he hc)
  have hiv := hi.rep he hc
  generalize hiw : w.eval i = iv at hiv
  cases hiv with
  | r hiv =>
    cases hiv with
    | int =>
      have hjl : j < us.length := by have := mfind_lt hj; omega
      have hrep := h6 j a us[j] ha (List.getElem?_eq_getElem hjl)
      refine ⟨match ok with | true => .tuple #[us[j], .bool true] | false => us[j], fun w2 hag => ?_, ?_⟩
      · have hb2 : w2.heap[b]? = some (.map (ments ks us).toArray clock) := by rw [hag b (.inr ⟨id, _, 1, by rw [hH]; exact hh, h1⟩)]; exact h5
        simp only [execOp, ho, h2, hiw, Sem.run_bind, run_lookup_ints ht hk h3 hb2 k zv (hz w2) ok, hj, Result.andThen_ok, Sem.run_pure]
        cases ok <;> simp [List.getD, List.getElem?_eq_getElem hjl]
      · cases ok
        · exact hrep
        · refine .tup rfl fun q a' u' e1 e2 => ?_
          rcases q with _ | _ | q
          · simp at e1 e2; subst e1; subst e2; exact hrep
          · simp at e1 e2; subst e1; subst e2; exact .r (.bool true)
          · simp at e1
theorem ms_lookup_f {t kt et : TypeId} {x i : Operand} {id g clock : Nat} {ks : List (Int × Nat)} {vs : List AV} {k : Int} {a : AV} (ok : Bool) (zv : Value) (ho : o.op = .lookup t x i ok) (ht : P.underlying t = some (.map kt et))
    (hk : P.underlying kt = some (.int .i64)) (hz : ∀ w, (zeroValue et).run P w = .ok zv w) (hza : ∀ y : Cx, AVRep y a zv) (hx : Ev c R x (.mref id g)) (hi : Ev c R i (.r (.int .i64 k))) (hh : hget h id = some (.mp g ks vs clock)) (hj : mfind ks k = none) :
    OpQ P c o R h (match ok with | true => .tup [a, .r (.bool false)] | false => a) := by
  intro hc z w hok hH he
  obtain ⟨b, us, h1, h2, h3, h4, h5, h6⟩ := rep_mp hok (by rw [hH]; exact hh) (hx.rep he hc)
  have hiv := hi.rep he hc
  generalize hiw : w.eval i = iv at hiv
  cases hiv with
  | r hiv =>
    cases hiv with
    | int =>
      refine ⟨match ok with | true => .tuple #[zv, .bool false] | false => zv, fun w2 hag => ?_, ?_⟩
      · have hb2 : w2.heap[b]? = some (.map (ments ks us).toArray clock) := by rw [hag b (.inr ⟨id, _, 1, by rw [hH]; exact hh, h1⟩)]; exact h5
        simp only [execOp, ho, h2, hiw, Sem.run_bind, run_lookup_ints ht hk h3 hb2 k zv (hz w2) ok, hj, Result.andThen_ok, Sem.run_pure]
        cases ok <;> simp
      · cases ok
        · exact hza z
        · refine .tup rfl fun q a' u' e1 e2 => ?_
          rcases q with _ | _ | q
          · simp at e1 e2; subst e1; subst e2; exact hza z
          · simp at e1 e2; subst e1; subst e2; exact .r (.bool false)
          · simp at e1
theorem ments_push {ks : List (Int × Nat)} {us : List Value} (hl : us.length = ks.length) (k : Int) (u : Value) (born : Nat) :
    ments (ks ++ [(k, born)]) (us ++ [u]) = ments ks us ++ [{ key := .int .i64 k, val := u, born := born }] := by
  simp [ments, List.zip_append hl.symm]
theorem ms_mapUpdate_new {t kt et : TypeId} {x i y : Operand} {id g clock : Nat} {ks : List (Int × Nat)} {vs : List AV} {k : Int} {a : AV} (ho : o.op = .mapUpdate t x i y ∨ o.op = .insert t x i y) (ht : P.underlying t = some (.map kt et)) (hk : P.underlying kt = some (.int .i64))
    (hx : Ev c R x (.mref id g)) (hi : Ev c R i (.r (.int .i64 k))) (hy : Ev c R y a) (hh : hget h id = some (.mp g ks vs clock)) (hj : mfind ks k = none) :
    OpSpec P c o R h n .any ((id, some (.mp g (ks ++ [(k, clock)]) (vs ++ [a]) (clock + 1))) :: h) n := by
  intro hc z w hok hH hn he K Q hK
  have hHid : z.H id = some (.mp g ks vs clock) := by rw [hH]; exact hh
  obtain ⟨b, us, h1, h2, h3, h4, h5, h6⟩ := rep_mp hok hHid (hx.rep he hc)
  have hya := hy.rep he hc
  have hiv := hi.rep he hc
  generalize hiw : w.eval i = iv at hiv
  cases hiv with
  | r hiv =>
    cases hiv with
    | int =>
      have hb := (hok.own id _ b 1 hHid h1).1
      have hup := Cx.upd hok id (.mp g (ks ++ [(k, clock)]) (vs ++ [a]) (clock + 1)) { z.w with heap := z.w.heap.setIfInBounds b (.map (ments (ks ++ [(k, clock)]) (us ++ [w.eval y])).toArray (clock + 1)) } (some (b, 1)) z.n (by simp) rfl rfl rfl
        (fun b' _ hne => by
          have : b ≠ b' := fun e => hne _ 1 hHid (by rw [← e]; exact h1)
          simp [this])
        (fun b' k' hb' => by cases hb'; exact ⟨by simpa using hb, .inr ⟨_, _, hHid, h1⟩⟩) (Nat.le_refl _) (hok.obj _ _ hHid).1 (fun _ => ⟨_, hHid, rfl, rfl, h1.symm⟩)
        (fun hle => ⟨b, us ++ [w.eval y], rfl, by simp [h3], by simp [h4], by simp [hb]; rfl, fun j c' u' e1 e2 => by
          by_cases hjl : j < vs.length
          · rw [List.getElem?_append_left hjl] at e1
            rw [List.getElem?_append_left (by omega)] at e2
            exact (h6 j c' u' e1 e2).mono hle
          · have hj' : j = vs.length := by
              have := (List.getElem?_eq_some_iff.1 e1).1
              simp at this; omega
            subst hj'
            rw [List.getElem?_append_right (Nat.le_refl _)] at e1
            rw [List.getElem?_append_right (by omega)] at e2
            simp at e1
            have : vs.length - us.length = 0 := by omega
            rw [this] at e2
            simp at e2
            subst e1; subst e2
            exact hya.mono hle⟩)
      have hf := run_findKey (P := P) (w := z.w) hk (findNow_ints k ks us 0 h3)
      rw [hj] at hf
      have hrun : (Instr.mapUpdate t (.map (some b)) (.int .i64 k) (w.eval y)).run P z.w = .ok () { z.w with heap := z.w.heap.setIfInBounds b (.map (ments (ks ++ [(k, clock)]) (us ++ [w.eval y])).toArray (clock + 1)) } := by
        unfold Instr.mapUpdate
        simp only [Sem.run_bind, run_underlying ht, Result.andThen_ok, MapKept.run_getObj_map h5, run_checkKey hk (k := .int .i64 k) (by simp [IsKey]), hf, Option.map_none]
        rw [run_setObj_map _ h5, ments_push h3]
        simp
      unfold Oper.wp execOp
      rcases ho with ho | ho <;>
      · rw [ho]
        simp only [h2, hiw, Sem.run_bind, hrun, Result.andThen_ok, Sem.run_pure]
        exact hK undef _ hup.1 hup.2 (by simp only [hH]; exact hget_upd _ _ _) hn (.any _)
theorem ms_rangeM {t kt et : TypeId} {x : Operand} {id g clock : Nat} {ks : List (Int × Nat)} {vs : List AV} (id' : Nat) (ho : o.op = .range t x) (ht : P.underlying t = some (.map kt et)) (hx : Ev c R x (.mref id g)) (hh : hget h id = some (.mp g ks vs clock)) :
    OpSpec P c o R h n (.ptr id' n 0 0) ((id', some (.mi n id g clock [] clock)) :: h) (n + 1) := by
  intro hc z w hok hH hn he K Q hK
  have hxv := hx.rep he hc
  obtain ⟨b, us, h1, h2, h3, h4, h5, h6⟩ := rep_mp hok (by rw [hH]; exact hh) hxv
  by_cases hid : id' = id
  · subst hid
    have hup := Cx.upd hok id' (.mi z.n id' g clock [] clock) (z.w.alloc (.mapIter (some b) clock #[] clock)) (some (z.w.heap.size, 1)) (z.n + 1) (by simp) rfl rfl rfl
      (fun b hb _ => heap_alloc_old _ _ hb) (fun b k hb => by cases hb; simp) (by omega) (by simp [AObj.gen]) (fun hg => absurd hg (by simp [AObj.gen]))
      (fun hle => ⟨z.w.heap.size, b, rfl, heap_alloc_new _ _, by rw [h2] at hxv; exact hxv.mono hle⟩)
    unfold Oper.wp execOp
    rw [ho]
    simp only [h2, Sem.run_bind, run_range_map _ _ _ _ _ _ _ ht h5, Result.andThen_ok, Sem.run_pure]
    refine hK (.pointer (some ⟨z.w.heap.size, 0, none⟩)) _ hup.1 hup.2 (by simp only [hH, hn]; exact hget_upd _ _ _) (by simp [hn]) (.ptr (by simp [hn]) rfl fun o' ho' _ => ?_)
    simp only [if_pos] at ho'
    cases ho'
    exact ⟨z.w.heap.size, 1, by simp, by simp⟩
  · have hup := Cx.upd hok id' (.mi z.n id g clock [] clock) (z.w.alloc (.mapIter (some b) clock #[] clock)) (some (z.w.heap.size, 1)) (z.n + 1) (by simp) rfl rfl rfl
      (fun b hb _ => heap_alloc_old _ _ hb) (fun b k hb => by cases hb; simp) (by omega) (by simp [AObj.gen]) (fun hg => absurd hg (by simp [AObj.gen]))
      (fun hle => ⟨z.w.heap.size, b, rfl, heap_alloc_new _ _, by rw [h2] at hxv; exact hxv.mono hle⟩)
    unfold Oper.wp execOp
    rw [ho]
    simp only [h2, Sem.run_bind, run_range_map _ _ _ _ _ _ _ ht h5, Result.andThen_ok, Sem.run_pure]
    refine hK (.pointer (some ⟨z.w.heap.size, 0, none⟩)) _ hup.1 hup.2 (by simp only [hH, hn]; exact hget_upd _ _ _) (by simp [hn]) (.ptr (by simp [hn]) rfl fun o' ho' _ => ?_)
    simp only [if_pos] at ho'
    cases ho'
    exact ⟨z.w.heap.size, 1, by simp, by simp⟩
end
end Go.Proofs.Ytelkfhdgmbahgaa.Al


namespace Go.Proofs.Ytelkfhdgmbahgaa.Al
open Go.ChangeMaps (setBlock)
open Go.MapKept Go.RowKit
set_option linter.unusedVariables false
section
variable {P : Program} {ops : Array Oper} {rest : List Oper} {s : St} {K : St → Prop} {o : Oper}
def RetI (P : Program) (rs : List ResultVar) (K : AV → Heap → Nat → Prop) : Exit → St → Prop
  | .normal, s | .ret, s => ∃ r, ResAll P rs s r ∧ K r s.h s.n
  | _, _ => False
theorem calls_inplace {f : FuncId} {fn : Func} {code : Code} {args : List AV} {vs : Array Value} {h : Heap} {n N : Nat} {z : Cx} {K : AV → Heap → Nat → Prop} (hf : P.funcs[f]? = some fn) (hb : fn.body = some code) (hN : fn.ntmps = N)
    (hlen : args.length ≤ N) (hok : z.ok) (hH : z.H = hget h) (hn : z.n = n) (hargs : ArgsRep z args vs.toList) (hw : AW P code (RetI P fn.results.toList K) ⟨argEnv 0 args, h, n, N⟩) :
    Calls P f vs z.w fun e w' => ∃ u y r h' n', e = .returned u ∧ y.w = w' ∧ z.le y ∧ y.ok ∧ y.H = hget h' ∧ y.n = n' ∧ AVRep y r u ∧ K r h' n' := by
  have hvl : vs.size = args.length := by simpa using hargs.1
  refine calls_of_wp hf hb ?_
  have hsim : Sim z ⟨argEnv 0 args, h, n, N⟩ { tmps := vs ++ Array.replicate (fn.ntmps - vs.size) undef, defers := [] } z.w := by
    refine ⟨rfl, by simp; omega, z, rfl, .refl z, hok, hH, hn, fun t => ?_⟩
    rcases argEnv_get args 0 t with h1 | ⟨j, a, h1, h2, h3⟩
    · rw [h1]; exact .any _
    · rw [h3]
      have hj : j < vs.size := by rw [hvl]; exact (List.getElem?_eq_some_iff.1 h2).1
      have ht : t = j := by omega
      subst ht
      have : (vs ++ Array.replicate (fn.ntmps - vs.size) undef).getD t undef = vs[t] := by
        simp [Array.getD, hj]
        omega
      rw [this]
      exact hargs.2 t a vs[t] h2 (by simp [hj])
  have fin : ∀ {e : Exit} {a : Act} {w : World} {s : St}, (∃ r, ResAll P fn.results.toList s r ∧ K r s.h s.n) → Sim z s a w →
      a.defers = [] ∧ ∃ u, (results fn a.tmps).run P w = .ok u w ∧ ∃ u' y r h' n', Ending.returned u = .returned u' ∧ y.w = w ∧ z.le y ∧ y.ok ∧ y.H = hget h' ∧ y.n = n' ∧ AVRep y r u' ∧ K r h' n' := by
    intro e a w s ⟨r, h1, h2⟩ ⟨hdef, _, y, hyw, hle, hok', hH', hn', he⟩
    subst hyw
    obtain ⟨u, hrun, hu⟩ := res_body (P := P) hok' hH' he h1
    exact ⟨hdef, u, hrun, u, y, r, s.h, s.n, rfl, rfl, hle, hok', hH', hn', hu, h2⟩
  refine wp_mono (hw z _ _ hsim) fun e a w ⟨s, hq, hs⟩ => ?_
  cases e with
  | normal => exact fin (e := .normal) hq hs
  | ret => exact fin (e := .ret) hq hs
  | exit id => exact hq.elim
  | goto l => exact hq.elim
  | panic ch => exact hq.elim
  | outgrown => exact hq.elim
theorem wp_callI {f : FuncId} {fn : Func} {code : Code} {fo : Operand} {xs : Array Operand} {ats : Array TypeId} {caps bs : List AV} {R : Env} {h : Heap} {n N : Nat} {a : Act} {z : Cx} {K0 : AV → Heap → Nat → Prop}
    (ho : o.op = .call { callee := .value fo, args := xs, argTypes := ats }) (hfo : Ev true R fo (.fn f caps)) (hx : EvAll true R xs.toList bs) (hf : P.funcs[f]? = some fn) (hb : fn.body = some code) (hname : (fn.name == "runtime.NumGoroutine") = false)
    (hN : fn.ntmps = N) (hlen : (bs ++ caps).length ≤ N) (hok : z.ok) (hH : z.H = hget h) (hn : z.n = n) (he : EnvOk z R a) (hw : AW P code (RetI P fn.results.toList K0) ⟨argEnv 0 (bs ++ caps), h, n, N⟩) (K : Act → World → Prop) (Q : Exit → Act → World → Prop)
    (hK : ∀ (u : Value) (y : Cx) (r : AV) (h' : Heap) (n' : Nat), z.le y → y.ok → y.H = hget h' → y.n = n' → AVRep y r u → K0 r h' n' → K (a.put o.dst u) y.w) : o.wp P a z.w K Q := by
  obtain ⟨hxl, hxr⟩ := hx.rep rfl he
  have hv := hfo.rep he rfl
  generalize hfv : a.eval fo = v at hv
  cases hv with
  | @fn _ _ us hl hall =>
    have hrun := run_callV (P := P) ⟨fn, hf, by rw [hb]; rfl, hname⟩ ho hfv z.w
    have hargs : ArgsRep z (bs ++ caps) (xs.map a.eval ++ us).toList := by
      refine ⟨by simp [hl]; simpa using hxl.symm, fun i b u h1 h2 => ?_⟩
      have h2' : ((xs.toList.map a.eval) ++ us.toList)[i]? = some u := by simpa using h2
      by_cases hi : i < bs.length
      · rw [List.getElem?_append_left hi] at h1
        rw [List.getElem?_append_left (by simp at hxl ⊢; omega)] at h2'
        exact hxr i b u h1 h2'
      · rw [List.getElem?_append_right (by omega)] at h1
        rw [List.getElem?_append_right (by simp at hxl ⊢; omega)] at h2'
        have hxl2 : (xs.toList.map a.eval).length = bs.length := by simpa using hxl.symm
        rw [hxl2] at h2'
        exact hall _ b u h1 (by simpa using h2')
    unfold Oper.wp
    rw [hrun]
    refine (calls_inplace hf hb hN hlen hok hH hn hargs hw).mono fun e w' ⟨u, y, r, h', n', he', hyw, hle, hyok, hyH, hyn, hyr, hk⟩ => ?_
    subst he'
    subst hyw
    exact hK u y r h' n' hle hyok hyH hyn hyr hk
theorem AOps.stepI {d : Nat} {f : FuncId} {fn : Func} {code : Code} {fo : Operand} {xs : Array Operand} {ats : Array TypeId} {N : Nat} (caps bs : List AV) (hg : o.guard = none) (hd : o.dst = some d) (hdN : Nat.blt d s.N = true)
    (ho : o.op = .call { callee := .value fo, args := xs, argTypes := ats }) (hfo : Ev true s.e fo (.fn f caps)) (hx : EvAll true s.e xs.toList bs) (hf : P.funcs[f]? = some fn) (hb : fn.body = some code) (hname : (fn.name == "runtime.NumGoroutine") = false)
    (hN : fn.ntmps = N) (hlen : Nat.ble (bs ++ caps).length N = true)
    (hw : AW P code (RetI P fn.results.toList fun r h' n' => AOps P ops rest { e := (d, r) :: s.e, h := h', n := n', N := s.N } K) ⟨argEnv 0 (bs ++ caps), s.h, s.n, N⟩) : AOps P ops (o :: rest) s K := by
  intro c0 a w ⟨hdef, hsz, y, hyw, hle, hok, hH, hn, he⟩ Q hQ
  subst hyw
  refine wpList_plain hg fun K' hK' => ?_
  refine wp_callI ho hfo hx hf hb hname hN (Nat.le_of_ble_eq_true hlen) hok hH hn he hw K' Q fun u z r h' n' hyz hzok hzH hzn hzv hr => ?_
  refine hK' _ _ ?_
  have hN' : d < a.tmps.size := by rw [hsz]; exact lt_of_blt hdN
  rw [hd]
  exact hr c0 (a.put (some d) u) z.w ⟨hdef, by simpa [Act.put] using hsz, z, rfl, hle.trans hyz, hzok, hzH, hzn, (he.mono hyz).put hN' hzv⟩ Q hQ
theorem RetI.intro {rs : List ResultVar} {K : AV → Heap → Nat → Prop} {s : St} (r : AV) (h1 : ResAll P rs s r) (h2 : K r s.h s.n) : RetI P rs K .ret s := ⟨r, h1, h2⟩
def LoopN (P : Program) (x : Code) (Q : Exit → St → Prop) : Nat → St → Prop
  | 0, _ => False
  | n + 1, s => AW P x (ThenQ (LoopN P x Q n) Q) s
theorem LoopN.step {Q : Exit → St → Prop} {x : Code} {n : Nat} (h : AW P x (ThenQ (LoopN P x Q n) Q) s) : LoopN P x Q (n + 1) s := h
theorem AW.loopN {Q : Exit → St → Prop} {x : Code} (n : Nat) (h : LoopN P x Q n s) : AW P (.loop x) Q s := by
  refine AW.loop (fun m s => LoopN P x Q m s) n ⟨s, Weak.refl s, h⟩ fun m s hm => ?_
  cases m with
  | zero => exact hm.elim
  | succ m =>
    refine AW.mono (show AW P x (ThenQ (LoopN P x Q m) Q) s from hm) fun e s' hq => ?_
    cases e with
    | normal => exact ⟨m, Nat.lt_succ_self m, s', Weak.refl s', hq⟩
    | _ => exact hq
theorem rep_mi {x : Cx} (hok : x.ok) {id g mid mg since last : Nat} {seen : List Nat} {v : Value} (hH : x.H id = some (.mi g mid mg since seen last)) (hv : AVRep x (.ptr id g 0 0) v) :
    ∃ b m : Nat, x.β id = some (b, 1) ∧ v = .pointer (some ⟨b, 0, none⟩) ∧ x.w.heap[b]? = some (.mapIter (some m) since seen.toArray last) ∧ AVRep x (.mref mid mg) (.map (some m)) := by
  obtain ⟨_, b, m, h1, h2, h3⟩ := hok.obj _ _ hH
  cases hv with
  | ptr _ _ hv =>
    obtain ⟨b', cap, h5, h6⟩ := hv _ hH rfl
    rw [h1] at h5
    simp only [Option.some.injEq, Prod.mk.injEq] at h5
    obtain ⟨rfl, rfl⟩ := h5
    exact ⟨b, m, h1, by rw [h6, Nat.zero_mul], h2, h3⟩
section
variable {c : Bool} {R : Env} {h : Heap} {n : Nat}
theorem ms_nextM_f {x : Operand} {id g mid mg since last clock k born : Nat} {ks : List (Int × Nat)} {vs : List AV} {seen : List Nat} (ho : o.op = .next x false) (hx : Ev c R x (.ptr id g 0 0)) (hh : hget h id = some (.mi g mid mg since seen last))
    (hm : hget h mid = some (.mp mg ks vs clock)) (hold : (ks.all fun p => decide (p.2 < since)) = true) (hsc : Nat.ble since last = true) (hall : (ks.all fun p => seen.contains p.2) = true) :
    OpSpec P c o R h n (.tup [.r (.bool false)]) h n := by
  intro hc z w hok hH hn he K Q hK
  obtain ⟨b, m, h1, h2, h3, h4⟩ := rep_mi hok (by rw [hH]; exact hh) (hx.rep he hc)
  obtain ⟨bm, us, k1, k2, k3, k4, k5, k6⟩ := rep_mp hok (by rw [hH]; exact hm) h4
  cases k2
  have hold' : ∀ e ∈ (ments ks us).toArray.toList, e.born < since := by
    intro e he'
    simp only [ments, List.mem_map] at he'
    obtain ⟨p, hp, rfl⟩ := he'
    have := List.all_eq_true.1 hold p.1 (List.of_mem_zip hp).1
    simpa using this
  have hleft : leftOf (ments ks us).toArray seen.toArray = #[] := by
    unfold leftOf
    rw [Array.filter_eq_empty_iff]
    intro e he'
    simp only [ments, List.mem_toArray, List.mem_map] at he'
    obtain ⟨p, hp, rfl⟩ := he'
    have := List.all_eq_true.1 hall p.1 (List.of_mem_zip hp).1
    simpa using this
  unfold Oper.wp execOp
  rw [ho]
  have hrun : (Instr.next (.pointer (some ⟨b, 0, none⟩)) false o.type).run P z.w = .ok (.tuple #[.bool false]) z.w := by
    rcases run_next_at (P := P) z.w o.type b m since last seen.toArray _ clock h3 k5 hold' (Nat.le_of_ble_eq_true hsc) with ⟨_, h⟩ | ⟨e, he', _⟩
    · exact h
    · rw [hleft] at he'; simp at he'
  simp only [h2, Sem.run_bind, hrun, Result.andThen_ok, Sem.run_pure]
  refine hK (.tuple #[.bool false]) z (Cx.le.refl z) hok hH hn (.tup rfl fun i a u ha hu => ?_)
  rcases i with _ | i
  · simp at ha hu; subst ha; subst hu; exact .r (.bool false)
  · simp at ha
theorem ms_nextM_t {x : Operand} {id g mid mg since last clock : Nat} {k : Int} {born : Nat} {v : AV} (ho : o.op = .next x false) (hx : Ev c R x (.ptr id g 0 0)) (hh : hget h id = some (.mi g mid mg since [] last))
    (hm : hget h mid = some (.mp mg [(k, born)] [v] clock)) (hold : Nat.blt born since = true) (hsc : Nat.ble since last = true) :
    OpSpec P c o R h n (.tup [.r (.bool true), .r (.int .i64 k), v]) ((id, some (.mi g mid mg since [born] clock)) :: h) n := by
  intro hc z w hok hH hn he K Q hK
  have hHid : z.H id = some (.mi g mid mg since [] last) := by rw [hH]; exact hh
  obtain ⟨b, m, h1, h2, h3, h4⟩ := rep_mi hok hHid (hx.rep he hc)
  obtain ⟨bm, us, k1, k2, k3, k4, k5, k6⟩ := rep_mp hok (by rw [hH]; exact hm) h4
  cases k2
  obtain ⟨u, rfl⟩ := List.length_eq_one_iff.1 k3
  have hb := (hok.own id _ b 1 hHid h1).1
  have hrun : ∃ w1 : World, (w1 = z.w ∨ w1 = z.w.drew) ∧ (Instr.next (.pointer (some ⟨b, 0, none⟩)) false o.type).run P z.w = .ok (.tuple #[.bool true, .int .i64 k, u]) (setBlock w1 b (.mapIter (some m) since #[born] clock)) := by
    have hold' : ∀ e ∈ (ments [(k, born)] [u]).toArray.toList, e.born < since := by
      intro e he'
      simp [ments] at he'
      subst he'
      exact lt_of_blt hold
    rcases run_next_at (P := P) z.w o.type b m since last #[] _ clock h3 k5 hold' (Nat.le_of_ble_eq_true hsc) with ⟨h, _⟩ | ⟨e, he', w1, hw1, hr⟩
    · simp [leftOf, ments] at h
    · simp [leftOf, ments] at he'
      subst he'
      exact ⟨w1, hw1, hr⟩
  obtain ⟨w1, hw1, hrun⟩ := hrun
  have hwh : w1.heap = z.w.heap := by rcases hw1 with rfl | rfl <;> rfl
  have hwo : w1.os = z.w.os := by rcases hw1 with rfl | rfl <;> rfl
  have hwt : w1.tape = z.w.tape := by rcases hw1 with rfl | rfl <;> rfl
  have hwu : w1.output = z.w.output := by rcases hw1 with rfl | rfl <;> rfl
  have hup := Cx.upd hok id (.mi g mid mg since [born] clock) (setBlock w1 b (.mapIter (some m) since #[born] clock)) (some (b, 1)) z.n (by simp [setBlock, hwh]) hwo hwt hwu
    (fun b' _ hne => by
      have : b ≠ b' := fun e => hne _ 1 hHid (by rw [← e]; exact h1)
      simp [setBlock, hwh, this])
    (fun b' k' hb' => by cases hb'; exact ⟨by simpa [setBlock, hwh] using hb, .inr ⟨_, _, hHid, h1⟩⟩) (Nat.le_refl _) (hok.obj _ _ hHid).1 (fun _ => ⟨_, hHid, rfl, rfl, h1.symm⟩)
    (fun hle => ⟨b, m, rfl, by simp [setBlock, hwh, hb], h4.mono hle⟩)
  unfold Oper.wp execOp
  rw [ho]
  simp only [h2, Sem.run_bind, hrun, Result.andThen_ok, Sem.run_pure]
  refine hK _ _ hup.1 hup.2 (by simp only [hH]; exact hget_upd _ _ _) hn (.tup rfl fun i a u' ha hu => ?_)
  rcases i with _ | _ | _ | i
  · simp at ha hu; subst ha; subst hu; exact .r (.bool true)
  · simp at ha hu; subst ha; subst hu; exact .r (.int _ _)
  · simp at ha hu; subst ha; subst hu; exact (k6 0 _ _ rfl rfl).mono hup.1
  · simp at ha
theorem ms_entryM {x : Operand} {id g mid mg since clock : Nat} {k : Int} {born : Nat} {v : AV} (ho : o.op = .entry x) (hx : Ev c R x (.ptr id g 0 0)) (hh : hget h id = some (.mi g mid mg since [born] clock))
    (hm : hget h mid = some (.mp mg [(k, born)] [v] clock)) : OpQ P c o R h (.tup [.r (.int .i64 k), v]) := by
  intro hc z w hok hH he
  obtain ⟨b, m, h1, h2, h3, h4⟩ := rep_mi hok (by rw [hH]; exact hh) (hx.rep he hc)
  obtain ⟨bm, us, k1, k2, k3, k4, k5, k6⟩ := rep_mp hok (by rw [hH]; exact hm) h4
  cases k2
  obtain ⟨u, rfl⟩ := List.length_eq_one_iff.1 k3
  refine ⟨.tuple #[.int .i64 k, u], fun w2 hag => ?_, .tup rfl fun i a u' ha hu => ?_⟩
  · have hb2 : w2.heap[b]? = some (.mapIter (some m) since #[born] clock) := by rw [hag b (.inr ⟨id, _, 1, by rw [hH]; exact hh, h1⟩)]; exact h3
    have hm2 : w2.heap[m]? = some (.map (ments [(k, born)] [u]).toArray clock) := by rw [hag m (.inr ⟨mid, _, 1, by rw [hH]; exact hm, k1⟩)]; exact k5
    have hrun := run_entry_at (P := P) w2 b m since #[] _ clock { key := .int .i64 k, val := u, born := born } hb2 hm2 (by simp [ments]) (by simp [ments])
    simp only [execOp, ho, h2, Sem.run_bind, hrun, Result.andThen_ok, Sem.run_pure]
  · rcases i with _ | _ | i
    · simp at ha hu; subst ha; subst hu; exact .r (.int _ _)
    · simp at ha hu; subst ha; subst hu; exact k6 0 _ _ rfl rfl
    · simp at ha
end
end
end Go.Proofs.Ytelkfhdgmbahgaa.Al


namespace Go.Proofs.Ytelkfhdgmbahgaa.Al
section
variable {P : Program} {ops : Array Oper} {rest : List Oper} {s : St} {K : St → Prop} {o : Oper}
theorem OpQ.no {c : Bool} {R : Env} {h : Heap} {v : AV} (hc : c = false) : OpQ P c o R h v := fun h => by rw [hc] at h; cases h
theorem RetI.introN {rs : List ResultVar} {K : AV → Heap → Nat → Prop} {s : St} (r : AV) (h1 : ResAll P rs s r) (h2 : K r s.h s.n) : RetI P rs K .normal s := ⟨r, h1, h2⟩
theorem AOps.stepIk {d : Nat} {f : FuncId} {fn : Func} {code : Code} {fo : Operand} {xs : Array Operand} {ats : Array TypeId} {N : Nat} (caps bs : List AV) (hg : o.guard = none) (hd : o.dst = some d) (hdN : Nat.blt d s.N = true)
    (ho : o.op = .call { callee := .value fo, args := xs, argTypes := ats }) (hfo : Ev true s.e fo (.fn f caps)) (hx : EvAll true s.e xs.toList bs) (hf : P.funcs[f]? = some fn) (hb : fn.body = some code) (hname : (fn.name == "runtime.NumGoroutine") = false)
    (hN : fn.ntmps = N) (hlen : Nat.ble (bs ++ caps).length N = true)
    (hw : ∀ K' : AV → Heap → Nat → Prop, (∀ r h' n', AOps P ops rest { e := (d, r) :: s.e, h := h', n := n', N := s.N } K → K' r h' n') → AW P code (RetI P fn.results.toList K') ⟨argEnv 0 (bs ++ caps), s.h, s.n, N⟩) : AOps P ops (o :: rest) s K :=
  AOps.stepI caps bs hg hd hdN ho hfo hx hf hb hname hN hlen (hw _ fun _ _ _ h => h)
theorem AOps.stepIGk {c : Bool} {d : Nat} {f : FuncId} {fn : Func} {code : Code} {fo : Operand} {xs : Array Operand} {ats : Array TypeId} {N : Nat} (caps bs : List AV) (hG : GuardC s.e ops o c) (hc : c = true) (hd : o.dst = some d) (hdN : Nat.blt d s.N = true)
    (ho : o.op = .call { callee := .value fo, args := xs, argTypes := ats }) (hfo : Ev true s.e fo (.fn f caps)) (hx : EvAll true s.e xs.toList bs) (hf : P.funcs[f]? = some fn) (hb : fn.body = some code) (hname : (fn.name == "runtime.NumGoroutine") = false)
    (hN : fn.ntmps = N) (hlen : Nat.ble (bs ++ caps).length N = true)
    (hw : ∀ K' : AV → Heap → Nat → Prop, (∀ r h' n', AOps P ops rest { e := (d, r) :: s.e, h := h', n := n', N := s.N } K → K' r h' n') → AW P code (RetI P fn.results.toList K') ⟨argEnv 0 (bs ++ caps), s.h, s.n, N⟩) : AOps P ops (o :: rest) s K := by
  intro c0 a w ⟨hdef, hsz, y, hyw, hle, hok, hH, hn, he⟩ Q hQ
  subst hyw
  refine wpList_step fun K' hK' => ?_
  rw [hG.wanted he, if_pos hc]
  refine wp_callI ho hfo hx hf hb hname hN (Nat.le_of_ble_eq_true hlen) hok hH hn he (hw _ fun _ _ _ h => h) K' Q fun u z r h' n' hyz hzok hzH hzn hzv hr => ?_
  refine hK' _ _ ?_
  have hN' : d < a.tmps.size := by rw [hsz]; exact lt_of_blt hdN
  rw [hd]
  exact hr c0 (a.put (some d) u) z.w ⟨hdef, by simpa [Act.put] using hsz, z, rfl, hle.trans hyz, hzok, hzH, hzn, (he.mono hyz).put hN' hzv⟩ Q hQ
end
end Go.Proofs.Ytelkfhdgmbahgaa.Al


namespace Go.Proofs.Ytelkfhdgmbahgaa.Al
section
variable {ops : Array Oper} {D : Nat → Bool} {G : Nat → Nat} {e : Env} {L : List PO} {t : Nat}
def laterBE (ops : Array Oper) (i t : Nat) : List PO → Nat → Bool
  | [], _ => true
  | p :: L, k => (match p.d with | some d => !Nat.beq d t || wt ops 40 k i | none => true) && laterBE ops i t L (k + 1)
theorem laterBE_NoW {i : Nat} (hr : RdyP ops D i) : ∀ {L : List PO} {k : Nat}, laterBE ops i t L k = true → NoW PO.wE D t L k
  | [], _, _ => fun j p v h => by simp at h
  | q :: L, k, hB => by
    simp only [laterBE, Bool.and_eq_true] at hB
    obtain ⟨h1, h2⟩ := hB
    intro j p v hj hD hw
    cases j with
    | zero =>
      cases hj
      rw [(wE_some hw).1] at h1
      simp only [Bool.or_eq_true, Bool.not_eq_true', Nat.add_zero] at h1 hD
      rcases h1 with h1 | h1
      · rw [Nat.beq_refl] at h1; cases h1
      · rw [hr.no h1] at hD; cases hD
    | succ j =>
      exact laterBE_NoW hr h2 j p v (by simpa using hj) (by rwa [show k + 1 + j = k + (j + 1) by omega]) hw
theorem inE_baseL {i : Nat} (hr : RdyP ops D i) (hB : laterBE ops i t L 0 = true) {a : AV} (ha : get e t = a) : get (runE D G e L) t = a := (runL_none get_cons L e 0 (laterBE_NoW hr hB)).trans ha
end
end Go.Proofs.Ytelkfhdgmbahgaa.Al


namespace Go.Proofs.Ytelkfhdgmbahgaa.Al
open Go.ChangeShapes Go.WideShapes Go.Deep Go.WideElems Go.RowKit
structure Blk (H : Type) where
  B : DataW H → Nat
  one : ∀ d, 1 ≤ B d
  str : ∀ s : List UInt8, s.length + 1 ≤ B (.lit (.string s))
  sl : ∀ l r, (l.map B).sum + 1 ≤ B (.slice l r)
  agg : ∀ l, (l.map B).sum + 1 ≤ B (.agg l)
section
variable {H : Type} {enc : TypeId × Value → H} {P : Program} {W : World} (K : Blk H)
def Rdm (enc : TypeId × Value → H) (P : Program) (W : World) (t : TypeId) {α : Type} (f : α → List RV) (ok : α → Prop) (μ : α → Nat) : Prop :=
  ∀ (fuel : Nat) (cs : List Value) (x : DataW H × List MemPlace), DataW.trod enc P W 0 (fun _ => true) true fuel t cs = some x → ∃ a, ok a ∧ RowRep W cs (f a) ∧ μ a ≤ K.B x.1
theorem Rdm.int {t : TypeId} {k : IntKind} (ht : P.underlying t = some (.int k)) : Rdm K enc P W t (fun n : Int => [.int k n]) (fun n => (Lit.int k n).wf = true) (fun _ => 1) := by
  intro fuel cs x h
  obtain ⟨n, rfl, _, hw⟩ := DataW.trod_int ht h
  exact ⟨n, hw, .one (.int k n), K.one _⟩
theorem Rdm.bool {t : TypeId} (ht : P.underlying t = some .bool) : Rdm K enc P W t (fun b : Bool => [.bool b]) (fun _ => True) (fun _ => 1) := by
  intro fuel cs x h
  obtain ⟨b, rfl, _⟩ := DataW.trod_bool ht h
  exact ⟨b, trivial, .one (.bool b), K.one _⟩
theorem Rdm.str {t : TypeId} (ht : P.underlying t = some .string) : Rdm K enc P W t (fun s : List UInt8 => [.str s]) (fun s => s.length ≤ maxLen) (fun s => s.length + 1) := by
  intro fuel cs x h
  obtain ⟨s, rfl, rfl, hs⟩ := DataW.trod_string ht h
  exact ⟨s.data.toList, by simpa using hs, .one (.str s), K.str _⟩
theorem Rdm.skip {t e : TypeId} (ht : P.underlying t = some (.slice e)) : Rdm K enc P W t (fun _ : Unit => [.any]) (fun _ => True) (fun _ => 1) := by
  intro fuel cs x h
  obtain ⟨a, h1, h2⟩ := Rd.skip (enc := enc) (W := W) ht fuel cs x h
  exact ⟨a, h1, h2, K.one _⟩
theorem sum_map_le {α β : Type} {l : List α} {m : List β} {f : α → Nat} {g : β → Nat} (hl : l.length = m.length) (h : ∀ (i : Nat) (a : α) (b : β), l[i]? = some a → m[i]? = some b → f a ≤ g b) : (l.map f).sum ≤ (m.map g).sum := by
  induction l generalizing m with
  | nil => simp
  | cons a l ih =>
    cases m with
    | nil => simp at hl
    | cons b m =>
      have h0 := h 0 a b rfl rfl
      have h1 := ih (m := m) (by simpa using hl) (fun i a b h1 h2 => h (i + 1) a b (by simpa using h1) (by simpa using h2))
      simp only [List.map_cons, List.sum_cons]
      omega
theorem Rdm.slice {t e : TypeId} {sz : Nat} {α : Type} {f : α → List RV} {ok : α → Prop} {μ : α → Nat} (ht : P.underlying t = some (.slice e)) (hc : P.cellsOf e = sz) (h0 : 0 < sz) (h : Rdm K enc P W e f ok μ) (hf : ∀ a, (f a).length = sz) :
    Rdm K enc P W t (fun l : List α => [.sl (l.map f)]) (fun l => l.length ≤ maxLen ∧ ∀ a ∈ l, ok a) (fun l => (l.map μ).sum + 1) := by
  intro fuel cs x hx
  subst hc
  rcases open_slice ht hx with ⟨rfl, _⟩ | ⟨a, len, cap, m, n, D, Pl, rfl, _, hl, hm, hmm, rfl, hi⟩
  · exact ⟨[], ⟨Nat.zero_le _, fun _ h => by cases h⟩, .one .snil, K.one _⟩
  simp only [if_true] at hmm
  have hread : ∀ i, i < len → ∃ b, ok b ∧ μ b ≤ K.B (D i) ∧ ∀ j d, (f b)[j]? = some d → ∃ u, W.cell? ((a.add (i * P.cellsOf e)).add j) = some u ∧ RRep W (· < W.heap.size) d u := by
    intro i hil
    obtain ⟨cs', h1, h2⟩ := hi i (by omega)
    obtain ⟨b, hb, hr, hμ⟩ := h n _ _ h2
    obtain ⟨_, h3, h4⟩ := World.cells?_some h1
    refine ⟨b, hb, hμ, fun j d hj => ?_⟩
    have hjl : j < (f b).length := (List.getElem?_eq_some_iff.1 hj).1
    have hjc : j < cs'.length := by rw [hr.1]; exact hjl
    refine ⟨cs'[j], ?_, hr.2 j d _ hj (List.getElem?_eq_getElem hjc)⟩
    rw [h4 j (by rw [← h3]; exact hjc)]
    exact List.getElem?_eq_getElem hjc
  obtain ⟨l, hll, hq⟩ := choose_list len hread
  have hok : ∀ b ∈ l, ok b := fun b hb => by
    obtain ⟨i, hi⟩ := List.mem_iff_getElem?.1 hb
    exact (hq i b hi).1
  have hμ : (l.map μ).sum + 1 ≤ K.B (.slice ((List.range len).map D) ((List.range (m - len)).map fun j => D (len + j))) := by
    refine Nat.le_trans ?_ (K.sl _ _)
    have := sum_map_le (l := l) (m := (List.range len).map D) (f := μ) (g := K.B) (by simpa using hll) (fun i a b h1 h2 => by
      have hil : i < len := by rw [← hll]; exact (List.getElem?_eq_some_iff.1 h1).1
      rw [List.getElem?_map, List.getElem?_range hil] at h2
      cases h2
      exact (hq i a h1).2.1)
    omega
  have hcells : ∀ i b, l[i]? = some b → ∀ j d, (f b)[j]? = some d → ∃ u, W.cell? ((a.add (i * P.cellsOf e)).add j) = some u ∧ RRep W (· < W.heap.size) d u := fun i b hb => (hq i b hb).2.2
  refine ⟨l, ⟨by rw [hll]; omega, hok⟩, .one ?_, hμ⟩
  subst hll
  by_cases hne : cap = 0
  · have : l = [] := List.eq_nil_of_length_eq_zero (by omega)
    subst this; subst hne
    exact .sl0 a
  · obtain ⟨cs', h1, _⟩ := hi 0 (by omega)
    obtain ⟨_, h3, h4⟩ := World.cells?_some h1
    have hc0 : ∃ u, W.cell? a = some u := by
      have := h4 0 h0
      rw [Nat.zero_mul, show (a.add 0).add 0 = a from rfl] at this
      exact ⟨cs'[0]'(by omega), this.trans (List.getElem?_eq_getElem (by omega))⟩
    obtain ⟨u0, hu0⟩ := hc0
    obtain ⟨b, off, spot⟩ := a
    have hsp : spot = none := World.cell?_spot hu0
    subst hsp
    have hblk : b < W.heap.size := by
      unfold World.cell? at hu0
      rcases Nat.lt_or_ge b W.heap.size with h | h
      · exact h
      · rw [Array.getElem?_eq_none h] at hu0; cases hu0
    have hadd : ∀ i j, ((⟨b, off, none⟩ : Addr).add (i * P.cellsOf e)).add j = ⟨b, off + i * P.cellsOf e + j, none⟩ := fun i j => by rw [Addr.add_lit, Addr.add_lit]
    have hu : ∀ (i : Nat) (row : List RV) (c : Nat) (d : RV), (l.map f)[i]? = some row → row[c]? = some d → ∃ u, W.cell? ⟨b, off + i * P.cellsOf e + c, none⟩ = some u ∧ RRep W (· < W.heap.size) d u := by
      intro i row c d h1 h2
      rw [List.getElem?_map, Option.map_eq_some_iff] at h1
      obtain ⟨z, h5, rfl⟩ := h1
      obtain ⟨u, h6, h7⟩ := hcells i z h5 c d h2
      rw [hadd] at h6
      exact ⟨u, h6, h7⟩
    have := RRep.sl (w := W) (S := (· < W.heap.size)) b off (l.map f) cap (P.cellsOf e) (fun i c => (W.cell? ⟨b, off + i * P.cellsOf e + c, none⟩).getD undef) (fun _ => hblk) (by simpa using hl) hm
      (fun row hr => by obtain ⟨z, _, rfl⟩ := List.mem_map.1 hr; exact hf z)
      (fun i row c d h1 h2 => by obtain ⟨u, h5, _⟩ := hu i row c d h1 h2; rw [h5]; rfl)
      (fun i row c d h1 h2 => by obtain ⟨u, h5, h6⟩ := hu i row c d h1 h2; rw [h5]; exact h6)
    rwa [List.length_map] at this
theorem struct_parts {t : TypeId} {fs : Array Field} {n : Nat} {fuel : Nat} {cs : List Value} {x : DataW H × List MemPlace} (ht : P.underlying t = some (.struct fs)) (hC : P.cellsOf t = n)
    (h : DataW.trod enc P W 0 (fun _ => true) true fuel t cs = some x) :
    cs.length = n ∧ ∃ xs : List (DataW H × List MemPlace), x.1 = .agg (xs.map (·.1)) ∧ xs.length = fs.size ∧
      ∀ (j : Nat) (f : Field), fs[j]? = some f → ∃ (y : DataW H × List MemPlace) (m : Nat), xs[j]? = some y ∧ DataW.trod enc P W 0 (fun _ => true) true m f.type ((cs.drop f.offset).take (P.cellsOf f.type)) = some y := by
  obtain ⟨ys, n', hn', rfl, hlen, hyl, hf⟩ := DataW.trod_struct ht h
  refine ⟨hlen.trans hC, ys, rfl, hyl, fun j f hj => ?_⟩
  have hjl : j < fs.size := (Array.getElem?_eq_some_iff.1 hj).1
  have h1 := hf j f hj
  have h2 : ys[j]? = some ys[j] := List.getElem?_eq_getElem (by omega)
  exact ⟨ys[j], n', h2, h1.trans h2⟩
theorem RowRep.part {cs : List Value} {off k jj : Nat} {row : List RV} {d : RV} {u : Value} (h : RowRep W ((cs.drop off).take k) row) (hjj : Nat.blt jj k = true) (h1 : row[jj]? = some d) (h2 : cs[off + jj]? = some u) : RRep W (· < W.heap.size) d u := by
  refine h.2 jj d u h1 ?_
  rw [List.getElem?_take, if_pos (lt_of_blt hjj), List.getElem?_drop]
  exact h2
theorem topm {t : TypeId} {α : Type} {d0 : α → RV} {ok : α → Prop} {μ : α → Nat} {v : Value} {d : DataW H} {p : List MemPlace} (hr : Rdm K enc P W t (fun a : α => [d0 a]) ok μ) (hv : v.cells = #[v])
    (h : DataW.Trod enc P W 0 (fun _ => true) true t v d p) : ∃ a, ok a ∧ RRep W (· < W.heap.size) (d0 a) v ∧ μ a ≤ K.B d := by
  obtain ⟨fuel, hf⟩ := h
  obtain ⟨l, h1, h2, h3⟩ := hr fuel _ _ hf
  rw [hv] at h2
  exact ⟨l, h1, h2.2 0 _ _ rfl rfl, h3⟩
theorem topm_slice {t e : TypeId} {α : Type} {f : α → List RV} {ok : List α → Prop} {μ : List α → Nat} {v : Value} {d : DataW H} {p : List MemPlace} {r : Reach} {b0 : Nat} (ht : P.underlying t = some (.slice e)) (hr : Rdm K enc P W t (fun l : List α => [.sl (l.map f)]) ok μ)
    (hval : Value.okWide P W r b0 t v) (h : DataW.Trod enc P W 0 (fun _ => true) true t v d p) : ∃ l, ok l ∧ RRep W (· < W.heap.size) (.sl (l.map f)) v ∧ μ l ≤ K.B d := by
  obtain ⟨a, len, cap, rfl⟩ := okWide_slice ht hval
  exact topm K hr rfl h
theorem topm_str {t : TypeId} {v : Value} {d : DataW H} {p : List MemPlace} {r : Reach} {b0 : Nat} (ht : P.underlying t = some .string) (hval : Value.okWide P W r b0 t v) (h : DataW.Trod enc P W 0 (fun _ => true) true t v d p) :
    ∃ s : List UInt8, s.length ≤ maxLen ∧ RRep W (· < W.heap.size) (.str s) v ∧ s.length + 1 ≤ K.B d := by
  obtain ⟨s, rfl⟩ := okWide_string ht hval
  exact topm K (Rdm.str K ht) rfl h
end
end Go.Proofs.Ytelkfhdgmbahgaa.Al


namespace Go.Proofs.Ytelkfhdgmbahgaa.Al
theorem list_of_gets {α : Type} {l ys : List α} (hl : l.length = ys.length) (h : ∀ (j : Nat) (y : α), ys[j]? = some y → l[j]? = some y) : l = ys := by
  apply List.ext_getElem? 
  intro i
  rcases Nat.lt_or_ge i ys.length with hi | hi
  · rw [h i _ (List.getElem?_eq_getElem hi), List.getElem?_eq_getElem hi]
  · rw [List.getElem?_eq_none hi, List.getElem?_eq_none (by omega)]
end Go.Proofs.Ytelkfhdgmbahgaa.Al

