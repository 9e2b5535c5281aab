/- The program logic, a part of it. -/
import Derived.Test.YthhodpedkdapcaaAl1
namespace Go.Proofs.Ythhodpedkdapcaa.Al
structure PO where
  d : Option Nat
  v : (Nat → Nat) → AV
  hp : Option (Nat × ((Nat → Nat) → Option AObj))
  dep : List Nat
def PO.wE (p : PO) : Option (Nat × ((Nat → Nat) → AV)) := match p.d with | some d => some (d, p.v) | none => none
def PO.wH (p : PO) : Option (Nat × ((Nat → Nat) → Option AObj)) := p.hp
section
variable {α : Type} (wr : PO → Option (Nat × ((Nat → Nat) → α))) (D : Nat → Bool) (G : Nat → Nat)
def runL : List (Nat × α) → List PO → Nat → List (Nat × α)
  | e, [], _ => e
  | e, p :: L, k => match D k with
    | true => match wr p with
      | some (d, v) => runL ((d, v G) :: e) L (k + 1)
      | none => runL e L (k + 1)
    | false => runL e L (k + 1)
def NoW (t : Nat) (L : List PO) (k : Nat) : Prop := ∀ (j : Nat) (p : PO) v, L[j]? = some p → D (k + j) = true → wr p ≠ some (t, v)
end
theorem NoW.tail {α : Type} {wr : PO → Option (Nat × ((Nat → Nat) → α))} {D : Nat → Bool} {t : Nat} {p : PO} {L : List PO} {k : Nat} (h : NoW wr D t (p :: L) k) : NoW wr D t L (k + 1) :=
  fun j q v h1 h2 => h (j + 1) q v (by simpa using h1) (by rwa [show k + (j + 1) = k + 1 + j by omega])
section
variable {α : Type} {wr : PO → Option (Nat × ((Nat → Nat) → α))} {D : Nat → Bool} {G : Nat → Nat} {lk : List (Nat × α) → Nat → α} (hlk : ∀ d v R t, lk ((d, v) :: R) t = if d = t then v else lk R t)
include hlk
theorem runL_none {t : Nat} : ∀ (L : List PO) (e : List (Nat × α)) (k : Nat), NoW wr D t L k → lk (runL wr D G e L k) t = lk e t
  | [], _, _, _ => rfl
  | p :: L, e, k, h => by
    unfold runL
    cases hD : D k with
    | false => exact runL_none L e (k + 1) h.tail
    | true =>
      cases hw : wr p with
      | none => exact runL_none L e (k + 1) h.tail
      | some q =>
        obtain ⟨d, v⟩ := q
        have hdt : d ≠ t := fun e => h 0 p v rfl hD (by rw [hw, e])
        exact (runL_none L _ (k + 1) h.tail).trans (by rw [hlk, if_neg hdt])
theorem runL_some {t : Nat} {p : PO} {v : (Nat → Nat) → α} (hw : wr p = some (t, v)) : ∀ (L : List PO) (e : List (Nat × α)) (k j : Nat), L[j]? = some p → D (k + j) = true → NoW wr D t (L.drop (j + 1)) (k + j + 1) → lk (runL wr D G e L k) t = v G
  | [], _, _, _, h, _, _ => by simp at h
  | q :: L, e, k, 0, h1, h2, h3 => by
    cases h1
    unfold runL
    rw [show D k = true from h2, hw]
    exact (runL_none hlk L _ (k + 1) (by simpa using h3)).trans (by rw [hlk, if_pos rfl])
  | q :: L, e, k, j + 1, h1, h2, h3 => by
    have h1' : L[j]? = some p := by simpa using h1
    have h2' : D (k + 1 + j) = true := by rwa [show k + 1 + j = k + (j + 1) by omega]
    have h3' : NoW wr D t (L.drop (j + 1)) (k + 1 + j + 1) := by rw [show k + 1 + j + 1 = k + (j + 1) + 1 by omega]; simpa using h3
    unfold runL
    cases D k with
    | false => exact runL_some hw L e (k + 1) j h1' h2' h3'
    | true =>
      cases wr q with
      | none => exact runL_some hw L e (k + 1) j h1' h2' h3'
      | some r => exact runL_some hw L _ (k + 1) j h1' h2' h3'
theorem runL_congr {t : Nat} {D' : Nat → Bool} {G' : Nat → Nat} : ∀ (L : List PO) (e e' : List (Nat × α)) (k : Nat), lk e' t = lk e t →
    (∀ (j : Nat) (p : PO) v, L[j]? = some p → wr p = some (t, v) → D' (k + j) = D (k + j) ∧ (D (k + j) = true → v G' = v G)) → lk (runL wr D' G' e' L k) t = lk (runL wr D G e L k) t
  | [], _, _, _, h, _ => h
  | p :: L, e, e', k, h, hw => by
    have ht : ∀ (j : Nat) (q : PO) v, L[j]? = some q → wr q = some (t, v) → D' (k + 1 + j) = D (k + 1 + j) ∧ (D (k + 1 + j) = true → v G' = v G) := fun j q v h1 h2 => by
      have := hw (j + 1) q v (by simpa using h1) h2
      rwa [show k + (j + 1) = k + 1 + j by omega] at this
    unfold runL
    cases hp : wr p with
    | none =>
      have ih := runL_congr L e e' (k + 1) h ht
      cases D' k <;> cases D k <;> exact ih
    | some q =>
      obtain ⟨d, v⟩ := q
      by_cases hdt : d = t
      · subst hdt
        obtain ⟨h1, h2⟩ := hw 0 p v rfl hp
        rw [Nat.add_zero] at h1 h2
        rw [h1]
        cases hD : D k with
        | false => exact runL_congr L e e' (k + 1) h ht
        | true => exact runL_congr L _ _ (k + 1) (by rw [hlk, hlk, if_pos rfl, if_pos rfl, h2 hD]) ht
      · have e1 : lk ((d, v G') :: e') t = lk e' t := by rw [hlk, if_neg hdt]
        have e2 : lk ((d, v G) :: e) t = lk e t := by rw [hlk, if_neg hdt]
        cases D' k <;> cases D k
        · exact runL_congr L _ _ (k + 1) h ht
        · exact runL_congr L _ _ (k + 1) (by rw [e2]; exact h) ht
        · exact runL_congr L _ _ (k + 1) (by rw [e1]; exact h) ht
        · exact runL_congr L _ _ (k + 1) (by rw [e1, e2]; exact h) ht
end
abbrev runE (D : Nat → Bool) (G : Nat → Nat) (e : Env) (L : List PO) : Env := runL PO.wE D G e L 0
abbrev runH (D : Nat → Bool) (G : Nat → Nat) (h : Heap) (L : List PO) : Heap := runL PO.wH D G h L 0
def updG (G : Nat → Nat) (i n : Nat) : Nat → Nat := fun k => if k = i then n else G k
section
variable {P : Program} {ops : Array Oper}
def wt (ops : Array Oper) : Nat → Nat → Nat → Bool
  | 0, _, _ => false
  | f + 1, j, i => Region.waitsFor .any ops j i || (List.range j).any fun m => Region.waitsFor .any ops j m && wt ops f m i
def Cl (ops : Array Oper) (D : Nat → Bool) : Prop := ∀ j k, D j = true → Region.waitsFor .any ops j k = true → D k = true
theorem Cl.wt {D : Nat → Bool} (h : Cl ops D) : ∀ (f j i : Nat), Al.wt ops f j i = true → D j = true → D i = true
  | 0, _, _, h1, _ => by cases h1
  | f + 1, j, i, h1, h2 => by
    unfold Al.wt at h1
    rw [Bool.or_eq_true] at h1
    rcases h1 with h1 | h1
    · exact h j i h2 h1
    · obtain ⟨m, _, h3⟩ := List.any_eq_true.1 h1
      rw [Bool.and_eq_true] at h3
      exact h.wt f m i h3.2 (h j m h2 h3.1)
structure RdyP (ops : Array Oper) (D : Nat → Bool) (i : Nat) : Prop where
  cl : Cl ops D
  hw : ∀ k, Region.waitsFor .any ops i k = true → D k = true
  un : D i = false
def InvP (c0 : Cx) (s : St) (L : List PO) (listed : Array Bool) (a : Act) (w : World) : Prop :=
  a.defers = [] ∧ a.tmps.size = s.N ∧ ∃ (y : Cx) (G : Nat → Nat), y.w = w ∧ c0.le y ∧ y.ok ∧ (∀ id, y.H id = hget (runH (fun k => listed.getD k false) G s.h L) id) ∧
    (∀ t, AVRep y (get (runE (fun k => listed.getD k false) G s.e L) t) (a.tmps.getD t undef))
def OpSpecN (P : Program) (o : Oper) (R : Env) (h : Heap) (n : Nat) (v : AV) (h' : Heap) : Prop :=
  ∀ (x : Cx) (a : Act), x.ok → x.H = hget h → x.n = n → EnvOk x R a → ∀ (K : Act → World → Prop) (Q : Exit → Act → World → Prop),
    (∀ (u : Value) (y : Cx), x.le y → y.ok → y.H = hget h' → AVRep y v u → K (a.put o.dst u) y.w) → o.wp P a x.w K Q
def Ob (P : Program) (ops : Array Oper) (s : St) (L : List PO) (i : Nat) (p : PO) (o : Oper) : Prop :=
  o.dst = p.d ∧ (∀ d, p.d = some d → Nat.blt d s.N = true) ∧ ∀ (D : Nat → Bool) (G : Nat → Nat) (e : Env) (h : Heap) (n : Nat), RdyP ops D i →
    (∀ t, get e t = get (runE D G s.e L) t) → (∀ id, hget h id = hget (runH D G s.h L) id) →
    (o.guard = none ∧ ∃ h', OpSpecN P o e h n (p.v (updG G i n)) h' ∧ (∀ id, hget h' id = match p.hp with | some (j, ob) => if j = id then ob (updG G i n) else hget h id | none => hget h id)) ∨
    (p.hp = none ∧ ∃ c v0, p.v (updG G i n) = .whn c v0 ∧ GuardC e ops o c ∧ (c = true → ∃ h2, OpSpecN P o e h n v0 h2 ∧ ∀ id, hget h2 id = hget h id))
def noWE (L : List PO) (t : Nat) : Bool := L.all fun p => match p.d with | some d => !Nat.beq d t | none => true
def oneEB : List PO → Bool
  | [] => true
  | p :: L => (match p.d with | some d => noWE L d | none => true) && oneEB L
def ordHB (ops : Array Oper) (L : List PO) : Bool := (List.range L.length).all fun j => (List.range j).all fun i => match L[i]?.bind (·.hp), L[j]?.bind (·.hp) with
  | some (a, _), some (b, _) => !Nat.beq a b || wt ops 40 j i
  | _, _ => true
theorem noWE_spec {L : List PO} {t : Nat} (h : noWE L t = true) {j : Nat} {p : PO} (hj : L[j]? = some p) : p.d ≠ some t := fun hd => by
  have := List.all_eq_true.1 h p (List.mem_of_getElem? hj)
  rw [hd] at this
  simp at this
theorem wE_some {p : PO} {t : Nat} {v} (h : p.wE = some (t, v)) : p.d = some t ∧ v = p.v := by
  unfold PO.wE at h
  split at h
  · rename_i d hd; simp only [Option.some.injEq, Prod.mk.injEq] at h; rw [hd, h.1]; exact ⟨rfl, h.2.symm⟩
  · cases h
theorem wE_mk {p : PO} {t : Nat} (h : p.d = some t) : p.wE = some (t, p.v) := by unfold PO.wE; rw [h]
theorem wH_some {p : PO} {t : Nat} {v} (h : p.wH = some (t, v)) : ∃ ob, p.hp = some (t, ob) ∧ v = ob := ⟨v, h, rfl⟩
theorem wH_mk {p : PO} {t : Nat} {ob} (h : p.hp = some (t, ob)) : p.wH = some (t, ob) := h
theorem oneE_later : ∀ {L : List PO}, oneEB L = true → ∀ {j : Nat} {p : PO} {t : Nat}, L[j]? = some p → p.d = some t → noWE (L.drop (j + 1)) t = true
  | [], _, _, _, _, h, _ => by simp at h
  | q :: L, h, 0, p, t, h1, h2 => by
    cases h1
    simp only [oneEB, Bool.and_eq_true, h2] at h
    simpa using h.1
  | q :: L, h, j + 1, p, t, h1, h2 => by
    simp only [oneEB, Bool.and_eq_true] at h
    simpa using oneE_later h.2 (j := j) (by simpa using h1) h2
theorem noWE_NoW {L : List PO} {t : Nat} (h : noWE L t = true) {D : Nat → Bool} {k : Nat} : NoW PO.wE D t L k := fun _ _ _ h1 _ h3 => noWE_spec h h1 (wE_some h3).1
theorem ordH_later {L : List PO} (hB : ordHB ops L = true) {D : Nat → Bool} (hcl : Cl ops D) {i : Nat} {p : PO} {t : Nat} {ob} (hp : L[i]? = some p) (ht : p.hp = some (t, ob)) (hun : D i = false) : NoW PO.wH D t (L.drop (i + 1)) (i + 1) := by
  intro j q v h1 h2 h3
  obtain ⟨ob2, h4, _⟩ := wH_some h3
  rw [List.getElem?_drop] at h1
  have hlt : i + 1 + j < L.length := (List.getElem?_eq_some_iff.1 h1).1
  have := List.all_eq_true.1 (List.all_eq_true.1 hB (i + 1 + j) (List.mem_range.2 hlt)) i (List.mem_range.2 (by omega))
  simp only [hp, h1, Option.bind_some, ht, h4, Bool.or_eq_true, Bool.not_eq_true'] at this
  rcases this with h5 | h5
  · simp at h5
  · have := hcl.wt 40 _ _ h5 h2
    rw [hun] at this; cases this
def depB (ops : Array Oper) (L : List PO) : Bool := (List.range L.length).all fun j => match L[j]? with
  | some p => p.dep.all fun k => Nat.beq k j || wt ops 40 j k
  | none => true
def Locs : List PO → Prop
  | [] => True
  | p :: L => (∀ G G' : Nat → Nat, (∀ k, p.dep.contains k = true → G k = G' k) → p.v G' = p.v G ∧ ∀ id ob, p.hp = some (id, ob) → ob G' = ob G) ∧ Locs L
theorem Locs.at : ∀ {L : List PO}, Locs L → ∀ {j : Nat} {p : PO}, L[j]? = some p → ∀ G G' : Nat → Nat, (∀ k, p.dep.contains k = true → G k = G' k) → p.v G' = p.v G ∧ ∀ id ob, p.hp = some (id, ob) → ob G' = ob G
  | _ :: _, h, 0, _, hj => by cases hj; exact h.1
  | _ :: _, h, j + 1, _, hj => Locs.at h.2 (j := j) (by simpa using hj)
theorem depB_at {L : List PO} (hB : depB ops L = true) {D : Nat → Bool} (hcl : Cl ops D) {j : Nat} {p : PO} (hp : L[j]? = some p) (hl : D j = true) {k : Nat} (hk : p.dep.contains k = true) : D k = true := by
  have hlt : j < L.length := (List.getElem?_eq_some_iff.1 hp).1
  have h1 := List.all_eq_true.1 hB j (List.mem_range.2 hlt)
  simp only [hp] at h1
  have h2 := List.all_eq_true.1 h1 k (by simpa using hk)
  simp only [Bool.or_eq_true] at h2
  rcases h2 with h2 | h2
  · rw [Nat.eq_of_beq_eq_true h2]; exact hl
  · exact hcl.wt 40 _ _ h2 hl
theorem InvP.put {c0 : Cx} {s : St} {L : List PO} {listed : Array Bool} {a : Act} {i : Nat} {p : PO} {y z : Cx} {G : Nat → Nat} {u : Value} (hp : L[i]? = some p) (hN : ∀ d, p.d = some d → Nat.blt d s.N = true) (hE : oneEB L = true) (hH : ordHB ops L = true)
    (hD : depB ops L = true) (hLoc : Locs L) (hi : i < listed.size) (hr : RdyP ops (fun k => listed.getD k false) i) (hdef : a.defers = []) (hsz : a.tmps.size = s.N) (hle : c0.le y)
    (he : ∀ t, AVRep y (get (runE (fun k => listed.getD k false) G s.e L) t) (a.tmps.getD t undef)) (hyz : y.le z) (hzok : z.ok)
    (hzH : ∀ id, z.H id = match p.hp with | some (j, ob) => if j = id then ob (updG G i y.n) else hget (runH (fun k => listed.getD k false) G s.h L) id | none => hget (runH (fun k => listed.getD k false) G s.h L) id)
    (hv : AVRep z (p.v (updG G i y.n)) u) : InvP c0 s L (listed.setIfInBounds i true) (a.put p.d u) z.w := by
  have hD' : ∀ k, (listed.setIfInBounds i true).getD k false = (listed.getD k false || decide (k = i)) := fun k => by
    by_cases hk : i = k
    · subst hk; simp [hi]
    · rw [getD_set_ne false hk]; simp [Ne.symm hk]
  have hsame : ∀ k, k ≠ i → (listed.setIfInBounds i true).getD k false = listed.getD k false := fun k hk => by rw [hD']; simp [hk]
  have hval : ∀ (j : Nat) (q : PO), L[j]? = some q → listed.getD j false = true → q.v (updG G i y.n) = q.v G ∧ ∀ id ob, q.hp = some (id, ob) → ob (updG G i y.n) = ob G := fun j q hj hl => by
    refine hLoc.at hj G _ fun k hk => ?_
    have hlk := depB_at hD hr.cl hj hl hk
    have : k ≠ i := fun e => by subst e; rw [hr.un] at hlk; cases hlk
    simp [updG, this]
  have hdi : (fun k => (listed.setIfInBounds i true).getD k false) (0 + i) = true := by show (listed.setIfInBounds i true).getD (0 + i) false = true; rw [Nat.zero_add, hD']; simp
  refine ⟨by cases hdd : p.d <;> simpa [Act.put, hdd] using hdef, ?_, z, updG G i y.n, rfl, hle.trans hyz, hzok, fun id => ?_, fun t => ?_⟩
  · cases hdd : p.d <;> simpa [Act.put, hdd] using hsz
  · rw [hzH]
    have rest : (∀ ob, p.hp ≠ some (id, ob)) → hget (runH (fun k => listed.getD k false) G s.h L) id = hget (runH (fun k => (listed.setIfInBounds i true).getD k false) (updG G i y.n) s.h L) id := fun hne => by
      refine (runL_congr hget_cons L _ _ 0 rfl fun j q v h1 h2 => ?_).symm
      obtain ⟨ob, h4, h5⟩ := wH_some h2
      have hji : j ≠ i := fun e => by subst e; rw [hp] at h1; cases h1; exact hne ob h4
      rw [Nat.zero_add]
      exact ⟨hsame j hji, fun hl => by rw [h5]; exact (hval j q h1 hl).2 id ob h4⟩
    cases hhp : p.hp with
    | none => exact rest fun ob => by rw [hhp]; simp
    | some r =>
      obtain ⟨j, ob⟩ := r
      by_cases hj : j = id
      · subst hj
        simp only [if_true]
        have hlater := ordH_later hH hr.cl hp hhp hr.un
        refine (runL_some hget_cons (wH_mk hhp) L _ 0 i hp hdi ?_).symm
        rw [Nat.zero_add]
        intro m q v h1 h2 h3
        exact hlater m q v h1 ((hsame _ (by omega)).symm.trans h2) h3
      · simp only [if_neg hj]
        exact rest fun ob' => by rw [hhp]; intro e; cases e; exact hj rfl
  · by_cases hpt : p.d = some t
    · have e1 : get (runE (fun k => (listed.setIfInBounds i true).getD k false) (updG G i y.n) s.e L) t = p.v (updG G i y.n) :=
        runL_some get_cons (wE_mk hpt) L _ 0 i hp hdi (noWE_NoW (oneE_later hE hp hpt))
      have hN' : t < a.tmps.size := by rw [hsz]; exact lt_of_blt (hN t hpt)
      rw [e1, hpt]
      simp only [Act.put, getD_set hN', if_true]
      exact hv
    · have e1 : get (runE (fun k => (listed.setIfInBounds i true).getD k false) (updG G i y.n) s.e L) t = get (runE (fun k => listed.getD k false) G s.e L) t := by
        refine runL_congr get_cons L _ _ 0 rfl fun j q v h1 h2 => ?_
        obtain ⟨h4, h5⟩ := wE_some h2
        have hji : j ≠ i := fun e => by subst e; rw [hp] at h1; cases h1; exact hpt h4
        rw [Nat.zero_add]
        exact ⟨hsame j hji, fun hl => by rw [h5]; exact (hval j q h1 hl).1⟩
      rw [e1]
      have h0 := (he t).mono hyz
      cases hdd : p.d with
      | none => exact h0
      | some d =>
        have hdt : d ≠ t := fun e => hpt (by rw [hdd, e])
        have hN' : d < a.tmps.size := by rw [hsz]; exact lt_of_blt (hN d hdd)
        simp only [Act.put, getD_set hN', if_neg hdt]
        exact h0
theorem InvP.step {c0 : Cx} {s : St} {L : List PO} {listed : Array Bool} {a : Act} {w : World} {i : Nat} {p : PO} {o : Oper} {Q : Exit → Act → World → Prop} (hp : L[i]? = some p) (ho : ops[i]? = some o) (hOb : Ob P ops s L i p o) (hE : oneEB L = true) (hH : ordHB ops L = true)
    (hD : depB ops L = true) (hLoc : Locs L) (hi : i < listed.size) (hr : RdyP ops (fun k => listed.getD k false) i) (hinv : InvP c0 s L listed a w) :
    wpOp P ops Q i (InvP c0 s L (listed.setIfInBounds i true)) a w := by
  obtain ⟨hdef, hsz, y, G, hyw, hle, hok, hyH, he⟩ := hinv
  subst hyw
  obtain ⟨hd, hN, hob⟩ := hOb
  unfold wpOp
  simp only [ho]
  rcases hob (fun k => listed.getD k false) G _ _ y.n hr (fun t => rfl) (fun id => rfl) with ⟨hg, h', hspec, hh'⟩ | ⟨hhp, c, v0, hv0, hG, hspec⟩
  · rw [if_pos (by simp [Region.wanted, hg])]
    refine .inl (hspec y a hok (funext fun id => hyH id) rfl (fun t => he t) _ Q fun u z hyz hzok hzH hv => ?_)
    rw [hd]
    exact InvP.put hp hN hE hH hD hLoc hi hr hdef hsz hle he hyz hzok (fun id => by rw [hzH]; exact hh' id) hv
  · have hw : Region.wanted o (yielded ops a.tmps) = c := GuardC.wanted (s := ⟨_, [], 0, 0⟩) hG (fun t => he t)
    rw [hw]
    cases c with
    | true =>
      obtain ⟨h2, hs2, hh2⟩ := hspec rfl
      rw [if_pos rfl]
      refine .inl (hs2 y a hok (funext fun id => hyH id) rfl (fun t => he t) _ Q fun u z hyz hzok hzH hv => ?_)
      rw [hd]
      refine InvP.put hp hN hE hH hD hLoc hi hr hdef hsz hle he hyz hzok (fun id => by rw [hzH, hhp]; exact hh2 id) ?_
      rw [hv0]; exact .whn (fun _ => hv) (fun h => by cases h)
    | false =>
      rw [if_neg (by decide), hd]
      refine InvP.put hp hN hE hH hD hLoc hi hr hdef hsz hle he (.refl y) hok (fun id => by rw [hhp]; exact hyH id) ?_
      rw [hv0]; exact .whn (fun h => by cases h) (fun _ => rfl)
theorem OpSpecN.frz {o : Oper} {R : Env} {h : Heap} {n id g : Nat} {e : TypeId} {sz : Nat} {xs : List (List RV)} (hs : OpSpecN P o R h n (.own id g) ((id, some (.arr g e sz xs)) :: h)) : OpSpecN P o R h n (.r (.sl xs)) ((id, none) :: h) := by
  intro x a hok hH hn he K Q hK
  refine hs x a hok hH hn he K Q fun u y k1 k2 k3 k4 => ?_
  have hHid : y.H id = some (.arr g e sz xs) := by rw [k3, hget_cons, if_pos rfl]
  let y' : Cx := { y with S := fun b => y.S b ∨ ∃ k, y.β id = some (b, k), H := hget ((id, none) :: h) }
  have hsub : ∀ i o, y'.H i = some o → i ≠ id ∧ y.H i = some o := by
    intro i o ho
    simp only [y', hget_cons] at ho
    split at ho
    · cases ho
    · rename_i hne
      refine ⟨fun e => hne e.symm, ?_⟩
      rw [k3, hget_cons, if_neg hne]; exact ho
  have hle' : y.le y' := ⟨Nat.le_refl _, rfl, rfl, rfl, fun _ _ => rfl, fun _ h => .inl h, rfl, Nat.le_refl _, fun i o ho _ => ⟨o, (hsub i o ho).2, rfl, rfl, rfl⟩⟩
  have hok' : y'.ok := by
    refine ⟨fun b hb => ?_, k2.F_lt, fun b hb => ?_, fun i o ho => ?_, fun i o b k ho hb => ?_, fun i i' o o' b k k' ho ho' => k2.inj i i' o o' b k k' (hsub _ _ ho).2 (hsub _ _ ho').2⟩
    · rcases hb with hb | ⟨k, hb⟩
      · exact k2.S_lt b hb
      · exact (k2.own id _ b k hHid hb).1
    · rcases hb with hb | ⟨k, hb⟩
      · exact k2.SF b hb
      · exact (k2.own id _ b k hHid hb).2.2
    · obtain ⟨j1, j2⟩ := k2.obj i o (hsub _ _ ho).2
      exact ⟨j1, j2.mono hle' fun _ _ _ => rfl⟩
    · obtain ⟨j1, j2, j3⟩ := k2.own i o b k (hsub _ _ ho).2 hb
      refine ⟨j1, ?_, j3⟩
      rintro (h1 | ⟨k', h1⟩)
      · exact j2 h1
      · exact (hsub _ _ ho).1 (k2.inj i id o _ b k k' (hsub _ _ ho).2 hHid hb h1)
  exact hK u y' (k1.trans hle') hok' rfl (.r (own_frozen k2 hHid k4 (fun _ h => .inl h) (fun b k hb => .inr ⟨k, hb⟩)))
end
section
variable {ops : Array Oper} {D : Nat → Bool} {G : Nat → Nat} {e : Env} {h : Heap} {L : List PO} {t : Nat}
end
end Go.Proofs.Ythhodpedkdapcaa.Al


namespace Go.Proofs.Ythhodpedkdapcaa.Al
section
variable {P : Program} {ops : Array Oper}
def Obs (P : Program) (ops : Array Oper) (s : St) (L0 : List PO) : Nat → List PO → List Oper → Prop
  | _, [], _ => True
  | _, _ :: _, [] => False
  | i, p :: L, o :: l => Ob P ops s L0 i p o ∧ Obs P ops s L0 (i + 1) L l
theorem Obs.at {s : St} {L0 : List PO} : ∀ {L : List PO} {l : List Oper} {i0 : Nat}, Obs P ops s L0 i0 L l → ∀ {j : Nat} {p : PO} {o : Oper}, L[j]? = some p → l[j]? = some o → Ob P ops s L0 (i0 + j) p o
  | _ :: _, _ :: _, i0, h, 0, _, _, h1, h2 => by cases h1; cases h2; exact h.1
  | _ :: L, _ :: l, i0, h, j + 1, p, o, h1, h2 => by
    have := Obs.at (j := j) h.2 (p := p) (o := o) (by simpa using h1) (by simpa using h2)
    rwa [show i0 + (j + 1) = i0 + 1 + j by omega]
  | _ :: _, [], _, h, _, _, _, _, _ => h.elim
  | [], _, _, _, _, _, _, h1, _ => by simp at h1
end
end Go.Proofs.Ythhodpedkdapcaa.Al


namespace Go.Proofs.Ythhodpedkdapcaa.Al
section
variable {P : Program} {c : Bool} {o : Oper} {R : Env} {h : Heap}
def ArrTy (P : Program) (t : TypeId) (n : Nat) (e : TypeId) : Prop := P.underlying t = some (.array n e) ∧ ScalTy P e
theorem fill_congr {f g : Nat → Option (Nat × Nat)} (hfg : ∀ i p, f i = some p → g i = some p) : ∀ (ps : List (Nat × Value)) (us us' : Array Value), Instr.fill f us ps = some us' → Instr.fill g us ps = some us'
  | [], _, _, h => h
  | (i, v) :: ps, us, us', h => by
    unfold Instr.fill at h ⊢
    cases hf : f i with
    | none => rw [hf] at h; cases h
    | some p =>
      obtain ⟨off, sz⟩ := p
      rw [hf] at h
      rw [hfg i _ hf]
      simp only at h ⊢
      split at h
      · cases h
      · rename_i hc
        rw [if_neg hc]
        exact fill_congr hfg ps _ _ h
def BuildArr (P : Program) (t : TypeId) (places : List (Nat × Nat)) (z : List Value) : Prop :=
  ∃ n e sz, P.underlying t = some (.array n e) ∧ (∃ i, P.info? e = some i ∧ i.size = sz) ∧ (∀ i p, places[i]? = some p → p = (i * sz, sz)) ∧ ∃ i, P.info? t = some i ∧ i.zero = some (.agg z.toArray)
theorem sp_buildArr {t : TypeId} {parts : Array (Nat × Operand)} {places : List (Nat × Nat)} {z : List Value} {q : List (Nat × AV)} {cs : List AV} (ho : o.op = .build t parts) (ht : BuildArr P t places z)
    (hp : PartsEv c R places z.length parts.toList q) (hcs : fillAV (z.map ofConst) q = cs) : OpQ P c o R h (.agg cs) := by
  intro hc y a _ _ he
  subst hcs
  obtain ⟨n, e, sz, h1, ⟨ie, h5, h6⟩, h2, i, h3, h4⟩ := ht
  obtain ⟨us', f1, f2, f3⟩ := fill_av hc he parts.toList q z.toArray (z.map ofConst) (by simp) (fun j b u k1 k2 => by
    have k2' : z[j]? = some u := by simpa using k2
    rw [List.getElem?_map, k2'] at k1
    simp only [Option.map_some, Option.some.injEq] at k1
    subst k1; exact ofConst_rep y u) (by rw [List.length_map]; exact hp)
  refine ⟨.agg us', fun w2 _ => ?_, .agg f2.symm fun j b u k1 k2 => f3 j b u k1 k2⟩
  have f1' := fill_congr (g := fun i => some (i * sz, sz)) (fun i p hp => by rw [h2 i p hp]) _ _ _ f1
  unfold execOp
  rw [ho]
  simp only [Instr.build, zeroValue, typeInfo, Sem.run_bind, run_program, Result.andThen_ok, h3, Sem.run_pure, h4, run_underlying h1, run_sizeOf h5, h6, Value.cells, Array.toList_map]
  rw [f1']
  rfl
theorem sp_idx_arr {t : TypeId} {n : Nat} {e : TypeId} {x y : Operand} {cs : List AV} {k : IntKind} {z : Int} {a : AV} (ho : o.op = .index t x y) (ht : ArrTy P t n e) (hx : Ev c R x (.agg cs)) (hy : Ev c R y (.r (.int k z)))
    (hn : cs.length = n) (h0 : c = true → 0 ≤ z) (ha : c = true → cs[z.toNat]? = some a) : OpQ P c o R h a := by
  intro hc w0 w _ _ he
  obtain ⟨h1, d, i, h2, h3, h4, h5⟩ := ht
  have hv := hx.rep he hc
  generalize hw : w.eval x = v at hv
  cases hv with
  | @agg _ us hl hall =>
    have hz := ha hc
    have hi : z.toNat < us.size := by have := (List.getElem?_eq_some_iff.1 hz).1; omega
    refine ⟨us[z.toNat], fun w2 _ => ?_, hall z.toNat a us[z.toNat] hz (Array.getElem?_eq_getElem hi)⟩
    have hin : 0 ≤ z ∧ z < n := ⟨h0 hc, by omega⟩
    unfold execOp
    rw [ho]
    simp [hw, rep_int (hy.rep he hc), Instr.index, asIntOf, run_underlying h1, hin, run_sizeOf h4, h5, part, run_isAgg h2, h3, Array.getElem?_eq_getElem hi]
theorem ms_idx_arr {α : Type} {t : TypeId} {n : Nat} {e : TypeId} {x y : Operand} {f : α → AV} {l : List α} {k : IntKind} {z : Int} {a : α} (ho : o.op = .index t x y) (ht : ArrTy P t n e) (hx : Ev c R x (.agg (l.map f))) (hy : Ev c R y (.r (.int k z)))
    (hn : l.length = n) (ha : c = true → idx l z = some a) : OpQ P c o R h (f a) :=
  sp_idx_arr ho ht hx hy (by rw [List.length_map]; exact hn) (fun hc => (idx_some (ha hc)).1) (fun hc => by rw [List.getElem?_map, (idx_some (ha hc)).2.1]; rfl)
theorem ArrTy.of {t : TypeId} {n : Nat} {e : TypeId} (h1 : P.underlying t = some (.array n e)) (h2 : ScalTy P e) : ArrTy P t n e := ⟨h1, h2⟩
theorem BuildArr.of {t : TypeId} {n : Nat} {e : TypeId} {sz b sz' : Nat} {ze : Value} {be : Nat} {places : List (Nat × Nat)} {zs : List Value} (h1 : P.underlying t = some (.array n e))
    (h2 : (P.info? e).map (fun i => (i.zero, i.size, i.bytes)) = some (some ze, sz, be)) (h4 : ∀ i p, places[i]? = some p → p = (i * sz, sz)) (h3 : (P.info? t).map (fun i => (i.zero, i.size, i.bytes)) = some (some (.agg zs.toArray), sz', b)) : BuildArr P t places zs := by
  cases hi : P.info? t with
  | none => rw [hi] at h3; cases h3
  | some i =>
    rw [hi] at h3
    simp only [Option.map_some, Option.some.injEq, Prod.mk.injEq] at h3
    exact ⟨n, e, sz, h1, size_of h2, h4, i, hi, h3.1⟩
theorem placesB {places : List (Nat × Nat)} {sz : Nat} (h : (List.range places.length).all (fun i => match places[i]? with | some p => p.1 == i * sz && p.2 == sz | none => false) = true) : ∀ i p, places[i]? = some p → p = (i * sz, sz) := by
  intro i p hp
  have := List.all_eq_true.1 h i (List.mem_range.2 (List.getElem?_eq_some_iff.1 hp).1)
  simp only [hp, Bool.and_eq_true, beq_iff_eq] at this
  obtain ⟨p1, p2⟩ := p
  simp only at this
  rw [this.1, this.2]
end
end Go.Proofs.Ythhodpedkdapcaa.Al


namespace Go.Proofs.Ythhodpedkdapcaa.Al
section
variable {P : Program} {c : Bool} {o : Oper} {R : Env} {h : Heap} {n : Nat}
end
end Go.Proofs.Ythhodpedkdapcaa.Al

