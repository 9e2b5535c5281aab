/- The program logic, a part of it. -/
import Derived.Test.YtdeglnbioiicaaaDoorAl1
import Derived.Laws.BytesString
import Derived.Lib.LaidU8
namespace Go.Proofs.YtdeglnbioiicaaaDoor.Al
section
variable {P : Program} {ops : Array Oper}
def backB (ops : Array Oper) (n : Nat) : Bool := (List.range n).all fun i => match ops[i]? with | some o => o.after.all fun e => !Region.binds .any e || decide (e.on < i) | none => false
def Obs (P : Program) (ops : Array Oper) (s : St) (L0 : List PO) : Nat → List PO → List Oper → Prop
  | _, [], _ => True
  | _, _ :: _, [] => False
  | i, p :: L, o :: l => Ob P ops s L0 i p o ∧ Obs P ops s L0 (i + 1) L l
theorem Obs.at {s : St} {L0 : List PO} : ∀ {L : List PO} {l : List Oper} {i0 : Nat}, Obs P ops s L0 i0 L l → ∀ {j : Nat} {p : PO} {o : Oper}, L[j]? = some p → l[j]? = some o → Ob P ops s L0 (i0 + j) p o
  | _ :: _, _ :: _, i0, h, 0, _, _, h1, h2 => by cases h1; cases h2; exact h.1
  | _ :: L, _ :: l, i0, h, j + 1, p, o, h1, h2 => by
    have := Obs.at (j := j) h.2 (p := p) (o := o) (by simpa using h1) (by simpa using h2)
    rwa [show i0 + (j + 1) = i0 + 1 + j by omega]
  | _ :: _, [], _, h, _, _, _, _, _ => h.elim
  | [], _, _, _, _, _, _, h1, _ => by simp at h1
def countF (listed : Array Bool) : Nat → Nat
  | 0 => 0
  | n + 1 => countF listed n + (if listed.getD n false then 0 else 1)
theorem countF_set {listed : Array Bool} {i : Nat} (hi : i < listed.size) (hun : listed.getD i false = false) : ∀ n, countF (listed.setIfInBounds i true) n + (if i < n then 1 else 0) = countF listed n
  | 0 => by simp [countF]
  | n + 1 => by
    have ih := countF_set hi hun n
    unfold countF
    by_cases hin : i = n
    · subst hin
      rw [hun]
      have : (listed.setIfInBounds i true).getD i false = true := by simp [hi]
      rw [this]
      simp at ih ⊢
      exact ih
    · rw [getD_set_ne false hin]
      have : (i < n + 1) ↔ (i < n) := by omega
      simp only [this]
      omega
theorem countF_pos {listed : Array Bool} : ∀ {n : Nat}, 0 < countF listed n → ∃ i, i < n ∧ listed.getD i false = false ∧ ∀ j, j < i → listed.getD j false = true
  | 0, h => by simp [countF] at h
  | n + 1, h => by
    by_cases h0 : 0 < countF listed n
    · obtain ⟨i, h1, h2, h3⟩ := countF_pos h0
      exact ⟨i, by omega, h2, h3⟩
    · have hall : ∀ m, m ≤ n → countF listed m = 0 := by
        intro m hm
        have : countF listed m ≤ countF listed n := by
          clear h h0
          induction n with
          | zero => have : m = 0 := by omega
                    subst this; exact Nat.le_refl _
          | succ n ih =>
            by_cases hmn : m = n + 1
            · subst hmn; exact Nat.le_refl _
            · exact Nat.le_trans (ih (by omega)) (Nat.le_add_right ..)
        omega
      unfold countF at h
      refine ⟨n, by omega, ?_, fun j hj => ?_⟩
      · cases hl : listed.getD n false with
        | false => rfl
        | true => rw [hl] at h; simp at h; omega
      · have := hall (j + 1) (by omega)
        unfold countF at this
        cases hl : listed.getD j false with
        | true => rfl
        | false => rw [hl] at this; simp at this
theorem countF_zero {listed : Array Bool} : ∀ {n : Nat}, countF listed n = 0 → ∀ j, j < n → listed.getD j false = true
  | 0, _, j, hj => by omega
  | n + 1, h, j, hj => by
    unfold countF at h
    by_cases hjn : j = n
    · subst hjn
      cases hl : listed.getD j false with
      | true => rfl
      | false => rw [hl] at h; simp at h
    · exact countF_zero (n := n) (by omega) j (by omega)
theorem countF_all {listed : Array Bool} (h : ∀ j, listed.getD j false = false) : ∀ n, countF listed n = n
  | 0 => rfl
  | n + 1 => by unfold countF; rw [countF_all h n, h n]; simp
theorem wpAny_par {c0 : Cx} {s : St} {L : List PO} {n g : Nat} {l : List Oper} {Q : Exit → Act → World → Prop} (hl : l.toArray = ops) (hn : n < ops.size) (hLn : L.length = n) (hback : backB ops n = true) (hs : Region.sinkB .any ops n = true) (hc : Region.chainB .any ops n = true)
    (hD : depB ops L = true) (hE : oneEB L = true) (hH : ordHB ops L = true) (hLoc : Locs L) (hOb : Obs P ops s L 0 L l)
    (hend : ∀ listed a w, HeadInv .any ops n listed → (∀ j, j < n → listed.getD j false = true) → InvP c0 s L listed a w → wpAny P .any ops Q g listed a w) :
    ∀ (f : Nat) (listed : Array Bool) (a : Act) (w : World), countF listed n = f → HeadInv .any ops n listed → InvP c0 s L listed a w → wpAny P .any ops Q (f + g) listed a w := by
  intro f
  induction f with
  | zero =>
    intro listed a w hcnt inv hinv
    rw [Nat.zero_add]
    exact hend listed a w inv (countF_zero hcnt) hinv
  | succ f ih =>
    intro listed a w hcnt inv hinv
    rw [show f + 1 + g = (f + g) + 1 by omega]
    obtain ⟨i0, hi0, hun0, hbefore⟩ := countF_pos (listed := listed) (n := n) (by omega)
    have hs0 : i0 < listed.size := by rw [inv.size]; omega
    have hready0 : i0 ∈ Region.ready .any ops listed := by
      refine mem_ready.2 ⟨getD_in hs0 hun0, ?_⟩
      have hio : ∃ o, ops[i0]? = some o := ⟨ops[i0]'(by omega), by simp [Array.getElem?_eq_getElem (show i0 < ops.size by omega)]⟩
      obtain ⟨o, ho⟩ := hio
      refine ⟨o, ho, fun e he hb => ?_⟩
      have h1 := List.all_eq_true.1 hback i0 (List.mem_range.2 hi0)
      simp only [ho] at h1
      have h2 := (Array.all_eq_true_iff_forall_mem.1 h1) e he
      simp only [hb, Bool.not_true, Bool.false_or, decide_eq_true_eq] at h2
      exact hbefore _ h2
    refine ⟨fun h => (by rw [h] at hready0; cases hready0), fun i hi => ?_⟩
    have hin : i < n := by
      rcases Nat.lt_or_ge i n with h | h
      · exact h
      · exact absurd hi (tail_waits hs hc hn inv _ i0 rfl hi0 (getD_in hs0 hun0) i h)
    obtain ⟨hun, o, ho, hall⟩ := mem_ready.1 hi
    have hunf := getD_both hun
    have his : i < listed.size := by rw [inv.size]; omega
    obtain ⟨p, hp⟩ : ∃ p, L[i]? = some p := ⟨L[i]'(by omega), by simp [List.getElem?_eq_getElem (show i < L.length by omega)]⟩
    have hol : l[i]? = some o := by rw [← ho, ← hl]; simp
    have hob := hOb.at hp hol
    rw [Nat.zero_add] at hob
    have hrd : RdyP ops (fun k => listed.getD k false) i := by
      refine ⟨fun j k hj hk => ?_, fun k hk => ?_, hunf⟩
      · obtain ⟨oj, hoj, e, he, hb, hon⟩ := Region.waitsFor_spec hk
        rw [← hon]; exact inv.closed j oj hoj hj e he hb
      · obtain ⟨oi, hoi, e, he, hb, hon⟩ := Region.waitsFor_spec hk
        have : oi = o := Option.some.inj (hoi.symm.trans ho)
        subst this
        rw [← hon]; exact hall e he hb
    have step := InvP.step (Q := Q) hp ho hob hE hH hD hLoc his hrd hinv
    refine wpOp_mono (fun a' w' h' => ih _ a' w' ?_ (inv.set hi hin) h') step
    have := countF_set his hunf n
    rw [if_pos hin] at this
    omega
def regPB (ops : Array Oper) (n : Nat) (L : List PO) : Bool :=
  decide (n < ops.size) && decide (L.length = n) && backB ops n && Region.sinkB .any ops n && Region.chainB .any ops n && depB ops L && oneEB L && ordHB ops L
    && Region.seqB .any ops (ops.size - n) n (setAll (Array.replicate ops.size false) (List.range n))
theorem setAll_getD : ∀ (is : List Nat) (l : Array Bool) (j : Nat), (∀ i ∈ is, i < l.size) → (setAll l is).getD j false = (l.getD j false || is.contains j)
  | [], l, j, _ => by simp [setAll]
  | i :: is, l, j, h => by
    show (setAll (l.setIfInBounds i true) is).getD j false = _
    rw [setAll_getD is _ j (fun k hk => by simp; exact h k (List.mem_cons_of_mem _ hk))]
    by_cases hij : i = j
    · subst hij
      have := h i (List.mem_cons_self ..)
      simp [this]
    · rw [getD_set_ne false hij]
      simp [Ne.symm hij]
theorem runL_all {α : Type} {wr : PO → Option (Nat × ((Nat → Nat) → α))} {D D' : Nat → Bool} {G : Nat → Nat} : ∀ (L : List PO) (e : List (Nat × α)) (k : Nat), (∀ j, k ≤ j → j < k + L.length → D j = D' j) → runL wr D G e L k = runL wr D' G e L k
  | [], _, _, _ => rfl
  | p :: L, e, k, h => by
    have h0 := h k (Nat.le_refl _) (by simp)
    have ih := fun e => runL_all (wr := wr) (G := G) L e (k + 1) (fun j h1 h2 => h j (by omega) (by simp; omega))
    unfold runL
    rw [h0]
    simp only [ih]
theorem AW.regionP {id : Nat} {l : List Oper} {s : St} {Q : Exit → St → Prop} (n : Nat) (L : List PO) {lt : List Oper} (hm : P.follows .mixedOrders = true) (hB : regPB l.toArray n L = true) (hLoc : Locs L) (e4 : l.drop n = lt)
    (hOb : Obs P l.toArray s L 0 L l)
    (h : ∀ (G : Nat → Nat) (n' : Nat), AOps P l.toArray lt ⟨runE (fun _ => true) G s.e L, runH (fun _ => true) G s.h L, n', s.N⟩ (Q .normal)) : AW P (.region id l.toArray true) Q s := by
  intro c0 a w ⟨hdef, hsz, y, hyw, hle, hok, hH, hn, he⟩
  subst hyw
  obtain ⟨r1, r2⟩ := Cx.redraw hok
  simp only [regPB, Bool.and_eq_true, decide_eq_true_eq] at hB
  obtain ⟨⟨⟨⟨⟨⟨⟨⟨b1, b2⟩, b3⟩, b4⟩, b5⟩, b6⟩, b7⟩, b8⟩, b9⟩ := hB
  refine wp_region_any hm ?_
  generalize hz : ({ y with w := { y.w with drawn := y.w.drawn + 1 } } : Cx) = z at r1 r2
  have hzw : z.w = { y.w with drawn := y.w.drawn + 1 } := by rw [← hz]
  have hzH : z.H = hget s.h := by rw [← hz]; exact hH
  rw [← hzw]
  have hrep : ∀ j, (Array.replicate l.toArray.size false).getD j false = false := getD_replicate_false _
  have key := wpAny_par (P := P) (c0 := c0) (s := s) (L := L) (n := n) (g := l.toArray.size - n) (l := l) (Q := fun e a' w' => ∃ s', Q e s' ∧ Sim c0 s' a' w') rfl b1 b2 b3 b4 b5 b6 b7 b8 hLoc hOb
    (fun listed a' w' inv hall hinv => by
      have hlisted : listed = setAll (Array.replicate l.toArray.size false) (List.range n) := by
        have hsz1 : listed.size = (setAll (Array.replicate l.toArray.size false) (List.range n)).size := by rw [inv.size, setAll_size]; simp
        refine Array.ext hsz1 fun j h1 h2 => ?_
        have h3 := setAll_getD (List.range n) (Array.replicate l.toArray.size false) j (fun i hi => by have := List.mem_range.1 hi; rw [Array.size_replicate]; omega)
        rw [hrep] at h3
        have e1 : listed[j] = listed.getD j false := by unfold Array.getD; rw [dif_pos h1]; rfl
        have e2 : (setAll (Array.replicate l.toArray.size false) (List.range n))[j] = (setAll (Array.replicate l.toArray.size false) (List.range n)).getD j false := by unfold Array.getD; rw [dif_pos h2]; rfl
        rw [e1, e2, h3]
        by_cases hj : j < n
        · rw [hall j hj]; simp [hj]
        · have hjl : j < l.toArray.size := by rw [inv.size] at h1; exact h1
          rw [getD_both (inv.tail j (by omega) hjl)]; simp [hj]
      obtain ⟨i1, i2, z', G, i3, i4, i5, i6, i7⟩ := hinv
      subst i3
      have hdl : (l.drop n).length = l.toArray.size - n := by simp
      have hD : ∀ j, 0 ≤ j → j < 0 + L.length → (fun _ => true) j = (fun k => listed.getD k false) j := fun j _ hj => (hall j (by omega)).symm
      have := wpAny_of_seq (P := P) (md := .any) (ops := l.toArray) (Q' := fun e a' w' => ∃ s', Q e s' ∧ Sim c0 s' a' w') (l.drop n) n listed a' z'.w (fun j => by simp [List.getElem?_drop]) (by rw [hdl, hlisted]; exact b9) ?_
      · rwa [hdl] at this
      · rw [e4]
        refine h G z'.n c0 a' z'.w ⟨i1, i2, z', rfl, i4, i5, funext fun id => ?_, rfl, fun t => ?_⟩ _ fun s'' a'' w'' j1 j2 => ⟨s'', j1, j2⟩
        · rw [i6]; show _ = hget (runL _ _ _ _ _ _) _; rw [runL_all L _ 0 hD]
        · show AVRep z' (get (runL _ _ _ _ _ _) t) _
          rw [runL_all L _ 0 hD]; exact i7 t)
    n (Array.replicate l.toArray.size false) a z.w (countF_all hrep n)
    ⟨by simp, fun j oj _ hl => (by rw [hrep] at hl; cases hl), fun t _ ht => getD_in (by simpa using ht) (hrep _)⟩
    ⟨hdef, hsz, z, fun _ => 0, rfl, hle.trans r1, r2, fun id => by rw [hzH]; exact (runL_none hget_cons L _ 0 fun j p _ _ h1 => by rw [hrep] at h1; cases h1).symm, fun t => by
      have e1 : get (runE (fun k => (Array.replicate l.toArray.size false).getD k false) (fun _ => 0) s.e L) t = get s.e t := runL_none get_cons L _ 0 fun j p _ _ h1 => by rw [hrep] at h1; cases h1
      rw [e1]
      exact (he t).mono r1⟩
  have e : n + (l.toArray.size - n) = l.toArray.size := by omega
  rw [e] at key
  exact key
end
end Go.Proofs.YtdeglnbioiicaaaDoor.Al


namespace Go.Proofs.YtdeglnbioiicaaaDoor.Al
section
variable {P : Program} {c : Bool} {o : Oper} {R : Env} {h : Heap}
def ArrTy (P : Program) (t : TypeId) (n : Nat) (e : TypeId) : Prop := P.underlying t = some (.array n e) ∧ ScalTy P e
def BuildArr (P : Program) (t : TypeId) (places : List (Nat × Nat)) (z : List Value) : Prop :=
  ∃ n e sz, P.underlying t = some (.array n e) ∧ (∃ i, P.info? e = some i ∧ i.size = sz) ∧ (∀ i p, places[i]? = some p → p = (i * sz, sz)) ∧ ∃ i, P.info? t = some i ∧ i.zero = some (.agg z.toArray)
theorem ArrTy.of {t : TypeId} {n : Nat} {e : TypeId} (h1 : P.underlying t = some (.array n e)) (h2 : ScalTy P e) : ArrTy P t n e := ⟨h1, h2⟩
theorem BuildArr.of {t : TypeId} {n : Nat} {e : TypeId} {sz b sz' : Nat} {ze : Value} {be : Nat} {places : List (Nat × Nat)} {zs : List Value} (h1 : P.underlying t = some (.array n e))
    (h2 : (P.info? e).map (fun i => (i.zero, i.size, i.bytes)) = some (some ze, sz, be)) (h4 : ∀ i p, places[i]? = some p → p = (i * sz, sz)) (h3 : (P.info? t).map (fun i => (i.zero, i.size, i.bytes)) = some (some (.agg zs.toArray), sz', b)) : BuildArr P t places zs := by
  cases hi : P.info? t with
  | none => rw [hi] at h3; cases h3
  | some i =>
    rw [hi] at h3
    simp only [Option.map_some, Option.some.injEq, Prod.mk.injEq] at h3
    exact ⟨n, e, sz, h1, size_of h2, h4, i, hi, h3.1⟩
end
end Go.Proofs.YtdeglnbioiicaaaDoor.Al


namespace Go.Proofs.YtdeglnbioiicaaaDoor.Al
section
variable {P : Program} {c : Bool} {o : Oper} {R : Env} {h : Heap} {n : Nat}
end
end Go.Proofs.YtdeglnbioiicaaaDoor.Al


namespace Go.Proofs.YtdeglnbioiicaaaDoor.Al
def UwE2 (c : Bool) : Env → Env → Prop
  | [], _ => True
  | (t, v) :: r, e => (get e t = v ∨ get e t = .whn c v ∨ (∃ b v0, get e t = .whn (c && b) v0 ∧ v = .whn b v0) ∨ ∃ b1 b2 v0, get e t = .whn ((c && b1) && b2) v0 ∧ v = .whn (b1 && b2) v0) ∧ UwE2 c r e
theorem UwE2.get {c : Bool} {e' e : Env} (h : UwE2 c e' e) (t : Nat) : Al.get e' t = .any ∨ Al.get e t = Al.get e' t ∨ Al.get e t = .whn c (Al.get e' t) ∨
    (∃ b v0, Al.get e t = .whn (c && b) v0 ∧ Al.get e' t = .whn b v0) ∨ ∃ b1 b2 v0, Al.get e t = .whn ((c && b1) && b2) v0 ∧ Al.get e' t = .whn (b1 && b2) v0 := by
  induction e' with
  | nil => exact .inl rfl
  | cons p r ih =>
    obtain ⟨d, v⟩ := p
    rw [get_cons]
    split
    · rename_i hd; subst hd; exact .inr h.1
    · exact ih h.2
end Go.Proofs.YtdeglnbioiicaaaDoor.Al


namespace Go.Proofs.YtdeglnbioiicaaaDoor.Al
section
variable {P : Program} {c : Bool} {o : Oper} {R : Env} {h : Heap} {n : Nat}
variable {α : Type} {f : α → List RV}
end
end Go.Proofs.YtdeglnbioiicaaaDoor.Al


namespace Go.Proofs.YtdeglnbioiicaaaDoor.Al
section
variable {P : Program} {c : Bool} {o : Oper} {R : Env} {h : Heap} {n : Nat}
theorem sp_bAnd {t t' : TypeId} {x y : Operand} {k : IntKind} {m n : Int} (ho : o.op = .binOp .and t x y t') (hx : Ev c R x (.r (.int k m))) (hy : Ev c R y (.r (.int k n))) : OpQ P c o R h (.r (.int k (bAnd k m n))) :=
  sp_binop ho hx hy (fun w => by simp [binOp, Op.intBits, bAnd]) (fun _ _ => .int _ _)
theorem sp_bOr {t t' : TypeId} {x y : Operand} {k : IntKind} {m n : Int} (ho : o.op = .binOp .or t x y t') (hx : Ev c R x (.r (.int k m))) (hy : Ev c R y (.r (.int k n))) : OpQ P c o R h (.r (.int k (bOr k m n))) :=
  sp_binop ho hx hy (fun w => by simp [binOp, Op.intBits, bOr]) (fun _ _ => .int _ _)
theorem sp_bAndNot {t t' : TypeId} {x y : Operand} {k : IntKind} {m n : Int} (ho : o.op = .binOp .andNot t x y t') (hx : Ev c R x (.r (.int k m))) (hy : Ev c R y (.r (.int k n))) : OpQ P c o R h (.r (.int k (bAndNot k m n))) :=
  sp_binop ho hx hy (fun w => by simp [binOp, Op.intBits, bAndNot]) (fun _ _ => .int _ _)
theorem sp_shl {t t' : TypeId} {x y : Operand} {k k2 : IntKind} {m : Int} {b : Nat} (ho : o.op = .binOp .shl t x y t') (hx : Ev c R x (.r (.int k m))) (hy : Ev c R y (.r (.int k2 b))) : OpQ P c o R h (.r (.int k (shlC k m b))) := by
  intro hc z a _ _ he
  refine ⟨.int k (shlC k m b), fun w2 hag => ?_, .r (.int _ _)⟩
  unfold execOp
  rw [ho]
  simp [rep_int (hx.rep he hc), rep_int (hy.rep he hc), eqGuard, binOp, Op.shift, shlC]
  intro hb; omega
theorem sp_shr {t t' : TypeId} {x y : Operand} {k k2 : IntKind} {m : Int} {b : Nat} (ho : o.op = .binOp .shr t x y t') (hx : Ev c R x (.r (.int k m))) (hy : Ev c R y (.r (.int k2 b))) : OpQ P c o R h (.r (.int k (shrC k m b))) := by
  intro hc z a _ _ he
  refine ⟨.int k (shrC k m b), fun w2 hag => ?_, .r (.int _ _)⟩
  unfold execOp
  rw [ho]
  simp [rep_int (hx.rep he hc), rep_int (hy.rep he hc), eqGuard, binOp, Op.shift, shrC]
  intro hb; omega
def TabTy (P : Program) (t : TypeId) (n : Nat) (e : TypeId) (sz : Nat) : Prop := P.underlying t = some (.array n e) ∧ ∃ i, P.info? e = some i ∧ i.size = sz
theorem tabf_get {α : Type} {f : α → List RV} {sz : Nat} (hf : ∀ a, (f a).length = sz) : ∀ (l : List α) (i j : Nat) (a : α) (d : RV), l[i]? = some a → (f a)[j]? = some d → (l.flatMap f)[i * sz + j]? = some d
  | [], i, _, _, _, h, _ => by simp at h
  | x :: l, 0, j, a, d, h, hd => by
    have hx : x = a := by simpa using h
    subst hx
    have hj : j < (f x).length := (List.getElem?_eq_some_iff.1 hd).1
    rw [List.flatMap_cons, Nat.zero_mul, Nat.zero_add, List.getElem?_append_left hj]
    exact hd
  | x :: l, i + 1, j, a, d, h, hd => by
    have ih := tabf_get hf l i j a d (by simpa using h) hd
    rw [List.flatMap_cons, List.getElem?_append_right (by rw [hf, Nat.add_mul]; omega), hf]
    rw [show (i + 1) * sz + j - sz = i * sz + j by rw [Nat.add_mul]; omega]
    exact ih
theorem ms_idx_tab {α : Type} {f : α → List RV} {t e : TypeId} {sz nn g : Nat} {y : Operand} {l : List α} {k : IntKind} {z : Int} {a : α} (ho : o.op = .indexAddr t (.global g) y) (ht : TabTy P t nn e sz) (hT : theTabs g = some (l.flatMap f)) (hn : l.length = nn)
    (hy : Ev c R y (.r (.int k z))) (hlen : ∀ a, (f a).length = sz) (h0 : 0 < sz) (hi : c = true → idx l z = some a) : OpQ P c o R h (.rop (f a) 0) := by
  intro hc x w hok hH he
  obtain ⟨ht1, ii, hi1, hi2⟩ := ht
  obtain ⟨z0, hz, hlt⟩ := idx_some (hi hc)
  have hrep := hok.tabs g _ hT
  generalize hv : (Value.pointer (some ⟨g, 0, none⟩)) = v at hrep
  cases hrep with
  | @rop _ _ b off u hS hcell hrr =>
    simp only [Value.pointer.injEq, Option.some.injEq, Addr.mk.injEq, and_true, Nat.add_zero] at hv
    obtain ⟨rfl, hoff⟩ := hv
    subst hoff
    have hne : (l.flatMap f) ≠ [] := by
      intro e0
      have hj : 0 < (f a).length := by rw [hlen]; exact h0
      have := tabf_get hlen l z.toNat 0 a _ hz (List.getElem?_eq_getElem hj)
      rw [e0] at this; simp at this
    refine ⟨.pointer (some ⟨g, z.toNat * sz + 0, none⟩), fun w2 hag => ?_, .rop (fun j => u (z.toNat * sz + j)) (fun _ => hS hne) (fun j d hj => ?_) (fun j d hj => ?_)⟩
    · unfold execOp
      rw [ho]
      have hlt' : z < (nn : Int) := by rw [← hn]; exact hlt
      have hg : w.eval (.global g) = .pointer (some ⟨g, 0, none⟩) := rfl
      simp [hg, rep_int (hy.rep he hc), Instr.indexAt, Instr.sureAddr, asIntOf, run_underlying ht1, z0, hlt', run_sizeOf hi1, hi2, Addr.add_lit]
    · have h1 := tabf_get hlen l z.toNat j a d hz hj
      have := hcell _ _ h1
      simpa using this
    · have h1 := tabf_get hlen l z.toNat j a d hz hj
      exact hrr _ _ h1
end
end Go.Proofs.YtdeglnbioiicaaaDoor.Al


namespace Go.Proofs.YtdeglnbioiicaaaDoor.Al
section
variable {P : Program} {c : Bool} {o : Oper} {R : Env} {h : Heap} {n : Nat}
theorem extract_list (s : List UInt8) (l m : Nat) : (⟨s.toArray⟩ : ByteArray).extract l m = ⟨((s.drop l).take (m - l)).toArray⟩ := by
  apply ByteArray.ext
  rw [ByteArray.data_extract]
  simp [List.extract_toArray]
theorem ms_slice_str {t : TypeId} {x : Operand} {lo hi : Option Operand} {s r : List UInt8} {zl zh : Int} (ho : o.op = .slice t x lo hi none) (ht : P.underlying t = some .string) (hx : Ev c R x (.r (.str s)))
    (hlo : BndI c R 0 lo zl) (hhi : BndI c R s.length hi zh) (hs : c = true → slc s zl zh = some r) : OpQ P c o R h (.r (.str r)) := by
  intro hc z w _ _ he
  obtain ⟨h1, h2, h3, rfl⟩ := slc_some (hs hc)
  have hsz : (⟨s.toArray⟩ : ByteArray).size = s.length := rfl
  refine ⟨.string ⟨((s.drop zl.toNat).take (zh.toNat - zl.toNat)).toArray⟩, fun w2 hag => ?_, by have := RRep.str (w := z.w) (S := z.S) ⟨((s.drop zl.toNat).take (zh.toNat - zl.toNat)).toArray⟩; exact .r this⟩
  have hbnd : ∀ W, (Instr.sliceBounds false s.length s.length (lo.map w.eval) (hi.map w.eval) none).run P W = .ok (zl.toNat, zh.toNat, s.length) W := by
    intro W
    cases hi with
    | none =>
      simp only [BndI] at hhi
      subst hhi
      cases lo with
      | none => simp only [BndI] at hlo; subst hlo; simp [Instr.sliceBounds]
      | some v =>
        obtain ⟨k, hk⟩ := hlo
        have hr : ∀ W, (Instr.sliceBound (w.eval v) s.length .sliceB).run P W = .ok zl.toNat W := fun W => by rw [rep_int (hk.rep he hc), run_bound h1 (by omega)]
        simp [Instr.sliceBounds, hr]
    | some v2 =>
      obtain ⟨k2, hk2⟩ := hhi
      have hr2 : ∀ W, (Instr.sliceBound (w.eval v2) s.length .sliceAlen).run P W = .ok zh.toNat W := fun W => by rw [rep_int (hk2.rep he hc), run_bound (by omega) (by omega)]
      cases lo with
      | none => simp only [BndI] at hlo; subst hlo; simp [Instr.sliceBounds, hr2]
      | some v =>
        obtain ⟨k, hk⟩ := hlo
        have hr : ∀ W, (Instr.sliceBound (w.eval v) zh.toNat .sliceB).run P W = .ok zl.toNat W := fun W => by rw [rep_int (hk.rep he hc), run_bound h1 (by omega)]
        simp [Instr.sliceBounds, hr, hr2]
  unfold execOp
  rw [ho]
  simp [rep_str (hx.rep he hc), Instr.sliceAt, Instr.slice, run_underlying ht, hsz, hbnd, extract_list]
end
end Go.Proofs.YtdeglnbioiicaaaDoor.Al


namespace Go.Proofs.YtdeglnbioiicaaaDoor.Al
open Go.Lib
theorem tab_rep {W : World} {g : Nat} {row : List RV} (h : ∀ j d, row[j]? = some d → ∃ v, W.cell? ⟨g, j, none⟩ = some v ∧ RRep W (· < W.heap.size) d v) : AVRep (Cx.start W) (.rop row 0) (.pointer (some ⟨g, 0, none⟩)) := by
  have hlt : row ≠ [] → g < W.heap.size := by
    intro hne
    obtain ⟨d, hd⟩ : ∃ d, row[0]? = some d := by
      cases row with
      | nil => exact absurd rfl hne
      | cons d r => exact ⟨d, rfl⟩
    obtain ⟨v, h1, _⟩ := h 0 d hd
    unfold World.cell? at h1
    rcases Nat.lt_or_ge g W.heap.size with h2 | h2
    · exact h2
    · rw [Array.getElem?_eq_none h2] at h1; cases h1
  exact AVRep.rop (x := Cx.start W) (row := row) (k := 0) (b := g) (off := 0) (fun j => (W.cell? ⟨g, j, none⟩).getD undef) hlt
    (fun j d hj => by obtain ⟨v, h1, _⟩ := h j d hj; rw [Nat.zero_add]; show W.cell? _ = _; rw [h1]; rfl)
    (fun j d hj => by obtain ⟨v, h1, h2⟩ := h j d hj; rw [h1]; exact h2)
theorem flat1_get {α β : Type} (f : α → β) : ∀ (l : List α) (j : Nat), (l.flatMap fun z => [f z])[j]? = (l[j]?).map f
  | [], j => by simp
  | x :: l, 0 => by simp
  | x :: l, j + 1 => by
    have := flat1_get f l j
    rw [List.flatMap_cons, List.singleton_append, List.getElem?_cons_succ, this, List.getElem?_cons_succ]
theorem flat2_get {α β : Type} (f g : α → β) : ∀ (l : List α) (j : Nat) (d : β), (l.flatMap fun z => [f z, g z])[j]? = some d → ∃ i a, l[i]? = some a ∧ ((j = 2 * i ∧ d = f a) ∨ (j = 2 * i + 1 ∧ d = g a))
  | [], j, d, h => by simp at h
  | x :: l, 0, d, h => by
    have : f x = d := by simpa using h
    exact ⟨0, x, rfl, .inl ⟨rfl, this.symm⟩⟩
  | x :: l, 1, d, h => by
    have : g x = d := by simpa using h
    exact ⟨0, x, rfl, .inr ⟨rfl, this.symm⟩⟩
  | x :: l, j + 2, d, h => by
    rw [List.flatMap_cons] at h
    have h' : (l.flatMap fun z => [f z, g z])[j]? = some d := by simpa using h
    obtain ⟨i, a, h1, h2⟩ := flat2_get f g l j d h'
    refine ⟨i + 1, a, by simpa using h1, ?_⟩
    rcases h2 with ⟨h2, h3⟩ | ⟨h2, h3⟩
    · exact .inl ⟨by omega, h3⟩
    · exact .inr ⟨by omega, h3⟩
theorem tabs_start {P : Program} {W : World} {d1 d2 : DataW Unit} {t1 t2 e1 e2 : TypeId} {fs : Array Field} (h1 : VarReads P W "unicode/utf8.first" d1) (hd1 : d1 = tabData .u8 tabFirst) (n1 : P.globalNamed "unicode/utf8.first" = some gFirst)
    (y1 : (P.globals[gFirst]?).map (·.type) = some t1) (u1 : P.underlying t1 = some (.array 256 e1)) (ue : P.underlying e1 = some (.int .u8)) (ce : P.cellsOf e1 = 1) (ct : P.cellsOf t1 = 256)
    (h2 : VarReads P W "unicode/utf8.acceptRanges" d2) (hd2 : d2 = .agg (tabAccept0.map fun p => .agg ([p.1, p.2].map fun z => .lit (.int .u8 z)))) (n2 : P.globalNamed "unicode/utf8.acceptRanges" = some gAccept)
    (y2 : (P.globals[gAccept]?).map (·.type) = some t2) (u2 : P.underlying t2 = some (.array 16 e2)) (us : P.underlying e2 = some (.struct fs)) (hfs : ∀ (i : Nat) (f : Field), fs[i]? = some f → P.underlying f.type = some (.int .u8) ∧ f.offset = i ∧ P.cellsOf f.type = 1)
    (hsz : fs.size = 2) (c2 : P.cellsOf e2 = 2) : TabsOk (Cx.start W) := by
  intro g row hg
  unfold theTabs at hg
  by_cases hF : g = gFirst
  · rw [if_pos hF] at hg
    cases hg
    subst hF
    obtain ⟨g, t, cs, fuel, p, hg, hty, hvar, hd⟩ := h1
    obtain rfl := Option.some.inj (n1.symm.trans hg)
    obtain rfl := Option.some.inj (y1.symm.trans hty)
    subst hd1
    have hcs := cells_of_tab u1 ue ce ct hd
    refine tab_rep fun j d hj => ?_
    rw [flat1_get, Option.map_eq_some_iff] at hj
    obtain ⟨z, hz, rfl⟩ := hj
    refine ⟨.int .u8 z, ?_, .int _ _⟩
    rw [World.var?_cell hg hvar j, ← Array.getElem?_toList, hcs, List.getElem?_map, hz]; rfl
  · rw [if_neg hF] at hg
    by_cases hA : g = gAccept
    · rw [if_pos hA] at hg
      cases hg
      subst hA
      obtain ⟨g, t, cs, fuel, p, hg, hty, hvar, hd⟩ := h2
      obtain rfl := Option.some.inj (n2.symm.trans hg)
      obtain rfl := Option.some.inj (y2.symm.trans hty)
      subst hd2
      refine tab_rep fun j d hj => ?_
      obtain ⟨i, a, hi, hja⟩ := flat2_get _ _ _ _ _ hj
      have hil : i < 16 := (List.getElem?_eq_some_iff.1 hi).1
      obtain ⟨fuel', d', q, hdi, he⟩ := array_elem u2 hd i hil
      rw [List.getElem?_map, hi] at hdi
      cases hdi
      rw [c2] at he
      have hcs := ints_of_struct us hfs (by rw [c2, hsz]) he
      have e0 := congrArg (·[0]?) hcs
      have e1 := congrArg (·[1]?) hcs
      simp only [List.getElem?_take, List.getElem?_drop] at e0 e1
      rcases hja with ⟨rfl, rfl⟩ | ⟨rfl, rfl⟩
      · refine ⟨.int .u8 a.1, ?_, .int _ _⟩
        rw [World.var?_cell hg hvar (2 * i), ← Array.getElem?_toList]
        simpa [Nat.mul_comm] using e0
      · refine ⟨.int .u8 a.2, ?_, .int _ _⟩
        rw [World.var?_cell hg hvar (2 * i + 1), ← Array.getElem?_toList]
        simpa [Nat.mul_comm] using e1
    · rw [if_neg hA] at hg; cases hg
end Go.Proofs.YtdeglnbioiicaaaDoor.Al

