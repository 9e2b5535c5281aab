/- The program logic, a part of it. -/
import Derived.Test.YthoepnnckmfipaaGreatDoorAl1
import Derived.Laws.BytesString
import Derived.Laws.RangeString
import Derived.Lib.LaidU8
import Derived.OrdersHeld
import Derived.Shelf.Unicode.ValidAny
namespace Go.Proofs.YthoepnnckmfipaaGreatDoor.Al
section
variable {P : Program} {ops : Array Oper} {md : Region.Mode} {Q : Exit → Act → World → Prop} {S : World → Prop}
def wpAnyM (P : Program) (md : Region.Mode) (ops : Array Oper) (Q : Exit → Act → World → Prop) (S : World → Prop) (L : Array Bool → Act → World → Prop) : Nat → Array Bool → Act → World → Prop
  | 0, listed, a, w => L listed a w
  | f + 1, listed, a, w => Region.ready md ops listed ≠ [] ∧ ∀ i ∈ Region.ready md ops listed, wpOp P ops Q i (fun a' w' => S w' ∧ wpAnyM P md ops Q S L f (listed.setIfInBounds i true) a' w') a w
theorem wpAny_of_M {g : Nat} {L : Array Bool → Act → World → Prop} (hL : ∀ listed a w, L listed a w → wpAny P md ops Q g listed a w) :
    ∀ (f : Nat) (listed : Array Bool) (a : Act) (w : World), wpAnyM P md ops Q S L f listed a w → wpAny P md ops Q (f + g) listed a w
  | 0, listed, a, w, h => by rw [Nat.zero_add]; exact hL _ _ _ h
  | f + 1, listed, a, w, h => by
    rw [show f + 1 + g = (f + g) + 1 by omega]
    exact ⟨fun h0 => absurd h0 h.1, fun i hi => wpOp_mono (fun a' w' h' => wpAny_of_M hL f _ a' w' h'.2) (h.2 i hi)⟩
structure HI (md : Region.Mode) (ops : Array Oper) (n : Nat) (l0 listed : Array Bool) : Prop where
  size : listed.size = ops.size
  closed : ∀ j oj, ops[j]? = some oj → listed.getD j false = true → l0.getD j false = true ∨ ∀ e ∈ oj.after, Region.binds md e = true → listed.getD e.on false = true
  tail : ∀ t, n ≤ t → t < ops.size → listed.getD t true = false
  mono : ∀ j, l0.getD j false = true → listed.getD j false = true
theorem HI.set {n i : Nat} {l0 listed : Array Bool} (inv : HI md ops n l0 listed) (hi : i ∈ Region.ready md ops listed) (hin : i < n) : HI md ops n l0 (listed.setIfInBounds i true) := by
  obtain ⟨_, oi, hoi, hall⟩ := mem_ready.1 hi
  refine ⟨by simp [inv.size], fun j oj hj hl => ?_, fun t ht ht' => by rw [getD_set_ne true (by omega)]; exact inv.tail t ht ht', fun j hj => getD_set_true (inv.mono j hj)⟩
  by_cases hij : i = j
  · subst hij
    have : oj = oi := Option.some.inj (hj.symm.trans hoi)
    subst this
    exact .inr fun e he hb => getD_set_true (hall e he hb)
  · rw [getD_set_ne false hij] at hl
    rcases inv.closed j oj hj hl with h | h
    · exact .inl h
    · exact .inr fun e he hb => getD_set_true (h e he hb)
def sink0 (md : Region.Mode) (ops : Array Oper) (n : Nat) (l0 : Array Bool) : Bool :=
  (List.range n).all fun i => l0.getD i false || (List.range (n + 1)).any fun j => decide (i < j) && !l0.getD j false && Region.waitsFor md ops j i
theorem tail_waits0 {n : Nat} {l0 listed : Array Bool} (hs : sink0 md ops n l0 = true) (hc : Region.chainB md ops n = true) (hn : n < ops.size) (inv : HI md ops n l0 listed) :
    ∀ (d i : Nat), n - i = d → i < n → listed.getD i true = false → ∀ t, n ≤ t → t ∉ Region.ready md ops listed := by
  intro d
  induction d using Nat.strongRecOn with
  | _ d ih =>
    intro i hd hi hun t ht hr
    obtain ⟨_, ot, hot, hall⟩ := mem_ready.1 hr
    have htlt : t < ops.size := (Array.getElem?_eq_some_iff.1 hot).1
    by_cases htn : t = n
    · subst htn
      have h1 := List.all_eq_true.1 hs i (List.mem_range.2 hi)
      rw [Bool.or_eq_true] at h1
      rcases h1 with h1 | h1
      · have := inv.mono i h1
        rw [getD_both hun] at this; cases this
      obtain ⟨j, hj, hj2⟩ := List.any_eq_true.1 h1
      simp only [Bool.and_eq_true, decide_eq_true_eq, Bool.not_eq_true'] at hj2
      obtain ⟨oj, hoj, e, he, hb, hon⟩ := Region.waitsFor_spec hj2.2
      have hjle : j ≤ t := by have := List.mem_range.1 hj; omega
      by_cases hjt : j = t
      · subst hjt
        have : oj = ot := Option.some.inj (hoj.symm.trans hot)
        subst this
        have h2 := hall e he hb
        rw [hon, getD_both hun] at h2
        cases h2
      · cases hl : listed.getD j false with
        | true =>
          rcases inv.closed j oj hoj hl with h3 | h3
          · rw [h3] at hj2; cases hj2.1.2
          · have h2 := h3 e he hb
            rw [hon, getD_both hun] at h2
            cases h2
        | false =>
          have hjs : j < listed.size := by rw [inv.size]; omega
          exact ih (t - j) (by omega) j rfl (by omega) (getD_in hjs hl) t (Nat.le_refl _) hr
    · have h1 := List.all_eq_true.1 hc t (List.mem_range.2 htlt)
      simp only [Bool.or_eq_true, decide_eq_true_eq] at h1
      rcases h1 with h1 | h1
      · omega
      · obtain ⟨o', ho', e, he, hb, hon⟩ := Region.waitsFor_spec h1
        have : o' = ot := Option.some.inj (ho'.symm.trans hot)
        subst this
        have h2 := hall e he hb
        rw [hon, getD_both (inv.tail (t - 1) (by omega) (by omega))] at h2
        cases h2
theorem wpAnyM_first {n i : Nat} {oi : Oper} {v : Value} {l0 : Array Bool} {L : Array Bool → Act → World → Prop} (hi : ops[i]? = some oi) (hsel : ∀ (j : Nat) (o : Oper) cs b, ops[j]? = some o → o.op ≠ .select cs b)
    (hQ : ∀ c a w, Q (.panic c) (a.put oi.dst v) w → Q (.panic c) a w) (hs : sink0 md ops n l0 = true) (hc : Region.chainB md ops n = true) (hn : n < ops.size) (hin : i < n)
    (hdone : ∀ listed a w, L listed a w → ∀ j ∈ Region.ready md ops listed, n ≤ j) :
    ∀ (f : Nat) (listed : Array Bool) (a : Act) (w : World), HI md ops n l0 listed →
      (∀ j oj, ops[j]? = some oj → j ≠ i → listed.getD j true = false → (∀ e ∈ oj.after, Region.binds md e = true → e.on ≠ i) → oi.apart ops oj = true) →
      i ∈ Region.ready md ops listed → YieldsIf P ops S oi v a → S w →
      wpAnyM P md ops Q S L f (listed.setIfInBounds i true) (a.put oi.dst v) w → wpAnyM P md ops Q S L (f + 1) listed a w := by
  intro f
  induction f with
  | zero =>
    intro listed a w inv _ hr hy hS H
    have hun := (mem_ready.1 hr).1
    refine ⟨fun h => (by rw [h] at hr; cases hr), fun j hj => ?_⟩
    have hjn : j < n := by
      rcases Nat.lt_or_ge j n with h | h
      · exact h
      · exact absurd hj (tail_waits0 hs hc hn inv _ i rfl hin hun j h)
    by_cases hji : j = i
    · subst hji; exact hy.wpOp hi hS ⟨hS, H⟩
    · have := hdone _ _ _ H j (ready_mono hj hji)
      omega
  | succ f ih =>
    intro listed a w inv hfree hr hy hS H
    have hun := (mem_ready.1 hr).1
    refine ⟨fun h => (by rw [h] at hr; cases hr), fun j hj => ?_⟩
    have hjn : j < n := by
      rcases Nat.lt_or_ge j n with h | h
      · exact h
      · exact absurd hj (tail_waits0 hs hc hn inv _ i rfl hin hun j h)
    by_cases hji : j = i
    · subst hji; exact hy.wpOp hi hS ⟨hS, H⟩
    · have h1 := H.2 j (ready_mono hj hji)
      obtain ⟨hjun, oj, hoj, hall⟩ := mem_ready.1 hj
      have hnot : ∀ e ∈ oj.after, Region.binds md e = true → e.on ≠ i := fun e he hb heq => by
        have h1 := hall e he hb
        rw [heq, getD_both hun] at h1
        cases h1
      have h2 := wpOp_putIf hoj (hfree j oj hoj hji hjun hnot) (fun cs b => hsel i oi cs b hi) (fun cs b => hsel j oj cs b hoj) hQ hy h1
      have hfree' : ∀ k ok, ops[k]? = some ok → k ≠ i → (listed.setIfInBounds j true).getD k true = false →
          (∀ e ∈ ok.after, Region.binds md e = true → e.on ≠ i) → oi.apart ops ok = true := fun k ok hk hki hun hno => by
        refine hfree k ok hk hki ?_ hno
        by_cases hjk : j = k
        · subst hjk; exact hjun
        · rw [getD_set_ne true hjk] at hun; exact hun
      refine wpOp_mono (fun a' w' h3 => ⟨h3.2.1, ih (listed.setIfInBounds j true) a' w' (inv.set hj hjn) hfree' (ready_mono hr (Ne.symm hji)) h3.1 h3.2.1 ?_⟩) h2
      rw [Array.setIfInBounds_comm _ _ hji]
      exact h3.2.2
def takeB (md : Region.Mode) (ops : Array Oper) : List Nat → Array Bool → Bool
  | [], _ => true
  | i :: is, listed => (Region.ready md ops listed).contains i && Region.free md ops listed i && takeB md ops is (listed.setIfInBounds i true)
def soleB (md : Region.Mode) (ops : Array Oper) : List Nat → Array Bool → Bool
  | [], _ => true
  | i :: is, listed => decide (Region.ready md ops listed = [i]) && soleB md ops is (listed.setIfInBounds i true)
def setAll (listed : Array Bool) (is : List Nat) : Array Bool := is.foldl (fun l i => l.setIfInBounds i true) listed
def wpYld (P : Program) (ops : Array Oper) (S : World → Prop) (Qa : Act → Prop) : List Oper → Act → Prop
  | [], a => Qa a
  | o :: rest, a => ∃ v, YieldsIf P ops S o v a ∧ wpYld P ops S Qa rest (a.put o.dst v)
def wpAlone (P : Program) (ops : Array Oper) (Q : Exit → Act → World → Prop) (S : World → Prop) (Qa : Act → World → Prop) : List Oper → Act → World → Prop
  | [], a, w => Qa a w
  | o :: rest, a, w => o.guard = none ∧ o.wp P a w (fun a' w' => S w' ∧ wpAlone P ops Q S Qa rest a' w') Q
def NoPanic (Q : Exit → Act → World → Prop) : Prop := ∀ c a w, ¬ Q (.panic c) a w
theorem wpAny_floats (hsel : Region.noSelect ops = true) (hQ : NoPanic Q) {f : Nat} : ∀ (is : List Nat) (l : List Oper) (listed : Array Bool) (a : Act) (w : World), is.map (fun i => ops[i]?) = l.map some → takeB md ops is listed = true →
    wpYld P ops (fun _ => True) (fun a' => wpAny P md ops Q f (setAll listed is) a' w) l a → wpAny P md ops Q (f + is.length) listed a w
  | [], [], listed, a, w, _, _, h => h
  | [], _ :: _, _, _, _, h, _, _ => by cases h
  | _ :: _, [], _, _, _, h, _, _ => by cases h
  | i :: is, o :: l, listed, a, w, hl, hB, ⟨v, hy, h⟩ => by
    simp only [takeB, Bool.and_eq_true] at hB
    obtain ⟨⟨hr, hf⟩, hB'⟩ := hB
    simp only [List.map_cons, List.cons.injEq] at hl
    have := wpAny_floats hsel hQ is l (listed.setIfInBounds i true) (a.put o.dst v) w hl.2 hB' h
    rw [List.length_cons, ← Nat.add_assoc]
    refine wpAny_take hl.1 hsel hf hr (fun c a w h => absurd h (hQ _ _ _)) ?_ this
    exact hy.imp (fun ⟨hw, hv⟩ => ⟨hw, fun w => hv w trivial⟩) id
theorem wpAnyM_alone {n : Nat} {l0 : Array Bool} {L : Array Bool → Act → World → Prop} : ∀ (is : List Nat) (l : List Oper) (listed : Array Bool) (a : Act) (w : World), is.map (fun i => ops[i]?) = l.map some → soleB md ops is listed = true →
    wpAlone P ops Q S (fun a' w' => L (setAll listed is) a' w') l a w → wpAnyM P md ops Q S L is.length listed a w
  | [], [], listed, a, w, _, _, h => h
  | [], _ :: _, _, _, _, h, _, _ => by cases h
  | _ :: _, [], _, _, _, h, _, _ => by cases h
  | i :: is, o :: l, listed, a, w, hl, hB, ⟨hg, h⟩ => by
    simp only [soleB, Bool.and_eq_true, decide_eq_true_eq] at hB
    simp only [List.map_cons, List.cons.injEq] at hl
    refine ⟨by rw [hB.1]; simp, fun j hj => ?_⟩
    rw [hB.1] at hj
    have : j = i := by simpa using hj
    subst this
    unfold wpOp
    simp only [hl.1]
    rw [if_pos (by simp [Region.wanted, hg])]
    exact .inl (Oper.wp_mono (fun a' w' h' => ⟨h'.1, wpAnyM_alone (n := n) (l0 := l0) is l _ a' w' hl.2 hB.2 h'.2⟩) h)
theorem wpAnyM_quiet {n : Nat} {l0 : Array Bool} {L : Array Bool → Act → World → Prop} {f : Nat} (hsel : Region.noSelect ops = true) (hQ : NoPanic Q) (hs : sink0 md ops n l0 = true) (hc : Region.chainB md ops n = true) (hn : n < ops.size)
    (hdone : ∀ listed a w, L listed a w → ∀ j ∈ Region.ready md ops listed, n ≤ j) {w : World} (hS : S w) : ∀ (is : List Nat) (l : List Oper) (listed : Array Bool) (a : Act), is.map (fun i => ops[i]?) = l.map some → takeB md ops is listed = true →
    (∀ i ∈ is, i < n) → HI md ops n l0 listed →
    wpYld P ops S (fun a' => wpAnyM P md ops Q S L f (setAll listed is) a' w) l a → wpAnyM P md ops Q S L (f + is.length) listed a w
  | [], [], listed, a, _, _, _, _, h => h
  | [], _ :: _, _, _, h, _, _, _, _ => by cases h
  | _ :: _, [], _, _, h, _, _, _, _ => by cases h
  | i :: is, o :: l, listed, a, hl, hB, hin, inv, ⟨v, hy, h⟩ => by
    simp only [takeB, Bool.and_eq_true] at hB
    obtain ⟨⟨hr, hf⟩, hB'⟩ := hB
    simp only [List.map_cons, List.cons.injEq] at hl
    have hr' : i ∈ Region.ready md ops listed := by simpa using hr
    have hi' := hin i (List.mem_cons_self ..)
    have := wpAnyM_quiet hsel hQ hs hc hn hdone hS is l (listed.setIfInBounds i true) (a.put o.dst v) hl.2 hB' (fun j hj => hin j (List.mem_cons_of_mem _ hj)) (inv.set hr' hi') h
    rw [List.length_cons, ← Nat.add_assoc]
    exact wpAnyM_first hl.1 (Region.noSelect_spec hsel) (fun c a w h => absurd h (hQ _ _ _)) hs hc hn hi' hdone _ listed a w inv (Region.free_spec hl.1 hf) hr' hy hS this
end
end Go.Proofs.YthoepnnckmfipaaGreatDoor.Al


namespace Go.Proofs.YthoepnnckmfipaaGreatDoor.Al
section
variable {P : Program} {ops : Array Oper} {rest : List Oper} {s : St} {K : St → Prop} {o : Oper}
def AFl (P : Program) (ops : Array Oper) (rest : List Oper) (s : St) (K : St → Prop) : Prop :=
  ∀ (y : Cx) (a : Act), y.ok → y.H = hget s.h → y.n = s.n → a.tmps.size = s.N → EnvOk y s.e a → ∀ Qa : Act → Prop,
    (∀ s' a', K s' → s'.h = s.h → s'.n = s.n → s'.N = s.N → a'.tmps.size = s.N → a'.defers = a.defers → EnvOk y s'.e a' → Qa a') → wpYld P ops (fun _ => True) Qa rest a
theorem AFl.nil (h : K s) : AFl P ops [] s K := fun _ a _ _ _ hN he _ hQ => hQ s a h rfl rfl rfl hN rfl he
theorem AFl.move {d : Nat} {x : Operand} (hg : o.guard = none) (ho : o.op = .move x) (hd : o.dst = some d) (hN : Nat.blt d s.N = true)
    (hr : AFl P ops rest { e := (d, evalOp s.e x) :: s.e, h := s.h, n := s.n, N := s.N } K) : AFl P ops (o :: rest) s K := by
  intro y a hok hH hn hsz he Qa hQ
  have hN' : d < a.tmps.size := by rw [hsz]; exact lt_of_blt hN
  refine ⟨a.eval x, .inl ⟨by simp [Region.wanted, hg], fun w _ => by unfold execOp; simp only [ho]; rfl⟩, ?_⟩
  rw [hd]
  exact hr y (a.put (some d) (a.eval x)) hok hH hn (by simpa [Act.put] using hsz) (he.put hN' (he.eval x)) Qa fun s' a' k1 k2 k3 k4 k5 k6 k7 => hQ s' a' k1 k2 k3 k4 k5 k6 k7
def AF (P : Program) (ops : Array Oper) (rest : List Oper) (s : St) (K : St → Prop) : Prop :=
  ∀ (y : Cx) (a : Act), y.ok → y.H = hget s.h → y.n = s.n → a.tmps.size = s.N → EnvOk y s.e a → ∀ Qa : Act → Prop,
    (∀ s' a', K s' → s'.h = s.h → s'.n = s.n → s'.N = s.N → a'.tmps.size = s.N → a'.defers = a.defers → EnvOk y s'.e a' → Qa a') → wpYld P ops (Agree y) Qa rest a
theorem AF.nil (h : K s) : AF P ops [] s K := fun _ a _ _ _ hN he _ hQ => hQ s a h rfl rfl rfl hN rfl he
theorem AF.step {d : Nat} {v : AV} (hg : o.guard = none) (hd : o.dst = some d) (hN : Nat.blt d s.N = true) (hs : OpQ P true o s.e s.h v)
    (hr : AF P ops rest { e := (d, v) :: s.e, h := s.h, n := s.n, N := s.N } K) : AF P ops (o :: rest) s K := by
  intro y a hok hH hn hsz he Qa hQ
  obtain ⟨u, hrun, hv⟩ := hs rfl y a hok hH he
  have hN' : d < a.tmps.size := by rw [hsz]; exact lt_of_blt hN
  refine ⟨u, .inl ⟨by simp [Region.wanted, hg], hrun⟩, ?_⟩
  rw [hd]
  exact hr y (a.put (some d) u) hok hH hn (by simpa [Act.put] using hsz) (he.put hN' hv) Qa fun s' a' k1 k2 k3 k4 k5 k6 k7 => hQ s' a' k1 k2 k3 k4 k5 k6 k7
def AA (P : Program) (ops : Array Oper) (rest : List Oper) (s : St) (K : St → Prop) : Prop :=
  ∀ (y0 y : Cx) (a : Act), y0.ok → y0.le y → Agree y0 y.w → y.ok → y.H = hget s.h → y.n = s.n → a.tmps.size = s.N → EnvOk y s.e a → ∀ (Q : Exit → Act → World → Prop) (Qa : Act → World → Prop),
    (∀ s' a' y', K s' → y0.le y' → y'.ok → y'.H = hget s'.h → y'.n = s'.n → s'.N = s.N → a'.tmps.size = s.N → a'.defers = a.defers → EnvOk y' s'.e a' → Qa a' y'.w) → wpAlone P ops Q (Agree y0) Qa rest a y.w
theorem AA.nil (h : K s) : AA P ops [] s K := fun _ y a _ hle _ hok hH hn hN he _ _ hQ => hQ s a y h hle hok hH hn rfl hN rfl he
def regB (ops : Array Oper) (fl hq al : List Nat) (n : Nat) : Bool :=
  let r0 := Array.replicate ops.size false
  let l0 := setAll r0 fl
  let l1 := setAll l0 hq
  let l2 := setAll l1 al
  Region.noSelect ops && decide (n < ops.size) && sink0 .any ops n l0 && Region.chainB .any ops n && takeB .any ops fl r0 && takeB .any ops hq l0 && soleB .any ops al l1
    && Region.seqB .any ops (ops.size - n) n l2 && decide (fl.length + hq.length + al.length = n) && (hq.all fun i => decide (i < n)) && ((List.range ops.size).all fun t => decide (t < n) || !l0.getD t true)
theorem setAll_size (is : List Nat) (l : Array Bool) : (setAll l is).size = l.size := by
  induction is generalizing l with
  | nil => rfl
  | cons i is ih => show (setAll (l.setIfInBounds i true) is).size = _; rw [ih]; simp
theorem agree_refl (y : Cx) : Agree y y.w := fun _ _ => rfl
theorem AW.regionF {id : Nat} {l : List Oper} {Q : Exit → St → Prop} (fl hq al : List Nat) (n : Nat) {lf lh la lt : List Oper} (hm : P.follows .mixedOrders = true) (hB : regB l.toArray fl hq al n = true)
    (e1 : fl.map (fun i => l.toArray[i]?) = lf.map some) (e2 : hq.map (fun i => l.toArray[i]?) = lh.map some) (e3 : al.map (fun i => l.toArray[i]?) = la.map some) (e4 : l.drop n = lt)
    (h : AFl P l.toArray lf s fun s1 => AF P l.toArray lh s1 fun s2 => AA P l.toArray la s2 fun s3 => AOps P l.toArray lt s3 (Q .normal)) : AW P (.region id l.toArray true) Q s := by
  intro c0 a w ⟨hdef, hsz, y, hyw, hle, hok, hH, hn, he⟩
  subst hyw
  obtain ⟨r1, r2⟩ := Cx.redraw hok
  simp only [regB, Bool.and_eq_true, decide_eq_true_eq] at hB
  obtain ⟨⟨⟨⟨⟨⟨⟨⟨⟨⟨b1, b2⟩, b3⟩, b4⟩, b5⟩, b6⟩, b7⟩, b8⟩, b9⟩, b10⟩, b11⟩ := hB
  refine wp_mono (Q := fun e a' w' => e = .normal ∧ ∃ s', Q .normal s' ∧ Sim c0 s' a' w') ?_ fun e a' w' ⟨k1, k2⟩ => by subst k1; exact k2
  refine wp_region_any hm ?_
  have hQ : NoPanic (fun (e : Exit) (a' : Act) (w' : World) => e = .normal ∧ ∃ s', Q .normal s' ∧ Sim c0 s' a' w') := fun c a w h => by cases h.1
  generalize hz : ({ y with w := { y.w with drawn := y.w.drawn + 1 } } : Cx) = z at r1 r2
  have hzw : z.w = { y.w with drawn := y.w.drawn + 1 } := by rw [← hz]
  have hzH : z.H = hget s.h := by rw [← hz]; exact hH
  have hzn : z.n = s.n := by rw [← hz]; exact hn
  rw [← hzw]
  have hsize : l.toArray.size = (l.toArray.size - n) + al.length + hq.length + fl.length := by omega
  have goal := wpAny_floats (P := P) (md := .any) (f := (l.toArray.size - n) + al.length + hq.length) b1 hQ fl lf (Array.replicate l.toArray.size false) a z.w e1 b5
    (h z a r2 hzH hzn hsz (he.mono r1) _ fun s1 a1 k1 k2 k3 k4 k5 k6 k7 => by
      rw [show l.toArray.size - n + al.length + hq.length = (al.length + hq.length) + (l.toArray.size - n) by omega]
      refine wpAny_of_M (S := Agree z) (L := fun listed a' w' => listed = setAll (setAll (setAll (Array.replicate l.toArray.size false) fl) hq) al ∧ wpList P l.toArray (fun e a' w' => e = .normal ∧ ∃ s', Q .normal s' ∧ Sim c0 s' a' w') lt a' w') (fun listed a' w' ⟨q1, q2⟩ => ?_) _ _ _ _ ?_
      · subst q1; subst e4
        have hdl : (l.drop n).length = l.toArray.size - n := by simp
        have := wpAny_of_seq (md := .any) (l.drop n) n _ a' w' (fun j => by simp [List.getElem?_drop]) (by rw [hdl]; exact b8) q2
        rwa [hdl] at this
      · refine wpAnyM_quiet (n := n) (l0 := setAll (Array.replicate l.toArray.size false) fl) b1 hQ b3 b4 b2 (fun listed a' w' ⟨q1, _⟩ j hj => by subst q1; exact seqB_ready b8 j hj) (agree_refl z) hq lh _ a1 e2 b6
          (fun i hi => by simpa using (List.all_eq_true.1 b10 i hi)) ⟨by rw [setAll_size]; simp, fun j oj _ hl => .inl hl, fun t ht htl => ?_, fun _ h => h⟩ ?_
        · have := List.all_eq_true.1 b11 t (List.mem_range.2 htl)
          simp only [Bool.or_eq_true, decide_eq_true_eq, Bool.not_eq_true'] at this
          rcases this with h | h
          · omega
          · exact h
        · refine k1 z a1 r2 (by rw [k2]; exact hzH) (by rw [k3]; exact hzn) (by rw [k4, k5]) k7 _ fun s2 a2 m1 m2 m3 m4 m5 m6 m7 => ?_
          refine wpAnyM_alone (n := n) (l0 := setAll (Array.replicate l.toArray.size false) fl) al la _ a2 z.w e3 b7 ?_
          refine m1 z z a2 r2 (.refl z) (agree_refl z) r2 (by rw [m2, k2]; exact hzH) (by rw [m3, k3]; exact hzn) (by rw [m4, m5]) m7 _ _ fun s3 a3 y3 t1 t2 t3 t4 t5 t6 t7 t8 t9 => ⟨rfl, ?_⟩
          exact t1 c0 a3 y3.w ⟨t8.trans (m6.trans (k6.trans hdef)), by rw [t7, t6], y3, rfl, (hle.trans r1).trans t2, t3, t4, t5, t9⟩ _ fun s'' a'' w'' j1 j2 => ⟨rfl, s'', j1, j2⟩)
  have e : l.toArray.size - n + al.length + hq.length + fl.length = l.toArray.size := by omega
  rw [e] at goal
  exact goal
end
end Go.Proofs.YthoepnnckmfipaaGreatDoor.Al


namespace Go.Proofs.YthoepnnckmfipaaGreatDoor.Al
section
variable {P : Program} {o : Oper} {R : Env} {h : Heap} {n : Nat}
end
end Go.Proofs.YthoepnnckmfipaaGreatDoor.Al
namespace Go.Proofs.YthoepnnckmfipaaGreatDoor.Al
def pick (l : List Oper) : List Nat → List Oper
  | [] => []
  | i :: is => match l[i]? with
    | some o => o :: pick l is
    | none => pick l is
theorem pick_map {l : List Oper} {is : List Nat} (h : (is.all fun i => Nat.blt i l.length) = true) : is.map (fun i => l.toArray[i]?) = (pick l is).map some := by
  induction is with
  | nil => rfl
  | cons i is ih =>
    simp only [List.all_cons, Bool.and_eq_true] at h
    have hi := lt_of_blt h.1
    rw [List.map_cons, ih h.2, pick, List.getElem?_eq_getElem hi]
    simp [hi]
theorem AW.regionF' {P : Program} {s : St} {id : Nat} {l : List Oper} {Q : Exit → St → Prop} (fl hq al : List Nat) (n : Nat) {lf lh la lt : List Oper} (hm : P.follows .mixedOrders = true) (hB : regB l.toArray fl hq al n = true)
    (hi : ((fl ++ hq ++ al).all fun i => Nat.blt i l.length) = true) (e1 : pick l fl = lf) (e2 : pick l hq = lh) (e3 : pick l al = la) (e4 : l.drop n = lt)
    (h : AFl P l.toArray lf s fun s1 => AF P l.toArray lh s1 fun s2 => AA P l.toArray la s2 fun s3 => AOps P l.toArray lt s3 (Q .normal)) : AW P (.region id l.toArray true) Q s := by
  subst e1; subst e2; subst e3
  simp only [List.all_append, Bool.and_eq_true] at hi
  exact AW.regionF fl hq al n hm hB (pick_map hi.1.1) (pick_map hi.1.2) (pick_map hi.2) e4 h
end Go.Proofs.YthoepnnckmfipaaGreatDoor.Al


namespace Go.Proofs.YthoepnnckmfipaaGreatDoor.Al
end Go.Proofs.YthoepnnckmfipaaGreatDoor.Al


namespace Go.Proofs.YthoepnnckmfipaaGreatDoor.Al
end Go.Proofs.YthoepnnckmfipaaGreatDoor.Al
namespace Go.Proofs.YthoepnnckmfipaaGreatDoor.Al
section
variable {P : Program} {o : Oper} {R : Env} {h : Heap} {n : Nat}
end
end Go.Proofs.YthoepnnckmfipaaGreatDoor.Al


namespace Go.Proofs.YthoepnnckmfipaaGreatDoor.Al
structure PO where
  d : Option Nat
  v : (Nat → Nat) → AV
  hp : Option (Nat × ((Nat → Nat) → Option AObj))
  dep : List Nat
def PO.wE (p : PO) : Option (Nat × ((Nat → Nat) → AV)) := match p.d with | some d => some (d, p.v) | none => none
def PO.wH (p : PO) : Option (Nat × ((Nat → Nat) → Option AObj)) := p.hp
section
variable {α : Type} (wr : PO → Option (Nat × ((Nat → Nat) → α))) (D : Nat → Bool) (G : Nat → Nat)
def runL : List (Nat × α) → List PO → Nat → List (Nat × α)
  | e, [], _ => e
  | e, p :: L, k => match D k with
    | true => match wr p with
      | some (d, v) => runL ((d, v G) :: e) L (k + 1)
      | none => runL e L (k + 1)
    | false => runL e L (k + 1)
def NoW (t : Nat) (L : List PO) (k : Nat) : Prop := ∀ (j : Nat) (p : PO) v, L[j]? = some p → D (k + j) = true → wr p ≠ some (t, v)
end
theorem NoW.tail {α : Type} {wr : PO → Option (Nat × ((Nat → Nat) → α))} {D : Nat → Bool} {t : Nat} {p : PO} {L : List PO} {k : Nat} (h : NoW wr D t (p :: L) k) : NoW wr D t L (k + 1) :=
  fun j q v h1 h2 => h (j + 1) q v (by simpa using h1) (by rwa [show k + (j + 1) = k + 1 + j by omega])
section
variable {α : Type} {wr : PO → Option (Nat × ((Nat → Nat) → α))} {D : Nat → Bool} {G : Nat → Nat} {lk : List (Nat × α) → Nat → α} (hlk : ∀ d v R t, lk ((d, v) :: R) t = if d = t then v else lk R t)
include hlk
theorem runL_none {t : Nat} : ∀ (L : List PO) (e : List (Nat × α)) (k : Nat), NoW wr D t L k → lk (runL wr D G e L k) t = lk e t
  | [], _, _, _ => rfl
  | p :: L, e, k, h => by
    unfold runL
    cases hD : D k with
    | false => exact runL_none L e (k + 1) h.tail
    | true =>
      cases hw : wr p with
      | none => exact runL_none L e (k + 1) h.tail
      | some q =>
        obtain ⟨d, v⟩ := q
        have hdt : d ≠ t := fun e => h 0 p v rfl hD (by rw [hw, e])
        exact (runL_none L _ (k + 1) h.tail).trans (by rw [hlk, if_neg hdt])
theorem runL_some {t : Nat} {p : PO} {v : (Nat → Nat) → α} (hw : wr p = some (t, v)) : ∀ (L : List PO) (e : List (Nat × α)) (k j : Nat), L[j]? = some p → D (k + j) = true → NoW wr D t (L.drop (j + 1)) (k + j + 1) → lk (runL wr D G e L k) t = v G
  | [], _, _, _, h, _, _ => by simp at h
  | q :: L, e, k, 0, h1, h2, h3 => by
    cases h1
    unfold runL
    rw [show D k = true from h2, hw]
    exact (runL_none hlk L _ (k + 1) (by simpa using h3)).trans (by rw [hlk, if_pos rfl])
  | q :: L, e, k, j + 1, h1, h2, h3 => by
    have h1' : L[j]? = some p := by simpa using h1
    have h2' : D (k + 1 + j) = true := by rwa [show k + 1 + j = k + (j + 1) by omega]
    have h3' : NoW wr D t (L.drop (j + 1)) (k + 1 + j + 1) := by rw [show k + 1 + j + 1 = k + (j + 1) + 1 by omega]; simpa using h3
    unfold runL
    cases D k with
    | false => exact runL_some hw L e (k + 1) j h1' h2' h3'
    | true =>
      cases wr q with
      | none => exact runL_some hw L e (k + 1) j h1' h2' h3'
      | some r => exact runL_some hw L _ (k + 1) j h1' h2' h3'
theorem runL_congr {t : Nat} {D' : Nat → Bool} {G' : Nat → Nat} : ∀ (L : List PO) (e e' : List (Nat × α)) (k : Nat), lk e' t = lk e t →
    (∀ (j : Nat) (p : PO) v, L[j]? = some p → wr p = some (t, v) → D' (k + j) = D (k + j) ∧ (D (k + j) = true → v G' = v G)) → lk (runL wr D' G' e' L k) t = lk (runL wr D G e L k) t
  | [], _, _, _, h, _ => h
  | p :: L, e, e', k, h, hw => by
    have ht : ∀ (j : Nat) (q : PO) v, L[j]? = some q → wr q = some (t, v) → D' (k + 1 + j) = D (k + 1 + j) ∧ (D (k + 1 + j) = true → v G' = v G) := fun j q v h1 h2 => by
      have := hw (j + 1) q v (by simpa using h1) h2
      rwa [show k + (j + 1) = k + 1 + j by omega] at this
    unfold runL
    cases hp : wr p with
    | none =>
      have ih := runL_congr L e e' (k + 1) h ht
      cases D' k <;> cases D k <;> exact ih
    | some q =>
      obtain ⟨d, v⟩ := q
      by_cases hdt : d = t
      · subst hdt
        obtain ⟨h1, h2⟩ := hw 0 p v rfl hp
        rw [Nat.add_zero] at h1 h2
        rw [h1]
        cases hD : D k with
        | false => exact runL_congr L e e' (k + 1) h ht
        | true => exact runL_congr L _ _ (k + 1) (by rw [hlk, hlk, if_pos rfl, if_pos rfl, h2 hD]) ht
      · have e1 : lk ((d, v G') :: e') t = lk e' t := by rw [hlk, if_neg hdt]
        have e2 : lk ((d, v G) :: e) t = lk e t := by rw [hlk, if_neg hdt]
        cases D' k <;> cases D k
        · exact runL_congr L _ _ (k + 1) h ht
        · exact runL_congr L _ _ (k + 1) (by rw [e2]; exact h) ht
        · exact runL_congr L _ _ (k + 1) (by rw [e1]; exact h) ht
        · exact runL_congr L _ _ (k + 1) (by rw [e1, e2]; exact h) ht
end
abbrev runE (D : Nat → Bool) (G : Nat → Nat) (e : Env) (L : List PO) : Env := runL PO.wE D G e L 0
abbrev runH (D : Nat → Bool) (G : Nat → Nat) (h : Heap) (L : List PO) : Heap := runL PO.wH D G h L 0
def updG (G : Nat → Nat) (i n : Nat) : Nat → Nat := fun k => if k = i then n else G k
section
variable {P : Program} {ops : Array Oper}
def wt (ops : Array Oper) : Nat → Nat → Nat → Bool
  | 0, _, _ => false
  | f + 1, j, i => Region.waitsFor .any ops j i || (List.range j).any fun m => Region.waitsFor .any ops j m && wt ops f m i
def Cl (ops : Array Oper) (D : Nat → Bool) : Prop := ∀ j k, D j = true → Region.waitsFor .any ops j k = true → D k = true
theorem Cl.wt {D : Nat → Bool} (h : Cl ops D) : ∀ (f j i : Nat), Al.wt ops f j i = true → D j = true → D i = true
  | 0, _, _, h1, _ => by cases h1
  | f + 1, j, i, h1, h2 => by
    unfold Al.wt at h1
    rw [Bool.or_eq_true] at h1
    rcases h1 with h1 | h1
    · exact h j i h2 h1
    · obtain ⟨m, _, h3⟩ := List.any_eq_true.1 h1
      rw [Bool.and_eq_true] at h3
      exact h.wt f m i h3.2 (h j m h2 h3.1)
structure RdyP (ops : Array Oper) (D : Nat → Bool) (i : Nat) : Prop where
  cl : Cl ops D
  hw : ∀ k, Region.waitsFor .any ops i k = true → D k = true
  un : D i = false
theorem RdyP.yes {D : Nat → Bool} {i : Nat} (h : RdyP ops D i) {k : Nat} (hk : Al.wt ops 40 i k = true) : D k = true := by
  unfold Al.wt at hk
  rw [Bool.or_eq_true] at hk
  rcases hk with hk | hk
  · exact h.hw k hk
  · obtain ⟨m, _, h3⟩ := List.any_eq_true.1 hk
    rw [Bool.and_eq_true] at h3
    exact h.cl.wt 39 m k h3.2 (h.hw m h3.1)
theorem RdyP.no {D : Nat → Bool} {i : Nat} (h : RdyP ops D i) {k : Nat} (hk : Al.wt ops 40 k i = true) : D k = false := by
  cases hD : D k with
  | false => rfl
  | true => have := h.cl.wt 40 k i hk hD; rw [h.un] at this; cases this
def InvP (c0 : Cx) (s : St) (L : List PO) (listed : Array Bool) (a : Act) (w : World) : Prop :=
  a.defers = [] ∧ a.tmps.size = s.N ∧ ∃ (y : Cx) (G : Nat → Nat), y.w = w ∧ c0.le y ∧ y.ok ∧ (∀ id, y.H id = hget (runH (fun k => listed.getD k false) G s.h L) id) ∧
    (∀ t, AVRep y (get (runE (fun k => listed.getD k false) G s.e L) t) (a.tmps.getD t undef))
def OpSpecN (P : Program) (o : Oper) (R : Env) (h : Heap) (n : Nat) (v : AV) (h' : Heap) : Prop :=
  ∀ (x : Cx) (a : Act), x.ok → x.H = hget h → x.n = n → EnvOk x R a → ∀ (K : Act → World → Prop) (Q : Exit → Act → World → Prop),
    (∀ (u : Value) (y : Cx), x.le y → y.ok → y.H = hget h' → AVRep y v u → K (a.put o.dst u) y.w) → o.wp P a x.w K Q
theorem OpSpec.toN {o : Oper} {R : Env} {h : Heap} {n : Nat} {v : AV} {h' : Heap} {n' : Nat} (hs : OpSpec P true o R h n v h' n') : OpSpecN P o R h n v h' :=
  fun x a h1 h2 h3 h4 K Q hK => hs rfl x a h1 h2 h3 h4 K Q fun u y k1 k2 k3 _ k5 => hK u y k1 k2 k3 k5
theorem GuardC.same {R R' : Env} {o : Oper} {c : Bool} (h : GuardC R ops o c) (hR : ∀ t, get R' t = get R t) : GuardC R' ops o c := by
  cases h with
  | one hg hj hb => exact .one hg hj ((hR _).trans hb)
  | two hg hj hb => exact .two hg hj ((hR _).trans hb)
def Ob (P : Program) (ops : Array Oper) (s : St) (L : List PO) (i : Nat) (p : PO) (o : Oper) : Prop :=
  o.dst = p.d ∧ (∀ d, p.d = some d → Nat.blt d s.N = true) ∧ ∀ (D : Nat → Bool) (G : Nat → Nat) (e : Env) (h : Heap) (n : Nat), RdyP ops D i →
    (∀ t, get e t = get (runE D G s.e L) t) → (∀ id, hget h id = hget (runH D G s.h L) id) →
    (o.guard = none ∧ ∃ h', OpSpecN P o e h n (p.v (updG G i n)) h' ∧ (∀ id, hget h' id = match p.hp with | some (j, ob) => if j = id then ob (updG G i n) else hget h id | none => hget h id)) ∨
    (p.hp = none ∧ ∃ c v0, p.v (updG G i n) = .whn c v0 ∧ GuardC e ops o c ∧ (c = true → ∃ h2, OpSpecN P o e h n v0 h2 ∧ ∀ id, hget h2 id = hget h id))
def noWE (L : List PO) (t : Nat) : Bool := L.all fun p => match p.d with | some d => !Nat.beq d t | none => true
def noWH (L : List PO) (t : Nat) : Bool := L.all fun p => match p.hp with | some (d, _) => !Nat.beq d t | none => true
def oneEB : List PO → Bool
  | [] => true
  | p :: L => (match p.d with | some d => noWE L d | none => true) && oneEB L
def ordHB (ops : Array Oper) (L : List PO) : Bool := (List.range L.length).all fun j => (List.range j).all fun i => match L[i]?.bind (·.hp), L[j]?.bind (·.hp) with
  | some (a, _), some (b, _) => !Nat.beq a b || wt ops 40 j i
  | _, _ => true
theorem noWE_spec {L : List PO} {t : Nat} (h : noWE L t = true) {j : Nat} {p : PO} (hj : L[j]? = some p) : p.d ≠ some t := fun hd => by
  have := List.all_eq_true.1 h p (List.mem_of_getElem? hj)
  rw [hd] at this
  simp at this
theorem noWH_spec {L : List PO} {t : Nat} (h : noWH L t = true) {j : Nat} {p : PO} (hj : L[j]? = some p) : ∀ ob, p.hp ≠ some (t, ob) := fun ob hd => by
  have := List.all_eq_true.1 h p (List.mem_of_getElem? hj)
  rw [hd] at this
  simp at this
theorem wE_some {p : PO} {t : Nat} {v} (h : p.wE = some (t, v)) : p.d = some t ∧ v = p.v := by
  unfold PO.wE at h
  split at h
  · rename_i d hd; simp only [Option.some.injEq, Prod.mk.injEq] at h; rw [hd, h.1]; exact ⟨rfl, h.2.symm⟩
  · cases h
theorem wE_mk {p : PO} {t : Nat} (h : p.d = some t) : p.wE = some (t, p.v) := by unfold PO.wE; rw [h]
theorem wH_some {p : PO} {t : Nat} {v} (h : p.wH = some (t, v)) : ∃ ob, p.hp = some (t, ob) ∧ v = ob := ⟨v, h, rfl⟩
theorem wH_mk {p : PO} {t : Nat} {ob} (h : p.hp = some (t, ob)) : p.wH = some (t, ob) := h
theorem oneE_later : ∀ {L : List PO}, oneEB L = true → ∀ {j : Nat} {p : PO} {t : Nat}, L[j]? = some p → p.d = some t → noWE (L.drop (j + 1)) t = true
  | [], _, _, _, _, h, _ => by simp at h
  | q :: L, h, 0, p, t, h1, h2 => by
    cases h1
    simp only [oneEB, Bool.and_eq_true, h2] at h
    simpa using h.1
  | q :: L, h, j + 1, p, t, h1, h2 => by
    simp only [oneEB, Bool.and_eq_true] at h
    simpa using oneE_later h.2 (j := j) (by simpa using h1) h2
theorem noWE_NoW {L : List PO} {t : Nat} (h : noWE L t = true) {D : Nat → Bool} {k : Nat} : NoW PO.wE D t L k := fun _ _ _ h1 _ h3 => noWE_spec h h1 (wE_some h3).1
theorem noWH_NoW {L : List PO} {t : Nat} (h : noWH L t = true) {D : Nat → Bool} {k : Nat} : NoW PO.wH D t L k := fun _ _ _ h1 _ h3 => by obtain ⟨ob, h4, _⟩ := wH_some h3; exact noWH_spec h h1 ob h4
theorem ordH_later {L : List PO} (hB : ordHB ops L = true) {D : Nat → Bool} (hcl : Cl ops D) {i : Nat} {p : PO} {t : Nat} {ob} (hp : L[i]? = some p) (ht : p.hp = some (t, ob)) (hun : D i = false) : NoW PO.wH D t (L.drop (i + 1)) (i + 1) := by
  intro j q v h1 h2 h3
  obtain ⟨ob2, h4, _⟩ := wH_some h3
  rw [List.getElem?_drop] at h1
  have hlt : i + 1 + j < L.length := (List.getElem?_eq_some_iff.1 h1).1
  have := List.all_eq_true.1 (List.all_eq_true.1 hB (i + 1 + j) (List.mem_range.2 hlt)) i (List.mem_range.2 (by omega))
  simp only [hp, h1, Option.bind_some, ht, h4, Bool.or_eq_true, Bool.not_eq_true'] at this
  rcases this with h5 | h5
  · simp at h5
  · have := hcl.wt 40 _ _ h5 h2
    rw [hun] at this; cases this
def depB (ops : Array Oper) (L : List PO) : Bool := (List.range L.length).all fun j => match L[j]? with
  | some p => p.dep.all fun k => Nat.beq k j || wt ops 40 j k
  | none => true
def Locs : List PO → Prop
  | [] => True
  | p :: L => (∀ G G' : Nat → Nat, (∀ k, p.dep.contains k = true → G k = G' k) → p.v G' = p.v G ∧ ∀ id ob, p.hp = some (id, ob) → ob G' = ob G) ∧ Locs L
theorem Locs.at : ∀ {L : List PO}, Locs L → ∀ {j : Nat} {p : PO}, L[j]? = some p → ∀ G G' : Nat → Nat, (∀ k, p.dep.contains k = true → G k = G' k) → p.v G' = p.v G ∧ ∀ id ob, p.hp = some (id, ob) → ob G' = ob G
  | _ :: _, h, 0, _, hj => by cases hj; exact h.1
  | _ :: _, h, j + 1, _, hj => Locs.at h.2 (j := j) (by simpa using hj)
theorem depB_at {L : List PO} (hB : depB ops L = true) {D : Nat → Bool} (hcl : Cl ops D) {j : Nat} {p : PO} (hp : L[j]? = some p) (hl : D j = true) {k : Nat} (hk : p.dep.contains k = true) : D k = true := by
  have hlt : j < L.length := (List.getElem?_eq_some_iff.1 hp).1
  have h1 := List.all_eq_true.1 hB j (List.mem_range.2 hlt)
  simp only [hp] at h1
  have h2 := List.all_eq_true.1 h1 k (by simpa using hk)
  simp only [Bool.or_eq_true] at h2
  rcases h2 with h2 | h2
  · rw [Nat.eq_of_beq_eq_true h2]; exact hl
  · exact hcl.wt 40 _ _ h2 hl
theorem InvP.put {c0 : Cx} {s : St} {L : List PO} {listed : Array Bool} {a : Act} {i : Nat} {p : PO} {y z : Cx} {G : Nat → Nat} {u : Value} (hp : L[i]? = some p) (hN : ∀ d, p.d = some d → Nat.blt d s.N = true) (hE : oneEB L = true) (hH : ordHB ops L = true)
    (hD : depB ops L = true) (hLoc : Locs L) (hi : i < listed.size) (hr : RdyP ops (fun k => listed.getD k false) i) (hdef : a.defers = []) (hsz : a.tmps.size = s.N) (hle : c0.le y)
    (he : ∀ t, AVRep y (get (runE (fun k => listed.getD k false) G s.e L) t) (a.tmps.getD t undef)) (hyz : y.le z) (hzok : z.ok)
    (hzH : ∀ id, z.H id = match p.hp with | some (j, ob) => if j = id then ob (updG G i y.n) else hget (runH (fun k => listed.getD k false) G s.h L) id | none => hget (runH (fun k => listed.getD k false) G s.h L) id)
    (hv : AVRep z (p.v (updG G i y.n)) u) : InvP c0 s L (listed.setIfInBounds i true) (a.put p.d u) z.w := by
  have hD' : ∀ k, (listed.setIfInBounds i true).getD k false = (listed.getD k false || decide (k = i)) := fun k => by
    by_cases hk : i = k
    · subst hk; simp [hi]
    · rw [getD_set_ne false hk]; simp [Ne.symm hk]
  have hsame : ∀ k, k ≠ i → (listed.setIfInBounds i true).getD k false = listed.getD k false := fun k hk => by rw [hD']; simp [hk]
  have hval : ∀ (j : Nat) (q : PO), L[j]? = some q → listed.getD j false = true → q.v (updG G i y.n) = q.v G ∧ ∀ id ob, q.hp = some (id, ob) → ob (updG G i y.n) = ob G := fun j q hj hl => by
    refine hLoc.at hj G _ fun k hk => ?_
    have hlk := depB_at hD hr.cl hj hl hk
    have : k ≠ i := fun e => by subst e; rw [hr.un] at hlk; cases hlk
    simp [updG, this]
  have hdi : (fun k => (listed.setIfInBounds i true).getD k false) (0 + i) = true := by show (listed.setIfInBounds i true).getD (0 + i) false = true; rw [Nat.zero_add, hD']; simp
  refine ⟨by cases hdd : p.d <;> simpa [Act.put, hdd] using hdef, ?_, z, updG G i y.n, rfl, hle.trans hyz, hzok, fun id => ?_, fun t => ?_⟩
  · cases hdd : p.d <;> simpa [Act.put, hdd] using hsz
  · rw [hzH]
    have rest : (∀ ob, p.hp ≠ some (id, ob)) → hget (runH (fun k => listed.getD k false) G s.h L) id = hget (runH (fun k => (listed.setIfInBounds i true).getD k false) (updG G i y.n) s.h L) id := fun hne => by
      refine (runL_congr hget_cons L _ _ 0 rfl fun j q v h1 h2 => ?_).symm
      obtain ⟨ob, h4, h5⟩ := wH_some h2
      have hji : j ≠ i := fun e => by subst e; rw [hp] at h1; cases h1; exact hne ob h4
      rw [Nat.zero_add]
      exact ⟨hsame j hji, fun hl => by rw [h5]; exact (hval j q h1 hl).2 id ob h4⟩
    cases hhp : p.hp with
    | none => exact rest fun ob => by rw [hhp]; simp
    | some r =>
      obtain ⟨j, ob⟩ := r
      by_cases hj : j = id
      · subst hj
        simp only [if_true]
        have hlater := ordH_later hH hr.cl hp hhp hr.un
        refine (runL_some hget_cons (wH_mk hhp) L _ 0 i hp hdi ?_).symm
        rw [Nat.zero_add]
        intro m q v h1 h2 h3
        exact hlater m q v h1 ((hsame _ (by omega)).symm.trans h2) h3
      · simp only [if_neg hj]
        exact rest fun ob' => by rw [hhp]; intro e; cases e; exact hj rfl
  · by_cases hpt : p.d = some t
    · have e1 : get (runE (fun k => (listed.setIfInBounds i true).getD k false) (updG G i y.n) s.e L) t = p.v (updG G i y.n) :=
        runL_some get_cons (wE_mk hpt) L _ 0 i hp hdi (noWE_NoW (oneE_later hE hp hpt))
      have hN' : t < a.tmps.size := by rw [hsz]; exact lt_of_blt (hN t hpt)
      rw [e1, hpt]
      simp only [Act.put, getD_set hN', if_true]
      exact hv
    · have e1 : get (runE (fun k => (listed.setIfInBounds i true).getD k false) (updG G i y.n) s.e L) t = get (runE (fun k => listed.getD k false) G s.e L) t := by
        refine runL_congr get_cons L _ _ 0 rfl fun j q v h1 h2 => ?_
        obtain ⟨h4, h5⟩ := wE_some h2
        have hji : j ≠ i := fun e => by subst e; rw [hp] at h1; cases h1; exact hpt h4
        rw [Nat.zero_add]
        exact ⟨hsame j hji, fun hl => by rw [h5]; exact (hval j q h1 hl).1⟩
      rw [e1]
      have h0 := (he t).mono hyz
      cases hdd : p.d with
      | none => exact h0
      | some d =>
        have hdt : d ≠ t := fun e => hpt (by rw [hdd, e])
        have hN' : d < a.tmps.size := by rw [hsz]; exact lt_of_blt (hN d hdd)
        simp only [Act.put, getD_set hN', if_neg hdt]
        exact h0
theorem InvP.step {c0 : Cx} {s : St} {L : List PO} {listed : Array Bool} {a : Act} {w : World} {i : Nat} {p : PO} {o : Oper} {Q : Exit → Act → World → Prop} (hp : L[i]? = some p) (ho : ops[i]? = some o) (hOb : Ob P ops s L i p o) (hE : oneEB L = true) (hH : ordHB ops L = true)
    (hD : depB ops L = true) (hLoc : Locs L) (hi : i < listed.size) (hr : RdyP ops (fun k => listed.getD k false) i) (hinv : InvP c0 s L listed a w) :
    wpOp P ops Q i (InvP c0 s L (listed.setIfInBounds i true)) a w := by
  obtain ⟨hdef, hsz, y, G, hyw, hle, hok, hyH, he⟩ := hinv
  subst hyw
  obtain ⟨hd, hN, hob⟩ := hOb
  unfold wpOp
  simp only [ho]
  rcases hob (fun k => listed.getD k false) G _ _ y.n hr (fun t => rfl) (fun id => rfl) with ⟨hg, h', hspec, hh'⟩ | ⟨hhp, c, v0, hv0, hG, hspec⟩
  · rw [if_pos (by simp [Region.wanted, hg])]
    refine .inl (hspec y a hok (funext fun id => hyH id) rfl (fun t => he t) _ Q fun u z hyz hzok hzH hv => ?_)
    rw [hd]
    exact InvP.put hp hN hE hH hD hLoc hi hr hdef hsz hle he hyz hzok (fun id => by rw [hzH]; exact hh' id) hv
  · have hw : Region.wanted o (yielded ops a.tmps) = c := GuardC.wanted (s := ⟨_, [], 0, 0⟩) hG (fun t => he t)
    rw [hw]
    cases c with
    | true =>
      obtain ⟨h2, hs2, hh2⟩ := hspec rfl
      rw [if_pos rfl]
      refine .inl (hs2 y a hok (funext fun id => hyH id) rfl (fun t => he t) _ Q fun u z hyz hzok hzH hv => ?_)
      rw [hd]
      refine InvP.put hp hN hE hH hD hLoc hi hr hdef hsz hle he hyz hzok (fun id => by rw [hzH, hhp]; exact hh2 id) ?_
      rw [hv0]; exact .whn (fun _ => hv) (fun h => by cases h)
    | false =>
      rw [if_neg (by decide), hd]
      refine InvP.put hp hN hE hH hD hLoc hi hr hdef hsz hle he (.refl y) hok (fun id => by rw [hhp]; exact hyH id) ?_
      rw [hv0]; exact .whn (fun h => by cases h) (fun _ => rfl)
def InsE (e : Env) : Env → Prop
  | [] => True
  | (t, a) :: r => get e t = a ∧ InsE e r
def InsH (e : Heap) : Heap → Prop
  | [] => True
  | (t, a) :: r => hget e t = a ∧ InsH e r
theorem get_pre {e0 e : Env} (he : ∀ t, get e t = get e0 t) : ∀ (r : Env), InsE e0 r → ∀ t, get (r ++ e) t = get e0 t
  | [], _, t => he t
  | (t0, a) :: r, ⟨h1, h2⟩, t => by
    rw [List.cons_append, get_cons]
    split
    · rename_i ht; subst ht; exact h1.symm
    · exact get_pre he r h2 t
theorem hget_pre {e0 e : Heap} (he : ∀ t, hget e t = hget e0 t) : ∀ (r : Heap), InsH e0 r → ∀ t, hget (r ++ e) t = hget e0 t
  | [], _, t => he t
  | (t0, a) :: r, ⟨h1, h2⟩, t => by
    rw [List.cons_append, hget_cons]
    split
    · rename_i ht; subst ht; exact h1.symm
    · exact hget_pre he r h2 t
theorem OpSpecN.same {o : Oper} {R R' : Env} {h h' : Heap} {n : Nat} {v : AV} {h2 : Heap} (hs : OpSpecN P o R h n v h2) (hR : ∀ t, get R' t = get R t) (hh : ∀ id, hget h' id = hget h id) : OpSpecN P o R' h' n v h2 := by
  intro x a hok hH hn he K Q hK
  exact hs x a hok (by rw [hH]; exact funext hh) hn (fun t => by rw [← hR]; exact he t) K Q hK
theorem Ob.quietN {s : St} {L : List PO} {i : Nat} {p : PO} {o : Oper} (hg : o.guard = none) (hd : o.dst = p.d) (hN : ∀ d, p.d = some d → Nat.blt d s.N = true) (hp : p.hp = none) (ie : (Nat → Nat) → Env) (ih : (Nat → Nat) → Heap)
    (hE : ∀ D G, RdyP ops D i → InsE (runE D G s.e L) (ie G)) (hH : ∀ D G, RdyP ops D i → InsH (runH D G s.h L) (ih G))
    (hv : ∀ G n, p.v (updG G i n) = p.v G) (h : ∀ G e h' n, ∃ h2, OpSpecN P o (ie G ++ e) (ih G ++ h') n (p.v G) h2 ∧ ∀ id, hget h2 id = hget (ih G ++ h') id) : Ob P ops s L i p o := by
  refine ⟨hd, hN, fun D G e h' n hr he hh => .inl ⟨hg, ?_⟩⟩
  have g1 := get_pre he _ (hE D G hr)
  have g2 := hget_pre hh _ (hH D G hr)
  obtain ⟨h2, k1, k2⟩ := h G e h' n
  refine ⟨h2, ?_, fun id => by rw [hp, k2, g2, hh]⟩
  rw [hv]
  exact k1.same (fun t => by rw [g1, he]) (fun id => by rw [g2, hh])
theorem Ob.quiet {s : St} {L : List PO} {i : Nat} {p : PO} {o : Oper} {n1 : Nat → Nat} (hg : o.guard = none) (hd : o.dst = p.d) (hN : ∀ d, p.d = some d → Nat.blt d s.N = true) (hp : p.hp = none) (ie : (Nat → Nat) → Env) (ih : (Nat → Nat) → Heap)
    (hE : ∀ D G, RdyP ops D i → InsE (runE D G s.e L) (ie G)) (hH : ∀ D G, RdyP ops D i → InsH (runH D G s.h L) (ih G))
    (hv : ∀ G n, p.v (updG G i n) = p.v G) (h : ∀ G e h' n, OpSpec P true o (ie G ++ e) (ih G ++ h') n (p.v G) (ih G ++ h') (n1 n)) : Ob P ops s L i p o :=
  Ob.quietN hg hd hN hp ie ih hE hH hv fun G e h' n => ⟨_, (h G e h' n).toN, fun _ => rfl⟩
theorem Ob.quietG {s : St} {L : List PO} {i : Nat} {p : PO} {o : Oper} {c : Bool} {v0 : (Nat → Nat) → AV} {n1 : Nat → Nat} (hd : o.dst = p.d) (hN : ∀ d, p.d = some d → Nat.blt d s.N = true) (hp : p.hp = none) (ie : (Nat → Nat) → Env) (ih : (Nat → Nat) → Heap)
    (hE : ∀ D G, RdyP ops D i → InsE (runE D G s.e L) (ie G)) (hH : ∀ D G, RdyP ops D i → InsH (runH D G s.h L) (ih G))
    (hv : ∀ G n, p.v (updG G i n) = .whn c (v0 G)) (hg : ∀ G e, GuardC (ie G ++ e) ops o c) (h : ∀ G e h' n, OpSpec P c o (ie G ++ e) (ih G ++ h') n (v0 G) (ih G ++ h') (n1 n)) : Ob P ops s L i p o := by
  refine ⟨hd, hN, fun D G e h' n hr he hh => .inr ⟨hp, c, v0 G, hv G n, ?_, fun hc => ?_⟩⟩
  · exact (hg G e).same fun t => by rw [get_pre he _ (hE D G hr), he]
  · have g1 := get_pre he _ (hE D G hr)
    have g2 := hget_pre hh _ (hH D G hr)
    subst hc
    exact ⟨_, (h G e h' n).toN.same (fun t => by rw [g1, he]) (fun id => by rw [g2, hh]), fun id => by rw [g2, hh]⟩
theorem Ob.makeN {s : St} {L : List PO} {i : Nat} {p : PO} {o : Oper} {id : Nat} {ob : (Nat → Nat) → Option AObj} (hg : o.guard = none) (hd : o.dst = p.d) (hN : ∀ d, p.d = some d → Nat.blt d s.N = true) (hp : p.hp = some (id, ob)) (ie : (Nat → Nat) → Env) (ih : (Nat → Nat) → Heap)
    (hE : ∀ D G, RdyP ops D i → InsE (runE D G s.e L) (ie G)) (hH : ∀ D G, RdyP ops D i → InsH (runH D G s.h L) (ih G))
    (h : ∀ (G : Nat → Nat) e h' n, OpSpecN P o (ie G ++ e) (ih G ++ h') n (p.v (updG G i n)) ((id, ob (updG G i n)) :: (ih G ++ h'))) : Ob P ops s L i p o := by
  refine ⟨hd, hN, fun D G e h' n hr he hh => .inl ⟨hg, ?_⟩⟩
  have g1 := get_pre he _ (hE D G hr)
  have g2 := hget_pre hh _ (hH D G hr)
  refine ⟨_, (h G e h' n).same (fun t => by rw [g1, he]) (fun j => by rw [g2, hh]), fun j => ?_⟩
  rw [hp, hget_cons]
  simp only
  split
  · rfl
  · rw [g2, hh]
theorem Ob.make {s : St} {L : List PO} {i : Nat} {p : PO} {o : Oper} {id : Nat} {ob : (Nat → Nat) → Option AObj} {n1 : Nat → Nat} (hg : o.guard = none) (hd : o.dst = p.d) (hN : ∀ d, p.d = some d → Nat.blt d s.N = true) (hp : p.hp = some (id, ob)) (ie : (Nat → Nat) → Env) (ih : (Nat → Nat) → Heap)
    (hE : ∀ D G, RdyP ops D i → InsE (runE D G s.e L) (ie G)) (hH : ∀ D G, RdyP ops D i → InsH (runH D G s.h L) (ih G))
    (h : ∀ (G : Nat → Nat) e h' n, OpSpec P true o (ie G ++ e) (ih G ++ h') n (p.v (updG G i n)) ((id, ob (updG G i n)) :: (ih G ++ h')) (n1 n)) : Ob P ops s L i p o :=
  Ob.makeN hg hd hN hp ie ih hE hH fun G e h' n => (h G e h' n).toN
end
section
variable {ops : Array Oper} {D : Nat → Bool} {G : Nat → Nat} {e : Env} {h : Heap} {L : List PO} {t : Nat}
theorem inE_base (hB : noWE L t = true) {a : AV} (ha : get e t = a) : get (runE D G e L) t = a := (runL_none get_cons L e 0 (noWE_NoW hB)).trans ha
theorem inE_op {i : Nat} (hr : RdyP ops D i) (j : Nat) {p : PO} {a : AV} (hj : L[j]? = some p) (hd : p.d = some t) (hw : wt ops 40 i j = true) (hB : noWE (L.drop (j + 1)) t = true) (ha : p.v G = a) : get (runE D G e L) t = a :=
  (runL_some get_cons (wE_mk hd) L e 0 j hj (by rw [Nat.zero_add]; exact hr.yes hw) (noWE_NoW hB)).trans ha
theorem inH_base (hB : noWH L t = true) {a : Option AObj} (ha : hget h t = a) : hget (runH D G h L) t = a := (runL_none hget_cons L h 0 (noWH_NoW hB)).trans ha
def laterB (ops : Array Oper) (i t : Nat) : List PO → Nat → Bool
  | [], _ => true
  | p :: L, k => (match p.hp with | some (d, _) => !Nat.beq d t || Nat.beq k i || wt ops 40 k i | none => true) && laterB ops i t L (k + 1)
theorem laterB_NoW {i : Nat} (hr : RdyP ops D i) : ∀ {L : List PO} {k : Nat}, laterB ops i t L k = true → NoW PO.wH D t L k
  | [], _, _ => fun j _ _ h => by simp at h
  | q :: L, k, hB => by
    simp only [laterB, Bool.and_eq_true] at hB
    intro j p v h1 h2 h3
    match j with
    | 0 =>
      cases h1
      obtain ⟨ob, h4, _⟩ := wH_some h3
      rw [h4] at hB
      simp only [Bool.or_eq_true, Bool.not_eq_true'] at hB
      rcases hB.1 with (h5 | h5) | h5
      · simp at h5
      · rw [Nat.add_zero, Nat.eq_of_beq_eq_true h5, hr.un] at h2; cases h2
      · rw [Nat.add_zero, hr.no h5] at h2; cases h2
    | j + 1 => exact laterB_NoW hr hB.2 j p v (by simpa using h1) (by rwa [show k + 1 + j = k + (j + 1) by omega]) h3
theorem inH_op {i : Nat} (hr : RdyP ops D i) (j : Nat) {p : PO} {ob} {a : Option AObj} (hj : L[j]? = some p) (hd : p.hp = some (t, ob)) (hw : wt ops 40 i j = true) (hB : laterB ops i t (L.drop (j + 1)) (j + 1) = true) (ha : ob G = a) : hget (runH D G h L) t = a :=
  (runL_some hget_cons (wH_mk hd) L h 0 j hj (by rw [Nat.zero_add]; exact hr.yes hw) (by rw [Nat.zero_add]; exact laterB_NoW hr hB)).trans ha
end
end Go.Proofs.YthoepnnckmfipaaGreatDoor.Al


namespace Go.Proofs.YthoepnnckmfipaaGreatDoor.Al
section
variable {P : Program} {ops : Array Oper}
def backB (ops : Array Oper) (n : Nat) : Bool := (List.range n).all fun i => match ops[i]? with | some o => o.after.all fun e => !Region.binds .any e || decide (e.on < i) | none => false
def Obs (P : Program) (ops : Array Oper) (s : St) (L0 : List PO) : Nat → List PO → List Oper → Prop
  | _, [], _ => True
  | _, _ :: _, [] => False
  | i, p :: L, o :: l => Ob P ops s L0 i p o ∧ Obs P ops s L0 (i + 1) L l
theorem Obs.at {s : St} {L0 : List PO} : ∀ {L : List PO} {l : List Oper} {i0 : Nat}, Obs P ops s L0 i0 L l → ∀ {j : Nat} {p : PO} {o : Oper}, L[j]? = some p → l[j]? = some o → Ob P ops s L0 (i0 + j) p o
  | _ :: _, _ :: _, i0, h, 0, _, _, h1, h2 => by cases h1; cases h2; exact h.1
  | _ :: L, _ :: l, i0, h, j + 1, p, o, h1, h2 => by
    have := Obs.at (j := j) h.2 (p := p) (o := o) (by simpa using h1) (by simpa using h2)
    rwa [show i0 + (j + 1) = i0 + 1 + j by omega]
  | _ :: _, [], _, h, _, _, _, _, _ => h.elim
  | [], _, _, _, _, _, _, h1, _ => by simp at h1
def countF (listed : Array Bool) : Nat → Nat
  | 0 => 0
  | n + 1 => countF listed n + (if listed.getD n false then 0 else 1)
theorem countF_set {listed : Array Bool} {i : Nat} (hi : i < listed.size) (hun : listed.getD i false = false) : ∀ n, countF (listed.setIfInBounds i true) n + (if i < n then 1 else 0) = countF listed n
  | 0 => by simp [countF]
  | n + 1 => by
    have ih := countF_set hi hun n
    unfold countF
    by_cases hin : i = n
    · subst hin
      rw [hun]
      have : (listed.setIfInBounds i true).getD i false = true := by simp [hi]
      rw [this]
      simp at ih ⊢
      exact ih
    · rw [getD_set_ne false hin]
      have : (i < n + 1) ↔ (i < n) := by omega
      simp only [this]
      omega
theorem countF_pos {listed : Array Bool} : ∀ {n : Nat}, 0 < countF listed n → ∃ i, i < n ∧ listed.getD i false = false ∧ ∀ j, j < i → listed.getD j false = true
  | 0, h => by simp [countF] at h
  | n + 1, h => by
    by_cases h0 : 0 < countF listed n
    · obtain ⟨i, h1, h2, h3⟩ := countF_pos h0
      exact ⟨i, by omega, h2, h3⟩
    · have hall : ∀ m, m ≤ n → countF listed m = 0 := by
        intro m hm
        have : countF listed m ≤ countF listed n := by
          clear h h0
          induction n with
          | zero => have : m = 0 := by omega
                    subst this; exact Nat.le_refl _
          | succ n ih =>
            by_cases hmn : m = n + 1
            · subst hmn; exact Nat.le_refl _
            · exact Nat.le_trans (ih (by omega)) (Nat.le_add_right ..)
        omega
      unfold countF at h
      refine ⟨n, by omega, ?_, fun j hj => ?_⟩
      · cases hl : listed.getD n false with
        | false => rfl
        | true => rw [hl] at h; simp at h; omega
      · have := hall (j + 1) (by omega)
        unfold countF at this
        cases hl : listed.getD j false with
        | true => rfl
        | false => rw [hl] at this; simp at this
theorem countF_zero {listed : Array Bool} : ∀ {n : Nat}, countF listed n = 0 → ∀ j, j < n → listed.getD j false = true
  | 0, _, j, hj => by omega
  | n + 1, h, j, hj => by
    unfold countF at h
    by_cases hjn : j = n
    · subst hjn
      cases hl : listed.getD j false with
      | true => rfl
      | false => rw [hl] at h; simp at h
    · exact countF_zero (n := n) (by omega) j (by omega)
theorem countF_all {listed : Array Bool} (h : ∀ j, listed.getD j false = false) : ∀ n, countF listed n = n
  | 0 => rfl
  | n + 1 => by unfold countF; rw [countF_all h n, h n]; simp
theorem wpAny_par {c0 : Cx} {s : St} {L : List PO} {n g : Nat} {l : List Oper} {Q : Exit → Act → World → Prop} (hl : l.toArray = ops) (hn : n < ops.size) (hLn : L.length = n) (hback : backB ops n = true) (hs : Region.sinkB .any ops n = true) (hc : Region.chainB .any ops n = true)
    (hD : depB ops L = true) (hE : oneEB L = true) (hH : ordHB ops L = true) (hLoc : Locs L) (hOb : Obs P ops s L 0 L l)
    (hend : ∀ listed a w, HeadInv .any ops n listed → (∀ j, j < n → listed.getD j false = true) → InvP c0 s L listed a w → wpAny P .any ops Q g listed a w) :
    ∀ (f : Nat) (listed : Array Bool) (a : Act) (w : World), countF listed n = f → HeadInv .any ops n listed → InvP c0 s L listed a w → wpAny P .any ops Q (f + g) listed a w := by
  intro f
  induction f with
  | zero =>
    intro listed a w hcnt inv hinv
    rw [Nat.zero_add]
    exact hend listed a w inv (countF_zero hcnt) hinv
  | succ f ih =>
    intro listed a w hcnt inv hinv
    rw [show f + 1 + g = (f + g) + 1 by omega]
    obtain ⟨i0, hi0, hun0, hbefore⟩ := countF_pos (listed := listed) (n := n) (by omega)
    have hs0 : i0 < listed.size := by rw [inv.size]; omega
    have hready0 : i0 ∈ Region.ready .any ops listed := by
      refine mem_ready.2 ⟨getD_in hs0 hun0, ?_⟩
      have hio : ∃ o, ops[i0]? = some o := ⟨ops[i0]'(by omega), by simp [Array.getElem?_eq_getElem (show i0 < ops.size by omega)]⟩
      obtain ⟨o, ho⟩ := hio
      refine ⟨o, ho, fun e he hb => ?_⟩
      have h1 := List.all_eq_true.1 hback i0 (List.mem_range.2 hi0)
      simp only [ho] at h1
      have h2 := (Array.all_eq_true_iff_forall_mem.1 h1) e he
      simp only [hb, Bool.not_true, Bool.false_or, decide_eq_true_eq] at h2
      exact hbefore _ h2
    refine ⟨fun h => (by rw [h] at hready0; cases hready0), fun i hi => ?_⟩
    have hin : i < n := by
      rcases Nat.lt_or_ge i n with h | h
      · exact h
      · exact absurd hi (tail_waits hs hc hn inv _ i0 rfl hi0 (getD_in hs0 hun0) i h)
    obtain ⟨hun, o, ho, hall⟩ := mem_ready.1 hi
    have hunf := getD_both hun
    have his : i < listed.size := by rw [inv.size]; omega
    obtain ⟨p, hp⟩ : ∃ p, L[i]? = some p := ⟨L[i]'(by omega), by simp [List.getElem?_eq_getElem (show i < L.length by omega)]⟩
    have hol : l[i]? = some o := by rw [← ho, ← hl]; simp
    have hob := hOb.at hp hol
    rw [Nat.zero_add] at hob
    have hrd : RdyP ops (fun k => listed.getD k false) i := by
      refine ⟨fun j k hj hk => ?_, fun k hk => ?_, hunf⟩
      · obtain ⟨oj, hoj, e, he, hb, hon⟩ := Region.waitsFor_spec hk
        rw [← hon]; exact inv.closed j oj hoj hj e he hb
      · obtain ⟨oi, hoi, e, he, hb, hon⟩ := Region.waitsFor_spec hk
        have : oi = o := Option.some.inj (hoi.symm.trans ho)
        subst this
        rw [← hon]; exact hall e he hb
    have step := InvP.step (Q := Q) hp ho hob hE hH hD hLoc his hrd hinv
    refine wpOp_mono (fun a' w' h' => ih _ a' w' ?_ (inv.set hi hin) h') step
    have := countF_set his hunf n
    rw [if_pos hin] at this
    omega
def regPB (ops : Array Oper) (n : Nat) (L : List PO) : Bool :=
  decide (n < ops.size) && decide (L.length = n) && backB ops n && Region.sinkB .any ops n && Region.chainB .any ops n && depB ops L && oneEB L && ordHB ops L
    && Region.seqB .any ops (ops.size - n) n (setAll (Array.replicate ops.size false) (List.range n))
theorem setAll_getD : ∀ (is : List Nat) (l : Array Bool) (j : Nat), (∀ i ∈ is, i < l.size) → (setAll l is).getD j false = (l.getD j false || is.contains j)
  | [], l, j, _ => by simp [setAll]
  | i :: is, l, j, h => by
    show (setAll (l.setIfInBounds i true) is).getD j false = _
    rw [setAll_getD is _ j (fun k hk => by simp; exact h k (List.mem_cons_of_mem _ hk))]
    by_cases hij : i = j
    · subst hij
      have := h i (List.mem_cons_self ..)
      simp [this]
    · rw [getD_set_ne false hij]
      simp [Ne.symm hij]
theorem runL_all {α : Type} {wr : PO → Option (Nat × ((Nat → Nat) → α))} {D D' : Nat → Bool} {G : Nat → Nat} : ∀ (L : List PO) (e : List (Nat × α)) (k : Nat), (∀ j, k ≤ j → j < k + L.length → D j = D' j) → runL wr D G e L k = runL wr D' G e L k
  | [], _, _, _ => rfl
  | p :: L, e, k, h => by
    have h0 := h k (Nat.le_refl _) (by simp)
    have ih := fun e => runL_all (wr := wr) (G := G) L e (k + 1) (fun j h1 h2 => h j (by omega) (by simp; omega))
    unfold runL
    rw [h0]
    simp only [ih]
theorem AW.regionP {id : Nat} {l : List Oper} {s : St} {Q : Exit → St → Prop} (n : Nat) (L : List PO) {lt : List Oper} (hm : P.follows .mixedOrders = true) (hB : regPB l.toArray n L = true) (hLoc : Locs L) (e4 : l.drop n = lt)
    (hOb : Obs P l.toArray s L 0 L l)
    (h : ∀ (G : Nat → Nat) (n' : Nat), AOps P l.toArray lt ⟨runE (fun _ => true) G s.e L, runH (fun _ => true) G s.h L, n', s.N⟩ (Q .normal)) : AW P (.region id l.toArray true) Q s := by
  intro c0 a w ⟨hdef, hsz, y, hyw, hle, hok, hH, hn, he⟩
  subst hyw
  obtain ⟨r1, r2⟩ := Cx.redraw hok
  simp only [regPB, Bool.and_eq_true, decide_eq_true_eq] at hB
  obtain ⟨⟨⟨⟨⟨⟨⟨⟨b1, b2⟩, b3⟩, b4⟩, b5⟩, b6⟩, b7⟩, b8⟩, b9⟩ := hB
  refine wp_region_any hm ?_
  generalize hz : ({ y with w := { y.w with drawn := y.w.drawn + 1 } } : Cx) = z at r1 r2
  have hzw : z.w = { y.w with drawn := y.w.drawn + 1 } := by rw [← hz]
  have hzH : z.H = hget s.h := by rw [← hz]; exact hH
  rw [← hzw]
  have hrep : ∀ j, (Array.replicate l.toArray.size false).getD j false = false := getD_replicate_false _
  have key := wpAny_par (P := P) (c0 := c0) (s := s) (L := L) (n := n) (g := l.toArray.size - n) (l := l) (Q := fun e a' w' => ∃ s', Q e s' ∧ Sim c0 s' a' w') rfl b1 b2 b3 b4 b5 b6 b7 b8 hLoc hOb
    (fun listed a' w' inv hall hinv => by
      have hlisted : listed = setAll (Array.replicate l.toArray.size false) (List.range n) := by
        have hsz1 : listed.size = (setAll (Array.replicate l.toArray.size false) (List.range n)).size := by rw [inv.size, setAll_size]; simp
        refine Array.ext hsz1 fun j h1 h2 => ?_
        have h3 := setAll_getD (List.range n) (Array.replicate l.toArray.size false) j (fun i hi => by have := List.mem_range.1 hi; rw [Array.size_replicate]; omega)
        rw [hrep] at h3
        have e1 : listed[j] = listed.getD j false := by unfold Array.getD; rw [dif_pos h1]; rfl
        have e2 : (setAll (Array.replicate l.toArray.size false) (List.range n))[j] = (setAll (Array.replicate l.toArray.size false) (List.range n)).getD j false := by unfold Array.getD; rw [dif_pos h2]; rfl
        rw [e1, e2, h3]
        by_cases hj : j < n
        · rw [hall j hj]; simp [hj]
        · have hjl : j < l.toArray.size := by rw [inv.size] at h1; exact h1
          rw [getD_both (inv.tail j (by omega) hjl)]; simp [hj]
      obtain ⟨i1, i2, z', G, i3, i4, i5, i6, i7⟩ := hinv
      subst i3
      have hdl : (l.drop n).length = l.toArray.size - n := by simp
      have hD : ∀ j, 0 ≤ j → j < 0 + L.length → (fun _ => true) j = (fun k => listed.getD k false) j := fun j _ hj => (hall j (by omega)).symm
      have := wpAny_of_seq (P := P) (md := .any) (ops := l.toArray) (Q' := fun e a' w' => ∃ s', Q e s' ∧ Sim c0 s' a' w') (l.drop n) n listed a' z'.w (fun j => by simp [List.getElem?_drop]) (by rw [hdl, hlisted]; exact b9) ?_
      · rwa [hdl] at this
      · rw [e4]
        refine h G z'.n c0 a' z'.w ⟨i1, i2, z', rfl, i4, i5, funext fun id => ?_, rfl, fun t => ?_⟩ _ fun s'' a'' w'' j1 j2 => ⟨s'', j1, j2⟩
        · rw [i6]; show _ = hget (runL _ _ _ _ _ _) _; rw [runL_all L _ 0 hD]
        · show AVRep z' (get (runL _ _ _ _ _ _) t) _
          rw [runL_all L _ 0 hD]; exact i7 t)
    n (Array.replicate l.toArray.size false) a z.w (countF_all hrep n)
    ⟨by simp, fun j oj _ hl => (by rw [hrep] at hl; cases hl), fun t _ ht => getD_in (by simpa using ht) (hrep _)⟩
    ⟨hdef, hsz, z, fun _ => 0, rfl, hle.trans r1, r2, fun id => by rw [hzH]; exact (runL_none hget_cons L _ 0 fun j p _ _ h1 => by rw [hrep] at h1; cases h1).symm, fun t => by
      have e1 : get (runE (fun k => (Array.replicate l.toArray.size false).getD k false) (fun _ => 0) s.e L) t = get s.e t := runL_none get_cons L _ 0 fun j p _ _ h1 => by rw [hrep] at h1; cases h1
      rw [e1]
      exact (he t).mono r1⟩
  have e : n + (l.toArray.size - n) = l.toArray.size := by omega
  rw [e] at key
  exact key
end
end Go.Proofs.YthoepnnckmfipaaGreatDoor.Al


namespace Go.Proofs.YthoepnnckmfipaaGreatDoor.Al
section
variable {P : Program} {c : Bool} {o : Oper} {R : Env} {h : Heap}
def ArrTy (P : Program) (t : TypeId) (n : Nat) (e : TypeId) : Prop := P.underlying t = some (.array n e) ∧ ScalTy P e
theorem fill_congr {f g : Nat → Option (Nat × Nat)} (hfg : ∀ i p, f i = some p → g i = some p) : ∀ (ps : List (Nat × Value)) (us us' : Array Value), Instr.fill f us ps = some us' → Instr.fill g us ps = some us'
  | [], _, _, h => h
  | (i, v) :: ps, us, us', h => by
    unfold Instr.fill at h ⊢
    cases hf : f i with
    | none => rw [hf] at h; cases h
    | some p =>
      obtain ⟨off, sz⟩ := p
      rw [hf] at h
      rw [hfg i _ hf]
      simp only at h ⊢
      split at h
      · cases h
      · rename_i hc
        rw [if_neg hc]
        exact fill_congr hfg ps _ _ h
def BuildArr (P : Program) (t : TypeId) (places : List (Nat × Nat)) (z : List Value) : Prop :=
  ∃ n e sz, P.underlying t = some (.array n e) ∧ (∃ i, P.info? e = some i ∧ i.size = sz) ∧ (∀ i p, places[i]? = some p → p = (i * sz, sz)) ∧ ∃ i, P.info? t = some i ∧ i.zero = some (.agg z.toArray)
theorem sp_buildArr {t : TypeId} {parts : Array (Nat × Operand)} {places : List (Nat × Nat)} {z : List Value} {q : List (Nat × AV)} {cs : List AV} (ho : o.op = .build t parts) (ht : BuildArr P t places z)
    (hp : PartsEv c R places z.length parts.toList q) (hcs : fillAV (z.map ofConst) q = cs) : OpQ P c o R h (.agg cs) := by
  intro hc y a _ _ he
  subst hcs
  obtain ⟨n, e, sz, h1, ⟨ie, h5, h6⟩, h2, i, h3, h4⟩ := ht
  obtain ⟨us', f1, f2, f3⟩ := fill_av hc he parts.toList q z.toArray (z.map ofConst) (by simp) (fun j b u k1 k2 => by
    have k2' : z[j]? = some u := by simpa using k2
    rw [List.getElem?_map, k2'] at k1
    simp only [Option.map_some, Option.some.injEq] at k1
    subst k1; exact ofConst_rep y u) (by rw [List.length_map]; exact hp)
  refine ⟨.agg us', fun w2 _ => ?_, .agg f2.symm fun j b u k1 k2 => f3 j b u k1 k2⟩
  have f1' := fill_congr (g := fun i => some (i * sz, sz)) (fun i p hp => by rw [h2 i p hp]) _ _ _ f1
  unfold execOp
  rw [ho]
  simp only [Instr.build, zeroValue, typeInfo, Sem.run_bind, run_program, Result.andThen_ok, h3, Sem.run_pure, h4, run_underlying h1, run_sizeOf h5, h6, Value.cells, Array.toList_map]
  rw [f1']
  rfl
theorem sp_idx_arr {t : TypeId} {n : Nat} {e : TypeId} {x y : Operand} {cs : List AV} {k : IntKind} {z : Int} {a : AV} (ho : o.op = .index t x y) (ht : ArrTy P t n e) (hx : Ev c R x (.agg cs)) (hy : Ev c R y (.r (.int k z)))
    (hn : cs.length = n) (h0 : c = true → 0 ≤ z) (ha : c = true → cs[z.toNat]? = some a) : OpQ P c o R h a := by
  intro hc w0 w _ _ he
  obtain ⟨h1, d, i, h2, h3, h4, h5⟩ := ht
  have hv := hx.rep he hc
  generalize hw : w.eval x = v at hv
  cases hv with
  | @agg _ us hl hall =>
    have hz := ha hc
    have hi : z.toNat < us.size := by have := (List.getElem?_eq_some_iff.1 hz).1; omega
    refine ⟨us[z.toNat], fun w2 _ => ?_, hall z.toNat a us[z.toNat] hz (Array.getElem?_eq_getElem hi)⟩
    have hin : 0 ≤ z ∧ z < n := ⟨h0 hc, by omega⟩
    unfold execOp
    rw [ho]
    simp [hw, rep_int (hy.rep he hc), Instr.index, asIntOf, run_underlying h1, hin, run_sizeOf h4, h5, part, run_isAgg h2, h3, Array.getElem?_eq_getElem hi]
theorem ms_idx_arr {α : Type} {t : TypeId} {n : Nat} {e : TypeId} {x y : Operand} {f : α → AV} {l : List α} {k : IntKind} {z : Int} {a : α} (ho : o.op = .index t x y) (ht : ArrTy P t n e) (hx : Ev c R x (.agg (l.map f))) (hy : Ev c R y (.r (.int k z)))
    (hn : l.length = n) (ha : c = true → idx l z = some a) : OpQ P c o R h (f a) :=
  sp_idx_arr ho ht hx hy (by rw [List.length_map]; exact hn) (fun hc => (idx_some (ha hc)).1) (fun hc => by rw [List.getElem?_map, (idx_some (ha hc)).2.1]; rfl)
theorem ArrTy.of {t : TypeId} {n : Nat} {e : TypeId} (h1 : P.underlying t = some (.array n e)) (h2 : ScalTy P e) : ArrTy P t n e := ⟨h1, h2⟩
theorem BuildArr.of {t : TypeId} {n : Nat} {e : TypeId} {sz b sz' : Nat} {ze : Value} {be : Nat} {places : List (Nat × Nat)} {zs : List Value} (h1 : P.underlying t = some (.array n e))
    (h2 : (P.info? e).map (fun i => (i.zero, i.size, i.bytes)) = some (some ze, sz, be)) (h4 : ∀ i p, places[i]? = some p → p = (i * sz, sz)) (h3 : (P.info? t).map (fun i => (i.zero, i.size, i.bytes)) = some (some (.agg zs.toArray), sz', b)) : BuildArr P t places zs := by
  cases hi : P.info? t with
  | none => rw [hi] at h3; cases h3
  | some i =>
    rw [hi] at h3
    simp only [Option.map_some, Option.some.injEq, Prod.mk.injEq] at h3
    exact ⟨n, e, sz, h1, size_of h2, h4, i, hi, h3.1⟩
theorem placesB {places : List (Nat × Nat)} {sz : Nat} (h : (List.range places.length).all (fun i => match places[i]? with | some p => p.1 == i * sz && p.2 == sz | none => false) = true) : ∀ i p, places[i]? = some p → p = (i * sz, sz) := by
  intro i p hp
  have := List.all_eq_true.1 h i (List.mem_range.2 (List.getElem?_eq_some_iff.1 hp).1)
  simp only [hp, Bool.and_eq_true, beq_iff_eq] at this
  obtain ⟨p1, p2⟩ := p
  simp only at this
  rw [this.1, this.2]
end
end Go.Proofs.YthoepnnckmfipaaGreatDoor.Al


namespace Go.Proofs.YthoepnnckmfipaaGreatDoor.Al
section
variable {P : Program} {c : Bool} {o : Oper} {R : Env} {h : Heap} {n : Nat}
def spliceR (cs : List RV) (k : Nat) (vs : List RV) : List RV := cs.take k ++ vs ++ cs.drop (k + vs.length)
theorem sp_store_arrs {t : TypeId} {x y : Operand} {id g i k m : Nat} {e : TypeId} {sz : Nat} {xs : List (List RV)} {row ds : List RV} {a : AV} (ho : o.op = .store t x y) (ht : ∃ i, P.info? t = some i ∧ i.size = m)
    (hx : Ev c R x (.ptr id g i k)) (hh : hget h id = some (.arr g e sz xs)) (hrow : xs[i]? = some row) (hy : Ev c R y a) (hd : rowRV a = some ds) (hm : ds.length = m) (hk : k + ds.length ≤ row.length) :
    OpSpec P c o R h n .any ((id, some (.arr g e sz (xs.set i (spliceR row k ds)))) :: h) n := by
  intro hc z w hok hH hn he K Q hK
  obtain ⟨ii, hi, hisz⟩ := ht
  have hHid : z.H id = some (.arr g e sz xs) := by rw [hH]; exact hh
  have hil : i < xs.length := (List.getElem?_eq_some_iff.1 hrow).1
  obtain ⟨b, cap, us, hβ, hx2, hown, hrows, hcells⟩ := rep_elem hok hHid hil (hx.rep he hc)
  have hgn := (hok.obj _ _ hHid).1
  obtain ⟨hus, hown2⟩ := hown
  rcases hown2 with ⟨hv, _⟩ | ⟨b', cap', cur, hv, _, hcur, hnc, hcm, hcs, htake⟩
  · cases hv
  simp only [Value.slice.injEq, Option.some.injEq, Addr.mk.injEq, true_and, and_true] at hv
  obtain ⟨rfl, rfl⟩ := hv
  have hsz : 0 < sz := (hok.obj _ _ hHid).2.1
  have hrl := hrows row (List.mem_of_getElem? hrow)
  obtain ⟨hdl, hdg⟩ := cellsRV_get hd
  have hones : ∀ b ∈ cellsAV a, b.one = true := fun b hb => by
    obtain ⟨j, hj, rfl⟩ := List.mem_iff_getElem.1 hb
    obtain ⟨a', h1, h2⟩ := hdg j (ds[j]'(by omega)) (by simp [List.getElem?_eq_getElem (show j < ds.length by omega)])
    rw [List.getElem?_eq_getElem hj] at h1
    cases h1
    exact cellRV_one h2
  have hvr := hy.rep he hc
  obtain ⟨hvs, hvg, hv1⟩ := cellsAV_rep hvr hones
  replace hdl : ds.length = (cellsAV a).length := hdl
  have hvl : (w.eval y).cells.toList.length = ds.length := by rw [Array.length_toList (xs := (w.eval y).cells), hvs, hdl]
  have hbase : i * sz + sz ≤ xs.length * sz := by
    have : (i + 1) * sz ≤ xs.length * sz := Nat.mul_le_mul_right _ hil
    rwa [Nat.add_mul, Nat.one_mul] at this
  have hcap : xs.length * sz ≤ cur.size := by rw [hcs]; exact Nat.mul_le_mul_right _ hnc
  have hrun := run_storeAt (P := P) (k := i * sz + k) hi hcur (v := w.eval y) (by rw [hvs, hisz, ← hdl, hm]) hv1 (by rw [hvs, ← hdl]; omega)
  rw [show (w.eval y).cells.size = ds.length by rw [hvs, hdl]] at hrun
  have hsp2 := fun j => splice_get cur.toList (w.eval y).cells.toList (i * sz + k) j (by have := Array.length_toList (xs := cur); rw [hvl]; omega)
  rw [hvl] at hsp2
  let cur' : Array Value := (cur.toList.take (i * sz + k) ++ (w.eval y).cells.toList ++ cur.toList.drop (i * sz + k + ds.length)).toArray
  have hcur's : cur'.size = cur.size := by
    have hvs' : (w.eval y).cells.size = ds.length := by rw [hvs, hdl]
    simp [cur', hvs']; omega
  have hspl : (spliceR row k ds).length = row.length := by simp [spliceR]; omega
  have hspg : ∀ j, (spliceR row k ds)[j]? = if k ≤ j ∧ j < k + ds.length then ds[j - k]? else row[j]? := fun j => splice_get row ds k j hk
  have hup := Cx.upd hok id (.arr g e sz (xs.set i (spliceR row k ds))) (z.w.setRow b cur') (some (b, cap)) z.n (by simp [World.setRow]) rfl rfl rfl
    (fun b' _ hne => setRow_other _ _ _ _ (fun e => hne _ cap hHid (by rw [e]; exact hβ))) (fun b' k' hb => by
      cases hb
      exact ⟨by simpa [World.setRow] using (hok.own id _ b cap hHid hβ).1, .inr ⟨_, _, hHid, hβ⟩⟩) (Nat.le_refl _) hgn
    (fun _ => ⟨_, hHid, rfl, by simp [AObj.shape], hβ.symm⟩)
    (fun hle => by
      have hbs : ∀ b', z.S b' → (z.w.setRow b cur').heap[b']? = z.w.heap[b']? := fun b' hb => hle.blk b' (.inl hb)
      refine ⟨hsz, fun r hr => ?_, .slice (some ⟨b, 0, none⟩) xs.length cap, cur'.toList.take (xs.length * sz), by simp [hdrOk], ⟨by simp [hcur's]; omega, .inr ⟨b, cap, cur', by simp, Nat.zero_le _, setRow_heap _ _ _ _ _ _ hcur, by simpa using hnc, hcm, by rw [hcur's, hcs], by simp⟩⟩, fun i' row' c' d' k1 k2 => ?_⟩
      · rcases List.mem_or_eq_of_mem_set hr with hr | rfl
        · exact hrows r hr
        · rw [hspl]; exact hrl
      · have hi'l : i' < xs.length := by simpa using (List.getElem?_eq_some_iff.1 k1).1
        have hc'l : c' < sz := by
          have := (List.getElem?_eq_some_iff.1 k2).1
          rw [List.getElem?_set] at k1
          split at k1
          · cases k1; rw [hspl, hrl] at this; exact this
          · rw [← hrows row' (List.mem_of_getElem? k1)]; exact this
        have hlt : i' * sz + c' < xs.length * sz := by
          calc i' * sz + c' < i' * sz + sz := by omega
            _ = (i' + 1) * sz := by rw [Nat.add_mul, Nat.one_mul]
            _ ≤ xs.length * sz := Nat.mul_le_mul_right _ hi'l
        have hget : (cur'.toList.take (xs.length * sz))[i' * sz + c']? = if i * sz + k ≤ i' * sz + c' ∧ i' * sz + c' < i * sz + k + ds.length then (w.eval y).cells.toList[i' * sz + c' - (i * sz + k)]? else cur.toList[i' * sz + c']? := by
          rw [List.getElem?_take, if_pos hlt]
          simp only [cur']
          exact hsp2 _
        have huniq : i * sz + k ≤ i' * sz + c' → i' * sz + c' < i * sz + k + ds.length → i = i' := by
          intro h1 h2
          have e2 : (i' * sz + c') / sz = i' := by rw [Nat.mul_comm, Nat.mul_add_div hsz, Nat.div_eq_of_lt (by omega), Nat.add_zero]
          obtain ⟨q, hq⟩ : ∃ q, i' * sz + c' = i * sz + q := ⟨i' * sz + c' - i * sz, by omega⟩
          have hqs : q < sz := by omega
          have e1 : (i * sz + q) / sz = i := by rw [Nat.mul_comm, Nat.mul_add_div hsz, Nat.div_eq_of_lt hqs, Nat.add_zero]
          rw [← e1, ← hq, e2]
        by_cases hin : i * sz + k ≤ i' * sz + c' ∧ i' * sz + c' < i * sz + k + ds.length
        · have hii := huniq hin.1 hin.2
          subst hii
          rw [List.getElem?_set, if_pos rfl, if_pos hil] at k1
          cases k1
          rw [hspg, if_pos (by omega)] at k2
          obtain ⟨a', h1, h2⟩ := hdg _ _ k2
          obtain ⟨u, h3, _, h5⟩ := hvg _ _ h1
          refine ⟨u, ?_, (cellRV_rep h2 h5).mono hbs (fun _ h => h)⟩
          rw [hget, if_pos hin, show i * sz + c' - (i * sz + k) = c' - k by omega, Array.getElem?_toList]
          exact h3
        · have hold : ∃ row0, xs[i']? = some row0 ∧ row0[c']? = some d' := by
            rw [List.getElem?_set] at k1
            split at k1
            · rename_i hii; subst hii
              cases k1
              rw [hspg] at k2
              split at k2
              · exact absurd (by omega) hin
              · exact ⟨row, hrow, k2⟩
            · exact ⟨row', k1, k2⟩
          obtain ⟨row0, k3, k4⟩ := hold
          obtain ⟨u, k5, k6⟩ := hcells _ _ _ _ k3 k4
          refine ⟨u, ?_, k6.mono hbs (fun _ h => h)⟩
          rw [hget, if_neg hin]
          rw [← k5, ← htake, List.getElem?_take, if_pos hlt])
  unfold Oper.wp execOp
  rw [ho]
  simp only [hx2, Sem.run_bind, hrun, Result.andThen_ok, Sem.run_pure]
  exact hK undef _ hup.1 hup.2 (by simp only [hH]; exact hget_upd _ _ _) hn (.any _)
theorem ms_storeA {α : Type} {f : α → List RV} {t : TypeId} {x y : Operand} {id g k m : Nat} {e : TypeId} {sz : Nat} {l : List α} {z : Int} {a v : α} {b : AV} {ds : List RV} (ho : o.op = .store t x y) (ht : ∃ i, P.info? t = some i ∧ i.size = m)
    (hx : Ev true R x (.ptr id g z.toNat k)) (hh : hget h id = some (.arr g e sz (l.map f))) (hi : idx l z = some a) (hy : Ev true R y b) (hd : rowRV b = some ds) (hm : ds.length = m) (hk : Nat.ble (k + ds.length) (f a).length = true) (hv : spliceR (f a) k ds = f v) :
    OpSpec P true o R h n .any ((id, some (.arr g e sz ((l.set z.toNat v).map f))) :: h) n := by
  have := sp_store_arrs (n := n) ho ht hx hh (row := f a) (by rw [List.getElem?_map, (idx_some hi).2.1]; rfl) hy hd hm (Nat.le_of_ble_eq_true hk)
  rwa [hv, ← List.map_set] at this
end
end Go.Proofs.YthoepnnckmfipaaGreatDoor.Al


namespace Go.Proofs.YthoepnnckmfipaaGreatDoor.Al
def UwE2 (c : Bool) : Env → Env → Prop
  | [], _ => True
  | (t, v) :: r, e => (get e t = v ∨ get e t = .whn c v ∨ (∃ b v0, get e t = .whn (c && b) v0 ∧ v = .whn b v0) ∨ ∃ b1 b2 v0, get e t = .whn ((c && b1) && b2) v0 ∧ v = .whn (b1 && b2) v0) ∧ UwE2 c r e
theorem UwE2.get {c : Bool} {e' e : Env} (h : UwE2 c e' e) (t : Nat) : Al.get e' t = .any ∨ Al.get e t = Al.get e' t ∨ Al.get e t = .whn c (Al.get e' t) ∨
    (∃ b v0, Al.get e t = .whn (c && b) v0 ∧ Al.get e' t = .whn b v0) ∨ ∃ b1 b2 v0, Al.get e t = .whn ((c && b1) && b2) v0 ∧ Al.get e' t = .whn (b1 && b2) v0 := by
  induction e' with
  | nil => exact .inl rfl
  | cons p r ih =>
    obtain ⟨d, v⟩ := p
    rw [get_cons]
    split
    · rename_i hd; subst hd; exact .inr h.1
    · exact ih h.2
theorem Weak.unw2 {c : Bool} {e' e : Env} {h : Heap} {n N : Nat} (hc : c = true) (he : UwE2 c e' e) : Weak ⟨e, h, n, N⟩ ⟨e', h, n, N⟩ := by
  intro c0 a w ⟨hdef, hsz, y, hyw, hle, hok, hH, hyn, henv⟩
  refine ⟨hdef, hsz, y, hyw, hle, hok, hH, hyn, fun t => ?_⟩
  subst hc
  have h2 := henv t
  rcases he.get t with h1 | h1 | h1 | ⟨b, v0, h1, h3⟩ | ⟨b1, b2, v0, h1, h3⟩
  · rw [h1]; exact .any _
  · rwa [show Al.get (St.mk e h n N).e t = Al.get e' t from h1] at h2
  · rw [show Al.get (St.mk e h n N).e t = .whn true (Al.get e' t) from h1] at h2
    cases h2 with
    | whn hw _ => exact hw rfl
  · rw [show Al.get (St.mk e h n N).e t = .whn (true && b) v0 from h1] at h2
    rw [Bool.true_and] at h2
    rw [h3]; exact h2
  · rw [show Al.get (St.mk e h n N).e t = .whn ((true && b1) && b2) v0 from h1] at h2
    rw [Bool.true_and] at h2
    rw [h3]; exact h2
theorem andF {a b : Bool} (h : a = false) : (a && b) = false := by rw [h]; rfl
end Go.Proofs.YthoepnnckmfipaaGreatDoor.Al


namespace Go.Proofs.YthoepnnckmfipaaGreatDoor.Al
section
variable {P : Program} {c : Bool} {o : Oper} {R : Env} {h : Heap} {n : Nat}
variable {α : Type} {f : α → List RV}
end
end Go.Proofs.YthoepnnckmfipaaGreatDoor.Al


namespace Go.Proofs.YthoepnnckmfipaaGreatDoor.Al
section
variable {P : Program} {c : Bool} {o : Oper} {R : Env} {h : Heap} {n : Nat}
theorem sp_bAnd {t t' : TypeId} {x y : Operand} {k : IntKind} {m n : Int} (ho : o.op = .binOp .and t x y t') (hx : Ev c R x (.r (.int k m))) (hy : Ev c R y (.r (.int k n))) : OpQ P c o R h (.r (.int k (bAnd k m n))) :=
  sp_binop ho hx hy (fun w => by simp [binOp, Op.intBits, bAnd]) (fun _ _ => .int _ _)
theorem sp_bOr {t t' : TypeId} {x y : Operand} {k : IntKind} {m n : Int} (ho : o.op = .binOp .or t x y t') (hx : Ev c R x (.r (.int k m))) (hy : Ev c R y (.r (.int k n))) : OpQ P c o R h (.r (.int k (bOr k m n))) :=
  sp_binop ho hx hy (fun w => by simp [binOp, Op.intBits, bOr]) (fun _ _ => .int _ _)
theorem sp_bAndNot {t t' : TypeId} {x y : Operand} {k : IntKind} {m n : Int} (ho : o.op = .binOp .andNot t x y t') (hx : Ev c R x (.r (.int k m))) (hy : Ev c R y (.r (.int k n))) : OpQ P c o R h (.r (.int k (bAndNot k m n))) :=
  sp_binop ho hx hy (fun w => by simp [binOp, Op.intBits, bAndNot]) (fun _ _ => .int _ _)
theorem sp_shl {t t' : TypeId} {x y : Operand} {k k2 : IntKind} {m : Int} {b : Nat} (ho : o.op = .binOp .shl t x y t') (hx : Ev c R x (.r (.int k m))) (hy : Ev c R y (.r (.int k2 b))) : OpQ P c o R h (.r (.int k (shlC k m b))) := by
  intro hc z a _ _ he
  refine ⟨.int k (shlC k m b), fun w2 hag => ?_, .r (.int _ _)⟩
  unfold execOp
  rw [ho]
  simp [rep_int (hx.rep he hc), rep_int (hy.rep he hc), eqGuard, binOp, Op.shift, shlC]
  intro hb; omega
theorem sp_shr {t t' : TypeId} {x y : Operand} {k k2 : IntKind} {m : Int} {b : Nat} (ho : o.op = .binOp .shr t x y t') (hx : Ev c R x (.r (.int k m))) (hy : Ev c R y (.r (.int k2 b))) : OpQ P c o R h (.r (.int k (shrC k m b))) := by
  intro hc z a _ _ he
  refine ⟨.int k (shrC k m b), fun w2 hag => ?_, .r (.int _ _)⟩
  unfold execOp
  rw [ho]
  simp [rep_int (hx.rep he hc), rep_int (hy.rep he hc), eqGuard, binOp, Op.shift, shrC]
  intro hb; omega
def TabTy (P : Program) (t : TypeId) (n : Nat) (e : TypeId) (sz : Nat) : Prop := P.underlying t = some (.array n e) ∧ ∃ i, P.info? e = some i ∧ i.size = sz
theorem tabf_get {α : Type} {f : α → List RV} {sz : Nat} (hf : ∀ a, (f a).length = sz) : ∀ (l : List α) (i j : Nat) (a : α) (d : RV), l[i]? = some a → (f a)[j]? = some d → (l.flatMap f)[i * sz + j]? = some d
  | [], i, _, _, _, h, _ => by simp at h
  | x :: l, 0, j, a, d, h, hd => by
    have hx : x = a := by simpa using h
    subst hx
    have hj : j < (f x).length := (List.getElem?_eq_some_iff.1 hd).1
    rw [List.flatMap_cons, Nat.zero_mul, Nat.zero_add, List.getElem?_append_left hj]
    exact hd
  | x :: l, i + 1, j, a, d, h, hd => by
    have ih := tabf_get hf l i j a d (by simpa using h) hd
    rw [List.flatMap_cons, List.getElem?_append_right (by rw [hf, Nat.add_mul]; omega), hf]
    rw [show (i + 1) * sz + j - sz = i * sz + j by rw [Nat.add_mul]; omega]
    exact ih
theorem ms_idx_tab {α : Type} {f : α → List RV} {t e : TypeId} {sz nn g : Nat} {y : Operand} {l : List α} {k : IntKind} {z : Int} {a : α} (ho : o.op = .indexAddr t (.global g) y) (ht : TabTy P t nn e sz) (hT : theTabs g = some (l.flatMap f)) (hn : l.length = nn)
    (hy : Ev c R y (.r (.int k z))) (hlen : ∀ a, (f a).length = sz) (h0 : 0 < sz) (hi : c = true → idx l z = some a) : OpQ P c o R h (.rop (f a) 0) := by
  intro hc x w hok hH he
  obtain ⟨ht1, ii, hi1, hi2⟩ := ht
  obtain ⟨z0, hz, hlt⟩ := idx_some (hi hc)
  have hrep := hok.tabs g _ hT
  generalize hv : (Value.pointer (some ⟨g, 0, none⟩)) = v at hrep
  cases hrep with
  | @rop _ _ b off u hS hcell hrr =>
    simp only [Value.pointer.injEq, Option.some.injEq, Addr.mk.injEq, and_true, Nat.add_zero] at hv
    obtain ⟨rfl, hoff⟩ := hv
    subst hoff
    have hne : (l.flatMap f) ≠ [] := by
      intro e0
      have hj : 0 < (f a).length := by rw [hlen]; exact h0
      have := tabf_get hlen l z.toNat 0 a _ hz (List.getElem?_eq_getElem hj)
      rw [e0] at this; simp at this
    refine ⟨.pointer (some ⟨g, z.toNat * sz + 0, none⟩), fun w2 hag => ?_, .rop (fun j => u (z.toNat * sz + j)) (fun _ => hS hne) (fun j d hj => ?_) (fun j d hj => ?_)⟩
    · unfold execOp
      rw [ho]
      have hlt' : z < (nn : Int) := by rw [← hn]; exact hlt
      have hg : w.eval (.global g) = .pointer (some ⟨g, 0, none⟩) := rfl
      simp [hg, rep_int (hy.rep he hc), Instr.indexAt, Instr.sureAddr, asIntOf, run_underlying ht1, z0, hlt', run_sizeOf hi1, hi2, Addr.add_lit]
    · have h1 := tabf_get hlen l z.toNat j a d hz hj
      have := hcell _ _ h1
      simpa using this
    · have h1 := tabf_get hlen l z.toNat j a d hz hj
      exact hrr _ _ h1
end
end Go.Proofs.YthoepnnckmfipaaGreatDoor.Al


namespace Go.Proofs.YthoepnnckmfipaaGreatDoor.Al
section
variable {P : Program} {c : Bool} {o : Oper} {R : Env} {h : Heap} {n : Nat}
theorem extract_list (s : List UInt8) (l m : Nat) : (⟨s.toArray⟩ : ByteArray).extract l m = ⟨((s.drop l).take (m - l)).toArray⟩ := by
  apply ByteArray.ext
  rw [ByteArray.data_extract]
  simp [List.extract_toArray]
theorem ms_slice_str {t : TypeId} {x : Operand} {lo hi : Option Operand} {s r : List UInt8} {zl zh : Int} (ho : o.op = .slice t x lo hi none) (ht : P.underlying t = some .string) (hx : Ev c R x (.r (.str s)))
    (hlo : BndI c R 0 lo zl) (hhi : BndI c R s.length hi zh) (hs : c = true → slc s zl zh = some r) : OpQ P c o R h (.r (.str r)) := by
  intro hc z w _ _ he
  obtain ⟨h1, h2, h3, rfl⟩ := slc_some (hs hc)
  have hsz : (⟨s.toArray⟩ : ByteArray).size = s.length := rfl
  refine ⟨.string ⟨((s.drop zl.toNat).take (zh.toNat - zl.toNat)).toArray⟩, fun w2 hag => ?_, by have := RRep.str (w := z.w) (S := z.S) ⟨((s.drop zl.toNat).take (zh.toNat - zl.toNat)).toArray⟩; exact .r this⟩
  have hbnd : ∀ W, (Instr.sliceBounds false s.length s.length (lo.map w.eval) (hi.map w.eval) none).run P W = .ok (zl.toNat, zh.toNat, s.length) W := by
    intro W
    cases hi with
    | none =>
      simp only [BndI] at hhi
      subst hhi
      cases lo with
      | none => simp only [BndI] at hlo; subst hlo; simp [Instr.sliceBounds]
      | some v =>
        obtain ⟨k, hk⟩ := hlo
        have hr : ∀ W, (Instr.sliceBound (w.eval v) s.length .sliceB).run P W = .ok zl.toNat W := fun W => by rw [rep_int (hk.rep he hc), run_bound h1 (by omega)]
        simp [Instr.sliceBounds, hr]
    | some v2 =>
      obtain ⟨k2, hk2⟩ := hhi
      have hr2 : ∀ W, (Instr.sliceBound (w.eval v2) s.length .sliceAlen).run P W = .ok zh.toNat W := fun W => by rw [rep_int (hk2.rep he hc), run_bound (by omega) (by omega)]
      cases lo with
      | none => simp only [BndI] at hlo; subst hlo; simp [Instr.sliceBounds, hr2]
      | some v =>
        obtain ⟨k, hk⟩ := hlo
        have hr : ∀ W, (Instr.sliceBound (w.eval v) zh.toNat .sliceB).run P W = .ok zl.toNat W := fun W => by rw [rep_int (hk.rep he hc), run_bound h1 (by omega)]
        simp [Instr.sliceBounds, hr, hr2]
  unfold execOp
  rw [ho]
  simp [rep_str (hx.rep he hc), Instr.sliceAt, Instr.slice, run_underlying ht, hsz, hbnd, extract_list]
end
end Go.Proofs.YthoepnnckmfipaaGreatDoor.Al


namespace Go.Proofs.YthoepnnckmfipaaGreatDoor.Al
section
variable {P : Program} {c : Bool} {o : Oper} {R : Env} {h : Heap}
theorem sp_loadA_box_at {t : TypeId} {x : Operand} {id g k : Nat} {e : TypeId} {sz : Nat} {cs ds : List AV} (ho : o.op = .load t x) (ht : AggTy P t sz) (hx : Ev c R x (.ptr id g 0 k)) (hh : c = true → hget h id = some (.box g e cs))
    (hd : (cs.drop k).take sz = ds) (hl : ds.length = sz) : OpQ P c o R h (.agg ds) := by
  intro hc z w hok hH he
  have hHid : z.H id = some (.box g e cs) := by rw [hH]; exact hh hc
  obtain ⟨b, cur, h1, h2, h3, h4, h5⟩ := rep_box hok hHid (hx.rep he hc)
  have hat : ∀ j a, ds[j]? = some a → cs[k + j]? = some a := by
    intro j a hj
    have hlt : j < sz := by rw [← hl]; exact (List.getElem?_eq_some_iff.1 hj).1
    rw [← hd, List.getElem?_take, if_pos hlt, List.getElem?_drop] at hj
    exact hj
  have hcell : ∀ j, j < sz → z.w.cell? ⟨b, k + j, none⟩ = some ((fun j => cur.getD (k + j) undef) j) := by
    intro j hj
    obtain ⟨u, h6, _, _⟩ := h5 _ _ (hat j _ (List.getElem?_eq_getElem (by omega : j < ds.length)))
    have hj' : k + j < cur.size := (Array.getElem?_eq_some_iff.1 h6).1
    rw [cell_of_row _ b (k + j) cur e _ h3]
    simp [hj']
  refine ⟨.agg ((List.range sz).map fun j => cur.getD (k + j) undef).toArray, fun w2 hag => ?_, agg_of_fun hl _ fun j a hj => ?_⟩
  · unfold execOp
    rw [ho]
    simp [h2, run_loadAt_agg ht _ (fun j hj => (hag.cellO hHid h1).trans (hcell j hj))]
  · obtain ⟨u, h6, _, h7⟩ := h5 _ _ (hat j a hj)
    simpa [h6] using h7
theorem ms_loadA_box_at {t : TypeId} {x : Operand} {id g k : Nat} {e : TypeId} {sz : Nat} {cs ds : List AV} (ho : o.op = .load t x) (ht : AggTy P t sz) (hx : Ev c R x (.ptr id g 0 k)) (hh : hget h id = some (.box g e cs))
    (hd : (cs.drop k).take sz = ds) (hl : ds.length = sz) : OpQ P c o R h (.agg ds) :=
  sp_loadA_box_at ho ht hx (fun _ => hh) hd hl
end
theorem Weak.ren {s : St} (t i j : Nat) {g : Nat} {e : TypeId} {sz : Nat} {xs : List (List RV)} (hij : (i == j) = false) (ht : get s.e t = .own i g) (hh : hget s.h i = some (.arr g e sz xs)) :
    Weak s ⟨(t, .own j s.n) :: s.e, (j, some (.arr s.n e sz xs)) :: (i, none) :: s.h, s.n + 1, s.N⟩ := by
  have hne : i ≠ j := by simpa using hij
  intro c0 a w ⟨hdef, hsz, y, hyw, hle, hok, hH, hyn, henv⟩
  have hHi : y.H i = some (.arr g e sz xs) := by rw [hH]; exact hh
  let z : Cx := { y with H := fun d => if j = d then some (.arr s.n e sz xs) else if i = d then none else y.H d, β := fun d => if j = d then y.β i else y.β d, n := y.n + 1 }
  have hzl : y.le z := by
    refine ⟨Nat.le_refl _, rfl, rfl, rfl, fun _ _ => rfl, fun _ h => h, rfl, Nat.le_succ _, fun d o' ho' hg => ?_⟩
    dsimp only [z] at ho' ⊢
    split at ho'
    · cases ho'
      exact absurd hg (by simp [AObj.gen, hyn])
    · rename_i hj
      split at ho'
      · cases ho'
      · exact ⟨o', ho', rfl, rfl, by rw [if_neg hj]⟩
  have hzok : z.ok := by
    refine ⟨hok.S_lt, hok.F_lt, hok.SF, fun d o ho => ?_, fun d o b k ho hb => ?_, fun d d' o o' b k k' ho ho' hb hb' => ?_, hok.tabs.le hzl⟩
    · dsimp only [z] at ho ⊢
      split at ho
      · rename_i hj
        cases ho
        rw [if_pos hj]
        refine ⟨by simp [AObj.gen, hyn], ?_⟩
        have h2 := (hok.obj i _ hHi).2
        exact (show ORep y (y.β i) (.arr s.n e sz xs) from h2).mono hzl fun b k _ => rfl
      · rename_i hj
        split at ho
        · cases ho
        · rw [if_neg hj]
          obtain ⟨h1, h2⟩ := hok.obj d o ho
          exact ⟨Nat.lt_succ_of_lt h1, h2.mono hzl fun b k _ => rfl⟩
    · dsimp only [z] at ho hb ⊢
      split at hb
      · exact hok.own i _ b k hHi hb
      · rename_i hj
        rw [if_neg hj] at ho
        split at ho
        · cases ho
        · exact hok.own d o b k ho hb
    · dsimp only [z] at ho ho' hb hb'
      by_cases h1 : j = d <;> by_cases h2 : j = d'
      · rw [← h1, ← h2]
      · rw [if_pos h1] at hb
        rw [if_neg h2] at ho' hb'
        split at ho'
        · cases ho'
        · rename_i h3
          exact absurd (hok.inj i d' _ _ b k k' hHi ho' hb hb') h3
      · rw [if_neg h1] at ho hb
        rw [if_pos h2] at hb'
        split at ho
        · cases ho
        · rename_i h3
          exact absurd (hok.inj d i _ _ b k k' ho hHi hb hb').symm h3
      · rw [if_neg h1] at ho hb
        rw [if_neg h2] at ho' hb'
        split at ho
        · cases ho
        · split at ho'
          · cases ho'
          · exact hok.inj d d' _ _ b k k' ho ho' hb hb'
  refine ⟨hdef, hsz, z, hyw, hle.trans hzl, hzok, ?_, by simp [z, hyn], fun t' => ?_⟩
  · funext d
    show (if j = d then _ else if i = d then _ else y.H d) = _
    rw [hget_cons, hget_cons, hH]
  · rw [get_cons]
    split
    · rename_i htt
      have h1 := henv t
      rw [ht, htt] at h1
      generalize a.tmps.getD t' undef = u at h1 ⊢
      cases h1 with
      | own h1 h2 h3 =>
        refine .own (by simp [z, hyn]) h2 fun o ho _ => ?_
        dsimp only [z] at ho ⊢
        rw [if_pos rfl] at ho ⊢
        cases ho
        have h5 := h3 _ hHi rfl
        exact h5
    · exact (henv t').mono hzl
end Go.Proofs.YthoepnnckmfipaaGreatDoor.Al


namespace Go.Proofs.YthoepnnckmfipaaGreatDoor.Al
section
variable {P : Program} {c : Bool} {o : Oper} {R : Env} {h : Heap} {n : Nat}
theorem newIter_spec {x : Cx} (hok : x.ok) (id : Nat) (s : List UInt8) :
    ∃ y : Cx, x.le y ∧ y.ok ∧ y.w = x.w.alloc (.stringIter ⟨s.toArray⟩ 0) ∧ y.H = (fun i => if id = i then some (.it x.n s 0) else x.H i) ∧ y.n = x.n + 1 ∧
      AVRep y (.ptr id x.n 0 0) (.pointer (some ⟨x.w.heap.size, 0, none⟩)) := by
  have := Cx.upd hok id (.it x.n s 0) (x.w.alloc (.stringIter ⟨s.toArray⟩ 0)) (some (x.w.heap.size, 1)) (x.n + 1) (by simp) rfl rfl rfl
    (fun b hb _ => heap_alloc_old _ _ hb) (fun b k hb => by cases hb; simp) (by omega) (by simp [AObj.gen]) (fun hg => absurd hg (by simp [AObj.gen]))
    (fun hle => ⟨x.w.heap.size, rfl, heap_alloc_new _ _⟩)
  refine ⟨_, this.1, this.2, rfl, rfl, rfl, .ptr (by simp) rfl fun o' ho' _ => ?_⟩
  simp only [if_pos] at ho'
  cases ho'
  exact ⟨x.w.heap.size, 1, by simp, by simp⟩
theorem ms_range {t : TypeId} {x : Operand} {s : List UInt8} (id : Nat) (ho : o.op = .range t x) (ht : P.underlying t = some .string) (hx : Ev c R x (.r (.str s))) :
    OpSpec P c o R h n (.ptr id n 0 0) ((id, some (.it n s 0)) :: h) (n + 1) := by
  intro hc z w hok hH hn he K Q hK
  obtain ⟨y, k1, k2, k3, k4, k5, k6⟩ := newIter_spec hok id s
  have hv := hx.rep he hc
  generalize hw : w.eval x = v at hv
  cases hv with
  | r hv =>
    cases hv with
    | str s =>
      unfold Oper.wp execOp
      rw [ho]
      simp only [hw, Sem.run_bind, run_range_string _ _ _ ht, Result.andThen_ok, Sem.run_pure]
      have := hK (.pointer (some ⟨z.w.heap.size, 0, none⟩)) y k1 k2 (by rw [k4, hH, hn, hget_upd]) (by rw [k5, hn]) (by rw [← hn]; exact k6)
      rw [k3] at this
      exact this
theorem rep_it {x : Cx} (hok : x.ok) {id g pos : Nat} {s : List UInt8} {v : Value} (hH : x.H id = some (.it g s pos)) (hv : AVRep x (.ptr id g 0 0) v) :
    ∃ b, x.β id = some (b, 1) ∧ v = .pointer (some ⟨b, 0, none⟩) ∧ x.w.heap[b]? = some (.stringIter ⟨s.toArray⟩ pos) := by
  obtain ⟨_, b, h1, h2⟩ := hok.obj _ _ hH
  cases hv with
  | ptr _ _ hv =>
    obtain ⟨b', cap, h5, h6⟩ := hv _ hH rfl
    rw [h1] at h5
    simp only [Option.some.injEq, Prod.mk.injEq] at h5
    obtain ⟨rfl, rfl⟩ := h5
    exact ⟨b, h1, by rw [h6, Nat.zero_mul], h2⟩
theorem ms_next_f {x : Operand} {id g pos : Nat} {s : List UInt8} (ho : o.op = .next x true) (hx : Ev c R x (.ptr id g 0 0)) (hh : hget h id = some (.it g s pos)) (hp : c = true → decide (pos < s.length) = false) :
    OpSpec P c o R h n (.tup [.r (.bool false)]) h n := by
  intro hc z w hok hH hn he K Q hK
  obtain ⟨b, h1, h2, h3⟩ := rep_it hok (by rw [hH]; exact hh) (hx.rep he hc)
  have hlt : ¬ pos < (⟨s.toArray⟩ : ByteArray).size := by
    have := of_decide_eq_false (hp hc)
    simpa [ByteArray.size] using this
  unfold Oper.wp execOp
  rw [ho]
  have hrun : (Instr.next (.pointer (some ⟨b, 0, none⟩)) true o.type).run P z.w = .ok (.tuple #[.bool false]) z.w := by
    simp [Instr.next, getObj, Sem.run, h3, hlt]
  simp only [h2, Sem.run_bind, hrun, Result.andThen_ok, Sem.run_pure]
  refine hK (.tuple #[.bool false]) z (Cx.le.refl z) hok hH hn (.tup rfl fun i a u ha hu => ?_)
  rcases i with _ | i
  · simp at ha hu; subst ha; subst hu; exact .r (.bool false)
  · simp at ha
theorem ms_next_t {x : Operand} {id g pos : Nat} {s : List UInt8} (ho : o.op = .next x true) (hx : Ev c R x (.ptr id g 0 0)) (hh : hget h id = some (.it g s pos)) (hp : c = true → decide (pos < s.length) = true) :
    OpSpec P c o R h n (.tup [.r (.bool true), .r (.int .i64 (pos : Int)), .r (.int .i32 ((runeAt s pos).1 : Int))]) ((id, some (.it g s (pos + (runeAt s pos).2))) :: h) n := by
  intro hc z w hok hH hn he K Q hK
  have hHid : z.H id = some (.it g s pos) := by rw [hH]; exact hh
  obtain ⟨b, h1, h2, h3⟩ := rep_it hok hHid (hx.rep he hc)
  have hlt : pos < (⟨s.toArray⟩ : ByteArray).size := by
    have := of_decide_eq_true (hp hc)
    simpa [ByteArray.size] using this
  have hb := (hok.own id _ b 1 hHid h1).1
  have hup := Cx.upd hok id (.it g s (pos + (runeAt s pos).2)) { z.w with heap := z.w.heap.setIfInBounds b (.stringIter ⟨s.toArray⟩ (pos + (runeAt s pos).2)) } (some (b, 1)) z.n (by simp) rfl rfl rfl
    (fun b' _ hne => by
      have : b ≠ b' := fun e => hne _ 1 hHid (by rw [← e]; exact h1)
      simp [this])
    (fun b' k' hb' => by cases hb'; exact ⟨by simpa using hb, .inr ⟨_, _, hHid, h1⟩⟩) (Nat.le_refl _) (hok.obj _ _ hHid).1 (fun _ => ⟨_, hHid, rfl, rfl, h1.symm⟩)
    (fun hle => ⟨b, rfl, by simp [hb]⟩)
  unfold Oper.wp execOp
  rw [ho]
  have hrun : (Instr.next (.pointer (some ⟨b, 0, none⟩)) true o.type).run P z.w = .ok (.tuple #[.bool true, .int .i64 (pos : Int), .int .i32 ((runeAt s pos).1 : Int)]) { z.w with heap := z.w.heap.setIfInBounds b (.stringIter ⟨s.toArray⟩ (pos + (runeAt s pos).2)) } := by
    simp only [Instr.next, getObj, setObj, Sem.run_bind, Sem.run, h3, Result.andThen, hlt, if_true]
    simp [goInt, Sem.run, h3, runeAt]
  simp only [h2, Sem.run_bind, hrun, Result.andThen_ok, Sem.run_pure]
  refine hK _ _ hup.1 hup.2 (by simp only [hH]; exact hget_upd _ _ _) hn (.tup rfl fun i a u ha hu => ?_)
  rcases i with _ | _ | _ | i
  · simp at ha hu; subst ha; subst hu; exact .r (.bool true)
  · simp at ha hu; subst ha; subst hu; exact .r (.int _ _)
  · simp at ha hu; subst ha; subst hu; exact .r (.int _ _)
  · simp at ha
theorem AW.split {Q : Exit → St → Prop} {s : St} {x : Code} (b : Bool) (h1 : b = true → AW P x Q s) (h2 : b = false → AW P x Q s) : AW P x Q s := by
  cases b
  · exact h2 rfl
  · exact h1 rfl
end
theorem giveup {α : Type} {x : α} {p : Prop} (h : (none : Option α) = some x) : p := by cases h
end Go.Proofs.YthoepnnckmfipaaGreatDoor.Al


namespace Go.Proofs.YthoepnnckmfipaaGreatDoor.Al
end Go.Proofs.YthoepnnckmfipaaGreatDoor.Al


namespace Go.Proofs.YthoepnnckmfipaaGreatDoor.Al
section
variable {P : Program} {c : Bool} {o : Oper} {R : Env} {h : Heap}
theorem ms_idx_box {t e e' : TypeId} {nn id g : Nat} {x y : Operand} {cs : List AV} {k : IntKind} {z : Int} (ho : o.op = .indexAddr t x y) (ht : TabTy P t nn e 1) (hx : Ev c R x (.ptr id g 0 0)) (hh : hget h id = some (.box g e' cs))
    (hy : Ev c R y (.r (.int k z))) {l : List Bool} {v : Bool} (hi : c = true → idx l z = some v) (hl : l.length = nn) : OpQ P c o R h (.ptr id g 0 z.toNat) := by
  intro hc w a hok hH he
  obtain ⟨ht1, ii, hj1, hj2⟩ := ht
  have hHid : w.H id = some (.box g e' cs) := by rw [hH]; exact hh
  have hv := hx.rep he hc
  obtain ⟨z0, _, z1⟩ := idx_some (hi hc)
  rw [hl] at z1
  have hg : g < w.n := by cases hv with | ptr hg _ _ => exact hg
  obtain ⟨b, cur, h1, h2, h3, h4, h5⟩ := rep_box hok hHid hv
  refine ⟨.pointer (some ⟨b, z.toNat, none⟩), fun w2 hag => ?_, .ptr hg rfl fun o' ho' hgen => ?_⟩
  · unfold execOp
    rw [ho]
    simp [h2, rep_int (hy.rep he hc), Instr.indexAt, Instr.sureAddr, asIntOf, run_underlying ht1, z0, z1, run_sizeOf hj1, hj2, Addr.add_lit]
  · rw [hHid] at ho'; cases ho'
    exact ⟨b, _, h1, by simp⟩
theorem ms_load_boxk {t : TypeId} {x : Operand} {id g : Nat} {e : TypeId} {cs : List AV} {l : List Bool} {z : Int} {a : Bool} (ho : o.op = .load t x) (ht : ScalTy P t) (hx : Ev c R x (.ptr id g 0 z.toNat)) (hh : hget h id = some (.box g e cs)) (hcs : cs = l.map fun b => .r (.bool b))
    (hi : c = true → idx l z = some a) : OpQ P c o R h (.r (.bool a)) :=
  sp_load_box ho ht hx (fun _ => hh) (fun hc => by rw [hcs, List.getElem?_map, (idx_some (hi hc)).2.1]; rfl)
end
end Go.Proofs.YthoepnnckmfipaaGreatDoor.Al


namespace Go.Proofs.YthoepnnckmfipaaGreatDoor.Al
open Go.Shelf Go.RowKit Go.Lib
theorem ARO.of_below {P : Program} {f : FuncId} {args : List AV} {r : AV} (hc : Callable P f) (hcl : r.closed = true)
    (h : ∀ (x : Cx) (vs : Array Value), x.ok → ArgsRep x args vs.toList → Calls P f vs x.w fun e w' => ∃ u, e = .returned u ∧ Below x.w.heap.size x.w w' ∧ ∀ y : Cx, AVRep y r u) : ARO P f args r := by
  refine ⟨hc, hcl, fun x vs hok hH ha => (h x vs hok ha).mono fun e w' ⟨u, he, hb, hr⟩ => ?_⟩
  have hle : x.le { x with w := w' } := by
    refine ⟨hb.size, hb.os, hb.tape, hb.output, fun b hbb => hb.block b (hbb.elim (hok.S_lt b) (hok.F_lt b)), fun _ h => h, rfl, Nat.le_refl _, fun id o ho _ => ⟨o, ho, rfl, rfl, rfl⟩⟩
  refine ⟨u, { x with w := w' }, he, rfl, hle, ⟨fun b hb2 => Nat.lt_of_lt_of_le (hok.S_lt b hb2) hb.size, fun b hb2 => Nat.lt_of_lt_of_le (hok.F_lt b hb2) hb.size, hok.SF, fun id o ho => ?_, fun id o b k ho => ?_, fun id id' o o' b k k' ho => ?_, hok.tabs.le hle⟩, hr _⟩
  · exact absurd (show x.H id = some o from ho) (by rw [hH]; simp)
  · exact absurd (show x.H id = some o from ho) (by rw [hH]; simp)
  · exact absurd (show x.H id = some o from ho) (by rw [hH]; simp)
theorem tab_cell {x : Cx} (ht : TabsOk x) {g : Nat} {row : List RV} (hg : theTabs g = some row) {j : Nat} {k : IntKind} {z : Int} (hj : row[j]? = some (.int k z)) : x.w.cell? ⟨g, j, none⟩ = some (.int k z) := by
  have h := ht g row hg
  generalize hv : (Value.pointer (some ⟨g, 0, none⟩)) = v at h
  cases h with
  | rop u h1 h2 h3 =>
    rename_i b off
    simp only [Value.pointer.injEq, Option.some.injEq, Addr.mk.injEq, and_true, Nat.add_zero] at hv
    obtain ⟨rfl, rfl⟩ := hv
    have h4 := h2 j _ hj
    have h5 := h3 j _ hj
    rw [Nat.zero_add] at h4
    rw [h4]
    generalize u j = w at h5
    cases h5; rfl
theorem first_at : ∀ c, c < 256 → (tabFirst.flatMap fun z => [RV.int .u8 z])[c]? = some (.int .u8 (Lib.firstT c : Int)) := by
  have h : ∀ c : Fin 256, tabFirst[c.val]? = some (Lib.firstT c.val : Int) := by decide +kernel
  intro c hc
  have h1 : ∀ (l : List Int) (j : Nat), (l.flatMap fun z => [RV.int .u8 z])[j]? = (l[j]?).map (RV.int .u8) := by
    intro l
    induction l with
    | nil => intro j; simp
    | cons a l ih => intro j; cases j with
      | zero => simp
      | succ j => simpa using ih j
  rw [h1, h ⟨c, hc⟩]; rfl
theorem accept_at : ∀ i, i < 16 → (tabAccept0.flatMap fun p => [RV.int .u8 p.1, RV.int .u8 p.2])[2 * i]? = some (.int .u8 (Lib.accLo i : Int)) ∧ (tabAccept0.flatMap fun p => [RV.int .u8 p.1, RV.int .u8 p.2])[2 * i + 1]? = some (.int .u8 (Lib.accHi i : Int)) := by
  have h : ∀ c : Fin 16, tabAccept0[c.val]? = some ((Lib.accLo c.val : Int), (Lib.accHi c.val : Int)) := by decide +kernel
  intro i hi
  have h1 : ∀ (l : List (Int × Int)) (j : Nat), (l.flatMap fun p => [RV.int .u8 p.1, RV.int .u8 p.2])[2 * j]? = (l[j]?).map (fun p => RV.int .u8 p.1) ∧ (l.flatMap fun p => [RV.int .u8 p.1, RV.int .u8 p.2])[2 * j + 1]? = (l[j]?).map (fun p => RV.int .u8 p.2) := by
    intro l
    induction l with
    | nil => intro j; simp
    | cons a l ih => intro j; cases j with
      | zero => simp
      | succ j =>
        have := ih j
        rw [show 2 * (j + 1) = 2 * j + 1 + 1 by omega]
        simpa using this
  rw [(h1 _ _).1, (h1 _ _).2, h ⟨i, hi⟩]
  exact ⟨rfl, rfl⟩
theorem utf8Tabs {x : Cx} (hok : x.ok) (hne : gFirst ≠ gAccept) : Lib.Utf8Tabs gFirst gAccept x.w := by
  have hF : theTabs gFirst = some (tabFirst.flatMap fun z => [.int .u8 z]) := by unfold theTabs; rw [if_pos rfl]
  have hA : theTabs gAccept = some (tabAccept0.flatMap fun p => [.int .u8 p.1, .int .u8 p.2]) := by unfold theTabs; rw [if_neg (fun e => hne e.symm), if_pos rfl]
  exact ⟨fun c hc => tab_cell hok.tabs hF (first_at c hc), fun i hi => ⟨tab_cell hok.tabs hA (accept_at i hi).1, tab_cell hok.tabs hA (accept_at i hi).2⟩⟩
theorem ARO.validString {P : Program} {ρ : Ren} {f : FuncId} (L : Go.Proofs.Lays.n196 P ρ) (hf : ρ.f 196 = f) (h3 : ρ.g 3 = gFirst) (h4 : ρ.g 4 = gAccept) (hc : Callable P f) {s : List UInt8} {r : Bool} (h : validS s = some r) :
    ARO P f [.r (.str s)] (.r (.bool r)) := by
  subst hf
  refine ARO.of_below hc rfl fun x vs hok ha => ?_
  unfold validS at h
  split at h
  · rename_i hl
    cases h
    have h1 := ha
    obtain ⟨v, hv⟩ : ∃ v, vs = #[v] := by
      have := ha.1
      match vs, this with
      | ⟨[v]⟩, _ => exact ⟨v, rfl⟩
    subst hv
    have h2 := ha.2 0 (.r (.str s)) v rfl rfl
    cases h2 with
    | r h2 =>
      cases h2 with
      | str s =>
        refine (Any.utf8_ValidString L s x.w (by rw [Lib.size_eq]; exact hl) (by rw [h3, h4]; exact utf8Tabs hok (by decide))).mono fun e w' ⟨he, hb⟩ => ?_
        exact ⟨_, he, hb, fun y => .r (.bool _)⟩
  · cases h
end Go.Proofs.YthoepnnckmfipaaGreatDoor.Al


namespace Go.Proofs.YthoepnnckmfipaaGreatDoor.Al
theorem iL {α : Sort _} {x : α} {p : Prop} : x = x ∨ p := .inl rfl
section
variable {P : Program} {ops : Array Oper} {rest : List Oper} {s : St} {K : St → Prop} {o : Oper}
theorem sQ {d : Nat} {v : AV} (hg : (o.guard, o.dst, Nat.blt d s.N) = (none, some d, true)) (hs : OpQ P true o s.e s.h v)
    (hr : AOps P ops rest { e := (d, v) :: s.e, h := s.h, n := s.n, N := s.N } K) : AOps P ops (o :: rest) s K :=
  AOps.step (Prod.mk.inj hg).1 (Prod.mk.inj (Prod.mk.inj hg).2).1 (Prod.mk.inj (Prod.mk.inj hg).2).2 (OpQ.spec hs _) hr
theorem sW {d : Nat} {c : Bool} {v : AV} (hG : GuardC s.e ops o c) (hg : (o.dst, Nat.blt d s.N) = (some d, true)) (hs : OpQ P c o s.e s.h v)
    (hr : AOps P ops rest { e := (d, .whn c v) :: s.e, h := s.h, n := s.n, N := s.N } K) : AOps P ops (o :: rest) s K :=
  AOps.stepW hG (Prod.mk.inj hg).1 (Prod.mk.inj hg).2 (OpQ.spec hs _) hr
theorem sM {d : Nat} {x : Operand} (hg : (o.guard, o.dst, Nat.blt d s.N) = (none, some d, true)) (ho : o.op = .move x)
    (hr : AOps P ops rest { e := (d, evalOp s.e x) :: s.e, h := s.h, n := s.n, N := s.N } K) : AOps P ops (o :: rest) s K := sQ hg (sp_move ho (.inl rfl)) hr
theorem sV {d j dj : Nat} {want b : Bool} {v : AV} (hg : (o.guard, o.dst, Nat.blt d s.N) = (some (j, want), some d, true)) (hj : (ops[j]?).bind (·.dst) = some dj) (hb : evalOp s.e (.tmp dj) = .r (.bool b)) (hs : OpQ P (b == want) o s.e s.h v)
    (hr : AOps P ops rest { e := (d, .whn (b == want) v) :: s.e, h := s.h, n := s.n, N := s.N } K) : AOps P ops (o :: rest) s K :=
  sW (.one (Prod.mk.inj hg).1 hj hb) (Prod.mk.inj hg).2 hs hr
end
theorem jL {α : Sort _} {x : α} {p q : Prop} : (x = x ∨ p) ∨ q := .inl (.inl rfl)
theorem iR {c : Bool} {R : Env} {x : Operand} {v : AV} (h : evalOp R x = .whn c v) : Ev c R x v := .inr ⟨c, id, h⟩
theorem nL {n : Nat} : n ≤ n := Nat.le_refl n
theorem fR {α β : Sort _} {x : β} (_ : α) : x = x := rfl
section
variable {P : Program} {ops : Array Oper} {rest : List Oper} {s : St} {K : St → Prop} {o : Oper}
theorem sA {d : Nat} {x : Operand} (hg : (o.guard, o.dst, Nat.blt d s.N) = (none, some d, true)) (ho : o.op = .assign x)
    (hr : AOps P ops rest { e := (d, evalOp s.e x) :: s.e, h := s.h, n := s.n, N := s.N } K) : AOps P ops (o :: rest) s K := sQ hg (sp_assign ho (.inl rfl)) hr
theorem aZ (h : K s) : AOps P ops [] s K := AOps.nil h
end
section
variable {P : Program} {Q : Exit → St → Prop} {s : St} {x y : Code}
theorem aS (h : ∀ K : St → Prop, (∀ s, AW P y Q s → K s) → (∀ s s', Weak s s' → K s' → K s) → AW P x (ThenQ K Q) s) : AW P (.seq x y) Q s := AW.seq_w h
theorem aR {id : Nat} {l : List Oper} (h : AOps P l.toArray l s (Q .normal)) : AW P (.region id l.toArray false) Q s := AW.region h
theorem aC {c : Operand} {b : Bool} (hc : evalOp s.e c = .r (.bool b)) (ht : b = true → AW P x Q s) (hf : b = false → AW P y Q s) : AW P (.cond c x y) Q s := AW.cond hc ht hf
end
theorem fB {P : Program} {c : Bool} {o : Oper} {R : Env} {h : Heap} {t : TypeId} {x : Operand} {f off : Nat} {id g g' i k : Nat} {e : TypeId} {cs : List AV} (ho : o.op = .fieldAddr t x f) (ht : FieldTy P t f off) (hx : Ev c R x (.ptr id g i k)) (hh : c = true → hget h id = some (.box g' e cs))
    (hg : g' = g) : OpQ P c o R h (.ptr id g i (k + off)) := sp_fieldAddr_own (ob := .box g' e cs) ho ht hx hh hg
@[reducible] def rI (k : Int) : AV := .r (.int .i64 k)
@[reducible] def rB (b : Bool) : AV := .r (.bool b)
end Go.Proofs.YthoepnnckmfipaaGreatDoor.Al


namespace Go.Proofs.YthoepnnckmfipaaGreatDoor.Al
open Go.Lib
theorem tab_rep {W : World} {g : Nat} {row : List RV} (h : ∀ j d, row[j]? = some d → ∃ v, W.cell? ⟨g, j, none⟩ = some v ∧ RRep W (· < W.heap.size) d v) : AVRep (Cx.start W) (.rop row 0) (.pointer (some ⟨g, 0, none⟩)) := by
  have hlt : row ≠ [] → g < W.heap.size := by
    intro hne
    obtain ⟨d, hd⟩ : ∃ d, row[0]? = some d := by
      cases row with
      | nil => exact absurd rfl hne
      | cons d r => exact ⟨d, rfl⟩
    obtain ⟨v, h1, _⟩ := h 0 d hd
    unfold World.cell? at h1
    rcases Nat.lt_or_ge g W.heap.size with h2 | h2
    · exact h2
    · rw [Array.getElem?_eq_none h2] at h1; cases h1
  exact AVRep.rop (x := Cx.start W) (row := row) (k := 0) (b := g) (off := 0) (fun j => (W.cell? ⟨g, j, none⟩).getD undef) hlt
    (fun j d hj => by obtain ⟨v, h1, _⟩ := h j d hj; rw [Nat.zero_add]; show W.cell? _ = _; rw [h1]; rfl)
    (fun j d hj => by obtain ⟨v, h1, h2⟩ := h j d hj; rw [h1]; exact h2)
theorem flat1_get {α β : Type} (f : α → β) : ∀ (l : List α) (j : Nat), (l.flatMap fun z => [f z])[j]? = (l[j]?).map f
  | [], j => by simp
  | x :: l, 0 => by simp
  | x :: l, j + 1 => by
    have := flat1_get f l j
    rw [List.flatMap_cons, List.singleton_append, List.getElem?_cons_succ, this, List.getElem?_cons_succ]
theorem flat2_get {α β : Type} (f g : α → β) : ∀ (l : List α) (j : Nat) (d : β), (l.flatMap fun z => [f z, g z])[j]? = some d → ∃ i a, l[i]? = some a ∧ ((j = 2 * i ∧ d = f a) ∨ (j = 2 * i + 1 ∧ d = g a))
  | [], j, d, h => by simp at h
  | x :: l, 0, d, h => by
    have : f x = d := by simpa using h
    exact ⟨0, x, rfl, .inl ⟨rfl, this.symm⟩⟩
  | x :: l, 1, d, h => by
    have : g x = d := by simpa using h
    exact ⟨0, x, rfl, .inr ⟨rfl, this.symm⟩⟩
  | x :: l, j + 2, d, h => by
    rw [List.flatMap_cons] at h
    have h' : (l.flatMap fun z => [f z, g z])[j]? = some d := by simpa using h
    obtain ⟨i, a, h1, h2⟩ := flat2_get f g l j d h'
    refine ⟨i + 1, a, by simpa using h1, ?_⟩
    rcases h2 with ⟨h2, h3⟩ | ⟨h2, h3⟩
    · exact .inl ⟨by omega, h3⟩
    · exact .inr ⟨by omega, h3⟩
theorem tabs_start {P : Program} {W : World} {d1 d2 : DataW Unit} {t1 t2 e1 e2 : TypeId} {fs : Array Field} (h1 : VarReads P W "unicode/utf8.first" d1) (hd1 : d1 = tabData .u8 tabFirst) (n1 : P.globalNamed "unicode/utf8.first" = some gFirst)
    (y1 : (P.globals[gFirst]?).map (·.type) = some t1) (u1 : P.underlying t1 = some (.array 256 e1)) (ue : P.underlying e1 = some (.int .u8)) (ce : P.cellsOf e1 = 1) (ct : P.cellsOf t1 = 256)
    (h2 : VarReads P W "unicode/utf8.acceptRanges" d2) (hd2 : d2 = .agg (tabAccept0.map fun p => .agg ([p.1, p.2].map fun z => .lit (.int .u8 z)))) (n2 : P.globalNamed "unicode/utf8.acceptRanges" = some gAccept)
    (y2 : (P.globals[gAccept]?).map (·.type) = some t2) (u2 : P.underlying t2 = some (.array 16 e2)) (us : P.underlying e2 = some (.struct fs)) (hfs : ∀ (i : Nat) (f : Field), fs[i]? = some f → P.underlying f.type = some (.int .u8) ∧ f.offset = i ∧ P.cellsOf f.type = 1)
    (hsz : fs.size = 2) (c2 : P.cellsOf e2 = 2) : TabsOk (Cx.start W) := by
  intro g row hg
  unfold theTabs at hg
  by_cases hF : g = gFirst
  · rw [if_pos hF] at hg
    cases hg
    subst hF
    obtain ⟨g, t, cs, fuel, p, hg, hty, hvar, hd⟩ := h1
    obtain rfl := Option.some.inj (n1.symm.trans hg)
    obtain rfl := Option.some.inj (y1.symm.trans hty)
    subst hd1
    have hcs := cells_of_tab u1 ue ce ct hd
    refine tab_rep fun j d hj => ?_
    rw [flat1_get, Option.map_eq_some_iff] at hj
    obtain ⟨z, hz, rfl⟩ := hj
    refine ⟨.int .u8 z, ?_, .int _ _⟩
    rw [World.var?_cell hg hvar j, ← Array.getElem?_toList, hcs, List.getElem?_map, hz]; rfl
  · rw [if_neg hF] at hg
    by_cases hA : g = gAccept
    · rw [if_pos hA] at hg
      cases hg
      subst hA
      obtain ⟨g, t, cs, fuel, p, hg, hty, hvar, hd⟩ := h2
      obtain rfl := Option.some.inj (n2.symm.trans hg)
      obtain rfl := Option.some.inj (y2.symm.trans hty)
      subst hd2
      refine tab_rep fun j d hj => ?_
      obtain ⟨i, a, hi, hja⟩ := flat2_get _ _ _ _ _ hj
      have hil : i < 16 := (List.getElem?_eq_some_iff.1 hi).1
      obtain ⟨fuel', d', q, hdi, he⟩ := array_elem u2 hd i hil
      rw [List.getElem?_map, hi] at hdi
      cases hdi
      rw [c2] at he
      have hcs := ints_of_struct us hfs (by rw [c2, hsz]) he
      have e0 := congrArg (·[0]?) hcs
      have e1 := congrArg (·[1]?) hcs
      simp only [List.getElem?_take, List.getElem?_drop] at e0 e1
      rcases hja with ⟨rfl, rfl⟩ | ⟨rfl, rfl⟩
      · refine ⟨.int .u8 a.1, ?_, .int _ _⟩
        rw [World.var?_cell hg hvar (2 * i), ← Array.getElem?_toList]
        simpa [Nat.mul_comm] using e0
      · refine ⟨.int .u8 a.2, ?_, .int _ _⟩
        rw [World.var?_cell hg hvar (2 * i + 1), ← Array.getElem?_toList]
        simpa [Nat.mul_comm] using e1
    · rw [if_neg hA] at hg; cases hg
end Go.Proofs.YthoepnnckmfipaaGreatDoor.Al

