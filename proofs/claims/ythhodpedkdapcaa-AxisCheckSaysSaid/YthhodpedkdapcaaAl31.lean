/-
  Regions that draw their order: some operations float (moves), others read, a last one makes memory, and the rest come in one order.
-/
import Derived.Test.YthhodpedkdapcaaAl19
import Derived.OrdersHeld
namespace Go.Proofs.Ythhodpedkdapcaa.Al
section
variable {P : Program} {ops : Array Oper} {md : Region.Mode} {Q : Exit → Act → World → Prop} {S : World → Prop}

/-- A head of operations behind each of which S holds; then L. -/
def wpAnyM (P : Program) (md : Region.Mode) (ops : Array Oper) (Q : Exit → Act → World → Prop) (S : World → Prop) (L : Array Bool → Act → World → Prop) : Nat → Array Bool → Act → World → Prop
  | 0, listed, a, w => L listed a w
  | f + 1, listed, a, w => Region.ready md ops listed ≠ [] ∧ ∀ i ∈ Region.ready md ops listed, wpOp P ops Q i (fun a' w' => S w' ∧ wpAnyM P md ops Q S L f (listed.setIfInBounds i true) a' w') a w
theorem wpAny_of_M {g : Nat} {L : Array Bool → Act → World → Prop} (hL : ∀ listed a w, L listed a w → wpAny P md ops Q g listed a w) :
    ∀ (f : Nat) (listed : Array Bool) (a : Act) (w : World), wpAnyM P md ops Q S L f listed a w → wpAny P md ops Q (f + g) listed a w
  | 0, listed, a, w, h => by rw [Nat.zero_add]; exact hL _ _ _ h
  | f + 1, listed, a, w, h => by
    rw [show f + 1 + g = (f + g) + 1 by omega]
    exact ⟨fun h0 => absurd h0 h.1, fun i hi => wpOp_mono (fun a' w' h' => wpAny_of_M hL f _ a' w' h'.2) (h.2 i hi)⟩

/-- What is so of the listed ones. 'l0': those taken ahead. -/
structure HI (md : Region.Mode) (ops : Array Oper) (n : Nat) (l0 listed : Array Bool) : Prop where
  size : listed.size = ops.size
  closed : ∀ j oj, ops[j]? = some oj → listed.getD j false = true → l0.getD j false = true ∨ ∀ e ∈ oj.after, Region.binds md e = true → listed.getD e.on false = true
  tail : ∀ t, n ≤ t → t < ops.size → listed.getD t true = false
  mono : ∀ j, l0.getD j false = true → listed.getD j false = true
theorem HI.set {n i : Nat} {l0 listed : Array Bool} (inv : HI md ops n l0 listed) (hi : i ∈ Region.ready md ops listed) (hin : i < n) : HI md ops n l0 (listed.setIfInBounds i true) := by
  obtain ⟨_, oi, hoi, hall⟩ := mem_ready.1 hi
  refine ⟨by simp [inv.size], fun j oj hj hl => ?_, fun t ht ht' => by rw [getD_set_ne true (by omega)]; exact inv.tail t ht ht', fun j hj => getD_set_true (inv.mono j hj)⟩
  by_cases hij : i = j
  · subst hij
    have : oj = oi := Option.some.inj (hj.symm.trans hoi)
    subst this
    exact .inr fun e he hb => getD_set_true (hall e he hb)
  · rw [getD_set_ne false hij] at hl
    rcases inv.closed j oj hj hl with h | h
    · exact .inl h
    · exact .inr fun e he hb => getD_set_true (h e he hb)
/-- Every operation ahead of 'n' that was not taken is waited for by a later one, up to 'n', that was not taken. -/
def sink0 (md : Region.Mode) (ops : Array Oper) (n : Nat) (l0 : Array Bool) : Bool :=
  (List.range n).all fun i => l0.getD i false || (List.range (n + 1)).any fun j => decide (i < j) && !l0.getD j false && Region.waitsFor md ops j i
theorem tail_waits0 {n : Nat} {l0 listed : Array Bool} (hs : sink0 md ops n l0 = true) (hc : Region.chainB md ops n = true) (hn : n < ops.size) (inv : HI md ops n l0 listed) :
    ∀ (d i : Nat), n - i = d → i < n → listed.getD i true = false → ∀ t, n ≤ t → t ∉ Region.ready md ops listed := by
  intro d
  induction d using Nat.strongRecOn with
  | _ d ih =>
    intro i hd hi hun t ht hr
    obtain ⟨_, ot, hot, hall⟩ := mem_ready.1 hr
    have htlt : t < ops.size := (Array.getElem?_eq_some_iff.1 hot).1
    by_cases htn : t = n
    · subst htn
      have h1 := List.all_eq_true.1 hs i (List.mem_range.2 hi)
      rw [Bool.or_eq_true] at h1
      rcases h1 with h1 | h1
      · have := inv.mono i h1
        rw [getD_both hun] at this; cases this
      obtain ⟨j, hj, hj2⟩ := List.any_eq_true.1 h1
      simp only [Bool.and_eq_true, decide_eq_true_eq, Bool.not_eq_true'] at hj2
      obtain ⟨oj, hoj, e, he, hb, hon⟩ := Region.waitsFor_spec hj2.2
      have hjle : j ≤ t := by have := List.mem_range.1 hj; omega
      by_cases hjt : j = t
      · subst hjt
        have : oj = ot := Option.some.inj (hoj.symm.trans hot)
        subst this
        have h2 := hall e he hb
        rw [hon, getD_both hun] at h2
        cases h2
      · cases hl : listed.getD j false with
        | true =>
          rcases inv.closed j oj hoj hl with h3 | h3
          · rw [h3] at hj2; cases hj2.1.2
          · have h2 := h3 e he hb
            rw [hon, getD_both hun] at h2
            cases h2
        | false =>
          have hjs : j < listed.size := by rw [inv.size]; omega
          exact ih (t - j) (by omega) j rfl (by omega) (getD_in hjs hl) t (Nat.le_refl _) hr
    · have h1 := List.all_eq_true.1 hc t (List.mem_range.2 htlt)
      simp only [Bool.or_eq_true, decide_eq_true_eq] at h1
      rcases h1 with h1 | h1
      · omega
      · obtain ⟨o', ho', e, he, hb, hon⟩ := Region.waitsFor_spec h1
        have : o' = ot := Option.some.inj (ho'.symm.trans hot)
        subst this
        have h2 := hall e he hb
        rw [hon, getD_both (inv.tail (t - 1) (by omega) (by omega))] at h2
        cases h2
theorem wpAnyM_first {n i : Nat} {oi : Oper} {v : Value} {l0 : Array Bool} {L : Array Bool → Act → World → Prop} (hi : ops[i]? = some oi) (hsel : ∀ (j : Nat) (o : Oper) cs b, ops[j]? = some o → o.op ≠ .select cs b)
    (hQ : ∀ c a w, Q (.panic c) (a.put oi.dst v) w → Q (.panic c) a w) (hs : sink0 md ops n l0 = true) (hc : Region.chainB md ops n = true) (hn : n < ops.size) (hin : i < n)
    (hdone : ∀ listed a w, L listed a w → ∀ j ∈ Region.ready md ops listed, n ≤ j) :
    ∀ (f : Nat) (listed : Array Bool) (a : Act) (w : World), HI md ops n l0 listed →
      (∀ j oj, ops[j]? = some oj → j ≠ i → listed.getD j true = false → (∀ e ∈ oj.after, Region.binds md e = true → e.on ≠ i) → oi.apart ops oj = true) →
      i ∈ Region.ready md ops listed → YieldsIf P ops S oi v a → S w →
      wpAnyM P md ops Q S L f (listed.setIfInBounds i true) (a.put oi.dst v) w → wpAnyM P md ops Q S L (f + 1) listed a w := by
  intro f
  induction f with
  | zero =>
    intro listed a w inv _ hr hy hS H
    have hun := (mem_ready.1 hr).1
    refine ⟨fun h => (by rw [h] at hr; cases hr), fun j hj => ?_⟩
    have hjn : j < n := by
      rcases Nat.lt_or_ge j n with h | h
      · exact h
      · exact absurd hj (tail_waits0 hs hc hn inv _ i rfl hin hun j h)
    by_cases hji : j = i
    · subst hji; exact hy.wpOp hi hS ⟨hS, H⟩
    · have := hdone _ _ _ H j (ready_mono hj hji)
      omega
  | succ f ih =>
    intro listed a w inv hfree hr hy hS H
    have hun := (mem_ready.1 hr).1
    refine ⟨fun h => (by rw [h] at hr; cases hr), fun j hj => ?_⟩
    have hjn : j < n := by
      rcases Nat.lt_or_ge j n with h | h
      · exact h
      · exact absurd hj (tail_waits0 hs hc hn inv _ i rfl hin hun j h)
    by_cases hji : j = i
    · subst hji; exact hy.wpOp hi hS ⟨hS, H⟩
    · have h1 := H.2 j (ready_mono hj hji)
      obtain ⟨hjun, oj, hoj, hall⟩ := mem_ready.1 hj
      have hnot : ∀ e ∈ oj.after, Region.binds md e = true → e.on ≠ i := fun e he hb heq => by
        have h1 := hall e he hb
        rw [heq, getD_both hun] at h1
        cases h1
      have h2 := wpOp_putIf hoj (hfree j oj hoj hji hjun hnot) (fun cs b => hsel i oi cs b hi) (fun cs b => hsel j oj cs b hoj) hQ hy h1
      have hfree' : ∀ k ok, ops[k]? = some ok → k ≠ i → (listed.setIfInBounds j true).getD k true = false →
          (∀ e ∈ ok.after, Region.binds md e = true → e.on ≠ i) → oi.apart ops ok = true := fun k ok hk hki hun hno => by
        refine hfree k ok hk hki ?_ hno
        by_cases hjk : j = k
        · subst hjk; exact hjun
        · rw [getD_set_ne true hjk] at hun; exact hun
      refine wpOp_mono (fun a' w' h3 => ⟨h3.2.1, ih (listed.setIfInBounds j true) a' w' (inv.set hj hjn) hfree' (ready_mono hr (Ne.symm hji)) h3.1 h3.2.1 ?_⟩) h2
      rw [Array.setIfInBounds_comm _ _ hji]
      exact h3.2.2

/-- One order of the head: those that only read, one after the other; then those that come alone. -/
def takeB (md : Region.Mode) (ops : Array Oper) : List Nat → Array Bool → Bool
  | [], _ => true
  | i :: is, listed => (Region.ready md ops listed).contains i && Region.free md ops listed i && takeB md ops is (listed.setIfInBounds i true)
def soleB (md : Region.Mode) (ops : Array Oper) : List Nat → Array Bool → Bool
  | [], _ => true
  | i :: is, listed => decide (Region.ready md ops listed = [i]) && soleB md ops is (listed.setIfInBounds i true)
def setAll (listed : Array Bool) (is : List Nat) : Array Bool := is.foldl (fun l i => l.setIfInBounds i true) listed
def wpYld (P : Program) (ops : Array Oper) (S : World → Prop) (Qa : Act → Prop) : List Oper → Act → Prop
  | [], a => Qa a
  | o :: rest, a => ∃ v, YieldsIf P ops S o v a ∧ wpYld P ops S Qa rest (a.put o.dst v)
def wpAlone (P : Program) (ops : Array Oper) (Q : Exit → Act → World → Prop) (S : World → Prop) (Qa : Act → World → Prop) : List Oper → Act → World → Prop
  | [], a, w => Qa a w
  | o :: rest, a, w => o.guard = none ∧ o.wp P a w (fun a' w' => S w' ∧ wpAlone P ops Q S Qa rest a' w') Q
/-- 'Q' says nothing of a panic's own state. -/
def NoPanic (Q : Exit → Act → World → Prop) : Prop := ∀ c a w, ¬ Q (.panic c) a w
theorem wpAny_floats (hsel : Region.noSelect ops = true) (hQ : NoPanic Q) {f : Nat} : ∀ (is : List Nat) (l : List Oper) (listed : Array Bool) (a : Act) (w : World), is.map (fun i => ops[i]?) = l.map some → takeB md ops is listed = true →
    wpYld P ops (fun _ => True) (fun a' => wpAny P md ops Q f (setAll listed is) a' w) l a → wpAny P md ops Q (f + is.length) listed a w
  | [], [], listed, a, w, _, _, h => h
  | [], _ :: _, _, _, _, h, _, _ => by cases h
  | _ :: _, [], _, _, _, h, _, _ => by cases h
  | i :: is, o :: l, listed, a, w, hl, hB, ⟨v, hy, h⟩ => by
    simp only [takeB, Bool.and_eq_true] at hB
    obtain ⟨⟨hr, hf⟩, hB'⟩ := hB
    simp only [List.map_cons, List.cons.injEq] at hl
    have := wpAny_floats hsel hQ is l (listed.setIfInBounds i true) (a.put o.dst v) w hl.2 hB' h
    rw [List.length_cons, ← Nat.add_assoc]
    refine wpAny_take hl.1 hsel hf hr (fun c a w h => absurd h (hQ _ _ _)) ?_ this
    exact hy.imp (fun ⟨hw, hv⟩ => ⟨hw, fun w => hv w trivial⟩) id
theorem wpAnyM_alone {n : Nat} {l0 : Array Bool} {L : Array Bool → Act → World → Prop} : ∀ (is : List Nat) (l : List Oper) (listed : Array Bool) (a : Act) (w : World), is.map (fun i => ops[i]?) = l.map some → soleB md ops is listed = true →
    wpAlone P ops Q S (fun a' w' => L (setAll listed is) a' w') l a w → wpAnyM P md ops Q S L is.length listed a w
  | [], [], listed, a, w, _, _, h => h
  | [], _ :: _, _, _, _, h, _, _ => by cases h
  | _ :: _, [], _, _, _, h, _, _ => by cases h
  | i :: is, o :: l, listed, a, w, hl, hB, ⟨hg, h⟩ => by
    simp only [soleB, Bool.and_eq_true, decide_eq_true_eq] at hB
    simp only [List.map_cons, List.cons.injEq] at hl
    refine ⟨by rw [hB.1]; simp, fun j hj => ?_⟩
    rw [hB.1] at hj
    have : j = i := by simpa using hj
    subst this
    unfold wpOp
    simp only [hl.1]
    rw [if_pos (by simp [Region.wanted, hg])]
    exact .inl (Oper.wp_mono (fun a' w' h' => ⟨h'.1, wpAnyM_alone (n := n) (l0 := l0) is l _ a' w' hl.2 hB.2 h'.2⟩) h)
theorem wpAnyM_quiet {n : Nat} {l0 : Array Bool} {L : Array Bool → Act → World → Prop} {f : Nat} (hsel : Region.noSelect ops = true) (hQ : NoPanic Q) (hs : sink0 md ops n l0 = true) (hc : Region.chainB md ops n = true) (hn : n < ops.size)
    (hdone : ∀ listed a w, L listed a w → ∀ j ∈ Region.ready md ops listed, n ≤ j) {w : World} (hS : S w) : ∀ (is : List Nat) (l : List Oper) (listed : Array Bool) (a : Act), is.map (fun i => ops[i]?) = l.map some → takeB md ops is listed = true →
    (∀ i ∈ is, i < n) → HI md ops n l0 listed →
    wpYld P ops S (fun a' => wpAnyM P md ops Q S L f (setAll listed is) a' w) l a → wpAnyM P md ops Q S L (f + is.length) listed a w
  | [], [], listed, a, _, _, _, _, h => h
  | [], _ :: _, _, _, h, _, _, _, _ => by cases h
  | _ :: _, [], _, _, h, _, _, _, _ => by cases h
  | i :: is, o :: l, listed, a, hl, hB, hin, inv, ⟨v, hy, h⟩ => by
    simp only [takeB, Bool.and_eq_true] at hB
    obtain ⟨⟨hr, hf⟩, hB'⟩ := hB
    simp only [List.map_cons, List.cons.injEq] at hl
    have hr' : i ∈ Region.ready md ops listed := by simpa using hr
    have hi' := hin i (List.mem_cons_self ..)
    have := wpAnyM_quiet hsel hQ hs hc hn hdone hS is l (listed.setIfInBounds i true) (a.put o.dst v) hl.2 hB' (fun j hj => hin j (List.mem_cons_of_mem _ hj)) (inv.set hr' hi') h
    rw [List.length_cons, ← Nat.add_assoc]
    exact wpAnyM_first hl.1 (Region.noSelect_spec hsel) (fun c a w h => absurd h (hQ _ _ _)) hs hc hn hi' hdone _ listed a w inv (Region.free_spec hl.1 hf) hr' hy hS this
end
end Go.Proofs.Ythhodpedkdapcaa.Al
