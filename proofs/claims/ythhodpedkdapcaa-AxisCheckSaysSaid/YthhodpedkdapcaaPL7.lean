/-
  Plain laws of axes: places.
-/
import Derived.Test.YthhodpedkdapcaaPL6
import Derived.Test.YthhodpedkdapcaaPL1
namespace Go.Proofs.Ythhodpedkdapcaa.Al
/-- A loop over a list that does what a recursion over the list says. -/
theorem iter_walk {α σ β γ : Type} [Inhabited α] {f : σ → Option (σ ⊕ β)} (l : List α) (mk : γ → Nat → σ) (sp : List α → γ → β) (I : Nat → γ → Prop)
    (h1 : ∀ k c, k < l.length → I k c → (∃ c', f (mk c k) = some (.inl (mk c' (k + 1))) ∧ I (k + 1) c' ∧ sp (l[k]! :: l.drop (k + 1)) c = sp (l.drop (k + 1)) c') ∨ f (mk c k) = some (.inr (sp (l[k]! :: l.drop (k + 1)) c)))
    (h2 : ∀ c, I l.length c → f (mk c l.length) = some (.inr (sp [] c))) (c : γ) (h0 : I 0 c) (s : σ) (hs : s = mk c 0) : iter f s = some (sp l c) := by
  subst hs
  have key : ∀ m k c, k + m = l.length → I k c → iter f (mk c k) = some (sp (l.drop k) c) := by
    intro m
    induction m with
    | zero =>
      intro k c hk hI
      obtain rfl : k = l.length := by omega
      rw [List.drop_length]
      exact iter_stop (h2 c hI)
    | succ m ih =>
      intro k c hk hI
      rw [drop_at (by omega)]
      rcases h1 k c (by omega) hI with ⟨c', h3, h4, h5⟩ | h3
      · rw [iter_next h3, ih (k + 1) c' (by omega) h4, h5]
      · exact iter_stop h3
  have := key l.length 0 c (by omega) h0
  rwa [List.drop_zero] at this

theorem ref_SameInts_eq (a b : List Int) (hm : a.length ≤ 9223372036854775807) : ref_SameInts a b = some (decide (a = b)) := by
  unfold ref_SameInts
  by_cases hl : a.length = b.length
  · rw [if_neg (by simp [hl]), iter_find (n := a.length) (fun k => if decide (a[k]! = b[k]!) then none else some false) (fun k hk => by
      unfold ref_SameInts_L1
      rw [if_pos (by simpa using hk), idx_nat hk, idx_nat (by omega), bnd1_some, bnd1_some, chk_nat (by omega)]
      generalize a[k]! = x
      generalize b[k]! = y
      by_cases h : x = y
      · subst h; simp [stepOf]
      · simp [h, stepOf]) (by unfold ref_SameInts_L1; rw [if_neg (by simp)]), find_const, ctl_outOf]
    by_cases h : a = b
    · subst h; simp
    · rw [decide_eq_false h]
      have : ((List.range a.length).all fun k => decide (a[k]! = b[k]!)) = false := by
        rw [← Bool.not_eq_true, List.all_eq_true]
        intro hall
        apply h
        apply List.ext_getElem hl
        intro k h1 h2
        have := hall k (List.mem_range.2 h1)
        simp only [decide_eq_true_eq] at this
        rwa [getElem!_pos a k h1, getElem!_pos b k h2] at this
      rw [this]; rfl
  · rw [if_pos (by simp; omega), decide_eq_false (by rintro rfl; exact hl rfl)]

/-- Axes that Check accepts. -/
structure GoodA (a : List GAxisStep) : Prop where
  stp : ∀ s ∈ a, Stp s
  olds : oldLen a ≤ 2147483647
  nows : nowLen a ≤ 2147483647
theorem errS_ne0 {a : List GAxisStep} {k : Nat} {r : Int} (h : errS a k = some r) : r ≠ 0 := by
  unfold errS at h
  split at h
  · cases h; decide
  · split at h
    · cases h; decide
    · split at h
      · cases h; decide
      · cases h
theorem errS_all {a : List GAxisStep} (h : axErr a = 0) : ∀ j, j < a.length → errS a j = none := by
  cases hf : (List.range a.length).findSome? (errS a) with
  | some e =>
    unfold axErr at h
    rw [hf] at h
    simp only at h
    subst h
    obtain ⟨x, _, hx⟩ := List.exists_of_findSome?_eq_some hf
    exact absurd rfl (errS_ne0 hx)
  | none =>
    rw [List.findSome?_eq_none_iff] at hf
    exact fun j hj => hf j (List.mem_range.2 hj)
theorem goodA_of {a : List GAxisStep} (h : axErr a = 0) : GoodA a := by
  have hn := errS_all h
  rw [axErr_none hn] at h
  have hs : ∀ s ∈ a, Stp s := fun s hs => by
    obtain ⟨k, hk, rfl⟩ := List.mem_iff_getElem.1 hs
    rw [← getElem!_pos a k hk]
    exact stp_of (hn k hk)
  by_cases hc : 2147483647 < oldLen a ∨ 2147483647 < nowLen a
  · rw [if_pos hc] at h; cases h
  · exact ⟨hs, by omega, by omega⟩
theorem oldLen_cons (s : GAxisStep) (a : List GAxisStep) : oldLen (s :: a) = oldN s + oldLen a := by simp [oldLen]
theorem nowLen_cons (s : GAxisStep) (a : List GAxisStep) : nowLen (s :: a) = nowN s + nowLen a := by simp [nowLen]
theorem stp_at {a : List GAxisStep} (h : ∀ s ∈ a, Stp s) {k : Nat} (hk : k < a.length) : Stp a[k]! := h _ (mem_at hk)
theorem lens_pos {a : List GAxisStep} (h : ∀ s ∈ a, Stp s) : 0 ≤ oldLen a ∧ 0 ≤ nowLen a := by
  induction a with
  | nil => simp [oldLen, nowLen]
  | cons s a ih =>
    have h1 := ih fun x hx => h x (List.mem_cons_of_mem _ hx)
    have h2 := h s (List.mem_cons_self ..)
    rw [oldLen_cons, nowLen_cons]
    unfold oldN nowN
    unfold Stp at h2
    split <;> split <;> omega

theorem GoodA.len {a : List GAxisStep} (h : GoodA a) : (a.length : Int) ≤ 4294967294 := by
  have key : ∀ l : List GAxisStep, (∀ s ∈ l, Stp s) → (l.length : Int) ≤ oldLen l + nowLen l := by
    intro l
    induction l with
    | nil => intro _; simp [oldLen, nowLen]
    | cons s l ih =>
      intro h
      have h1 := ih fun x hx => h x (List.mem_cons_of_mem _ hx)
      have h2 := h s (List.mem_cons_self ..)
      rw [oldLen_cons, nowLen_cons, List.length_cons]
      unfold oldN nowN
      unfold Stp at h2
      split <;> split <;> omega
  have h1 := key a h.stp
  have h2 := h.olds
  have h3 := h.nows
  omega
/-- Running lengths: what is still to come fits. -/
def Run (a : List GAxisStep) (k : Nat) (f t : Int) : Prop := 0 ≤ f ∧ f + oldLen (a.drop k) ≤ 2147483647 ∧ 0 ≤ t ∧ t + nowLen (a.drop k) ≤ 2147483647
theorem GoodA.run {a : List GAxisStep} (h : GoodA a) : Run a 0 0 0 := by
  have h2 := h.olds
  have h3 := h.nows
  unfold Run
  rw [List.drop_zero]
  omega
theorem Run.nx {a : List GAxisStep} (h : GoodA a) {k : Nat} (hk : k < a.length) {f t : Int} (hr : Run a k f t) : 0 ≤ f ∧ f + oldN a[k]! ≤ 2147483647 ∧ f ≤ 2147483647 ∧ 0 ≤ t ∧ t + nowN a[k]! ≤ 2147483647 ∧ t ≤ 2147483647 ∧
    ∀ f' t', f ≤ f' → f' ≤ f + oldN a[k]! → t ≤ t' → t' ≤ t + nowN a[k]! → Run a (k + 1) f' t' := by
  have hd := lens_pos (a := a.drop (k + 1)) (fun s hs => h.stp s (List.mem_of_mem_drop hs))
  have hs := stp_at h.stp hk
  unfold Run at hr
  rw [drop_at hk, oldLen_cons, nowLen_cons] at hr
  have h0 : 0 ≤ oldN a[k]! ∧ 0 ≤ nowN a[k]! := by unfold Stp at hs; unfold oldN nowN; split <;> split <;> omega
  refine ⟨by omega, by omega, by omega, by omega, by omega, by omega, fun f' t' a1 a2 a3 a4 => ?_⟩
  unfold Run
  omega
theorem axis_lengths_eq (a : List GAxisStep) (hg : GoodA a) : axis_lengths a = some (oldLen a, nowLen a) := by
  unfold axis_lengths
  rw [iter_walk (f := fun (a_1 : Int × Int × Int) => axis_lengths_L1 a a_1.1 a_1.2.1 a_1.2.2) a (fun (c : Int × Int) k => (c.1, c.2, (k : Int))) (fun l (c : Int × Int) => (c.1 + oldLen l, c.2 + nowLen l)) (fun k c => Run a k c.1 c.2)
    (fun k c hk hI => by
      left
      have hs := stp_at hg.stp hk
      have hnx := hI.nx hg hk
      have hgl := hg.len
      unfold axis_lengths_L1
      simp only
      rw [if_pos (by simpa using hk), idx_nat hk, bnd1_some, chk_nat (by omega)]
      simp only [oldLen_cons, nowLen_cons]
      obtain ⟨o, w⟩ := c
      simp only at hnx ⊢
      generalize a[k]! = x at hs hnx ⊢
      obtain ⟨q1, q2, q3, q4, q5, q6, q7⟩ := hnx
      have h0 : 0 ≤ oldN x ∧ 0 ≤ nowN x := by unfold Stp at hs; unfold oldN nowN; split <;> split <;> omega
      unfold Stp at hs
      rw [chk_ok (by omega) (by omega), chk_ok (by omega) (by omega)]
      refine ⟨(o + oldN x, w + nowN x), ?_, q7 _ _ (by omega) (by omega) (by omega) (by omega), ?_⟩
      · unfold oldN nowN
        by_cases d1 : x.Kind = 1
        · simp [d1]
        · by_cases d2 : x.Kind = 2 <;> simp [d1, d2]
      · simp only; rw [Int.add_assoc, Int.add_assoc])
    (fun c hI => by unfold axis_lengths_L1; rw [if_neg (by simp)]; simp [oldLen, nowLen]) (0, 0) hg.run (0, 0, 0) rfl]
  simp

/-- The place that an old row goes to. -/
def plo (p : Int) : List GAxisStep → Int × Int → Ctl Unit Int
  | [], _ => .nrm ()
  | s :: l, c => if s.Kind = 1 then plo p l (c.1, c.2 + s.N) else if p < c.1 + s.N then .ext (if s.Kind = 0 then c.2 + p - c.1 else -1) else plo p l (c.1 + s.N, if s.Kind = 0 then c.2 + s.N else c.2)
theorem plo_cons (p : Int) (s : GAxisStep) (l : List GAxisStep) (c : Int × Int) : plo p (s :: l) c = if s.Kind = 1 then plo p l (c.1, c.2 + s.N) else if p < c.1 + s.N then .ext (if s.Kind = 0 then c.2 + p - c.1 else -1) else plo p l (c.1 + s.N, if s.Kind = 0 then c.2 + s.N else c.2) := rfl
def ctlV : Ctl Unit Int → Int
  | .nrm _ => -1
  | .ext x => x
theorem axis_place_eq (a : List GAxisStep) (p : Int) (hg : GoodA a) (h0 : 0 ≤ p) (hp : p ≤ 2147483647) : axis_place a p = some (ctlV (plo p a (0, 0))) := by
  unfold axis_place
  rw [iter_walk (f := fun (a_1 : Int × Int × Int) => axis_place_L1 a p a_1.1 a_1.2.1 a_1.2.2) a (fun (c : Int × Int) k => (c.1, c.2, (k : Int))) (plo p) (fun k c => Run a k c.1 c.2)
    (fun k c hk hI => by
      have hs := stp_at hg.stp hk
      have hnx := hI.nx hg hk
      have hgl := hg.len
      unfold axis_place_L1
      rw [plo_cons]
      simp only
      rw [if_pos (by simpa using hk), idx_nat hk, bnd1_some, chk_nat (by omega)]
      obtain ⟨f, t⟩ := c
      simp only at hnx ⊢
      generalize a[k]! = x at hs hnx ⊢
      obtain ⟨q1, q2, q3, q4, q5, q6, q7⟩ := hnx
      unfold Stp at hs
      simp only [oldN, nowN] at q7
      rw [chk_ok (x := t + x.N) (by omega) (by omega), chk_ok (x := f + x.N) (by omega) (by omega), chk_ok (x := t + p) (by omega) (by omega)]
      simp only [bnd1_some]
      rw [chk_ok (x := t + p - f) (by omega) (by omega)]
      by_cases d1 : x.Kind = 1
      · left
        refine ⟨(f, t + x.N), ?_, ?_, ?_⟩
        · simp [d1]
        · exact q7 _ _ (by simp [d1]) (by simp [d1]) (by simp [d1]; omega) (by simp [d1])
        · simp [d1]
      · by_cases d0 : x.Kind = 0
        · by_cases d2 : p < f + x.N
          · right; simp [d0, d2]
          · left
            refine ⟨(f + x.N, t + x.N), ?_, ?_, ?_⟩
            · simp [d0, d2]
            · exact q7 _ _ (by simp [d0]; omega) (by simp [d0]) (by simp [d0]; omega) (by simp [d0])
            · simp [d0, d2]
        · by_cases d2 : p < f + x.N
          · right; simp [d0, d1, d2]
          · left
            refine ⟨(f + x.N, t), ?_, ?_, ?_⟩
            · simp [d0, d1, d2]
            · exact q7 _ _ (by simp [d1]; omega) (by simp [d1]) (by simp) (by simp; split <;> omega)
            · simp [d0, d1, d2])
    (fun c hI => by unfold axis_place_L1; rw [if_neg (by simp)]; rfl) (0, 0) hg.run (0, 0, 0) rfl]
  cases plo p a (0, 0) <;> rfl
theorem app8 {o : List Int} {x : Int} (h : o.length + 1 ≤ 1099511627776) : app 8 o [x] = some (o ++ [x]) := by
  unfold app; rw [if_pos (by simp; omega)]
def apo (a : List GAxisStep) (r : Int) : List Int → List Int → Ctl (List Int) (List Int × Int)
  | [], out => .nrm out
  | x :: l, out => if x < 0 ∨ r ≤ x then .ext ([], 2) else apo a r l (out ++ [ctlV (plo x a (0, 0))])
theorem apo_cons (a : List GAxisStep) (r x : Int) (l out : List Int) : apo a r (x :: l) out = if x < 0 ∨ r ≤ x then .ext ([], 2) else apo a r l (out ++ [ctlV (plo x a (0, 0))]) := rfl
theorem axis_Apply_eq (a : List GAxisStep) (ps : List Int) (hm : a.length ≤ 9223372036854775807) (hp : ps.length ≤ 1048576) : axis_Apply a ps = if axErr a ≠ 0 then some ([], axErr a) else ctl1 (some (apo a (oldLen a) ps [])) fun out => some (out, 0) := by
  unfold axis_Apply
  rw [axis_Check_eq a (by omega), bnd1_some]
  by_cases he : axErr a = 0
  · have hg := goodA_of he
    have hl := lens_pos hg.stp
    have hol := hg.olds
    rw [he, if_neg (by decide), if_neg (by simp), axis_lengths_eq a hg, bnd2_some]
    rw [iter_walk (f := fun (a_1 : Int × List Int) => axis_Apply_L1 a ps (oldLen a) a_1.1 a_1.2) ps (fun (c : List Int) k => ((k : Int), c)) (apo a (oldLen a)) (fun k c => c.length ≤ k)
      (fun k c hk hI => by
        unfold axis_Apply_L1
        rw [apo_cons]
        simp only
        rw [if_pos (by simpa using hk), idx_nat hk, bnd1_some, chk_nat (by omega)]
        generalize ps[k]! = x
        by_cases d : x < 0 ∨ oldLen a ≤ x
        · right
          rw [if_pos d, if_pos (by simpa using d)]
        · left
          rw [if_neg d, if_neg (by simpa using d), axis_place_eq a x hg (by omega) (by omega), bnd1_some, app8 (by omega)]
          exact ⟨_, rfl, by simp; omega, rfl⟩)
      (fun c hI => by unfold axis_Apply_L1; rw [if_neg (by simp)]; rfl) [] (by simp) (0, []) rfl]
  · rw [if_pos (by simpa using he), if_pos he]

/-! The document's form: units. -/
def sizeLen (a : List GAxisStep) : Int := (a.map (·.N)).sum
theorem sizeLen_cons (s : GAxisStep) (a : List GAxisStep) : sizeLen (s :: a) = s.N + sizeLen a := by simp [sizeLen]
theorem ref_AxisSize_eq (a : List GAxisStep) (h : ∀ s ∈ a, Stp s) (hm : (a.length : Int) ≤ 4294967294) : ref_AxisSize a = some (sizeLen a) := by
  unfold ref_AxisSize
  rw [iter_walk (f := fun (a_1 : Int × Int) => ref_AxisSize_L1 a a_1.1 a_1.2) a (fun (c : Int) k => (c, (k : Int))) (fun l (c : Int) => c + sizeLen l) (fun k c => 0 ≤ c ∧ c ≤ k * 2147483647)
    (fun k c hk hI => by
      left
      have hs := stp_at h hk
      unfold ref_AxisSize_L1
      simp only
      rw [if_pos (by simpa using hk), idx_nat hk, bnd1_some, chk_nat (by omega)]
      simp only [sizeLen_cons]
      generalize a[k]! = x at hs ⊢
      unfold Stp at hs
      rw [chk_ok (by omega) (by omega)]
      exact ⟨_, rfl, by omega, by omega⟩)
    (fun c hI => by unfold ref_AxisSize_L1; rw [if_neg (by simp)]; simp [sizeLen]) 0 (by simp) (0, 0) rfl]
  simp
theorem law_few_eq (a : List GAxisStep) (hg : GoodA a) : law_few a = some (decide (sizeLen a ≤ 300)) := by
  unfold law_few; rw [ref_AxisSize_eq a hg.stp hg.len]; rfl
def units (a : List GAxisStep) : List Int := a.flatMap fun s => List.replicate s.N.toNat s.Kind
theorem units_cons (s : GAxisStep) (a : List GAxisStep) : units (s :: a) = List.replicate s.N.toNat s.Kind ++ units a := rfl
theorem size_pos {a : List GAxisStep} (h : ∀ s ∈ a, Stp s) : 0 ≤ sizeLen a ∧ ((units a).length : Int) = sizeLen a ∧ (a.length : Int) ≤ sizeLen a := by
  induction a with
  | nil => simp [units, sizeLen]
  | cons s a ih =>
    have h1 := ih fun x hx => h x (List.mem_cons_of_mem _ hx)
    have h2 := h s (List.mem_cons_self ..)
    unfold Stp at h2
    rw [sizeLen_cons, units_cons, List.length_append, List.length_replicate, List.length_cons]
    omega
theorem sizeLen_at {a : List GAxisStep} {k : Nat} (h : k < a.length) : sizeLen (a.drop k) = a[k]!.N + sizeLen (a.drop (k + 1)) := by rw [drop_at h, sizeLen_cons]
theorem ref_Units_L2_eq (x : GAxisStep) (out : List Int) (hx : Stp x) (hb : (out.length : Int) + x.N ≤ 1099511627776) : iter (fun (a : Int × (List Int)) => ref_Units_L2 x a.1 a.2) (0, out) = some (out ++ List.replicate x.N.toNat x.Kind) := by
  unfold Stp at hx
  obtain ⟨b, hb1, hq⟩ := iter_hoare (f := fun (a : Int × (List Int)) => ref_Units_L2 x a.1 a.2) x.N.toNat (fun k s => s = ((k : Int), out ++ List.replicate k x.Kind)) (fun b => b = out ++ List.replicate x.N.toNat x.Kind)
    (fun k s hk hR => by
      subst hR
      left
      unfold ref_Units_L2
      simp only
      rw [if_pos (by simp; omega), app8 (by simp; omega), bnd1_some, chk_nat (by omega), bnd1_some]
      exact ⟨_, rfl, by rw [List.append_assoc, ← List.replicate_succ']⟩)
    (fun s hR => by
      subst hR
      unfold ref_Units_L2
      exact ⟨_, by rw [if_neg (by simp; omega)], rfl⟩) (s := (0, out)) (by simp)
  rw [hb1, hq]
theorem ref_Units_eq (a : List GAxisStep) (h : ∀ s ∈ a, Stp s) (hm : sizeLen a ≤ 1073741824) : ref_Units a = some (units a) := by
  have hsz := size_pos h
  unfold ref_Units
  rw [iter_walk (f := fun (a_1 : Int × List Int) => ref_Units_L1 a a_1.1 a_1.2) a (fun (c : List Int) k => ((k : Int), c)) (fun l c => c ++ units l) (fun k c => (c.length : Int) + sizeLen (a.drop k) ≤ 1073741824)
    (fun k c hk hI => by
      left
      have hs := stp_at h hk
      unfold ref_Units_L1
      simp only
      rw [sizeLen_at hk] at hI
      have hd := size_pos (a := a.drop (k + 1)) (fun s hs => h s (List.mem_of_mem_drop hs))
      rw [if_pos (by simpa using hk), idx_nat hk, bnd1_some, chk_nat (by omega), ref_Units_L2_eq _ _ hs (by omega), bnd1_some, bnd1_some]
      refine ⟨_, rfl, ?_, ?_⟩
      · unfold Stp at hs
        rw [List.length_append, List.length_replicate]
        omega
      · simp only [units_cons, List.append_assoc])
    (fun c hI => by unfold ref_Units_L1; rw [if_neg (by simp)]; simp [units]) [] (by simpa using hm) (0, []) rfl]
  simp
def rowsL : List Int → Int → List Int
  | [], _ => []
  | u :: us, o => if u = 0 then o :: rowsL us (o + 1) else if u = 1 then -1 :: rowsL us o else rowsL us (o + 1)
def aheadL : List Int → Int → List Int
  | [], _ => []
  | u :: us, o => if u = 0 then o :: aheadL us (o + 1) else if u = 1 then o :: aheadL us o else aheadL us (o + 1)
theorem rows_len (us : List Int) (o : Int) : (rowsL us o).length ≤ us.length ∧ (aheadL us o).length = (rowsL us o).length := by
  induction us generalizing o with
  | nil => simp [rowsL, aheadL]
  | cons u us ih =>
    have h1 := ih o
    have h2 := ih (o + 1)
    unfold rowsL aheadL
    split
    · simp only [List.length_cons]; omega
    · split <;> simp only [List.length_cons] <;> omega
theorem ref_Olds_eq (us : List Int) (hm : us.length ≤ 1099511627776) : ref_Olds us = some (rowsL us 0, aheadL us 0) := by
  unfold ref_Olds
  rw [iter_walk (f := fun (a_1 : Int × Int × List Int × List Int) => ref_Olds_L1 us a_1.1 a_1.2.1 a_1.2.2.1 a_1.2.2.2) us (fun (c : Int × List Int × List Int) k => (c.1, (k : Int), c.2.1, c.2.2)) (fun l c => (c.2.1 ++ rowsL l c.1, c.2.2 ++ aheadL l c.1)) (fun k c => 0 ≤ c.1 ∧ c.1 ≤ k ∧ c.2.1.length ≤ k ∧ c.2.2.length ≤ k)
    (fun k c hk hI => by
      left
      obtain ⟨o, ro, ah⟩ := c
      unfold ref_Olds_L1
      simp only at hI ⊢
      rw [if_pos (by simpa using hk), idx_nat hk, bnd1_some, chk_nat (by omega), chk_ok (x := o + 1) (by omega) (by omega)]
      generalize us[k]! = u
      by_cases d0 : u = 0
      · subst d0
        rw [app8 (by omega), app8 (by omega)]
        refine ⟨(o + 1, ro ++ [o], ah ++ [o]), by simp, by simp; omega, by simp [rowsL, aheadL]⟩
      · by_cases d1 : u = 1
        · subst d1
          rw [app8 (o := ro) (x := -1) (by omega), app8 (o := ah) (by omega)]
          refine ⟨(o, ro ++ [-1], ah ++ [o]), by simp, by simp; omega, by simp [rowsL, aheadL]⟩
        · refine ⟨(o + 1, ro, ah), by simp [d0, d1], by simp; omega, by simp [rowsL, aheadL, d0, d1]⟩)
    (fun c hI => by unfold ref_Olds_L1; rw [if_neg (by simp)]; simp [rowsL, aheadL]) (0, [], []) (by simp) (0, 0, [], []) rfl]
  simp
def who (r : Int) : List Int → Int → Ctl Unit Int
  | [], _ => .nrm ()
  | x :: xs, i => if x = r then .ext i else who r xs (i + 1)
theorem who_iter (r : Int) (l : List Int) (hm : l.length ≤ 1099511627776) : iter (fun (a : Int) => ref_Where_L1 r l a) 0 = some (who r l 0) := by
  obtain ⟨b, hb, hq⟩ := iter_hoare (f := fun (a : Int) => ref_Where_L1 r l a) l.length (fun k s => s = (k : Int) ∧ who r (l.drop k) (k : Int) = who r l 0) (fun b => b = who r l 0)
    (fun k s hk hR => by
      obtain ⟨rfl, hw⟩ := hR
      unfold ref_Where_L1
      rw [drop_at hk, who] at hw
      rw [if_pos (by simpa using hk), idx_nat hk, bnd1_some, chk_nat (by omega)]
      generalize l[k]! = x at hw ⊢
      by_cases d : x = r
      · right; rw [if_pos d] at hw; exact ⟨_, by simp [d], hw⟩
      · left; rw [if_neg d] at hw; exact ⟨_, by rw [if_neg (by simpa using d)]; rfl, rfl, hw⟩)
    (fun s hR => by
      obtain ⟨rfl, hw⟩ := hR
      rw [List.drop_length, who] at hw
      unfold ref_Where_L1
      exact ⟨_, by rw [if_neg (by simp)], hw⟩) (s := 0) (by simp)
  rw [hb, hq]
theorem ref_Where_eq (us : List Int) (r : Int) (hm : us.length ≤ 1099511627776) : ref_Where us r = some (ctlV (who r (rowsL us 0) 0)) := by
  unfold ref_Where
  have := rows_len us 0
  rw [ref_Olds_eq us hm, bnd2_some, who_iter r _ (by omega)]
  cases who r (rowsL us 0) 0 <;> rfl
end Go.Proofs.Ythhodpedkdapcaa.Al
