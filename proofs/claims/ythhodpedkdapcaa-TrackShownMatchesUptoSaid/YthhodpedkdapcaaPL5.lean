/-
  Plain laws of lists of attributes: the laws.
-/
import Derived.Test.YthhodpedkdapcaaPL4
namespace Go.Proofs.Ythhodpedkdapcaa.Al
theorem range_find {ρ : Type} (g : GAttr → Option ρ) (l : List GAttr) : (List.range l.length).findSome? (fun k => g l[k]!) = l.findSome? g := by
  induction l with
  | nil => rfl
  | cons a l ih =>
    rw [List.length_cons, List.range_succ_eq_map, List.findSome?_cons, List.findSome?_map, List.findSome?_cons]
    have : (List.range l.length).findSome? ((fun k => g (a :: l)[k]!) ∘ Nat.succ) = l.findSome? g := by
      rw [← ih]; exact findSome_congr fun k _ => by simp
    rw [this]
    simp
theorem find_fnd {ρ : Type} (l : List GAttr) (n : List UInt8) (v : GAttr → ρ) : (l.findSome? fun x => if x.Name = n then some (v x) else none) = (fnd l n).map v := by
  induction l with
  | nil => rfl
  | cons x l ih =>
    rw [List.findSome?_cons, fnd]
    by_cases h : x.Name = n
    · simp [h]
    · simp [h, ih]
theorem getA_eq (l : List GAttr) (n : List UInt8) : getA l n = match fnd l n with | some x => x.Value | none => [] := by
  unfold getA
  rw [range_find (fun x => if x.Name = n then some x.Value else none) l, find_fnd l n (·.Value)]
  cases fnd l n <;> rfl
theorem ref_Has_eq (l : List GAttr) (n : List UInt8) (hm : l.length ≤ 9223372036854775807) : ref_Has l n = some (fnd l n).isSome := by
  unfold ref_Has
  rw [iter_find (n := l.length) (fun k => (fun x : GAttr => if x.Name = n then some true else none) l[k]!) (fun k hk => by
    unfold ref_Has_L1
    rw [if_pos (by simpa using hk), idx_nat hk, bnd1_some, chk_nat (by omega)]
    generalize l[k]! = x
    by_cases h : x.Name = n <;> simp [h, stepOf]) (by unfold ref_Has_L1; rw [if_neg (by simp)]), range_find (fun x : GAttr => if x.Name = n then some true else none) l, find_fnd l n (fun _ => true), ctl_outOf]
  cases fnd l n <;> rfl
theorem iter_cput {f : (List GAttr × Int) → Option ((List GAttr × Int) ⊕ List GAttr)} (p : GAttr → Bool) (h : GAttr → GAttr) (l o : List GAttr) (ho : Srt o) (hb : o.length + l.length ≤ 1099511627776)
    (h1 : ∀ b (k : Nat), k < l.length → f (b, (k : Int)) = (bnd1 (if p l[k]! then ref_put b (h l[k]!) else some b) fun o2 => bnd1 (chk .i64 ((k : Int) + 1)) fun x => some (.inl (o2, x)))) (h2 : ∀ b, f (b, (l.length : Int)) = some (.inr b)) :
    iter f (o, 0) = some (l.foldl (fun o x => if p x then putL o (h x) else o) o) := by
  refine iter_foldA l _ (fun b k => Srt b ∧ b.length ≤ o.length + k) (fun b k hk ⟨i1, i2⟩ => ?_) (fun b k hk ⟨i1, i2⟩ => ?_) h2 o ⟨ho, by omega⟩
  · have := putL_len b (h l[k]!)
    refine ⟨?_, ?_⟩
    · show Srt (if p l[k]! then putL b (h l[k]!) else b)
      split
      · exact putL_srt _ i1
      · exact i1
    · show (if p l[k]! then putL b (h l[k]!) else b).length ≤ _
      split <;> omega
  · rw [h1 b k hk, ref_put_eq b _ i1 (by omega), chk_nat (by omega)]
    cases p l[k]! <;> rfl
def btw (a b : List GAttr) : List GAttr :=
  a.foldl (fun o x => if (fun x : GAttr => decide (getA b x.Name = [])) x then putL o ((fun x : GAttr => GAttr.mk x.Name []) x) else o) (b.foldl (fun o x => if (fun x : GAttr => !decide (getA a x.Name = x.Value)) x then putL o (id x) else o) [])
theorem ref_Between_eq (a b : List GAttr) (ha : Srt a) (hb : Srt b) (h : a.length + b.length ≤ 1099511627776) : ref_Between a b = some (btw a b) := by
  unfold ref_Between btw
  have s0 : Srt ([] : List GAttr) := List.Pairwise.nil
  rw [iter_cput (fun x : GAttr => !decide (getA a x.Name = x.Value)) id b [] s0 (by simp; omega) (fun o k hk => by
    unfold ref_Between_L1
    rw [if_pos (by simpa using hk), idx_nat hk, bnd1_some, ref_Get_eq a _ (by omega), bnd1_some]
    generalize b[k]! = x
    cases hc : decide (getA a x.Name = x.Value)
    · simp only [hc, Bool.not_false, if_true, id]
      cases ref_put o x <;> rfl
    · simp only [hc, Bool.not_true, Bool.false_eq_true, if_false]) (fun o => by unfold ref_Between_L1; rw [if_neg (by simp)]), bnd1_some]
  have l1 := fold_put_len (fun x : GAttr => !decide (getA a x.Name = x.Value)) id b []
  have s1 := (fold_put (fun x : GAttr => !decide (getA a x.Name = x.Value)) id (fun _ => rfl) b [] hb s0).1
  generalize b.foldl (fun o x => if (fun x : GAttr => !decide (getA a x.Name = x.Value)) x then putL o (id x) else o) [] = o1 at l1 s1
  rw [iter_cput (fun x : GAttr => decide (getA b x.Name = [])) (fun x : GAttr => GAttr.mk x.Name []) a o1 s1 (by simp at l1; omega) (fun o k hk => by
    unfold ref_Between_L2
    rw [if_pos (by simpa using hk), idx_nat hk, bnd1_some, ref_Get_eq b _ (by omega), bnd1_some]
    generalize a[k]! = x
    cases hc : decide (getA b x.Name = [])
    · simp only [hc, Bool.false_eq_true, if_false]
    · simp only [hc, if_true]
      cases ref_put o (GAttr.mk x.Name []) <;> rfl) (fun o => by unfold ref_Between_L2; rw [if_neg (by simp)]), bnd1_some]
theorem change_between {a b : List GAttr} (ha : Srt a) (hb : Srt b) (na : Nm a) (nb : Nm b) (va : ∀ e ∈ a, e.Value ≠ []) (vb : ∀ e ∈ b, e.Value ≠ []) : bothL stpChange a b [] = btw a b := by
  have s0 : Srt ([] : List GAttr) := List.Pairwise.nil
  obtain ⟨i1, i2⟩ := fold_put (fun x : GAttr => !decide (getA a x.Name = x.Value)) id (fun _ => rfl) b [] hb s0
  obtain ⟨j1, j2⟩ := fold_put (fun x : GAttr => decide (getA b x.Name = [])) (fun x : GAttr => GAttr.mk x.Name []) (fun _ => rfl) a _ ha i1
  obtain ⟨m1, m2⟩ := spec_of stpChange_g gChange_ok ha hb na nb
  refine srt_ext m1 j1 fun n => ?_
  unfold btw
  rw [m2, j2, i2]
  cases hfa : fnd a n with
  | some x =>
    have hx := fnd_name hfa
    cases hfb : fnd b n with
    | some y =>
      have hy := fnd_name hfb
      have e1 : getA b x.Name = y.Value := by rw [getA_eq, hx.1, hfb]
      have e2 : getA a y.Name = x.Value := by rw [getA_eq, hy.1, hfa]
      simp only [e1, e2, GChange, decide_eq_false (vb y hy.2), Bool.false_eq_true, if_false]
      by_cases hv : x = y
      · subst hv; simp [fnd]
      · have : ¬ x.Value = y.Value := fun e => hv ((attr_eq_iff x y).2 ⟨hx.1.trans hy.1.symm, e⟩)
        simp [hv, this]
    | none =>
      have e1 : getA b x.Name = [] := by rw [getA_eq, hx.1, hfb]
      simp [e1, GChange]
  | none =>
    cases hfb : fnd b n with
    | some y =>
      have hy := fnd_name hfb
      have e2 : getA a y.Name = [] := by rw [getA_eq, hy.1, hfa]
      have := vb y hy.2
      simp [e2, GChange, Ne.symm this]
    | none => simp [GChange, fnd]
theorem ref_Joined_eq (a b : List GAttr) (ha : Srt a) (hb : Srt b) (h : a.length + b.length ≤ 1099511627776) : ref_Joined a b = some (insAll b (insAll a [])) := by
  unfold ref_Joined
  have s0 : Srt ([] : List GAttr) := List.Pairwise.nil
  have s1 := (insAll_spec ha s0).1
  have l1 := insAll_len a []
  rw [iter_ins a [] s0 (by simp; omega) (fun b k hk => by unfold ref_Joined_L1; rw [if_pos (by simpa using hk), idx_nat hk]; rfl) (fun b => by unfold ref_Joined_L1; rw [if_neg (by simp)]), bnd1_some,
    iter_ins b _ s1 (by simp at l1; omega) (fun b k hk => by unfold ref_Joined_L2; rw [if_pos (by simpa using hk), idx_nat hk]; rfl) (fun b => by unfold ref_Joined_L2; rw [if_neg (by simp)]), bnd1_some]
theorem both_joined {a b : List GAttr} (ha : Srt a) (hb : Srt b) (na : Nm a) (nb : Nm b) : bothL stpBoth a b [] = insAll b (insAll a []) := by
  have s0 : Srt ([] : List GAttr) := List.Pairwise.nil
  obtain ⟨i1, i2⟩ := insAll_spec ha s0
  obtain ⟨j1, j2⟩ := insAll_spec hb i1
  obtain ⟨m1, m2⟩ := spec_of stpBoth_g gBoth_ok ha hb na nb
  refine srt_ext m1 j1 fun n => ?_
  rw [m2, j2, i2]
  cases fnd b n <;> cases fnd a n <;> simp [GBoth, fnd]
def lacking (a b : List GAttr) : List GAttr := a.filter fun x => !(fnd b x.Name).isSome
theorem ref_Lacking_eq (a b : List GAttr) (h : a.length + b.length ≤ 1099511627776) : ref_Lacking a b = some (lacking a b) := by
  unfold ref_Lacking
  rw [iter_foldB a (fun o x => if (fnd b x.Name).isSome then o else o ++ [x]) (fun o k => o.length ≤ k) (fun o k hk ho => by split; omega; simp; omega) (fun o k hk ho => by
    unfold ref_Lacking_L1
    rw [if_pos (by simpa using hk), idx_nat hk, bnd1_some, ref_Has_eq b _ (by omega), bnd1_some, chk_nat (by omega)]
    generalize a[k]! = x
    have := app1 (o := o) (x := x) (by omega)
    cases (fnd b x.Name).isSome <;> simp [this]) (fun o => by unfold ref_Lacking_L1; rw [if_neg (by simp)]) [] (by simp), bnd1_some]
  have : ∀ (m o : List GAttr), m.foldl (fun o x => if (fnd b x.Name).isSome then o else o ++ [x]) o = o ++ lacking m b := by
    intro m
    induction m with
    | nil => intro o; simp [lacking]
    | cons x m ih =>
      intro o
      rw [List.foldl_cons, ih]
      cases hv : fnd b x.Name <;> simp [lacking, hv]
  rw [this]; rfl
theorem lacking_spec {a : List GAttr} (b : List GAttr) (h : Srt a) : Srt (lacking a b) ∧ ∀ n, fnd (lacking a b) n = GWithout (fnd a n) (fnd b n) := by
  induction a with
  | nil => exact ⟨List.Pairwise.nil, fun n => by cases fnd b n <;> rfl⟩
  | cons x l ih =>
    have h1 := srt_cons.1 h
    obtain ⟨i1, i2⟩ := ih h1.2
    have hlow : ∀ e ∈ lacking l b, sLt x.Name e.Name = true := fun e he => h1.1 e (List.mem_filter.1 he).1
    cases hv : fnd b x.Name with
    | some y =>
      have : lacking (x :: l) b = lacking l b := by simp [lacking, hv]
      rw [this]
      refine ⟨i1, fun n => ?_⟩
      rw [fnd]
      split
      · rename_i hn; subst hn
        rw [fnd_none fun e he => ne_of_sLt (hlow e he), hv]; rfl
      · exact i2 n
    | none =>
      have : lacking (x :: l) b = x :: lacking l b := by simp [lacking, hv]
      rw [this]
      refine ⟨srt_cons.2 ⟨hlow, i1⟩, fun n => ?_⟩
      rw [fnd, fnd]
      split
      · rename_i hn; subst hn; rw [hv]; rfl
      · exact i2 n
theorem without_lacking {a b : List GAttr} (ha : Srt a) (hb : Srt b) (na : Nm a) (nb : Nm b) : bothL stpWithout a b [] = lacking a b := by
  obtain ⟨i1, i2⟩ := lacking_spec b ha
  obtain ⟨m1, m2⟩ := spec_of stpWithout_g gWithout_ok ha hb na nb
  exact srt_ext m1 i1 fun n => by rw [m2, i2]

theorem bothL_len (stp : GAttr → GAttr → List GAttr → List GAttr) (h : ∀ x y o, (stp x y o).length ≤ o.length + 1) : ∀ (m : Nat) (a b c : List GAttr), a.length + b.length = m → (bothL stp a b c).length ≤ c.length + m := by
  intro m
  induction m using Nat.strongRecOn with
  | _ m ih =>
    intro a b c hm
    cases a with
    | nil =>
      cases b with
      | nil => simp [bothL]
      | cons y b => rw [bothL]; have := ih (m - 1) (by simp at hm; omega) [] b (stp nil2 y c) (by simp at hm ⊢; omega); have := h nil2 y c; simp at hm; omega
    | cons x a =>
      cases b with
      | nil => rw [bothL]; have := ih (m - 1) (by simp at hm; omega) a [] (stp x nil2 c) (by simp at hm ⊢; omega); have := h x nil2 c; simp at hm; omega
      | cons y b =>
        rw [bothL]
        split
        · have := ih (m - 1) (by simp at hm; omega) a (y :: b) (stp x nil2 c) (by simp at hm ⊢; omega); have := h x nil2 c; simp at hm; omega
        · split
          · have := ih (m - 1) (by simp at hm; omega) (x :: a) b (stp nil2 y c) (by simp at hm ⊢; omega); have := h nil2 y c; simp at hm; omega
          · have := ih (m - 2) (by simp at hm; omega) a b (stp x y c) (by simp at hm ⊢; omega); have := h x y c; simp at hm; omega

/-! The laws. -/
theorem law_AttrApply_true (l ch : List GAttr) (h1 : okStr l) (h2 : okStr ch) (h : l.length + ch.length ≤ 274877906944) : law_AttrApplyMatches l ch = some true := by
  unfold law_AttrApplyMatches attr_Undo
  rw [law_attrs_eq, bnd1_some, if_neg (by decide), attr_Apply_eq l ch h1 h2 (by omega), ref_AttrsError_eq l _ h1 (by omega), ref_AttrsError_eq ch _ h2 (by omega)]
  by_cases e1 : attrErr l false = 0
  · simp only [e1, ne_eq, not_true_eq_false, if_false, bnd2_some, bnd1_some, decide_true, if_true]
    by_cases e2 : attrErr ch true = 0
    · simp only [e2, not_true_eq_false, if_false, bnd2_some, decide_true, Bool.not_true, Bool.false_eq_true, bnd1_some]
      obtain ⟨s1, n1, v1⟩ := good_of e1
      obtain ⟨s2, n2, _⟩ := good_of e2
      have hr := raw_changed e1 e2
      have hlen := bothL_len stpRaw stpRaw_len _ l ch [] rfl
      obtain ⟨m1, m2⟩ := spec_of stpRaw_g gRaw_ok s1 s2 n1 n2
      have nm : Nm (bothL stpRaw l ch []) := by
        intro e he
        rw [hr] at he
        have hm := (List.mem_filter.1 he).1
        obtain ⟨i1, i2⟩ := insAll_spec s1 (List.Pairwise.nil : Srt [])
        obtain ⟨j1, j2⟩ := insAll_spec s2 i1
        have := fun n => j2 n
        intro en
        have hf : fnd (insAll ch (insAll l [])) [] ≠ none := by
          intro h0
          have : ∀ (m : List GAttr), e ∈ m → fnd m [] ≠ none := by
            intro m hm
            induction m with
            | nil => cases hm
            | cons x m ih =>
              rw [fnd]
              split
              · simp
              · rename_i hx
                rcases List.mem_cons.1 hm with rfl | hm
                · exact absurd en hx
                · exact ih hm
          exact this _ hm h0
        rw [j2, i2, fnd_none n2, fnd_none n1] at hf
        exact hf rfl
      have vv : ∀ e ∈ bothL stpRaw l ch [], e.Value ≠ [] := by
        intro e he
        rw [hr] at he
        have := (List.mem_filter.1 he).2
        simpa using this
      rw [attr_Change_eq _ l (by simp at hlen; omega), ref_Changed_eq l ch s1 s2 (by omega)]
      simp only [bnd1_some, bnd2_some, beq_self_eq_true, Bool.and_self, gd_true, decide_true]
      rw [ref_SameAttrs_eq _ _ (by simp at hlen; omega), hr]
      simp only [bnd1_some, decide_true, Bool.and_self, beq_self_eq_true, if_true]
      rw [← hr, ref_Between_eq _ l m1 s1 (by simp at hlen; omega), bnd1_some, change_between m1 s1 nm n1 vv (v1 rfl), ref_SameAttrs_eq _ _ (by
        rw [← change_between m1 s1 nm n1 vv (v1 rfl)]
        have := bothL_len stpChange stpChange_len _ (bothL stpRaw l ch []) l [] rfl
        simp at this hlen; omega)]
      simp
    · simp [e2, chk]
      decide
  · simp [e1, chk]
    decide
theorem law_AttrBetween_true (a b : List GAttr) (h1 : okStr a) (h2 : okStr b) (h : a.length + b.length ≤ 274877906944) : law_AttrBetweenMatches a b = some true := by
  unfold law_AttrBetweenMatches attr_Between
  rw [law_attrs_eq, bnd1_some]
  have e0 : ((!true) == false) = true := rfl
  rw [e0, attr_Same_eq a b (by omega), ref_SameAttrs_eq a b (by omega), gd_true, bnd1_some, bnd1_some, attr_Check_eq a h1 (by omega), attr_Check_eq b h2 (by omega), ref_AttrsError_eq a _ h1 (by omega), ref_AttrsError_eq b _ h2 (by omega)]
  simp only [beq_self_eq_true, Bool.not_true, Bool.or_self, Bool.false_eq_true, if_false, bnd1_some]
  by_cases e1 : attrErr a false = 0
  · by_cases e2 : attrErr b false = 0
    · obtain ⟨s1, n1, v1⟩ := good_of e1
      obtain ⟨s2, n2, v2⟩ := good_of e2
      have hlen := bothL_len stpChange stpChange_len _ a b [] rfl
      simp only [e1, e2, decide_true, Bool.not_true, Bool.false_eq_true, if_false, if_true, bnd1_some]
      rw [attr_Change_eq a b (by omega), bnd1_some, bnd2_some]
      simp only [decide_true, beq_self_eq_true, if_true]
      rw [ref_Between_eq a b s1 s2 (by omega), bnd1_some, ← change_between s1 s2 n1 n2 (v1 rfl) (v2 rfl), ref_SameAttrs_eq _ _ (by simp at hlen; omega)]
      simp
    · simp [e1, e2]
  · simp [e1]
theorem law_AttrPair_true (a b : List GAttr) (h1 : okStr a) (h2 : okStr b) (h : a.length + b.length ≤ 274877906944) : law_AttrPairMatches a b = some true := by
  unfold law_AttrPairMatches attr_Join attr_Pair
  rw [law_attrs_eq, bnd1_some, if_neg (by decide), attr_CheckChange_eq a h1 (by omega), attr_CheckChange_eq b h2 (by omega), ref_AttrsError_eq a _ h1 (by omega), ref_AttrsError_eq b _ h2 (by omega)]
  simp only [bnd1_some]
  by_cases e1 : attrErr a true = 0
  · by_cases e2 : attrErr b true = 0
    · obtain ⟨s1, n1, _⟩ := good_of e1
      obtain ⟨s2, n2, _⟩ := good_of e2
      have hl1 := bothL_len stpBoth stpBoth_len _ a b [] rfl
      have hl2 := bothL_len stpWithout stpWithout_len _ a b [] rfl
      have hap : app 32 [] b = some b := by unfold app; rw [if_pos (by simp; omega)]; rfl
      simp only [e1, e2, decide_true, Bool.not_true, Bool.false_eq_true, if_false, if_true, bnd1_some]
      rw [attr_Both_eq a b (by omega), attr_Without_eq a b (by omega), hap, ref_Joined_eq a b s1 s2 (by omega), ref_Lacking_eq a b (by omega)]
      simp only [bnd1_some, bnd2_some, bnd3_some, decide_true, Bool.and_self, beq_self_eq_true, if_true]
      rw [← both_joined s1 s2 n1 n2, ← without_lacking s1 s2 n1 n2, ref_SameAttrs_eq _ _ (by simp at hl1; omega), ref_SameAttrs_eq _ _ (by simp at hl2; omega), ref_SameAttrs_eq _ _ (by omega)]
      simp
    · simp [e1, e2, chk]
      decide
  · simp [e1, chk]
    decide
end Go.Proofs.Ythhodpedkdapcaa.Al
