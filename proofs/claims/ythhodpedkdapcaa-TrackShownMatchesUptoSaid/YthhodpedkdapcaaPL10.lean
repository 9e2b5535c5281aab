/-
  Plain laws of tracked changes: what is shown, the ranges.
-/
import Derived.Test.YthhodpedkdapcaaPL5
import Derived.Test.YthhodpedkdapcaaPL7
namespace Go.Proofs.Ythhodpedkdapcaa.Al
def charOK (c : Int) : Bool := decide (c = 9) || decide (c = 10) || (decide (32 ≤ c) && decide (c ≤ 126)) || (decide (160 ≤ c) && decide (c ≤ 55295)) || (decide (57344 ≤ c) && decide (c ≤ 1114111))
def elemErr (x : GElem) : Int :=
  if (x.Char = 0 ∧ x.Ref = 0) ∨ (x.Char ≠ 0 ∧ x.Ref ≠ 0) then 4 else if (x.Char ≠ 0 ∧ charOK x.Char = false) ∨ (x.Ref ≠ 0 ∧ ¬ (1 ≤ x.Ref ∧ x.Ref ≤ 1073741824)) then 2 else attrErr x.Attrs false
def okE (x : GElem) : Prop := x.Attrs.length ≤ 9223372036854775807 ∧ okStr x.Attrs
theorem flow_Char_eq (c : Int) : flow_Char c = some (charOK c) := by
  unfold flow_Char charOK
  congr 1
  rw [Bool.eq_iff_iff]
  simp only [Bool.or_eq_true, Bool.and_eq_true, decide_eq_true_eq]
  omega
theorem ref_Char_eq (c : Int) : ref_Char c = some (charOK c) := by
  unfold ref_Char charOK
  rw [ref_In_eq, ref_In_eq, ref_In_eq]
  generalize decide (c = 9) = a1
  generalize decide (c = 10) = a2
  generalize (decide (32 ≤ c) && decide (c ≤ 126)) = a3
  generalize (decide (160 ≤ c) && decide (c ≤ 55295)) = a4
  generalize (decide (57344 ≤ c) && decide (c ≤ 1114111)) = a5
  cases a1 <;> cases a2 <;> cases a3 <;> cases a4 <;> cases a5 <;> rfl
theorem flow_elem_eq (x : GElem) (h : okE x) : flow_elem x = some (elemErr x) := by
  unfold flow_elem elemErr
  rw [flow_Char_eq, attr_Check_eq _ h.2 h.1]
  by_cases c : x.Char = 0
  · by_cases r : x.Ref = 0
    · simp [c, r]
    · by_cases q : 1 ≤ x.Ref ∧ x.Ref ≤ 1073741824
      · have q1 : ¬ x.Ref < 1 := by omega
        have q2 : ¬ 1073741824 < x.Ref := by omega
        simp [c, r, q, q1, q2]
      · have q1 : x.Ref < 1 ∨ 1073741824 < x.Ref := by omega
        simp [c, r, q, q1]
  · by_cases r : x.Ref = 0
    · cases hc : charOK x.Char <;> simp [c, r, hc]
    · simp [c, r]
theorem ref_ElemError_eq (x : GElem) (h : okE x) : ref_ElemError x = some (elemErr x) := by
  unfold ref_ElemError elemErr
  rw [ref_Char_eq, ref_AttrsError_eq _ _ h.2 h.1, ref_In_eq]
  by_cases c : x.Char = 0
  · by_cases r : x.Ref = 0
    · simp [c, r]
    · by_cases q : 1 ≤ x.Ref ∧ x.Ref ≤ 1073741824
      · simp [c, r, q]
      · have q1 : (decide (1 ≤ x.Ref) && decide (x.Ref ≤ 1073741824)) = false := by rw [← Bool.not_eq_true]; simpa using q
        simp [c, r, q, q1]
  · by_cases r : x.Ref = 0
    · cases hc : charOK x.Char <;> simp [c, r, hc]
    · simp [c, r]
def errE (f : List GElem) (k : Nat) : Option Int := if elemErr f[k]! = 0 then none else some (elemErr f[k]!)
def partErr (f : List GElem) : Int := ((List.range f.length).findSome? (errE f)).getD 0
theorem flow_CheckPart_eq (f : List GElem) (h : ∀ x ∈ f, okE x) (hm : f.length ≤ 9223372036854775807) : flow_CheckPart f = some (partErr f) := by
  unfold flow_CheckPart
  rw [iter_find (n := f.length) (errE f) (fun k hk => by
    unfold flow_CheckPart_L1 errE
    rw [if_pos (by simpa using hk), idx_nat hk, bnd1_some, chk_nat (by omega), flow_elem_eq _ (h _ (mem_at hk)), bnd1_some]
    by_cases e : elemErr f[k]! = 0
    · rw [if_neg (by simpa using e), if_pos e]; rfl
    · rw [if_pos (by simpa using e), if_neg e]; rfl) (by unfold flow_CheckPart_L1; rw [if_neg (by simp)]), out_getD]; rfl
theorem ref_PartError_eq (f : List GElem) (h : ∀ x ∈ f, okE x) (hm : f.length ≤ 9223372036854775807) : ref_PartError f = some (partErr f) := by
  unfold ref_PartError
  rw [iter_find (n := f.length) (errE f) (fun k hk => by
    unfold ref_PartError_L1 errE
    rw [if_pos (by simpa using hk), idx_nat hk, bnd1_some, chk_nat (by omega), ref_ElemError_eq _ (h _ (mem_at hk)), bnd1_some]
    by_cases e : elemErr f[k]! = 0
    · rw [if_neg (by simpa using e), if_pos e]; rfl
    · rw [if_pos (by simpa using e), if_neg e]; rfl) (by unfold ref_PartError_L1; rw [if_neg (by simp)]), out_getD]; rfl
theorem partErr_at {f : List GElem} (h : partErr f = 0) {k : Nat} (hk : k < f.length) : elemErr f[k]! = 0 := by
  unfold partErr at h
  cases hf : (List.range f.length).findSome? (errE f) with
  | some e =>
    rw [hf] at h
    have h : e = 0 := h
    subst h
    obtain ⟨j, _, hj⟩ := List.exists_of_findSome?_eq_some hf
    unfold errE at hj
    split at hj
    · cases hj
    · rename_i hn; exact absurd (Option.some.inj hj) hn
  | none =>
    rw [List.findSome?_eq_none_iff] at hf
    have := hf k (List.mem_range.2 hk)
    unfold errE at this
    split at this
    · rename_i hn; exact hn
    · cases this
theorem elem_attrs {x : GElem} (h : elemErr x = 0) : attrErr x.Attrs false = 0 := by
  unfold elemErr at h
  split at h
  · cases h
  · split at h
    · cases h
    · exact h
def sHidden : List UInt8 := [104, 105, 100, 100, 101, 110]
def sOn : List UInt8 := [111, 110]
def sCut : List UInt8 := [99, 117, 116]
def sAdd : List UInt8 := [97, 100, 100]
def hid (x : GElem) (mode : Int) : Bool := decide (getA x.Attrs sHidden = sOn) || (decide (mode = 0) && !decide (getA x.Attrs sCut = [])) || (decide (mode = 1) && !decide (getA x.Attrs sAdd = []))
theorem track_Hidden_eq (x : GElem) (mode : Int) (h : okE x) : track_Hidden x mode = some (hid x mode) := by
  unfold track_Hidden hid
  rw [attr_Get_eq _ _ h.1, attr_Get_eq _ _ h.1, attr_Get_eq _ _ h.1, bnd1_some]
  show (bnd1 (gd ((decide (getA x.Attrs sHidden = sOn) == false) && (decide (mode = 0) == true)) (some (getA x.Attrs sCut))) fun (r2 : List UInt8) =>
    bnd1 (gd (((decide (getA x.Attrs sHidden = sOn) || (decide (mode = 0) && !decide (r2 = []))) == false) && (decide (mode = 1) == true)) (some (getA x.Attrs sAdd))) fun (r3 : List UInt8) =>
      some ((decide (getA x.Attrs sHidden = sOn) || (decide (mode = 0) && !decide (r2 = []))) || (decide (mode = 1) && !decide (r3 = [])))) = _
  cases decide (getA x.Attrs sHidden = sOn)
  · by_cases m0 : mode = 0
    · subst m0
      cases hc : decide (getA x.Attrs sCut = []) <;> simp [hc]
    · by_cases m1 : mode = 1
      · subst m1; simp
      · simp [m0, m1]
  · simp
def seen (f : List GElem) (mode : Int) (k : Nat) : Bool := !hid f[k]! mode || (decide (k + 1 = f.length) && decide (f[k]!.Char = 10))
def shown (f : List GElem) (mode : Int) (k : Nat) : List Int := ((List.range k).filter (seen f mode)).map fun (i : Nat) => (i : Int)
theorem shown_succ (f : List GElem) (mode : Int) (k : Nat) : shown f mode (k + 1) = if seen f mode k then shown f mode k ++ [(k : Int)] else shown f mode k := by
  unfold shown
  rw [List.range_succ, List.filter_append]
  split <;> rename_i h <;> simp [h]
theorem shown_len (f : List GElem) (mode : Int) (k : Nat) : (shown f mode k).length ≤ k := by
  unfold shown
  rw [List.length_map]
  exact Nat.le_trans (List.length_filter_le _ _) (by simp)
theorem track_Places_eq (f : List GElem) (mode : Int) (h : ∀ x ∈ f, okE x) (hm : f.length ≤ 1048576) : track_Places f mode = some (shown f mode f.length) := by
  unfold track_Places
  obtain ⟨b, hb, hq⟩ := iter_hoare (f := fun (a : Int × (List Int)) => track_Places_L1 f mode a.1 a.2) f.length (fun k s => s = ((k : Int), shown f mode k)) (fun b => b = shown f mode f.length)
    (fun k s hk hR => by
      subst hR
      left
      have hl := shown_len f mode k
      unfold track_Places_L1
      simp only
      rw [if_pos (by simpa using hk), idx_nat hk, bnd1_some, chk_nat (by omega), track_Hidden_eq _ _ (h _ (mem_at hk)), bnd1_some, chk_ok (by omega) (by omega), app8 (by omega), shown_succ]
      unfold seen
      generalize f[k]! = x
      refine ⟨_, ?_, rfl⟩
      have e : decide ((k : Int) = (f.length : Int) - 1) = decide (k + 1 = f.length) := by rw [Bool.eq_iff_iff]; simp; omega
      cases hid x mode
      · simp
      · simp only [Bool.not_true, beq_self_eq_true, gd_true, bnd1_some, Bool.false_or, e]
        cases (decide (k + 1 = f.length) && decide (x.Char = 10)) <;> rfl)
    (fun s hR => by
      subst hR
      unfold track_Places_L1
      exact ⟨_, by rw [if_neg (by simp)], rfl⟩) (s := (0, [])) rfl
  rw [hb, hq]; rfl
theorem ref_Shown_eq (f : List GElem) (mode : Int) (h : ∀ x ∈ f, okE x) (he : partErr f = 0) (hm : f.length ≤ 1048576) : ref_Shown f mode = some (shown f mode f.length) := by
  unfold ref_Shown
  obtain ⟨b, hb, hq⟩ := iter_hoare (f := fun (a : Int × (List Int)) => ref_Shown_L1 f mode a.1 a.2) f.length (fun k s => s = ((k : Int), shown f mode k)) (fun b => b = shown f mode f.length)
    (fun k s hk hR => by
      subst hR
      left
      have hl := shown_len f mode k
      have ha := elem_attrs (partErr_at he hk)
      have hx := h _ (mem_at hk)
      unfold ref_Shown_L1
      simp only
      rw [if_pos (by simpa using hk), idx_nat hk, bnd1_some, chk_nat (by omega), chk_ok (by omega) (by omega), app8 (by omega), shown_succ]
      unfold seen
      generalize f[k]! = x at ha hx ⊢
      obtain ⟨s1, n1, v1⟩ := good_of ha
      have hv : ∀ n, (fnd x.Attrs n).isSome = !decide (getA x.Attrs n = []) := fun n => by
        rw [getA_eq]
        cases hf : fnd x.Attrs n with
        | none => rfl
        | some y => have := v1 rfl y (fnd_name hf).2; simp [this]
      rw [ref_Get_eq _ _ hx.1, ref_Has_eq _ _ hx.1, ref_Has_eq _ _ hx.1, bnd1_some, hv, hv]
      refine ⟨_, ?_, rfl⟩
      have e : decide ((k : Int) = (f.length : Int) - 1) = decide (k + 1 = f.length) := by rw [Bool.eq_iff_iff]; simp; omega
      have key : ∀ b : Bool, (bnd1 (gd (b == false) (some ((f.length : Int) - 1))) fun (x6 : Int) => if (b || (decide ((k : Int) = x6) && decide (x.Char = 10))) = true then (bnd1 (some (shown f mode k ++ [(k : Int)])) fun out6 => some out6) else some (shown f mode k)) =
          some (if (b || (decide (k + 1 = f.length) && decide (x.Char = 10))) = true then shown f mode k ++ [(k : Int)] else shown f mode k) := by
        intro b
        cases b
        · simp only [beq_self_eq_true, gd_true, bnd1_some, e]; split <;> rfl
        · rfl
      simp only [key]
      clear key e
      unfold hid sHidden sOn sCut sAdd
      generalize decide (k + 1 = f.length) = le
      generalize decide (x.Char = 10) = ce
      generalize decide (getA x.Attrs [104, 105, 100, 100, 101, 110] = [111, 110]) = h1
      generalize decide (getA x.Attrs [99, 117, 116] = []) = h2
      generalize decide (getA x.Attrs [97, 100, 100] = []) = h3
      by_cases m0 : mode = 0
      · subst m0
        cases h1 <;> cases h2 <;> cases le <;> cases ce <;> simp
      · by_cases m1 : mode = 1
        · subst m1
          cases h1 <;> cases h3 <;> cases le <;> cases ce <;> simp
        · cases h1 <;> cases le <;> cases ce <;> simp [m0, m1])
    (fun s hR => by
      subst hR
      unfold ref_Shown_L1
      exact ⟨_, by rw [if_neg (by simp)], rfl⟩) (s := (0, [])) rfl
  rw [hb, hq]; rfl
theorem track_Shown_eq (f : List GElem) (mode : Int) (h : ∀ x ∈ f, okE x) (hm : f.length ≤ 1048576) : track_Shown f mode = some (if partErr f ≠ 0 then ([], partErr f) else if mode < 0 ∨ 2 < mode then ([], 1) else (shown f mode f.length, 0)) := by
  unfold track_Shown
  rw [flow_CheckPart_eq f h (by omega), bnd1_some]
  by_cases he : partErr f = 0
  · rw [if_neg (show ¬ ((!decide (partErr f = 0)) = true) by simpa using he), if_neg (show ¬ (partErr f ≠ 0) by simpa using he)]
    by_cases hc : mode < 0 ∨ 2 < mode
    · rw [if_pos (by simpa using hc), if_pos hc]
    · rw [if_neg (by simpa using hc), if_neg hc, track_Places_eq f mode h hm]; rfl
  · rw [if_pos (by simpa using he), if_pos he]

/-! Ranges. -/
def mks (f : List GElem) (k : Nat) : List UInt8 × List UInt8 := (getA f[k]!.Attrs sAdd, getA f[k]!.Attrs sCut)
def chg (f : List GElem) : Nat → List GSpan
  | 0 => []
  | k + 1 => if mks f k = ([], []) then chg f k else
    match (chg f k).getLast? with
    | none => [⟨k, k + 1⟩]
    | some s => if s.To = k ∧ mks f (k - 1) = mks f k then (chg f k).dropLast ++ [⟨s.From, k + 1⟩] else chg f k ++ [⟨k, k + 1⟩]
theorem chg_len (f : List GElem) (k : Nat) : (chg f k).length ≤ k := by
  induction k with
  | zero => simp [chg]
  | succ k ih =>
    rw [chg]
    split
    · omega
    · split
      · simp
      · split
        · simp; omega
        · simp; omega
theorem app16 {o : List GSpan} {x : GSpan} (h : o.length + 1 ≤ 1099511627776) : app 16 o [x] = some (o ++ [x]) := by
  unfold app; rw [if_pos (by simp; omega)]
theorem chg_step (f : List GElem) (h : ∀ x ∈ f, okE x) (hm : f.length ≤ 1048576) (k : Nat) (hk : k < f.length) : track_Changes_L1 f k (chg f k) = some (.inl (((k + 1 : Nat) : Int), chg f (k + 1))) := by
  have hl := chg_len f k
  unfold track_Changes_L1
  rw [if_pos (by simpa using hk), idx_nat hk, bnd1_some, chk_nat (by omega), attr_Get_eq _ _ (h _ (mem_at hk)).1, attr_Get_eq _ _ (h _ (mem_at hk)).1, bnd1_some, bnd1_some, chg]
  have hmk : mks f k = (getA f[k]!.Attrs [97, 100, 100], getA f[k]!.Attrs [99, 117, 116]) := rfl
  rw [hmk]
  generalize ha : getA f[k]!.Attrs [97, 100, 100] = ad
  generalize hc : getA f[k]!.Attrs [99, 117, 116] = ct
  by_cases e0 : ad = [] ∧ ct = []
  · rw [if_pos (by simpa using e0), if_pos (by rw [e0.1, e0.2])]; rfl
  · rw [if_neg (by simpa using e0), if_neg (by intro e; injection e with e1 e2; exact e0 ⟨e1, e2⟩), chk_ok (by omega) (by omega), bnd1_some]
    rcases List.eq_nil_or_concat (chg f k) with hn | ⟨o, s, hn⟩
    · rw [hn]
      have hz : decide (0 ≤ ((([] : List GSpan).length : Nat) : Int) - 1) = false := by decide
      simp only [hz, Bool.false_and, show (false == true) = false from rfl, gd_false, bnd1_some, Bool.false_eq_true, if_false]
      rw [app16 (by simp)]
      rfl
    · rw [List.concat_eq_append] at hn
      rw [hn] at hl ⊢
      rw [List.length_append, List.length_singleton] at hl ⊢
      have h0 : decide (0 ≤ ((o.length + 1 : Nat) : Int) - 1) = true := decide_eq_true (by omega)
      have hk1 : (((o.length + 1 : Nat) : Int) - 1) = (o.length : Int) := by omega
      have hi : idx (o ++ [s]) (o.length : Int) = some s := by rw [idx_nat' (by simp)]; simp
      rw [h0, hk1, hi]
      simp only [beq_self_eq_true, gd_true, bnd1_some, Bool.true_and, List.getLast?_append, List.getLast?_singleton, Option.some_or, List.dropLast_concat]
      rw [app16 (by simp; omega)]
      by_cases e1 : s.To = (k : Int)
      · have hp : 0 < k := by omega
        rw [decide_eq_true e1, chk_pred hp (by omega)]
        simp only [beq_self_eq_true, gd_true, bnd1_some, Bool.true_and]
        rw [idx_nat (by omega), bnd1_some, attr_Get_eq _ _ (h _ (mem_at (by omega))).1, bnd1_some]
        have hmk1 : mks f (k - 1) = (getA f[k - 1]!.Attrs [97, 100, 100], getA f[k - 1]!.Attrs [99, 117, 116]) := rfl
        rw [hmk1]
        by_cases e2 : getA f[k - 1]!.Attrs [97, 100, 100] = ad
        · rw [decide_eq_true e2]
          simp only [beq_self_eq_true, gd_true, bnd1_some, Bool.true_and]
          rw [idx_nat (by omega), bnd1_some, attr_Get_eq _ _ (h _ (mem_at (by omega))).1, bnd1_some]
          by_cases e3 : getA f[k - 1]!.Attrs [99, 117, 116] = ct
          · rw [decide_eq_true e3, if_pos rfl, if_pos ⟨e1, by rw [e2, e3]⟩, e1, chk_nat (by omega)]
            simp
          · rw [decide_eq_false e3, if_neg (by decide), if_neg (by rintro ⟨_, e⟩; injection e with _ e; exact e3 e)]
            simp
        · rw [decide_eq_false e2]
          rw [if_neg (show ¬ (s.To = (k : Int) ∧ _) from by rintro ⟨_, e⟩; injection e with e _; exact e2 e)]
          simp
      · rw [decide_eq_false e1, if_neg (fun e => e1 e.1)]
        simp
theorem track_Changes_eq (f : List GElem) (h : ∀ x ∈ f, okE x) (hm : f.length ≤ 1048576) : track_Changes f = some (if partErr f ≠ 0 then ([], partErr f) else (chg f f.length, 0)) := by
  unfold track_Changes
  rw [flow_CheckPart_eq f h (by omega), bnd1_some]
  by_cases he : partErr f = 0
  · rw [if_neg (show ¬ ((!decide (partErr f = 0)) = true) by simpa using he), if_neg (show ¬ (partErr f ≠ 0) by simpa using he)]
    obtain ⟨b, hb, hq⟩ := iter_hoare (f := fun (a : Int × (List GSpan)) => track_Changes_L1 f a.1 a.2) f.length (fun k s => s = ((k : Int), chg f k)) (fun b => b = chg f f.length)
      (fun k s hk hR => by
        subst hR
        exact .inl ⟨_, chg_step f h hm k hk, rfl⟩)
      (fun s hR => by
        subst hR
        unfold track_Changes_L1
        exact ⟨_, by rw [if_neg (by simp)], rfl⟩) (s := (0, [])) rfl
    rw [hb, hq]; rfl
  · rw [if_pos (by simpa using he), if_pos he]
/-- Where a run begins, or the end. -/
def Bd (f : List GElem) (k : Nat) : Prop := k ≤ f.length ∧ (k = 0 ∨ k = f.length ∨ mks f (k - 1) ≠ mks f k)
theorem chg_run (f : List GElem) {i : Nat} (hi : Bd f i) (j : Nat) (hij : i < j) (hj : j ≤ f.length) (he : ∀ x, i ≤ x → x < j → mks f x = mks f i) : chg f j = chg f i ++ if mks f i = ([], []) then [] else [⟨i, j⟩] := by
  induction j with
  | zero => omega
  | succ j ih =>
    rw [chg, he j (by omega) (by omega)]
    rcases Nat.lt_or_ge i j with h1 | h1
    · have := ih h1 (by omega) (fun x a b => he x a (by omega))
      by_cases e : mks f i = ([], [])
      · rw [if_pos e, if_pos e, this, if_pos e]
      · rw [if_neg e] at this
        rw [if_neg e, if_neg e, this]
        simp only [List.getLast?_append, List.getLast?_singleton, Option.some_or, List.dropLast_concat]
        rw [if_pos ⟨trivial, he (j - 1) (by omega) (by omega)⟩]; simp
    · obtain rfl : j = i := by omega
      by_cases e : mks f j = ([], [])
      · rw [if_pos e, if_pos e, List.append_nil]
      · rw [if_neg e, if_neg e]
        rcases hi.2 with h2 | h2 | h2
        · subst h2; simp [chg]
        · omega
        · rcases List.eq_nil_or_concat (chg f j) with hn | ⟨o, s, hn⟩
          · rw [hn]; simp
          · rw [List.concat_eq_append] at hn
            rw [hn]
            simp only [List.getLast?_append, List.getLast?_singleton, Option.some_or]
            rw [if_neg (fun e => h2 e.2)]; simp
theorem run_end (f : List GElem) (h : ∀ x ∈ f, okE x) (hm : f.length ≤ 1048576) (i : Nat) (hi : i < f.length) : ∃ k : Nat, iter (fun (a : Int) => law_TrackShownMatches_L2 f (mks f i).1 (mks f i).2 a) (i : Int) = some (k : Int) ∧ i < k ∧ k ≤ f.length ∧ (∀ x, i ≤ x → x < k → mks f x = mks f i) ∧ (k = f.length ∨ mks f k ≠ mks f i) := by
  obtain ⟨b, hb, k, hq⟩ := iter_inv (f := fun (a : Int) => law_TrackShownMatches_L2 f (mks f i).1 (mks f i).2 a)
    (fun s => ∃ k : Nat, s = (k : Int) ∧ i ≤ k ∧ k ≤ f.length ∧ (∀ x, i ≤ x → x < k → mks f x = mks f i)) (fun s => f.length - s.toNat)
    (fun b => ∃ k : Nat, b = (k : Int) ∧ i ≤ k ∧ k ≤ f.length ∧ (∀ x, i ≤ x → x < k → mks f x = mks f i) ∧ (k = f.length ∨ mks f k ≠ mks f i))
    (fun s hs => by
      obtain ⟨k, rfl, h1, h2, h3⟩ := hs
      unfold law_TrackShownMatches_L2
      by_cases hk : k < f.length
      · have hd : decide ((k : Int) < (f.length : Int)) = true := by simpa using hk
        rw [hd, idx_nat hk]
        simp only [beq_self_eq_true, gd_true, bnd1_some, Bool.true_and]
        rw [ref_Get_eq _ _ (h _ (mem_at hk)).1, bnd1_some, chk_nat (by omega)]
        have hmk : mks f k = (getA f[k]!.Attrs [97, 100, 100], getA f[k]!.Attrs [99, 117, 116]) := rfl
        by_cases e : mks f k = mks f i
        · left
          rw [hmk] at e
          rw [← e]
          simp only [decide_true, beq_self_eq_true, gd_true, bnd1_some]
          rw [ref_Get_eq _ _ (h _ (mem_at hk)).1, bnd1_some]
          refine ⟨((k + 1 : Nat) : Int), by simp, ⟨k + 1, rfl, by omega, by omega, fun x a b => ?_⟩, by simp; omega⟩
          rcases Nat.lt_or_ge x k with c | c
          · exact (h3 x a c).trans e.symm
          · obtain rfl : x = k := by omega
            rw [hmk]
        · right
          refine ⟨(k : Int), ?_, k, rfl, h1, h2, h3, .inr e⟩
          rw [hmk] at e
          by_cases e1 : getA f[k]!.Attrs [97, 100, 100] = (mks f i).1
          · have e2 : ¬ getA f[k]!.Attrs [99, 117, 116] = (mks f i).2 := fun x => e (by rw [e1, x])
            rw [decide_eq_true e1]
            simp only [beq_self_eq_true, gd_true, bnd1_some]
            rw [ref_Get_eq _ _ (h _ (mem_at hk)).1, bnd1_some]
            rw [decide_eq_false e2]; simp
          · rw [decide_eq_false e1]
            simp
      · right
        have hd : decide ((k : Int) < (f.length : Int)) = false := by simp; omega
        rw [hd]
        exact ⟨_, rfl, k, rfl, h1, h2, h3, .inl (by omega)⟩)
    (s := (i : Int)) ⟨i, rfl, by omega, by omega, fun x a b => by omega⟩
  obtain ⟨rfl, h1, h2, h3, h4⟩ := hq
  refine ⟨k, hb, ?_, h2, h3, h4⟩
  rcases Nat.lt_or_ge i k with c | c
  · exact c
  · obtain rfl : k = i := by omega
    rcases h4 with h4 | h4
    · omega
    · exact absurd rfl h4
theorem bd_next {f : List GElem} {i k : Nat} (h1 : i < k) (h2 : k ≤ f.length) (h3 : ∀ x, i ≤ x → x < k → mks f x = mks f i) (h4 : k = f.length ∨ mks f k ≠ mks f i) : Bd f k := by
  refine ⟨h2, ?_⟩
  rcases h4 with h4 | h4
  · exact .inr (.inl h4)
  · refine .inr (.inr fun e => h4 ?_)
    rw [← e, h3 (k - 1) (by omega) (by omega)]
theorem chg_prefix (f : List GElem) (h : ∀ x ∈ f, okE x) (hm : f.length ≤ 1048576) : ∀ (m k : Nat), f.length - k = m → Bd f k → ∃ r, chg f f.length = chg f k ++ r := by
  intro m
  induction m using Nat.strongRecOn with
  | _ m ih =>
    intro k hk hb
    rcases Nat.lt_or_ge k f.length with c | c
    · obtain ⟨k2, _, h1, h2, h3, h4⟩ := run_end f h hm k c
      obtain ⟨r, hr⟩ := ih (f.length - k2) (by omega) k2 rfl (bd_next h1 h2 h3 h4)
      exact ⟨_, by rw [hr, chg_run f hb k2 h1 h2 h3, List.append_assoc]⟩
    · have := hb.1
      obtain rfl : k = f.length := by omega
      exact ⟨[], by simp⟩
theorem law_Track_loop (f : List GElem) (h : ∀ x ∈ f, okE x) (hm : f.length ≤ 1048576) : iter (fun (a : Int × Int) => law_TrackShownMatches_L1 f (chg f f.length) a.1 a.2) (0, 0) = some (.nrm ((chg f f.length).length : Int)) := by
  obtain ⟨b, hb, hq⟩ := iter_inv (f := fun (a : Int × Int) => law_TrackShownMatches_L1 f (chg f f.length) a.1 a.2)
    (fun s => ∃ k : Nat, s = (((chg f k).length : Int), (k : Int)) ∧ Bd f k) (fun s => f.length - s.2.toNat) (fun b => b = .nrm ((chg f f.length).length : Int))
    (fun s hs => by
      obtain ⟨i, rfl, hbd⟩ := hs
      have hcl := chg_len f f.length
      unfold law_TrackShownMatches_L1
      simp only
      by_cases hi : i < f.length
      · left
        obtain ⟨k, hk, h1, h2, h3, h4⟩ := run_end f h hm i hi
        have hb2 := bd_next h1 h2 h3 h4
        obtain ⟨r, hr⟩ := chg_prefix f h hm _ k rfl hb2
        have hrun := chg_run f hbd k h1 h2 h3
        rw [if_pos (by simpa using hi), idx_nat hi, bnd1_some, ref_Get_eq _ _ (h _ (mem_at hi)).1, ref_Get_eq _ _ (h _ (mem_at hi)).1, bnd1_some, bnd1_some]
        have hmk : mks f i = (getA f[i]!.Attrs [97, 100, 100], getA f[i]!.Attrs [99, 117, 116]) := rfl
        rw [hmk] at hk hrun
        simp only at hk
        rw [hk, bnd1_some]
        refine ⟨(((chg f k).length : Int), (k : Int)), ?_, ⟨k, rfl, hb2⟩, by simp; omega⟩
        by_cases e : getA f[i]!.Attrs [97, 100, 100] = [] ∧ getA f[i]!.Attrs [99, 117, 116] = []
        · rw [if_pos (by rw [e.1, e.2]), List.append_nil] at hrun
          rw [if_neg (by rw [decide_eq_true e.1, decide_eq_true e.2]; decide), ctl1_nrm, hrun]
        · rw [if_neg (by intro x; injection x with x1 x2; exact e ⟨x1, x2⟩)] at hrun
          rw [if_pos (by simp only [Bool.or_eq_true, Bool.not_eq_true', decide_eq_false_iff_not]; by_cases e1 : getA f[i]!.Attrs [97, 100, 100] = []; exact .inr fun x => e ⟨e1, x⟩; exact .inl e1)]
          have hlt : (chg f i).length < (chg f f.length).length := by rw [hr, hrun]; simp
          have hget : (chg f f.length)[(chg f i).length]'hlt = ⟨i, k⟩ := by simp [hr, hrun]
          have hd : decide (((chg f f.length).length : Int) ≤ ((chg f i).length : Int)) = false := by simp; omega
          rw [hd]
          simp only [beq_self_eq_true, gd_true]
          rw [idx_nat' hlt, hget, bnd1_some, chk_nat (by omega)]
          have hkl : (chg f k).length = (chg f i).length + 1 := by rw [hrun]; simp
          rw [hkl]
          simp
      · right
        have := hbd.1
        obtain rfl : i = f.length := by omega
        rw [if_neg (by simp)]
        exact ⟨_, rfl, rfl⟩)
    (s := (0, 0)) ⟨0, by simp [chg], by omega, .inl rfl⟩
  rw [hb, hq]
theorem law_tracks_eq : law_tracks = some true := by
  unfold law_tracks law_end
  rw [bnd1_some, track_Shown_eq _ _ (by
    intro x hx
    refine ⟨?_, ?_⟩
    · simp at hx; rcases hx with rfl | rfl | rfl <;> decide
    · simp at hx; rcases hx with rfl | rfl | rfl <;> intro a ha <;> simp at ha <;> subst ha <;> decide) (by decide)]
  have e : partErr [GElem.mk 97 0 [], GElem.mk 98 0 [GAttr.mk [99, 117, 116] [120]], GElem.mk 10 0 []] = 0 := by decide +kernel
  have e2 : shown [GElem.mk 97 0 [], GElem.mk 98 0 [GAttr.mk [99, 117, 116] [120]], GElem.mk 10 0 []] 0 3 = [0, 2] := by decide +kernel
  rw [if_neg (by rw [e]; decide), if_neg (by decide)]
  show (bnd2 (some (shown [GElem.mk 97 0 [], GElem.mk 98 0 [GAttr.mk [99, 117, 116] [120]], GElem.mk 10 0 []] 0 3, (0 : Int))) _) = _
  rw [e2, bnd2_some, ref_SameInts_eq _ _ (by decide)]
  rfl
theorem law_TrackShown_true (f : List GElem) (mode : Int) (h : ∀ x ∈ f, okE x) (hm : f.length ≤ 1048576) : law_TrackShownMatches f mode = some true := by
  unfold law_TrackShownMatches
  rw [law_tracks_eq, bnd1_some, if_neg (by decide), track_Shown_eq f mode h hm, track_Changes_eq f h hm, ref_PartError_eq f h (by omega)]
  by_cases he : partErr f = 0
  · rw [he, if_neg (show ¬ ((0 : Int) ≠ 0) by decide), if_neg (show ¬ ((0 : Int) ≠ 0) by decide)]
    by_cases hc : mode < 0 ∨ 2 < mode
    · rw [if_pos hc]
      simp only [bnd2_some, bnd1_some]
      rw [if_neg (by decide), if_neg (by decide), law_Track_loop f h hm, ctl1_nrm, if_neg (by simp), ref_In_eq, bnd1_some, if_pos (by simp; omega)]
      rfl
    · rw [if_neg hc]
      simp only [bnd2_some, bnd1_some]
      rw [if_neg (by decide), if_neg (by decide), law_Track_loop f h hm, ctl1_nrm, if_neg (by simp), ref_In_eq, bnd1_some, if_neg (by simp; omega), if_pos (by decide), ref_Shown_eq f mode h he hm, bnd1_some, ref_SameInts_eq _ _ (by have := shown_len f mode f.length; omega)]
      simp
  · rw [if_pos he, if_pos he]
    simp only [bnd2_some, bnd1_some]
    rw [if_pos (by simpa using he)]
    simp [chk]
    decide
end Go.Proofs.Ythhodpedkdapcaa.Al
