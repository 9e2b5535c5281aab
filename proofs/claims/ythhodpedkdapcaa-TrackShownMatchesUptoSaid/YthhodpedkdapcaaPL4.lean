/-
  Plain laws of lists of attributes: Apply, Undo, Between, Join, Pair are the document's.
-/
import Derived.Test.YthhodpedkdapcaaPL3
namespace Go.Proofs.Ythhodpedkdapcaa.Al

/-! The program's merges. -/
def mrg (g : GAttr → GAttr → List GAttr) : List GAttr → List GAttr → List GAttr
  | [], [] => []
  | x :: a, [] => g x nil2 ++ mrg g a []
  | [], y :: b => g nil2 y ++ mrg g [] b
  | x :: a, y :: b => if sLt x.Name y.Name then g x nil2 ++ mrg g a (y :: b) else if sLt y.Name x.Name then g nil2 y ++ mrg g (x :: a) b else g x y ++ mrg g a b
  termination_by a b => a.length + b.length
theorem bothL_mrg (stp : GAttr → GAttr → List GAttr → List GAttr) (g : GAttr → GAttr → List GAttr) (h : ∀ x y o, stp x y o = o ++ g x y) : ∀ (m : Nat) (a b c : List GAttr), a.length + b.length = m → bothL stp a b c = c ++ mrg g a b := by
  intro m
  induction m using Nat.strongRecOn with
  | _ m ih =>
    intro a b c hm
    cases a with
    | nil =>
      cases b with
      | nil => simp [bothL, mrg]
      | cons y b => rw [bothL, mrg, ih (m - 1) (by simp at hm; omega) [] b _ (by simp at hm ⊢; omega), h]; simp
    | cons x a =>
      cases b with
      | nil => rw [bothL, mrg, ih (m - 1) (by simp at hm; omega) a [] _ (by simp at hm ⊢; omega), h]; simp
      | cons y b =>
        rw [bothL, mrg]
        split
        · rw [ih (m - 1) (by simp at hm; omega) a (y :: b) _ (by simp at hm ⊢; omega), h]; simp
        · split
          · rw [ih (m - 1) (by simp at hm; omega) (x :: a) b _ (by simp at hm ⊢; omega), h]; simp
          · rw [ih (m - 2) (by simp at hm; omega) a b _ (by simp at hm ⊢; omega), h]; simp
def One (l : List GAttr) (n : List UInt8) (o : Option GAttr) : Prop := l = o.toList ∧ ∀ e, o = some e → e.Name = n
structure GOK (g : GAttr → GAttr → List GAttr) (G : Option GAttr → Option GAttr → Option GAttr) : Prop where
  l : ∀ x : GAttr, x.Name ≠ [] → One (g x nil2) x.Name (G (some x) none)
  r : ∀ y : GAttr, y.Name ≠ [] → One (g nil2 y) y.Name (G none (some y))
  b : ∀ x y : GAttr, x.Name = y.Name → x.Name ≠ [] → One (g x y) x.Name (G (some x) (some y))
  n : G none none = none
theorem head_spec {o : Option GAttr} {n0 : List UInt8} {rest : List GAttr} (h1 : ∀ e, o = some e → e.Name = n0) (h2 : ∀ e ∈ rest, sLt n0 e.Name = true) (h3 : Srt rest) : Srt (o.toList ++ rest) ∧ ∀ n, fnd (o.toList ++ rest) n = if n0 = n then o else fnd rest n := by
  cases o with
  | none =>
    refine ⟨h3, fun n => ?_⟩
    split
    · rename_i h; subst h; exact fnd_none fun e he => ne_of_sLt (h2 e he)
    · rfl
  | some x =>
    have hx := h1 x rfl
    refine ⟨srt_cons.2 ⟨fun e he => by rw [hx]; exact h2 e he, h3⟩, fun n => ?_⟩
    show fnd (x :: rest) n = _
    rw [fnd, hx]
def Nm (l : List GAttr) : Prop := ∀ e ∈ l, e.Name ≠ []
theorem mrg_spec {g : GAttr → GAttr → List GAttr} {G : Option GAttr → Option GAttr → Option GAttr} (hg : GOK g G) : ∀ (m : Nat) (a b : List GAttr), a.length + b.length = m → Srt a → Srt b → Nm a → Nm b →
    (∀ n, (∀ e ∈ a, sLt n e.Name = true) → (∀ e ∈ b, sLt n e.Name = true) → ∀ e ∈ mrg g a b, sLt n e.Name = true) ∧ Srt (mrg g a b) ∧ ∀ n, fnd (mrg g a b) n = G (fnd a n) (fnd b n) := by
  intro m
  induction m using Nat.strongRecOn with
  | _ m ih =>
    intro a b hm ha hb na nb
    have tail : ∀ {l : List GAttr} {n0 : List UInt8} {o : Option GAttr} {a' b' : List GAttr}, One l n0 o → a'.length + b'.length < m → Srt a' → Srt b' → Nm a' → Nm b' → (∀ e ∈ a', sLt n0 e.Name = true) → (∀ e ∈ b', sLt n0 e.Name = true) →
        (∀ n, sLt n n0 = true → ∀ e ∈ l ++ mrg g a' b', sLt n e.Name = true) ∧ Srt (l ++ mrg g a' b') ∧ ∀ n, fnd (l ++ mrg g a' b') n = if n0 = n then o else G (fnd a' n) (fnd b' n) := by
      rintro l n0 o a' b' ⟨rfl, ho⟩ hlt ha' hb' na' nb' h1 h2
      obtain ⟨i1, i2, i3⟩ := ih _ hlt a' b' rfl ha' hb' na' nb'
      obtain ⟨j1, j2⟩ := head_spec ho (i1 n0 h1 h2) i2
      refine ⟨fun n hn e he => ?_, j1, fun n => by rw [j2 n, i3 n]⟩
      rcases List.mem_append.1 he with he | he
      · rw [Option.mem_toList] at he; rw [ho e he]; exact hn
      · exact sLt_trans hn (i1 n0 h1 h2 e he)
    cases a with
    | nil =>
      cases b with
      | nil => exact ⟨fun n _ _ e he => by simp [mrg] at he, by simp [mrg, Srt], fun n => by simp [mrg, fnd, hg.n]⟩
      | cons y b =>
        have h1 := srt_cons.1 hb
        have hy := nb y (List.mem_cons_self ..)
        rw [mrg]
        obtain ⟨k1, k2, k3⟩ := tail (a' := []) (b' := b) (hg.r y hy) (by simp at hm ⊢; omega) ha h1.2 na (fun e he => nb e (List.mem_cons_of_mem _ he)) (fun e he => by cases he) h1.1
        refine ⟨fun n _ h e he => k1 n (h y (List.mem_cons_self ..)) e he, k2, fun n => ?_⟩
        rw [k3 n]
        conv => rhs; rw [fnd, fnd]
        split
        · rfl
        · rfl
    | cons x a =>
      have h1 := srt_cons.1 ha
      have hx := na x (List.mem_cons_self ..)
      cases b with
      | nil =>
        rw [mrg]
        obtain ⟨k1, k2, k3⟩ := tail (a' := a) (b' := []) (hg.l x hx) (by simp at hm ⊢; omega) h1.2 hb (fun e he => na e (List.mem_cons_of_mem _ he)) nb h1.1 (fun e he => by cases he)
        refine ⟨fun n h _ e he => k1 n (h x (List.mem_cons_self ..)) e he, k2, fun n => ?_⟩
        rw [k3 n]
        conv => rhs; rw [fnd, fnd]
        split
        · rfl
        · rfl
      | cons y b =>
        have h2 := srt_cons.1 hb
        have hy := nb y (List.mem_cons_self ..)
        rw [mrg]
        split
        · rename_i hlt
          obtain ⟨k1, k2, k3⟩ := tail (a' := a) (b' := y :: b) (hg.l x hx) (by simp at hm ⊢; omega) h1.2 hb (fun e he => na e (List.mem_cons_of_mem _ he)) nb h1.1 (fun e he => by
            rcases List.mem_cons.1 he with rfl | he
            · exact hlt
            · exact sLt_trans hlt (h2.1 e he))
          refine ⟨fun n h _ e he => k1 n (h x (List.mem_cons_self ..)) e he, k2, fun n => ?_⟩
          rw [k3 n]
          by_cases hn : x.Name = n
          · subst hn
            rw [if_pos rfl, fnd, if_pos rfl, fnd_none fun e he => by
              rcases List.mem_cons.1 he with rfl | he
              · exact ne_of_sLt hlt
              · exact ne_of_sLt (sLt_trans hlt (h2.1 e he))]
          · rw [if_neg hn]; conv => rhs; rw [fnd, if_neg hn]
        · rename_i hlt
          split
          · rename_i hgt
            obtain ⟨k1, k2, k3⟩ := tail (a' := x :: a) (b' := b) (hg.r y hy) (by simp at hm ⊢; omega) ha h2.2 na (fun e he => nb e (List.mem_cons_of_mem _ he)) (fun e he => by
              rcases List.mem_cons.1 he with rfl | he
              · exact hgt
              · exact sLt_trans hgt (h1.1 e he)) h2.1
            refine ⟨fun n _ h e he => k1 n (h y (List.mem_cons_self ..)) e he, k2, fun n => ?_⟩
            rw [k3 n]
            by_cases hn : y.Name = n
            · subst hn
              rw [if_pos rfl]
              conv => rhs; rw [fnd_none (l := x :: a) (fun e he => by
                rcases List.mem_cons.1 he with rfl | he
                · exact ne_of_sLt hgt
                · exact ne_of_sLt (sLt_trans hgt (h1.1 e he))), fnd, if_pos rfl]
            · rw [if_neg hn]; conv => rhs; arg 2; rw [fnd, if_neg hn]
          · rename_i hgt
            have hxy : x.Name = y.Name := by
              have := sLt_tri x.Name y.Name
              rw [Bool.eq_false_iff.2 hlt, Bool.eq_false_iff.2 hgt] at this
              simpa using this
            obtain ⟨k1, k2, k3⟩ := tail (a' := a) (b' := b) (hg.b x y hxy hx) (by simp at hm ⊢; omega) h1.2 h2.2 (fun e he => na e (List.mem_cons_of_mem _ he)) (fun e he => nb e (List.mem_cons_of_mem _ he)) h1.1 (fun e he => by rw [hxy]; exact h2.1 e he)
            refine ⟨fun n h _ e he => k1 n (h x (List.mem_cons_self ..)) e he, k2, fun n => ?_⟩
            rw [k3 n]
            conv => rhs; rw [fnd, fnd, ← hxy]
            split <;> rfl

/-! What the four merges hold under a name. -/
def GRaw : Option GAttr → Option GAttr → Option GAttr
  | o, none => o
  | _, some y => if y.Value = [] then none else some y
def GChange : Option GAttr → Option GAttr → Option GAttr
  | none, none => none
  | some x, none => some ⟨x.Name, []⟩
  | none, some y => some y
  | some x, some y => if x = y then none else some y
def GBoth : Option GAttr → Option GAttr → Option GAttr
  | o, none => o
  | _, some y => some y
def GWithout : Option GAttr → Option GAttr → Option GAttr
  | o, none => o
  | _, some _ => none
theorem spec_of {stp : GAttr → GAttr → List GAttr → List GAttr} {g : GAttr → GAttr → List GAttr} {G : Option GAttr → Option GAttr → Option GAttr} (h : ∀ x y o, stp x y o = o ++ g x y) (hg : GOK g G) {a b : List GAttr} (ha : Srt a) (hb : Srt b) (na : Nm a) (nb : Nm b) :
    Srt (bothL stp a b []) ∧ ∀ n, fnd (bothL stp a b []) n = G (fnd a n) (fnd b n) := by
  rw [bothL_mrg stp g h _ a b [] rfl, List.nil_append]
  exact (mrg_spec hg _ a b rfl ha hb na nb).2
def gRaw (x y : GAttr) : List GAttr := if y.Name = [] then [x] else if y.Value = [] then [] else [y]
def gChange (x y : GAttr) : List GAttr := if y.Name = [] then [⟨x.Name, []⟩] else if x = y then [] else [y]
def gBoth (x y : GAttr) : List GAttr := [if y.Name = [] then x else y]
def gWithout (x y : GAttr) : List GAttr := if y.Name = [] then [x] else []
theorem gRaw_ok : GOK gRaw GRaw := by
  refine ⟨fun x hx => ⟨by simp [gRaw, GRaw, nil2], by rintro e ⟨⟩; rfl⟩, fun y hy => ⟨?_, ?_⟩, fun x y hxy hx => ⟨?_, ?_⟩, rfl⟩
  · simp only [gRaw, GRaw, if_neg hy]; split <;> rfl
  · intro e he; simp only [GRaw] at he; split at he <;> cases he; rfl
  · rw [hxy] at hx; simp only [gRaw, GRaw, if_neg hx]; split <;> rfl
  · intro e he; simp only [GRaw] at he; split at he <;> cases he; exact hxy.symm
theorem gChange_ok : GOK gChange GChange := by
  refine ⟨fun x hx => ⟨by simp [gChange, GChange, nil2], by rintro e ⟨⟩; rfl⟩, fun y hy => ⟨?_, ?_⟩, fun x y hxy hx => ⟨?_, ?_⟩, rfl⟩
  · have : ¬ nil2 = y := by rintro rfl; exact hy rfl
    simp [gChange, GChange, if_neg hy, this]
  · rintro e ⟨⟩; rfl
  · rw [hxy] at hx; simp only [gChange, GChange, if_neg hx]; split <;> rfl
  · intro e he; simp only [GChange] at he; split at he <;> cases he; exact hxy.symm
theorem gBoth_ok : GOK gBoth GBoth := by
  refine ⟨fun x hx => ⟨by simp [gBoth, GBoth, nil2], by rintro e ⟨⟩; rfl⟩, fun y hy => ⟨by simp [gBoth, GBoth, if_neg hy], by rintro e ⟨⟩; rfl⟩, fun x y hxy hx => ⟨?_, ?_⟩, rfl⟩
  · rw [hxy] at hx; simp [gBoth, GBoth, if_neg hx]
  · rintro e ⟨⟩; exact hxy.symm
theorem gWithout_ok : GOK gWithout GWithout := by
  refine ⟨fun x hx => ⟨by simp [gWithout, GWithout, nil2], by rintro e ⟨⟩; rfl⟩, fun y hy => ⟨by simp [gWithout, GWithout, if_neg hy], by rintro e ⟨⟩⟩, fun x y hxy hx => ⟨?_, by rintro e ⟨⟩⟩, rfl⟩
  rw [hxy] at hx; simp [gWithout, GWithout, if_neg hx]
theorem stpRaw_g (x y o) : stpRaw x y o = o ++ gRaw x y := by unfold stpRaw gRaw; split; rfl; split; simp; rfl
theorem stpChange_g (x y o) : stpChange x y o = o ++ gChange x y := by unfold stpChange gChange; split; rfl; split; simp; rfl
theorem stpBoth_g (x y o) : stpBoth x y o = o ++ gBoth x y := rfl
theorem stpWithout_g (x y o) : stpWithout x y o = o ++ gWithout x y := by unfold stpWithout gWithout; split; rfl; simp

/-! Lists without an error. -/
theorem srt_of_next {l : List GAttr} (h : ∀ k, k + 1 < l.length → sLt l[k]!.Name l[k + 1]!.Name = true) : Srt l := by
  induction l with
  | nil => exact List.Pairwise.nil
  | cons x l ih =>
    have hl := ih fun k hk => by have := h (k + 1) (by simp; omega); simpa using this
    refine srt_cons.2 ⟨fun e he => ?_, hl⟩
    cases l with
    | nil => cases he
    | cons y l =>
      have h0 : sLt x.Name y.Name = true := by have := h 0 (by simp); simpa using this
      rcases List.mem_cons.1 he with rfl | he
      · exact h0
      · exact sLt_trans h0 ((srt_cons.1 hl).1 e he)
theorem good_of {l : List GAttr} {ch : Bool} (h : attrErr l ch = 0) : Srt l ∧ Nm l ∧ (ch = false → ∀ e ∈ l, e.Value ≠ []) := by
  have hn : ∀ k, k < l.length → errA l ch k = none := by
    intro k hk
    unfold attrErr at h
    cases hf : (List.range l.length).findSome? (errA l ch) with
    | none => exact (findSome_none_iff _ _).1 hf k hk
    | some r =>
      rw [hf] at h
      obtain ⟨j, _, hj⟩ := List.exists_of_findSome?_eq_some hf
      exfalso
      unfold errA at hj
      simp only [Option.getD_some] at h
      subst h
      repeat' split at hj
      all_goals simp at hj
  have hname : ∀ k, k < l.length → nameOK l[k]!.Name = true ∧ ¬ (valOK l[k]!.Value = false ∧ ¬ (ch = true ∧ l[k]!.Value = [])) ∧ ¬ (0 < k ∧ sLt l[k - 1]!.Name l[k]!.Name = false) := by
    intro k hk
    have := hn k hk
    unfold errA at this
    split at this
    · cases this
    · split at this
      · cases this
      · split at this
        · cases this
        · exact ⟨by rcases hx : nameOK l[k]!.Name with _ | _; exact absurd hx (by assumption); rfl, ‹_›, ‹_›⟩
  refine ⟨srt_of_next fun k hk => ?_, fun e he => ?_, fun hc e he => ?_⟩
  · have := (hname (k + 1) hk).2.2
    rw [Nat.add_sub_cancel] at this
    simpa using this
  · obtain ⟨k, hk, rfl⟩ := List.mem_iff_getElem.1 he
    have := (hname k hk).1
    rw [getElem!_pos l k hk] at this
    intro e0
    rw [e0] at this
    simp [nameOK] at this
  · obtain ⟨k, hk, rfl⟩ := List.mem_iff_getElem.1 he
    have := (hname k hk).2.1
    rw [getElem!_pos l k hk, hc] at this
    intro e0
    apply this
    rw [e0]
    exact ⟨rfl, by simp⟩

/-! The reference. -/
theorem fold_put (p : GAttr → Bool) (h : GAttr → GAttr) (hh : ∀ x, (h x).Name = x.Name) : ∀ (l o : List GAttr), Srt l → Srt o →
    Srt (l.foldl (fun o x => if p x then putL o (h x) else o) o) ∧ ∀ n, fnd (l.foldl (fun o x => if p x then putL o (h x) else o) o) n = match fnd l n with | some x => if p x then some (h x) else fnd o n | none => fnd o n
  | [], o, _, ho => ⟨ho, fun n => rfl⟩
  | x :: l, o, hl, ho => by
    have h1 := srt_cons.1 hl
    have ho' : Srt (if p x then putL o (h x) else o) := by split; exact putL_srt _ ho; exact ho
    obtain ⟨i1, i2⟩ := fold_put p h hh l _ h1.2 ho'
    refine ⟨i1, fun n => ?_⟩
    rw [List.foldl_cons, i2 n, fnd]
    by_cases hn : x.Name = n
    · subst hn
      rw [if_pos rfl, fnd_none fun e he => ne_of_sLt (h1.1 e he)]
      cases hp : p x
      · simp [hp]
      · simp [hp, putL_fnd, hh]
    · rw [if_neg hn]
      cases hf : fnd l n with
      | some z => 
        cases hp : p x
        · simp [hp]
        · simp [hp, putL_fnd, hh, hn]
      | none =>
        cases hp : p x
        · simp [hp]
        · simp [hp, putL_fnd, hh, hn]
theorem fold_put_len (p : GAttr → Bool) (h : GAttr → GAttr) (l o : List GAttr) : (l.foldl (fun o x => if p x then putL o (h x) else o) o).length ≤ o.length + l.length := by
  induction l generalizing o with
  | nil => simp
  | cons x l ih =>
    rw [List.foldl_cons]
    have h1 := ih (if p x then putL o (h x) else o)
    have h2 : (if p x then putL o (h x) else o).length ≤ o.length + 1 := by split; exact putL_len _ _; omega
    simp only [List.length_cons]
    omega
def insAll (l o : List GAttr) : List GAttr := l.foldl (fun o x => if (fun _ => true) x then putL o (id x) else o) o
theorem insAll_spec {l o : List GAttr} (hl : Srt l) (ho : Srt o) : Srt (insAll l o) ∧ ∀ n, fnd (insAll l o) n = match fnd l n with | some x => some x | none => fnd o n := by
  obtain ⟨h1, h2⟩ := fold_put (fun _ => true) id (fun _ => rfl) l o hl ho
  refine ⟨h1, fun n => ?_⟩
  unfold insAll
  rw [h2 n]
  cases fnd l n <;> simp
theorem insAll_len (l o : List GAttr) : (insAll l o).length ≤ o.length + l.length := fold_put_len _ _ _ _
theorem iter_ins {f : (List GAttr × Int) → Option ((List GAttr × Int) ⊕ List GAttr)} (l o : List GAttr) (ho : Srt o) (hb : o.length + l.length ≤ 1099511627776)
    (h1 : ∀ b (k : Nat), k < l.length → f (b, (k : Int)) = (bnd1 (ref_put b l[k]!) fun o2 => bnd1 (chk .i64 ((k : Int) + 1)) fun x => some (.inl (o2, x)))) (h2 : ∀ b, f (b, (l.length : Int)) = some (.inr b)) : iter f (o, 0) = some (insAll l o) := by
  unfold insAll
  refine iter_foldA l _ (fun b k => Srt b ∧ b.length ≤ o.length + k) (fun b k hk ⟨i1, i2⟩ => ?_) (fun b k hk ⟨i1, i2⟩ => ?_) h2 o ⟨ho, by omega⟩
  · have := putL_len b l[k]!
    exact ⟨putL_srt _ i1, by show (putL b l[k]!).length ≤ _; omega⟩
  · rw [h1 b k hk, ref_put_eq b _ i1 (by omega), bnd1_some, chk_nat (by omega)]; rfl
def valued (l : List GAttr) : List GAttr := l.filter fun a => !decide (a.Value = [])
theorem valued_spec {l : List GAttr} (h : Srt l) : Srt (valued l) ∧ ∀ n, fnd (valued l) n = (fnd l n).filter fun a => !decide (a.Value = []) := by
  induction l with
  | nil => exact ⟨List.Pairwise.nil, fun n => rfl⟩
  | cons x l ih =>
    have h1 := srt_cons.1 h
    obtain ⟨i1, i2⟩ := ih h1.2
    have hlow : ∀ e ∈ valued l, sLt x.Name e.Name = true := fun e he => h1.1 e (List.mem_filter.1 he).1
    by_cases hv : x.Value = []
    · have : valued (x :: l) = valued l := by simp [valued, hv]
      rw [this]
      refine ⟨i1, fun n => ?_⟩
      rw [fnd]
      split
      · rename_i hn; subst hn
        rw [fnd_none fun e he => ne_of_sLt (hlow e he)]
        simp [Option.filter, hv]
      · exact i2 n
    · have : valued (x :: l) = x :: valued l := by simp [valued, hv]
      rw [this]
      refine ⟨srt_cons.2 ⟨hlow, i1⟩, fun n => ?_⟩
      rw [fnd, fnd]
      split
      · simp [Option.filter, hv]
      · exact i2 n
theorem ref_Changed_eq (l ch : List GAttr) (hl : Srt l) (hc : Srt ch) (h : l.length + ch.length ≤ 1099511627776) : ref_Changed l ch = some (valued (insAll ch (insAll l []))) := by
  unfold ref_Changed
  have s0 : Srt ([] : List GAttr) := List.Pairwise.nil
  have s1 := (insAll_spec hl s0).1
  have l1 := insAll_len l []
  have l2 := insAll_len ch (insAll l [])
  rw [iter_ins l [] s0 (by simp; omega) (fun b k hk => by unfold ref_Changed_L1; rw [if_pos (by simpa using hk), idx_nat hk]; rfl) (fun b => by unfold ref_Changed_L1; rw [if_neg (by simp)]), bnd1_some,
    iter_ins ch _ s1 (by simp at l1; omega) (fun b k hk => by unfold ref_Changed_L2; rw [if_pos (by simpa using hk), idx_nat hk]; rfl) (fun b => by unfold ref_Changed_L2; rw [if_neg (by simp)]), bnd1_some]
  generalize insAll ch (insAll l []) = r at l2
  rw [iter_foldB r (fun o x => if x.Value = [] then o else o ++ [x]) (fun b k => b.length ≤ k) (fun b k hk hb => by split; omega; simp; omega) (fun b k hk hb => by
    unfold ref_Changed_L3
    rw [if_pos (by simpa using hk), idx_nat hk, bnd1_some, chk_nat (by simp at l1; omega)]
    generalize r[k]! = x
    by_cases hv : x.Value = []
    · simp [hv]
    · have := app1 (o := b) (x := x) (by simp at l1; omega)
      simp [hv, this]) (fun b => by unfold ref_Changed_L3; rw [if_neg (by simp)]) [] (by simp), bnd1_some]
  have : ∀ (m o : List GAttr), m.foldl (fun o x => if x.Value = [] then o else o ++ [x]) o = o ++ valued m := by
    intro m
    induction m with
    | nil => intro o; simp [valued]
    | cons x m ih =>
      intro o
      rw [List.foldl_cons, ih]
      by_cases hv : x.Value = []
      · simp [hv, valued]
      · simp [hv, valued]
  rw [this]; rfl
theorem raw_changed {l ch : List GAttr} (h1 : attrErr l false = 0) (h2 : attrErr ch true = 0) : bothL stpRaw l ch [] = valued (insAll ch (insAll l [])) := by
  obtain ⟨s1, n1, v1⟩ := good_of h1
  obtain ⟨s2, n2, _⟩ := good_of h2
  have s0 : Srt ([] : List GAttr) := List.Pairwise.nil
  obtain ⟨i1, i2⟩ := insAll_spec s1 s0
  obtain ⟨j1, j2⟩ := insAll_spec s2 i1
  obtain ⟨k1, k2⟩ := valued_spec j1
  obtain ⟨m1, m2⟩ := spec_of stpRaw_g gRaw_ok s1 s2 n1 n2
  refine srt_ext m1 k1 fun n => ?_
  rw [m2, k2, j2, i2]
  cases hc : fnd ch n with
  | some y =>
    simp only [GRaw, Option.filter]
    by_cases hv : y.Value = [] <;> simp [hv]
  | none =>
    cases hl : fnd l n with
    | some x => simp [GRaw, Option.filter, v1 rfl x (fnd_name hl).2]
    | none => simp [GRaw, fnd, Option.filter]
end Go.Proofs.Ythhodpedkdapcaa.Al
