/-
  Plain laws of lists of attributes: sorted lists as what they hold under each name; the program's merges and the reference's insertions.
-/
import Derived.Test.YthhodpedkdapcaaPL2
namespace Go.Proofs.Ythhodpedkdapcaa.Al

/-! Loops that fold a list. -/
theorem iter_foldA {α β : Type} [Inhabited α] {f : (β × Int) → Option ((β × Int) ⊕ β)} (l : List α) (stp : β → α → β) (I : β → Nat → Prop) (hI : ∀ b k, k < l.length → I b k → I (stp b l[k]!) (k + 1))
    (h1 : ∀ b (k : Nat), k < l.length → I b k → f (b, (k : Int)) = some (.inl (stp b l[k]!, ((k + 1 : Nat) : Int)))) (h2 : ∀ b, f (b, (l.length : Int)) = some (.inr b)) (b0 : β) (h0 : I b0 0) : iter f (b0, 0) = some (l.foldl stp b0) := by
  have key : ∀ (m k : Nat) (b : β), k + m = l.length → I b k → iter f (b, (k : Int)) = some ((l.drop k).foldl stp b) := by
    intro m
    induction m with
    | zero =>
      intro k b hk _
      have : k = l.length := by omega
      subst this
      rw [iter_stop (h2 b)]; simp
    | succ m ih =>
      intro k b hk hb
      have hkl : k < l.length := by omega
      rw [iter_next (h1 b k hkl hb), ih (k + 1) _ (by omega) (hI b k hkl hb), List.drop_eq_getElem_cons hkl, List.foldl_cons, getElem!_pos l k hkl]
  have := key l.length 0 b0 (by omega) h0
  simpa using this
theorem iter_foldB {α β : Type} [Inhabited α] {f : (Int × β) → Option ((Int × β) ⊕ β)} (l : List α) (stp : β → α → β) (I : β → Nat → Prop) (hI : ∀ b k, k < l.length → I b k → I (stp b l[k]!) (k + 1))
    (h1 : ∀ b (k : Nat), k < l.length → I b k → f ((k : Int), b) = some (.inl (((k + 1 : Nat) : Int), stp b l[k]!))) (h2 : ∀ b, f ((l.length : Int), b) = some (.inr b)) (b0 : β) (h0 : I b0 0) : iter f (0, b0) = some (l.foldl stp b0) := by
  have key : ∀ (m k : Nat) (b : β), k + m = l.length → I b k → iter f ((k : Int), b) = some ((l.drop k).foldl stp b) := by
    intro m
    induction m with
    | zero =>
      intro k b hk _
      have : k = l.length := by omega
      subst this
      rw [iter_stop (h2 b)]; simp
    | succ m ih =>
      intro k b hk hb
      have hkl : k < l.length := by omega
      rw [iter_next (h1 b k hkl hb), ih (k + 1) _ (by omega) (hI b k hkl hb), List.drop_eq_getElem_cons hkl, List.foldl_cons, getElem!_pos l k hkl]
  have := key l.length 0 b0 (by omega) h0
  simpa using this
theorem iter_foldC {α γ β : Type} [Inhabited α] {f : (γ × Int × β) → Option ((γ × Int × β) ⊕ (γ × β))} (l : List α) (stp : γ × β → α → γ × β) (I : γ × β → Nat → Prop) (hI : ∀ b k, k < l.length → I b k → I (stp b l[k]!) (k + 1))
    (h1 : ∀ c b (k : Nat), k < l.length → I (c, b) k → f (c, (k : Int), b) = some (.inl ((stp (c, b) l[k]!).1, ((k + 1 : Nat) : Int), (stp (c, b) l[k]!).2))) (h2 : ∀ c b, f (c, (l.length : Int), b) = some (.inr (c, b))) (c0 : γ) (b0 : β) (h0 : I (c0, b0) 0) :
    iter f (c0, 0, b0) = some (l.foldl stp (c0, b0)) := by
  have key : ∀ (m k : Nat) (b : γ × β), k + m = l.length → I b k → iter f (b.1, (k : Int), b.2) = some ((l.drop k).foldl stp b) := by
    intro m
    induction m with
    | zero =>
      intro k b hk _
      have : k = l.length := by omega
      subst this
      rw [iter_stop (h2 _ _)]; simp
    | succ m ih =>
      intro k b hk hb
      have hkl : k < l.length := by omega
      rw [iter_next (h1 b.1 b.2 k hkl hb), ih (k + 1) _ (by omega) (hI b k hkl hb), List.drop_eq_getElem_cons hkl, List.foldl_cons, getElem!_pos l k hkl]
  have := key l.length 0 (c0, b0) (by omega) h0
  simpa using this

/-! Sorted lists. -/
theorem sLt_nil (a : List UInt8) : sLt a [] = false := by cases a <;> rfl
theorem sLt_trans : ∀ {a b c : List UInt8}, sLt a b = true → sLt b c = true → sLt a c = true
  | _, [], _, h, _ => by rw [sLt_nil] at h; cases h
  | _, _ :: _, [], _, h => by cases h
  | [], _ :: _, _ :: _, _, _ => rfl
  | a :: x, b :: y, c :: z, h, k => by
    rw [sLt_cons] at h k ⊢
    simp only [Bool.or_eq_true, decide_eq_true_eq, Bool.and_eq_true, beq_iff_eq, UInt8.lt_iff_toNat_lt] at h k ⊢
    rcases h with h | ⟨rfl, h⟩ <;> rcases k with k | ⟨rfl, k⟩
    · left; omega
    · left; exact h
    · left; exact k
    · right; exact ⟨rfl, sLt_trans h k⟩
def Srt (l : List GAttr) : Prop := l.Pairwise fun x y => sLt x.Name y.Name = true
def fnd : List GAttr → List UInt8 → Option GAttr
  | [], _ => none
  | x :: l, n => if x.Name = n then some x else fnd l n
theorem fnd_none {l : List GAttr} {n : List UInt8} (h : ∀ e ∈ l, e.Name ≠ n) : fnd l n = none := by
  induction l with
  | nil => rfl
  | cons x l ih => rw [fnd, if_neg (h x (List.mem_cons_self ..)), ih fun e he => h e (List.mem_cons_of_mem _ he)]
theorem fnd_name {l : List GAttr} {n : List UInt8} {e : GAttr} (h : fnd l n = some e) : e.Name = n ∧ e ∈ l := by
  induction l with
  | nil => cases h
  | cons x l ih =>
    rw [fnd] at h
    split at h
    · cases h; exact ⟨‹_›, List.mem_cons_self ..⟩
    · exact ⟨(ih h).1, List.mem_cons_of_mem _ (ih h).2⟩
theorem ne_of_sLt {a b : List UInt8} (h : sLt a b = true) : b ≠ a := by rintro rfl; rw [sLt_irrefl] at h; cases h
theorem srt_cons {x : GAttr} {l : List GAttr} : Srt (x :: l) ↔ (∀ e ∈ l, sLt x.Name e.Name = true) ∧ Srt l := List.pairwise_cons
theorem srt_ext : ∀ {l m : List GAttr}, Srt l → Srt m → (∀ n, fnd l n = fnd m n) → l = m
  | [], [], _, _, _ => rfl
  | [], y :: m, _, _, h => by have := h y.Name; simp [fnd] at this
  | x :: l, [], _, _, h => by have := h x.Name; simp [fnd] at this
  | x :: l, y :: m, hl, hm, h => by
    have h1 := srt_cons.1 hl
    have h2 := srt_cons.1 hm
    have hxy : x.Name = y.Name := by
      rcases hlt : sLt x.Name y.Name with _ | _
      · rcases hgt : sLt y.Name x.Name with _ | _
        · have := sLt_tri x.Name y.Name
          rw [hlt, hgt] at this
          simpa using this
        · have := h y.Name
          rw [fnd, if_neg (ne_of_sLt hgt), fnd_none fun e he => ne_of_sLt (sLt_trans hgt (h1.1 e he)), fnd, if_pos rfl] at this
          cases this
      · have := h x.Name
        rw [fnd, if_pos rfl, fnd, if_neg (ne_of_sLt hlt), fnd_none fun e he => ne_of_sLt (sLt_trans hlt (h2.1 e he))] at this
        cases this
    have hx : x = y := by
      have := h x.Name
      rw [fnd, if_pos rfl, fnd, if_pos hxy.symm] at this
      exact Option.some.inj this
    subst hx
    rw [srt_ext h1.2 h2.2 fun n => ?_]
    by_cases hn : x.Name = n
    · subst hn
      rw [fnd_none fun e he => ne_of_sLt (h1.1 e he), fnd_none fun e he => ne_of_sLt (h2.1 e he)]
    · have := h n
      rwa [fnd, if_neg hn, fnd, if_neg hn] at this

/-! The reference's insertion. -/
def putL : List GAttr → GAttr → List GAttr
  | [], a => [a]
  | x :: l, a => if x.Name = a.Name then a :: l else if sLt x.Name a.Name = true then x :: putL l a else a :: x :: l
theorem putL_mem {l : List GAttr} {a e : GAttr} (h : e ∈ putL l a) : e = a ∨ e ∈ l := by
  induction l with
  | nil => simpa [putL] using h
  | cons x l ih =>
    rw [putL] at h
    split at h
    · rcases List.mem_cons.1 h with h | h
      · exact .inl h
      · exact .inr (List.mem_cons_of_mem _ h)
    · split at h
      · rcases List.mem_cons.1 h with h | h
        · exact .inr (h ▸ List.mem_cons_self ..)
        · rcases ih h with h | h
          · exact .inl h
          · exact .inr (List.mem_cons_of_mem _ h)
      · rcases List.mem_cons.1 h with h | h
        · exact .inl h
        · exact .inr h
theorem sLt_of_not {a b : List UInt8} (h1 : a ≠ b) (h2 : ¬ sLt a b = true) : sLt b a = true := by
  have := sLt_tri a b
  rw [Bool.eq_false_iff.2 h2, decide_eq_false h1] at this
  simpa using this
theorem putL_srt {l : List GAttr} (a : GAttr) (h : Srt l) : Srt (putL l a) := by
  induction l with
  | nil => simp [putL, Srt]
  | cons x l ih =>
    have h1 := srt_cons.1 h
    rw [putL]
    split
    · rename_i hn; exact srt_cons.2 ⟨fun e he => by rw [← hn]; exact h1.1 e he, h1.2⟩
    · rename_i hn
      split
      · rename_i hlt
        exact srt_cons.2 ⟨fun e he => by rcases putL_mem he with rfl | he; exact hlt; exact h1.1 e he, ih h1.2⟩
      · rename_i hlt
        have hgt := sLt_of_not hn hlt
        exact srt_cons.2 ⟨fun e he => by rcases List.mem_cons.1 he with rfl | he; exact hgt; exact sLt_trans hgt (h1.1 e he), h⟩
theorem putL_fnd (l : List GAttr) (a : GAttr) (n : List UInt8) : fnd (putL l a) n = if a.Name = n then some a else fnd l n := by
  induction l with
  | nil => simp [putL, fnd]
  | cons x l ih =>
    rw [putL]
    split
    · rename_i hn
      rw [fnd, fnd]
      by_cases h : a.Name = n
      · rw [if_pos h, if_pos h]
      · rw [if_neg h, if_neg h, if_neg (by rw [hn]; exact h)]
    · rename_i hn
      split
      · rw [fnd, fnd, ih]
        by_cases h : a.Name = n
        · rw [if_pos h, if_neg (by rw [← h]; exact hn), if_pos h]
        · rw [if_neg h, if_neg h]
      · rw [fnd]
theorem putL_len (l : List GAttr) (a : GAttr) : (putL l a).length ≤ l.length + 1 := by
  induction l with
  | nil => simp [putL]
  | cons x l ih => rw [putL]; split; simp; split; simp; omega; simp
/-- What the loop does, on sorted lists. -/
def putStp (a : GAttr) (s : Bool × List GAttr) (x : GAttr) : Bool × List GAttr :=
  let s1 := if s.1 = false ∧ sLt x.Name a.Name = false then (true, s.2 ++ [a]) else s
  if x.Name = a.Name then s1 else (s1.1, s1.2 ++ [x])
theorem put_done (a : GAttr) : ∀ (l : List GAttr) (o : List GAttr), (∀ e ∈ l, sLt a.Name e.Name = true) → l.foldl (putStp a) (true, o) = (true, o ++ l)
  | [], o, _ => by simp
  | x :: l, o, h => by
    have hx := h x (List.mem_cons_self ..)
    have : putStp a (true, o) x = (true, o ++ [x]) := by simp [putStp, ne_of_sLt hx]
    rw [List.foldl_cons, this, put_done a l _ fun e he => h e (List.mem_cons_of_mem _ he)]
    simp
theorem put_fold (a : GAttr) : ∀ (l : List GAttr) (o : List GAttr), Srt l → (let s := l.foldl (putStp a) (false, o); if s.1 then s.2 else s.2 ++ [a]) = o ++ putL l a
  | [], o, _ => by simp [putL]
  | x :: l, o, h => by
    have h1 := srt_cons.1 h
    rw [List.foldl_cons, putL]
    by_cases hn : x.Name = a.Name
    · have hs : sLt x.Name a.Name = false := by rw [hn]; exact sLt_irrefl _
      have : putStp a (false, o) x = (true, o ++ [a]) := by simp [putStp, hn, sLt_irrefl]
      rw [this, put_done a l _ fun e he => by rw [← hn]; exact h1.1 e he, if_pos hn]
      simp
    · by_cases hlt : sLt x.Name a.Name = true
      · have : putStp a (false, o) x = (false, o ++ [x]) := by simp [putStp, hn, hlt]
        rw [this, put_fold a l _ h1.2, if_neg hn, if_pos hlt]
        simp
      · have hgt := sLt_of_not hn hlt
        have : putStp a (false, o) x = (true, o ++ [a] ++ [x]) := by simp [putStp, hn, Bool.eq_false_iff.2 hlt]
        rw [this, put_done a l _ fun e he => sLt_trans hgt (h1.1 e he), if_neg hn, if_neg hlt]
        simp
theorem putStp_len (a : GAttr) (s : Bool × List GAttr) (x : GAttr) : (putStp a s x).2.length ≤ s.2.length + 2 := by
  unfold putStp
  have : (if s.1 = false ∧ sLt x.Name a.Name = false then (true, s.2 ++ [a]) else s).2.length ≤ s.2.length + 1 := by split <;> simp
  generalize (if s.1 = false ∧ sLt x.Name a.Name = false then (true, s.2 ++ [a]) else s) = t at this
  by_cases h2 : x.Name = a.Name
  · simp only [h2, if_true]; omega
  · simp only [h2, if_false, List.length_append, List.length_singleton]; omega
theorem ref_put_eq (l : List GAttr) (a : GAttr) (hs : Srt l) (h : l.length ≤ 1099511627776) : ref_put l a = some (putL l a) := by
  unfold ref_put
  rw [iter_foldC l (putStp a) (fun s k => s.2.length ≤ 2 * k) (fun b k _ hb => by have := putStp_len a b l[k]!; show (putStp a b l[k]!).2.length ≤ _; omega) (fun c b k hk hb => by
    have hb' : b.length ≤ 2 * k := hb
    unfold ref_put_L1
    rw [if_pos (by simpa using hk), idx_nat hk, chk_nat (by omega)]
    simp only [bnd1_some]
    generalize l[k]! = x
    have e1 : app 32 b [a] = some (b ++ [a]) := app1 (by omega)
    have e2 : app 32 b [x] = some (b ++ [x]) := app1 (by omega)
    have e3 : app 32 (b ++ [a]) [x] = some (b ++ [a] ++ [x]) := app1 (by simp; omega)
    cases c
    · simp only [Bool.not_false, beq_self_eq_true, gd_true, bnd1_some, Bool.true_and]
      unfold putStp
      cases h1 : sLt x.Name a.Name
      · by_cases h2 : x.Name = a.Name <;> simp [e1, e3, h2]
      · by_cases h2 : x.Name = a.Name <;> simp [e2, h2]
    · have : ((!true) == true) = false := rfl
      rw [this, gd_false]
      simp only [bnd1_some, Bool.not_true, Bool.false_and, Bool.false_eq_true, if_false, bnd2_some]
      unfold putStp
      by_cases h2 : x.Name = a.Name <;> simp [e2, h2]) (fun c b => by unfold ref_put_L1; rw [if_neg (by simp)]) false [] (by simp)]
  have hp := put_fold a l [] hs
  have hlen : (l.foldl (putStp a) (false, ([] : List GAttr))).2.length ≤ 2 * l.length := by
    have : ∀ (m : List GAttr) (s : Bool × List GAttr), (m.foldl (putStp a) s).2.length ≤ s.2.length + 2 * m.length := by
      intro m
      induction m with
      | nil => intro s; simp
      | cons x m ih => intro s; rw [List.foldl_cons]; have := ih (putStp a s x); have := putStp_len a s x; simp only [List.length_cons]; omega
    have := this l (false, [])
    simpa using this
  generalize l.foldl (putStp a) (false, ([] : List GAttr)) = s at hp hlen
  obtain ⟨c, o⟩ := s
  simp only [bnd2_some]
  cases c
  · simp only [Bool.not_false, if_true]
    rw [app1 (by simp at hlen; omega)]
    simpa using hp
  · simpa using hp
end Go.Proofs.Ythhodpedkdapcaa.Al
