/-
  Plain laws of axes: gaps and what is left of ranges.
-/
import Derived.Test.YthhodpedkdapcaaPL8
namespace Go.Proofs.Ythhodpedkdapcaa.Al
/-! Gaps. -/
def gpA (at1 : Int) (rt : Bool) : List GAxisStep → Int × Int → Int
  | [], c => c.2
  | s :: l, c => gpA at1 rt l (if s.Kind = 1 then c.1 else c.1 + s.N, if s.Kind = 1 ∧ (c.1 < at1 ∨ (c.1 = at1 ∧ rt = true)) then c.2 + s.N else if s.Kind = 0 then c.2 + min s.N (max 0 (at1 - c.1)) else c.2)
theorem gpA_cons (at1 : Int) (rt : Bool) (s : GAxisStep) (l : List GAxisStep) (c : Int × Int) : gpA at1 rt (s :: l) c =
    gpA at1 rt l (if s.Kind = 1 then c.1 else c.1 + s.N, if s.Kind = 1 ∧ (c.1 < at1 ∨ (c.1 = at1 ∧ rt = true)) then c.2 + s.N else if s.Kind = 0 then c.2 + min s.N (max 0 (at1 - c.1)) else c.2) := rfl
theorem axis_Gap_loop (a : List GAxisStep) (at1 : Int) (rt : Bool) (hg : GoodA a) (h0 : 0 ≤ at1) (hp : at1 ≤ 2147483647) :
    iter (fun (x : Int × Int × Int) => axis_Gap_L1 a at1 rt x.1 x.2.1 x.2.2) (0, 0, 0) = some (gpA at1 rt a (0, 0)) := by
  rw [iter_walk (f := fun (x : Int × Int × Int) => axis_Gap_L1 a at1 rt x.1 x.2.1 x.2.2) a (fun (c : Int × Int) k => (c.1, c.2, (k : Int))) (gpA at1 rt) (fun k c => Run a k c.1 c.2)
    (fun k c hk hI => by
      left
      have hs := stp_at hg.stp hk
      have hnx := hI.nx hg hk
      have hgl := hg.len
      unfold axis_Gap_L1
      rw [gpA_cons]
      simp only
      rw [if_pos (by simpa using hk), idx_nat hk, bnd1_some, chk_nat (by omega)]
      obtain ⟨f, t⟩ := c
      simp only at hnx ⊢
      generalize a[k]! = x at hs hnx ⊢
      obtain ⟨q1, q2, q3, q4, q5, q6, q7⟩ := hnx
      unfold Stp at hs
      simp only [oldN, nowN] at q7
      rw [chk_ok (x := t + x.N) (by omega) (by omega), chk_ok (x := f + x.N) (by omega) (by omega), chk_ok (x := at1 - f) (by omega) (by omega)]
      simp only [bnd1_some]
      rw [chk_ok (by omega) (by omega)]
      refine ⟨_, ?_, ?_, rfl⟩
      · by_cases d1 : x.Kind = 1
        · rcases Int.lt_trichotomy f at1 with d2 | d2 | d2
          · simp [d1, d2]
          · subst d2; cases rt <;> simp [d1]
          · have e1 : ¬ f < at1 := by omega
            have e2 : ¬ f = at1 := by omega
            simp [d1, e1, e2]
        · by_cases d0 : x.Kind = 0 <;> simp [d0, d1]
      · refine q7 _ _ ?_ ?_ ?_ ?_ <;> simp only <;> split <;> (try split) <;> (try split) <;> (try split) <;> omega)
    (fun c hI => by unfold axis_Gap_L1; rw [if_neg (by simp)]; rfl) (0, 0) hg.run (0, 0, 0) rfl]
def gpU (at1 : Int) (rt : Bool) : List Int → Int → Int
  | [], _ => 0
  | u :: us, o => if u = 0 then (if o < at1 then 1 else 0) + gpU at1 rt us (o + 1) else if u = 1 then (if o < at1 ∨ (o = at1 ∧ rt = true) then 1 else 0) + gpU at1 rt us o else gpU at1 rt us (o + 1)
theorem gpU_rep0 (at1 : Int) (rt : Bool) (n : Nat) (us : List Int) (o : Int) : gpU at1 rt (List.replicate n 0 ++ us) o = min (n : Int) (max 0 (at1 - o)) + gpU at1 rt us (o + n) := by
  induction n generalizing o with
  | zero => simp; omega
  | succ n ih =>
    rw [List.replicate_succ, List.cons_append, gpU, if_pos rfl, ih, show o + 1 + (n : Int) = o + ((n + 1 : Nat) : Int) by omega]
    split <;> omega
theorem gpU_rep1 (at1 : Int) (rt : Bool) (n : Nat) (us : List Int) (o : Int) : gpU at1 rt (List.replicate n 1 ++ us) o = (if o < at1 ∨ (o = at1 ∧ rt = true) then (n : Int) else 0) + gpU at1 rt us o := by
  induction n with
  | zero => simp
  | succ n ih =>
    rw [List.replicate_succ, List.cons_append, gpU, if_neg (by decide), if_pos rfl, ih]
    split <;> omega
theorem gpU_rep2 (at1 : Int) (rt : Bool) (n : Nat) (us : List Int) (o : Int) : gpU at1 rt (List.replicate n 2 ++ us) o = gpU at1 rt us (o + n) := by
  induction n generalizing o with
  | zero => simp
  | succ n ih =>
    rw [List.replicate_succ, List.cons_append, gpU, if_neg (by decide), if_neg (by decide), ih, show o + 1 + (n : Int) = o + ((n + 1 : Nat) : Int) by omega]
theorem gpA_units (at1 : Int) (rt : Bool) (a : List GAxisStep) (h : ∀ s ∈ a, Stp s) (f t : Int) : gpA at1 rt a (f, t) = t + gpU at1 rt (units a) f := by
  induction a generalizing f t with
  | nil => simp [gpA, gpU, units]
  | cons s a ih =>
    have hs := h s (List.mem_cons_self ..)
    unfold Stp at hs
    have hn : ((s.N.toNat : Nat) : Int) = s.N := by omega
    rw [units_cons, gpA_cons, ih fun x hx => h x (List.mem_cons_of_mem _ hx)]
    by_cases d1 : s.Kind = 1
    · rw [d1, gpU_rep1, hn]
      simp only [if_true, true_and]
      split <;> omega
    · by_cases d0 : s.Kind = 0
      · rw [d0, gpU_rep0, hn]; simp; omega
      · have d2 : s.Kind = 2 := by omega
        rw [d2, gpU_rep2, hn]; simp
theorem ref_GapAt_loop (at1 : Int) (rt : Bool) (r1 r2 : List Int) (us : List Int) (h1 : r1 = rowsL us 0) (h2 : r2 = aheadL us 0) (hm : us.length ≤ 1048576) :
    iter (fun (a : Int × Int) => ref_GapAt_L1 at1 rt r1 r2 a.1 a.2) (0, 0) = some (gpU at1 rt us 0) := by
  have key : ∀ (us : List Int) (o n : Int) (p q : List Int), 0 ≤ o → p.length = q.length → 0 ≤ n → n ≤ p.length → p.length + us.length ≤ 1048576 → r1 = p ++ rowsL us o → r2 = q ++ aheadL us o →
      iter (fun (a : Int × Int) => ref_GapAt_L1 at1 rt r1 r2 a.1 a.2) (n, (p.length : Int)) = some (n + gpU at1 rt us o) := by
    intro us
    induction us with
    | nil =>
      intro o n p q ho hpq hn hn2 hl e1 e2
      refine iter_stop ?_
      simp only [rowsL, List.append_nil] at e1
      subst e1
      unfold ref_GapAt_L1
      rw [if_neg (by simp)]
      simp [gpU]
    | cons u us ih =>
      intro o n p q ho hpq hn hn2 hl e1 e2
      rw [rowsL] at e1
      rw [aheadL] at e2
      rw [gpU]
      simp only [List.length_cons] at hl
      have step : ∀ (x y : Int), (x = o ∨ x = -1) → y = o → r1 = p ++ x :: (rowsL us (if x = o then o + 1 else o)) → r2 = q ++ y :: (aheadL us (if x = o then o + 1 else o)) →
          iter (fun (a : Int × Int) => ref_GapAt_L1 at1 rt r1 r2 a.1 a.2) (n, (p.length : Int)) = some (n + ((if x = o then (if o < at1 then 1 else 0) else (if o < at1 ∨ (o = at1 ∧ rt = true) then 1 else 0)) + gpU at1 rt us (if x = o then o + 1 else o))) := by
        intro x y hx hy f1 f2
        have hk : p.length < r1.length := by rw [f1]; simp
        have hk2 : p.length < r2.length := by rw [f2]; simp; omega
        have g1 : r1[p.length]! = x := by rw [getElem!_pos r1 _ hk]; simp [f1]
        have g2 : r2[p.length]! = y := by rw [getElem!_pos r2 _ hk2]; simp [f2, hpq]
        have hst : (fun (a : Int × Int) => ref_GapAt_L1 at1 rt r1 r2 a.1 a.2) (n, (p.length : Int)) = some (.inl (n + (if x = o then (if o < at1 then 1 else 0) else (if o < at1 ∨ (o = at1 ∧ rt = true) then 1 else 0)), ((p.length + 1 : Nat) : Int))) := by
          show ref_GapAt_L1 at1 rt r1 r2 n (p.length : Int) = _
          unfold ref_GapAt_L1
          rw [if_pos (by simpa using hk), idx_nat hk, bnd1_some, chk_nat (by omega), g1, chk_ok (x := n + 1) (by omega) (by omega), idx_nat hk2, g2]
          subst hy
          rcases hx with rfl | rfl
          · have e0 : ¬ x < 0 := by omega
            simp [ho, e0]
            split <;> simp
          · have e1 : ¬ (-1 : Int) = y := by omega
            simp [e1]
            split <;> simp
        rw [iter_next hst]
        have := ih (if x = o then o + 1 else o) (n + (if x = o then (if o < at1 then 1 else 0) else (if o < at1 ∨ (o = at1 ∧ rt = true) then 1 else 0))) (p ++ [x]) (q ++ [y]) (by split <;> omega) (by simp [hpq]) (by split <;> split <;> omega) (by simp; split <;> split <;> omega) (by simp; omega)
          (by rw [f1]; simp) (by rw [f2]; simp)
        rw [List.length_append] at this
        refine this.trans ?_
        rw [Int.add_assoc]
      by_cases d0 : u = 0
      · rw [if_pos d0] at e1 e2 ⊢
        have := step o o (.inl rfl) rfl (by simpa using e1) (by simpa using e2)
        simpa using this
      · rw [if_neg d0] at e1 e2 ⊢
        by_cases d1 : u = 1
        · rw [if_pos d1] at e1 e2 ⊢
          have hno : ¬ (-1 : Int) = o := by omega
          have := step (-1) o (.inr rfl) rfl (by simpa [hno] using e1) (by simpa [hno] using e2)
          simpa [hno] using this
        · rw [if_neg d1] at e1 e2 ⊢
          exact ih (o + 1) n p q (by omega) hpq hn hn2 (by omega) e1 e2
  have := key us 0 0 [] [] (by omega) rfl (by omega) (by simp) (by simpa using hm) (by simpa using h1) (by simpa using h2)
  simpa using this
theorem ref_GapAt_eq (us : List Int) (at1 : Int) (rt : Bool) (hm : us.length ≤ 1048576) : ref_GapAt us at1 rt = some (gpU at1 rt us 0) := by
  unfold ref_GapAt
  rw [ref_Olds_eq us (by omega), bnd2_some, ref_GapAt_loop at1 rt _ _ us rfl rfl hm, bnd1_some]
theorem axis_Gap_eq (a : List GAxisStep) (at1 : Int) (rt : Bool) (hm : a.length ≤ 9223372036854775807) : axis_Gap a at1 rt = some (if axErr a ≠ 0 then (0, axErr a) else if at1 < 0 ∨ oldLen a < at1 then (0, 2) else (gpU at1 rt (units a) 0, 0)) := by
  unfold axis_Gap
  rw [axis_Check_eq a (by omega), bnd1_some]
  by_cases he : axErr a = 0
  · have hg := goodA_of he
    have hol := hg.olds
    rw [he, if_neg (by decide), if_neg (by simp), axis_lengths_eq a hg, bnd2_some]
    by_cases d : at1 < 0 ∨ oldLen a < at1
    · rw [if_pos (by simpa using d), if_pos d]
    · rw [if_neg (by simpa using d), if_neg d, axis_Gap_loop a at1 rt hg (by omega) (by omega), bnd1_some, gpA_units at1 rt a hg.stp]; simp
  · rw [if_pos (by simpa using he), if_pos he]

/-! What is left of a range. -/
def PR (W : Int → Int) (lo hi : Int) (c : Int × Int) : Prop :=
  (c = (0, 0) ∧ ∀ r, lo ≤ r → r < hi → W r < 0) ∨ ∃ r0 r1, lo ≤ r0 ∧ r0 ≤ r1 ∧ r1 < hi ∧ 0 ≤ W r0 ∧ 0 ≤ W r1 ∧ (∀ r, lo ≤ r → r < hi → 0 ≤ W r → r0 ≤ r ∧ r ≤ r1) ∧ c = (W r0, W r1 + 1)
theorem PR.uniq {W : Int → Int} {lo hi : Int} {c d : Int × Int} (h1 : PR W lo hi c) (h2 : PR W lo hi d) : c = d := by
  rcases h1 with ⟨rfl, a⟩ | ⟨r0, r1, a1, a2, a3, a4, a5, a6, rfl⟩
  · rcases h2 with ⟨rfl, _⟩ | ⟨s0, s1, b1, b2, b3, b4, _⟩
    · rfl
    · have := a s0 b1 (by omega); omega
  · rcases h2 with ⟨rfl, b⟩ | ⟨s0, s1, b1, b2, b3, b4, b5, b6, rfl⟩
    · have := b r0 a1 (by omega); omega
    · have c1 := a6 s0 b1 (by omega) b4
      have c2 := a6 s1 (by omega) (by omega) b5
      have c3 := b6 r0 a1 (by omega) a4
      have c4 := b6 r1 (by omega) (by omega) a5
      obtain rfl : r0 = s0 := by omega
      obtain rfl : r1 = s1 := by omega
      rfl
theorem PR.congr {W V : Int → Int} {lo hi : Int} {c : Int × Int} (h : PR W lo hi c) (e : ∀ r, lo ≤ r → W r = V r) : PR V lo hi c := by
  rcases h with ⟨rfl, a⟩ | ⟨r0, r1, a1, a2, a3, a4, a5, a6, rfl⟩
  · exact .inl ⟨rfl, fun r h1 h2 => by rw [← e r h1]; exact a r h1 h2⟩
  · rw [e r0 a1, e r1 (by omega)]
    exact .inr ⟨r0, r1, a1, a2, a3, by rw [← e r0 a1]; exact a4, by rw [← e r1 (by omega)]; exact a5, fun r h1 h2 h3 => a6 r h1 h2 (by rw [e r h1]; exact h3), rfl⟩
theorem PR.wide {W : Int → Int} {lo h1 h2 : Int} {c : Int × Int} (h : PR W lo h1 c) (e : ∀ r, lo ≤ r → h1 ≤ r → r < h2 → W r < 0) (hl : h1 ≤ h2) : PR W lo h2 c := by
  rcases h with ⟨rfl, a⟩ | ⟨r0, r1, a1, a2, a3, a4, a5, a6, rfl⟩
  · refine .inl ⟨rfl, fun r b1 b2 => ?_⟩
    rcases Int.lt_or_le r h1 with b | b
    · exact a r b1 b
    · exact e r b1 b b2
  · refine .inr ⟨r0, r1, a1, a2, by omega, a4, a5, fun r b1 b2 b3 => ?_, rfl⟩
    rcases Int.lt_or_le r h1 with b | b
    · exact a6 r b1 b b3
    · have := e r b1 b b2; omega
theorem PR.more {W : Int → Int} {lo h1 h2 m : Int} {c : Int × Int} (h : PR W lo h1 c) (hm : m = max lo h1) (hl : m < h2) (e : ∀ r, m ≤ r → r < h2 → 0 ≤ W r) : PR W lo h2 (if c.2 = 0 then W m else c.1, W (h2 - 1) + 1) := by
  have e1 := e m (by omega) hl
  have e2 := e (h2 - 1) (by omega) (by omega)
  rcases h with ⟨rfl, a⟩ | ⟨r0, r1, a1, a2, a3, a4, a5, a6, rfl⟩
  · refine .inr ⟨m, h2 - 1, by omega, by omega, by omega, e1, e2, fun r b1 b2 b3 => ?_, by simp⟩
    rcases Int.lt_or_le r h1 with b | b
    · have := a r b1 b; omega
    · omega
  · refine .inr ⟨r0, h2 - 1, a1, by omega, by omega, a4, e2, fun r b1 b2 b3 => ?_, ?_⟩
    · rcases Int.lt_or_le r h1 with b | b
      · have := a6 r b1 b b3; omega
      · omega
    · have : ¬ (W r1 + 1 = 0) := by omega
      simp [this]
theorem PR.less {W : Int → Int} {lo hi : Int} {c : Int × Int} (h : PR W lo hi c) : PR W (lo - 1) hi (if 0 ≤ W (lo - 1) ∧ lo ≤ hi then (W (lo - 1), if c.2 = 0 then W (lo - 1) + 1 else c.2) else c) := by
  by_cases hw : 0 ≤ W (lo - 1) ∧ lo ≤ hi
  · rw [if_pos hw]
    rcases h with ⟨rfl, a⟩ | ⟨r0, r1, a1, a2, a3, a4, a5, a6, rfl⟩
    · refine .inr ⟨lo - 1, lo - 1, by omega, by omega, by omega, hw.1, hw.1, fun r b1 b2 b3 => ?_, by simp⟩
      rcases Int.lt_or_le r lo with b | b
      · omega
      · have := a r b b2; omega
    · refine .inr ⟨lo - 1, r1, by omega, by omega, by omega, hw.1, a5, fun r b1 b2 b3 => ?_, ?_⟩
      · rcases Int.lt_or_le r lo with b | b
        · omega
        · have := a6 r b b2 b3; omega
      · have : ¬ (W r1 + 1 = 0) := by omega
        simp [this]
  · rw [if_neg hw]
    rcases h with ⟨rfl, a⟩ | ⟨r0, r1, a1, a2, a3, a4, a5, a6, rfl⟩
    · refine .inl ⟨rfl, fun r b1 b2 => ?_⟩
      rcases Int.lt_or_le r lo with b | b
      · obtain rfl : r = lo - 1 := by omega
        omega
      · exact a r b b2
    · refine .inr ⟨r0, r1, by omega, a2, a3, a4, a5, fun r b1 b2 b3 => ?_, rfl⟩
      rcases Int.lt_or_le r lo with b | b
      · obtain rfl : r = lo - 1 := by omega
        omega
      · exact a6 r b b2 b3
def hullL (fr to : Int) : List GAxisStep → Int × Int × Int × Int → Int × Int
  | [], c => (c.1, c.2.1)
  | s :: l, c => hullL fr to l (if s.Kind = 0 ∧ max fr c.2.2.1 < min to (c.2.2.1 + s.N) then (if c.2.1 = 0 then c.2.2.2 + max fr c.2.2.1 - c.2.2.1 else c.1) else c.1,
      if s.Kind = 0 ∧ max fr c.2.2.1 < min to (c.2.2.1 + s.N) then c.2.2.2 + min to (c.2.2.1 + s.N) - c.2.2.1 else c.2.1,
      if s.Kind = 1 then c.2.2.1 else c.2.2.1 + s.N, if s.Kind = 2 then c.2.2.2 else c.2.2.2 + s.N)
theorem hullL_cons (fr to : Int) (s : GAxisStep) (l : List GAxisStep) (c : Int × Int × Int × Int) : hullL fr to (s :: l) c = hullL fr to l (if s.Kind = 0 ∧ max fr c.2.2.1 < min to (c.2.2.1 + s.N) then (if c.2.1 = 0 then c.2.2.2 + max fr c.2.2.1 - c.2.2.1 else c.1) else c.1,
      if s.Kind = 0 ∧ max fr c.2.2.1 < min to (c.2.2.1 + s.N) then c.2.2.2 + min to (c.2.2.1 + s.N) - c.2.2.1 else c.2.1,
      if s.Kind = 1 then c.2.2.1 else c.2.2.1 + s.N, if s.Kind = 2 then c.2.2.2 else c.2.2.2 + s.N) := rfl
theorem axis_Hull_eq (a : List GAxisStep) (fr to : Int) (hg : GoodA a) (h0 : 0 ≤ fr ∧ fr ≤ 2147483647) (h1 : 0 ≤ to ∧ to ≤ 2147483647) : axis_Hull a fr to = some (hullL fr to a (0, 0, 0, 0)) := by
  unfold axis_Hull
  rw [iter_walk (f := fun (a_1 : Int × Int × Int × Int × Int) => axis_Hull_L1 a fr to a_1.1 a_1.2.1 a_1.2.2.1 a_1.2.2.2.1 a_1.2.2.2.2) a (fun (c : Int × Int × Int × Int) k => (c.1, c.2.1, c.2.2.1, c.2.2.2, (k : Int))) (hullL fr to)
    (fun k c => Run a k c.2.2.1 c.2.2.2)
    (fun k c hk hI => by
      left
      have hs := stp_at hg.stp hk
      have hnx := hI.nx hg hk
      have hgl := hg.len
      unfold axis_Hull_L1
      rw [hullL_cons]
      simp only
      rw [if_pos (by simpa using hk), idx_nat hk, bnd1_some, chk_nat (by omega)]
      obtain ⟨fi, la, f, t⟩ := c
      simp only at hnx ⊢
      generalize a[k]! = x at hs hnx ⊢
      obtain ⟨q1, q2, q3, q4, q5, q6, q7⟩ := hnx
      unfold Stp at hs
      simp only [oldN, nowN] at q7
      rw [chk_ok (x := t + x.N) (by omega) (by omega), chk_ok (x := f + x.N) (by omega) (by omega)]
      simp only [bnd1_some]
      rw [chk_ok (x := t + max fr f) (by omega) (by omega), chk_ok (x := t + min to (f + x.N)) (by omega) (by omega)]
      simp only [bnd1_some]
      rw [chk_ok (by omega) (by omega), chk_ok (by omega) (by omega)]
      refine ⟨_, ?_, ?_, rfl⟩
      · simp only [bnd1_some]
        have d01 : x.Kind = 0 ∨ x.Kind = 1 ∨ x.Kind = 2 := by omega
        generalize max fr f = mx
        generalize min to (f + x.N) = mn
        rcases d01 with d | d | d
        · by_cases e : mx < mn
          · by_cases e2 : la = 0 <;> simp [d, e, e2]
          · simp [d, e]
        · simp [d]
        · simp [d]
      · refine q7 _ _ ?_ ?_ ?_ ?_ <;> simp only <;> split <;> omega)
    (fun c hI => by unfold axis_Hull_L1; rw [if_neg (by simp)]; rfl) (0, 0, 0, 0) hg.run (0, 0, 0, 0, 0) rfl]
  rfl
theorem hull_PR (W : Int → Int) (fr to : Int) (l : List GAxisStep) (h : ∀ s ∈ l, Stp s) (fi la f t : Int) (ht : 0 ≤ t) (hW : ∀ r, f ≤ r → W r = ctlV (plo r l (f, t))) (hP : PR W fr (min to f) (fi, la)) (hto : to ≤ f + oldLen l) :
    PR W fr to (hullL fr to l (fi, la, f, t)) := by
  induction l generalizing fi la f t with
  | nil =>
    have : min to f = to := by simp [oldLen] at hto; omega
    rw [this] at hP
    exact hP
  | cons s l ih =>
    have hs := h s (List.mem_cons_self ..)
    unfold Stp at hs
    rw [oldLen_cons] at hto
    unfold oldN at hto
    rw [hullL_cons]
    have d01 : s.Kind = 0 ∨ s.Kind = 1 ∨ s.Kind = 2 := by omega
    rcases d01 with d | d | d
    · have n1 : ¬ s.Kind = 1 := by omega
      have n2 : ¬ s.Kind = 2 := by omega
      simp only [d, true_and, show ¬ ((0 : Int) = 1) by decide, show ¬ ((0 : Int) = 2) by decide, if_false]
      rw [if_neg n1] at hto
      refine ih (fun x hx => h x (List.mem_cons_of_mem _ hx)) _ _ _ _ (by omega) (fun r hr => ?_) ?_ (by omega)
      · rw [hW r (by omega), plo_cons, if_neg n1, if_neg (by omega), if_pos d]
      · have hv : ∀ r, f ≤ r → r < f + s.N → W r = t + r - f := fun r b1 b2 => by rw [hW r b1, plo_cons, if_neg n1, if_pos b2, if_pos d]; rfl
        by_cases e : max fr f < min to (f + s.N)
        · rw [if_pos e, if_pos e]
          have := hP.more (h2 := min to (f + s.N)) (m := max fr f) (by omega) e (fun r b1 b2 => by rw [hv r (by omega) (by omega)]; omega)
          rw [hv _ (by omega) (by omega), hv _ (by omega) (by omega)] at this
          rwa [show t + (min to (f + s.N) - 1) - f + 1 = t + min to (f + s.N) - f by omega] at this
        · rw [if_neg e, if_neg e]
          exact hP.wide (fun r b1 b2 b3 => by omega) (by omega)
    · simp only [d, show ¬ ((1 : Int) = 0) by decide, show ¬ ((1 : Int) = 2) by decide, false_and, if_true, if_false]
      rw [if_pos d] at hto
      refine ih (fun x hx => h x (List.mem_cons_of_mem _ hx)) _ _ _ _ (by omega) (fun r hr => ?_) hP (by omega)
      rw [hW r hr, plo_cons, if_pos d]
    · have n1 : ¬ s.Kind = 1 := by omega
      simp only [d, show ¬ ((2 : Int) = 0) by decide, show ¬ ((2 : Int) = 1) by decide, false_and, if_true, if_false]
      rw [if_neg n1] at hto
      have n0 : ¬ s.Kind = 0 := by omega
      refine ih (fun x hx => h x (List.mem_cons_of_mem _ hx)) _ _ _ _ (by omega) (fun r hr => ?_) ?_ (by omega)
      · rw [hW r (by omega), plo_cons, if_neg n1, if_neg (by omega), if_neg n0]
      · exact hP.wide (fun r b1 b2 b3 => by rw [hW r (by omega), plo_cons, if_neg n1, if_pos (by omega), if_neg n0]; decide) (by omega)
theorem who_bnd (r : Int) (xs : List Int) (i : Int) (hi : 0 ≤ i) : -1 ≤ ctlV (who r xs i) ∧ ctlV (who r xs i) ≤ i + xs.length := by
  induction xs generalizing i with
  | nil => simp [who, ctlV]; omega
  | cons x xs ih =>
    rw [who]
    split
    · simp [ctlV]; omega
    · have := ih (i + 1) (by omega); rw [List.length_cons]; omega
theorem ref_RestOf_PR (us : List Int) (fr to : Int) (hm : us.length ≤ 1048576) (h0 : 0 ≤ fr) (h1 : fr ≤ to) (h2 : to ≤ 2147483647) : ∃ c : Int × Int, ref_RestOf us fr to = some c ∧ PR (fun r => ctlV (who r (rowsL us 0) 0)) fr to c := by
  obtain ⟨b, hb, hq⟩ := iter_hoare (f := fun (a : Int × Int × Int) => ref_RestOf_L1 us fr a.1 a.2.1 a.2.2) (to - fr).toNat
    (fun k s => s.2.2 = to - 1 - k ∧ PR (fun r => ctlV (who r (rowsL us 0) 0)) (to - k) to (s.1, s.2.1)) (fun b => PR (fun r => ctlV (who r (rowsL us 0) 0)) fr to b)
    (fun k s hk hR => by
      left
      obtain ⟨lo, hi, row⟩ := s
      obtain ⟨rfl, hR⟩ := hR
      simp only at hR ⊢
      have hle := hR.less
      unfold ref_RestOf_L1
      rw [if_pos (by simp; omega), ref_Where_eq us _ (by omega), bnd1_some, chk_ok (x := to - 1 - (k : Int) - 1) (by omega) (by omega)]
      rw [show to - (k : Int) - 1 = to - 1 - (k : Int) by omega] at hle
      have hbd := who_bnd (to - 1 - (k : Int)) (rowsL us 0) 0 (by omega)
      have hrl := rows_len us 0
      generalize hw : ctlV (who (to - 1 - (k : Int)) (rowsL us 0) 0) = w at hbd hle ⊢
      rw [chk_ok (x := w + 1) (by omega) (by omega)]
      by_cases e : 0 ≤ w
      · rw [if_pos ⟨e, by omega⟩] at hle
        by_cases e2 : hi = 0
        · refine ⟨(w, w + 1, to - 1 - (k : Int) - 1), by simp [e, e2], by simp; omega, ?_⟩
          simp only [e2, if_true] at hle
          rw [show to - ((k + 1 : Nat) : Int) = to - 1 - (k : Int) by omega]; exact hle
        · refine ⟨(w, hi, to - 1 - (k : Int) - 1), by simp [e, e2], by simp; omega, ?_⟩
          simp only [e2, if_false] at hle
          rw [show to - ((k + 1 : Nat) : Int) = to - 1 - (k : Int) by omega]; exact hle
      · rw [if_neg (fun x => e x.1)] at hle
        refine ⟨(lo, hi, to - 1 - (k : Int) - 1), by simp [e], by simp; omega, ?_⟩
        rw [show to - ((k + 1 : Nat) : Int) = to - 1 - (k : Int) by omega]; exact hle)
    (fun s hR => by
      obtain ⟨lo, hi, row⟩ := s
      obtain ⟨rfl, hR⟩ := hR
      simp only at hR ⊢
      unfold ref_RestOf_L1
      refine ⟨(lo, hi), by rw [if_neg (by simp; omega)], ?_⟩
      rwa [show to - (((to - fr).toNat : Nat) : Int) = fr by omega] at hR)
    (s := (0, 0, to - 1)) ⟨by simp, .inl ⟨rfl, fun r h1 h2 => by simp at h1; omega⟩⟩
  unfold ref_RestOf
  rw [chk_ok (by omega) (by omega), bnd1_some, hb]
  exact ⟨b, rfl, hq⟩
theorem law_AxisGap_true (a : List GAxisStep) (fr to : Int) (rt : Bool) (hm : a.length ≤ 9223372036854775807) : law_AxisGapMatches a fr to rt = some true := by
  unfold law_AxisGapMatches axis_Rest
  rw [law_axes_eq, bnd1_some, if_neg (by decide), axis_Gap_eq a fr rt hm, axis_Check_eq a (by omega), ref_AxisError_eq a (by omega)]
  simp only [bnd1_some]
  by_cases he : axErr a = 0
  · have hg := goodA_of he
    have hol := hg.olds
    have hl := lens_pos hg.stp
    have hsz := size_pos hg.stp
    rw [he, if_neg (show ¬ ((0 : Int) ≠ 0) by decide), if_neg (show ¬ ((!decide ((0 : Int) = 0)) = true) by decide), axis_lengths_eq a hg, bnd2_some]
    have few := law_few_eq a hg
    by_cases c1 : fr < 0 ∨ oldLen a < fr
    · rw [if_pos c1, bnd2_some, if_pos (by simp; omega), bnd3_some, if_neg (by decide), few, bnd1_some]
      by_cases hf : sizeLen a ≤ 300
      · rw [decide_eq_true hf, if_neg (by decide), ref_Units_eq a hg.stp (by omega), bnd1_some, cnt_iter (units a) (by omega) (fun o k hk => by
          unfold law_AxisGapMatches_L1
          rw [if_pos (by simpa using hk), idx_nat hk, bnd1_some]) (fun o => by unfold law_AxisGapMatches_L1; rw [if_neg (by simp)]), bnd1_some, cntOld_units a hg.stp, ref_In_eq, bnd1_some, if_pos (by simp; omega)]
        rfl
      · rw [decide_eq_false hf]; rfl
    · rw [if_neg c1, bnd2_some]
      by_cases c2 : to < fr ∨ oldLen a < to
      · rw [if_pos (by simp; omega), bnd3_some, if_neg (by decide), few, bnd1_some]
        by_cases hf : sizeLen a ≤ 300
        · rw [decide_eq_true hf, if_neg (by decide), ref_Units_eq a hg.stp (by omega), bnd1_some, cnt_iter (units a) (by omega) (fun o k hk => by
            unfold law_AxisGapMatches_L1
            rw [if_pos (by simpa using hk), idx_nat hk, bnd1_some]) (fun o => by unfold law_AxisGapMatches_L1; rw [if_neg (by simp)]), bnd1_some, cntOld_units a hg.stp, ref_In_eq, bnd1_some, if_neg (by simp; omega),
            show ((!decide ((0 : Int) = 0)) == false) = true by decide, gd_true, ref_GapAt_eq _ _ _ (by omega), bnd1_some, if_neg (by simp), ref_In_eq, bnd1_some, if_pos (by simp; omega)]
          rfl
        · rw [decide_eq_false hf]; rfl
      · rw [if_neg (by simp; omega), axis_Hull_eq a fr to hg (by omega) (by omega), bnd2_some, bnd3_some, if_neg (by decide), few, bnd1_some]
        by_cases hf : sizeLen a ≤ 300
        · rw [decide_eq_true hf, if_neg (by decide), ref_Units_eq a hg.stp (by omega), bnd1_some, cnt_iter (units a) (by omega) (fun o k hk => by
            unfold law_AxisGapMatches_L1
            rw [if_pos (by simpa using hk), idx_nat hk, bnd1_some]) (fun o => by unfold law_AxisGapMatches_L1; rw [if_neg (by simp)]), bnd1_some, cntOld_units a hg.stp, ref_In_eq, bnd1_some, if_neg (by simp; omega),
            show ((!decide ((0 : Int) = 0)) == false) = true by decide, gd_true, ref_GapAt_eq _ _ _ (by omega), bnd1_some, if_neg (by simp), ref_In_eq, bnd1_some, if_neg (by simp; omega)]
          obtain ⟨c, hc, hP⟩ := ref_RestOf_PR (units a) fr to (by omega) (by omega) (by omega) (by omega)
          have hH := hull_PR (fun r => ctlV (plo r a (0, 0))) fr to a hg.stp 0 0 0 0 (by omega) (fun r _ => rfl) (.inl ⟨rfl, fun r h1 h2 => by omega⟩) (by omega)
          have := hP.congr (V := fun r => ctlV (plo r a (0, 0))) (fun r hr => where_place a hg.stp 0 r 0 (by omega) (by omega))
          rw [hc, this.uniq hH]
          generalize hullL fr to a (0, 0, 0, 0) = z
          obtain ⟨x, y⟩ := z
          simp
        · rw [decide_eq_false hf]; rfl
  · rw [if_pos he, if_pos (by simpa using he)]
    simp only [bnd2_some, bnd3_some]
    rw [if_pos (by simpa using he)]
    simp
end Go.Proofs.Ythhodpedkdapcaa.Al
