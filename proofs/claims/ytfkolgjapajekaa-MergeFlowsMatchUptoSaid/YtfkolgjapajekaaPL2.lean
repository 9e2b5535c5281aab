/- Plain laws over the models, a part of them. -/
import Derived.Test.YtfkolgjapajekaaPL1
namespace Go.Proofs.Ytfkolgjapajekaa.Al
theorem uOf_inj : ∀ (cs cs' : List Bool) (As As' : List (List GElem)) (ts ts' : List (List GAttr)), As.length = cs.length + 1 → ts.length = cs.length → As'.length = cs'.length + 1 → ts'.length = cs'.length → uOf As cs ts = uOf As' cs' ts' → As = As' ∧ cs = cs' ∧ ts = ts' := by
  have hmap : ∀ (A B : List GElem), A.map Un.a = B.map Un.a → A = B := by
    intro A
    induction A with
    | nil => intro B h; cases B with | nil => rfl | cons b B => cases h
    | cons a A ih =>
      intro B h
      cases B with
      | nil => cases h
      | cons b B =>
        simp only [List.map_cons] at h
        injection h with h1 h2
        injection h1 with h1
        rw [h1, ih B h2]
  have hpre : ∀ (A B : List GElem) (c c' : Bool) (t t' : List GAttr) (X Y : List Un), A.map Un.a ++ .r c t :: X = B.map Un.a ++ .r c' t' :: Y → A = B ∧ c = c' ∧ t = t' ∧ X = Y := by
    intro A
    induction A with
    | nil =>
      intro B c c' t t' X Y h
      cases B with
      | nil =>
        injection h with h1 h2
        injection h1 with h3 h4
        exact ⟨rfl, h3, h4, h2⟩
      | cons b B => injection h with h1 _; cases h1
    | cons a A ih =>
      intro B c c' t t' X Y h
      cases B with
      | nil => injection h with h1 _; cases h1
      | cons b B =>
        simp only [List.map_cons, List.cons_append] at h
        injection h with h1 h2
        injection h1 with h1
        obtain ⟨e1, e2, e3, e4⟩ := ih B c c' t t' X Y h2
        exact ⟨by rw [h1, e1], e2, e3, e4⟩
  have hno : ∀ (A B : List GElem) (c : Bool) (t : List GAttr) (X : List Un), A.map Un.a ≠ B.map Un.a ++ .r c t :: X := by
    intro A
    induction A with
    | nil => intro B c t X h; cases B <;> cases h
    | cons a A ih =>
      intro B c t X h
      cases B with
      | nil => injection h with h1 _; cases h1
      | cons b B =>
        simp only [List.map_cons, List.cons_append] at h
        injection h with h1 h2
        exact ih B c t X h2
  intro cs
  induction cs with
  | nil =>
    intro cs' As As' ts ts' h1 h2 h3 h4 h
    obtain ⟨A, rfl⟩ := List.length_eq_one_iff.1 h1
    obtain rfl := List.eq_nil_of_length_eq_zero h2
    cases cs' with
    | nil =>
      obtain ⟨B, rfl⟩ := List.length_eq_one_iff.1 h3
      obtain rfl := List.eq_nil_of_length_eq_zero h4
      simp only [uOf] at h
      rw [hmap A B (by simpa using h)]
      exact ⟨rfl, rfl, rfl⟩
    | cons c' cs' =>
      match As', ts', h3, h4, h with
      | B :: As', t' :: ts', h3, h4, h => simp only [uOf] at h; exact absurd (by simpa using h) (hno A B c' t' _)
  | cons c cs ih =>
    intro cs' As As' ts ts' h1 h2 h3 h4 h
    match As, ts, h1, h2, h with
    | A :: As, t :: ts, h1, h2, h =>
      cases cs' with
      | nil =>
        obtain ⟨B, rfl⟩ := List.length_eq_one_iff.1 h3
        obtain rfl := List.eq_nil_of_length_eq_zero h4
        simp only [uOf] at h
        exact absurd (by simpa using h.symm) (hno B A c t _)
      | cons c' cs' =>
        match As', ts', h3, h4, h with
        | B :: As', t' :: ts', h3, h4, h =>
          simp only [uOf] at h
          obtain ⟨e1, e2, e3, e4⟩ := hpre A B c c' t t' _ _ h
          obtain ⟨k1, k2, k3⟩ := ih cs' As As' ts ts' (by simpa using h1) (by simpa using h2) (by simpa using h3) (by simpa using h4) e4
          rw [e1, e2, e3, k1, k2, k3]
          exact ⟨rfl, rfl, rfl⟩
theorem wf_inj {x z : Ref_Act} (hx : WfA x) (hz : WfA z) (h : x.us = z.us) : x = z := by
  obtain ⟨h1, h2, h3⟩ := uOf_inj _ _ _ _ _ _ hx.adds hx.attrs hz.adds hz.attrs h
  cases x; cases z
  dsimp only at h1 h2 h3
  rw [h1, h2, h3]
def pushN (z : Ref_Act) (c : Bool) (t : List GAttr) (j : Nat) : Ref_Act := ⟨z.Adds ++ List.replicate j [], z.Cuts ++ List.replicate j c, z.Attrs ++ List.replicate j t⟩
theorem pushN_zero (z : Ref_Act) (c : Bool) (t : List GAttr) : pushN z c t 0 = z := by cases z; simp [pushN]
theorem pushN_succ (z : Ref_Act) (c : Bool) (t : List GAttr) (j : Nat) : pushN z c t (j + 1) = ⟨(pushN z c t j).Adds ++ [[]], (pushN z c t j).Cuts ++ [c], (pushN z c t j).Attrs ++ [t]⟩ := by
  unfold pushN
  dsimp only
  rw [List.append_assoc, List.append_assoc, List.append_assoc, ← List.replicate_succ', ← List.replicate_succ', ← List.replicate_succ']
theorem pushN_ok {z : Ref_Act} (h : WfA z) (c : Bool) (t : List GAttr) : ∀ j, WfA (pushN z c t j) ∧ (pushN z c t j).us = z.us ++ List.replicate j (.r c t)
  | 0 => by rw [pushN_zero]; exact ⟨h, by simp⟩
  | j + 1 => by
    obtain ⟨h1, h2⟩ := pushN_ok h c t j
    rw [pushN_succ, List.replicate_succ', ← List.append_assoc, ← h2]
    exact push_row h1 c t
def padS (z : Ref_Act) (m : Nat) : Merge_Side := ⟨z.Adds ++ List.replicate m [], z.Cuts ++ List.replicate m false, z.Attrs ++ List.replicate m []⟩
theorem pad_set {α : Type} (l : List α) (m : Nat) (v w : α) : (l ++ List.replicate (m + 1) v).set l.length w = (l ++ [w]) ++ List.replicate m v := by
  rw [List.replicate_succ, List.set_append_right _ _ (Nat.le_refl _), Nat.sub_self]; simp
theorem pad_same {α : Type} (l : List α) (m : Nat) (v : α) : l ++ List.replicate (m + 1) v = (l ++ [v]) ++ List.replicate m v := by
  rw [List.replicate_succ]; simp
theorem pad_cut (z : Ref_Act) (m : Nat) : (⟨(padS z (m + 1)).adds, (padS z (m + 1)).cut.set z.Cuts.length true, (padS z (m + 1)).attrs⟩ : Merge_Side) = padS ⟨z.Adds ++ [[]], z.Cuts ++ [true], z.Attrs ++ [[]]⟩ m := by
  unfold padS
  dsimp only
  rw [pad_set, pad_same, pad_same z.Attrs]
theorem pad_keep {z : Ref_Act} (h : WfA z) (m : Nat) (t : List GAttr) : (⟨(padS z (m + 1)).adds, (padS z (m + 1)).cut, (padS z (m + 1)).attrs.set z.Cuts.length t⟩ : Merge_Side) = padS ⟨z.Adds ++ [[]], z.Cuts ++ [false], z.Attrs ++ [t]⟩ m := by
  have ht := h.attrs
  unfold padS
  dsimp only
  rw [← ht, pad_set, pad_same, pad_same z.Cuts]
theorem read_cut (z : Ref_Act) (h : WfA z) (s : GStep) (m N : Nat) (hN : s.N = (N : Int)) (hm : N ≤ m) (hb : z.Cuts.length + m ≤ 1073741824) :
    iter (fun (a : Int × Merge_Side) => merge_read_L2 (z.Cuts.length : Int) s a.1 a.2) (0, padS z m) = some (.ext (.nrm (padS (pushN z true [] N) (m - N)))) := by
  have key : ∃ r, iter (fun (a : Int × Merge_Side) => merge_read_L2 (z.Cuts.length : Int) s a.1 a.2) (0, padS z m) = some r ∧ r = .ext (.nrm (padS (pushN z true [] N) (m - N))) := by
    refine iter_hoare N (fun j st => st = ((j : Int), padS (pushN z true [] j) (m - j))) _ ?_ ?_ (by rw [pushN_zero]; rfl)
    · rintro j st hj rfl
      have hw := (pushN_ok h true [] j).1
      have hcl : (pushN z true [] j).Cuts.length = z.Cuts.length + j := by simp [pushN]
      refine .inl ⟨_, ?_, rfl⟩
      show merge_read_L2 (z.Cuts.length : Int) s (j : Int) (padS (pushN z true [] j) (m - j)) = _
      obtain ⟨m', hm'⟩ : ∃ m', m - j = m' + 1 := ⟨m - j - 1, by omega⟩
      have hlen : z.Cuts.length + j < (padS (pushN z true [] j) (m' + 1)).cut.length := by
        show _ < ((pushN z true [] j).Cuts ++ List.replicate (m' + 1) false).length
        rw [List.length_append, hcl, List.length_replicate]; omega
      unfold merge_read_L2
      rw [if_pos (by rw [hN, decide_eq_true_eq]; omega), chk64 (by omega) (by omega), bnd1_some, show ((z.Cuts.length : Int) + (j : Int)) = ((z.Cuts.length + j : Nat) : Int) by omega, hm', idx_nat hlen, bnd1_some, chk_nat (by omega), bnd1_some, set_eq, ← hcl, pad_cut, ← pushN_succ, show m - (j + 1) = m' by omega]
    · rintro st rfl
      refine ⟨_, ?_, rfl⟩
      show merge_read_L2 (z.Cuts.length : Int) s (N : Int) _ = _
      unfold merge_read_L2
      rw [if_neg (by rw [hN]; simp)]
  obtain ⟨r, h1, h2⟩ := key
  rw [h1, h2]
theorem read_keep (z : Ref_Act) (h : WfA z) (s : GStep) (m N : Nat) (hN : s.N = (N : Int)) (hm : N ≤ m) (hb : z.Cuts.length + m ≤ 1073741824) :
    iter (fun (a : Int × Merge_Side) => merge_read_L3 (z.Cuts.length : Int) s a.1 a.2) (0, padS z m) = some (.ext (.nrm (padS (pushN z false s.Attrs N) (m - N)))) := by
  have key : ∃ r, iter (fun (a : Int × Merge_Side) => merge_read_L3 (z.Cuts.length : Int) s a.1 a.2) (0, padS z m) = some r ∧ r = .ext (.nrm (padS (pushN z false s.Attrs N) (m - N))) := by
    refine iter_hoare N (fun j st => st = ((j : Int), padS (pushN z false s.Attrs j) (m - j))) _ ?_ ?_ (by rw [pushN_zero]; rfl)
    · rintro j st hj rfl
      have hw := (pushN_ok h false s.Attrs j).1
      have hcl : (pushN z false s.Attrs j).Cuts.length = z.Cuts.length + j := by simp [pushN]
      have hal := hw.attrs
      refine .inl ⟨_, ?_, rfl⟩
      show merge_read_L3 (z.Cuts.length : Int) s (j : Int) (padS (pushN z false s.Attrs j) (m - j)) = _
      obtain ⟨m', hm'⟩ : ∃ m', m - j = m' + 1 := ⟨m - j - 1, by omega⟩
      have hlen : z.Cuts.length + j < (padS (pushN z false s.Attrs j) (m' + 1)).attrs.length := by
        show _ < ((pushN z false s.Attrs j).Attrs ++ List.replicate (m' + 1) []).length
        rw [List.length_append, hal, hcl, List.length_replicate]; omega
      unfold merge_read_L3
      rw [if_pos (by rw [hN, decide_eq_true_eq]; omega), chk64 (by omega) (by omega), bnd1_some, show ((z.Cuts.length : Int) + (j : Int)) = ((z.Cuts.length + j : Nat) : Int) by omega, hm', idx_nat hlen, bnd1_some, chk_nat (by omega), bnd1_some, set_eq, ← hcl, pad_keep hw, ← pushN_succ, show m - (j + 1) = m' by omega]
    · rintro st rfl
      refine ⟨_, ?_, rfl⟩
      show merge_read_L3 (z.Cuts.length : Int) s (N : Int) _ = _
      unfold merge_read_L3
      rw [if_neg (by rw [hN]; simp)]
  obtain ⟨r, h1, h2⟩ := key
  rw [h1, h2]
theorem set_pad (z : Ref_Act) (h : WfA z) (m : Nat) (E : List GElem) (h0 : z.Adds[z.Cuts.length]! = []) : (padS z m).adds.set z.Cuts.length E = (padS ⟨z.Adds.set z.Cuts.length (z.Adds[z.Cuts.length]! ++ E), z.Cuts, z.Attrs⟩ m).adds := by
  have ha := h.adds
  unfold padS
  dsimp only
  rw [List.set_append_left _ _ (by omega), h0, List.nil_append]
theorem last_nil (l : List (List GElem)) : (l ++ [[]])[l.length]! = [] := by
  rw [getElem!_pos _ _ (by simp), List.getElem_append_right (Nat.le_refl _)]; simp
theorem merge_read_eq (n : Nat) (d : List GStep) (hg : GoodD d) (ho : OkD d) (hl : d.length ≤ 1048576) (hn : n ≤ 262144) (hold : oldD d = (n : Int)) {x : Ref_Act} (hx : WfA x) (hxu : x.us = unitsD d) :
    merge_read (n : Int) d = some ⟨x.Adds, x.Cuts, x.Attrs⟩ := by
  have key : ∃ r, iter (fun (a : Int × Int × Merge_Side) => merge_read_L1 d a.1 a.2.1 a.2.2) (0, 0, (Merge_Side.mk (List.replicate (n + 1) []) (List.replicate n false) (List.replicate n []))) = some r ∧ r = ⟨x.Adds, x.Cuts, x.Attrs⟩ := by
    refine iter_hoare d.length (fun k st => ∃ z : Ref_Act, WfA z ∧ z.us = unitsD (d.take k) ∧ z.Cuts.length ≤ n ∧ st = ((z.Cuts.length : Int), (k : Int), padS z (n - z.Cuts.length)) ∧ ((k = 0 ∨ d[k - 1]!.Kind ≠ 1) → z.Adds[z.Cuts.length]! = [])) _ ?_ ?_
      ⟨⟨[[]], [], []⟩, wfA_nil, rfl, Nat.zero_le _, by unfold padS; simp [List.replicate_succ], fun _ => rfl⟩
    · rintro k st hk ⟨z, z1, z2, z3, rfl, z5⟩
      have hs := hg.st _ (mem_at hk)
      have hord := hg.ord k
      have hcz := z1.cnt
      have hat := unitsD_at hk
      have hpre := prefD hg ho (k + 1)
      have hck : (cntR (unitsD (d.take (k + 1))) : Int) = oldD (d.take (k + 1)) := cntR_unitsD (fun s hs => hg.st s (List.mem_of_mem_take hs))
      have hsum : oldD (d.take (k + 1)) ≤ (n : Int) := by
        have h1 : oldD d = oldD (d.take (k + 1)) + oldD (d.drop (k + 1)) := by rw [← oldD_app, List.take_append_drop]
        omega
      rw [hat, cntR_app] at hck
      rw [z2] at hcz
      left
      show ∃ s', merge_read_L1 d (z.Cuts.length : Int) (k : Int) (padS z (n - z.Cuts.length)) = _ ∧ _
      unfold merge_read_L1
      rw [if_pos (by simpa using hk), idx_nat hk, bnd1_some]
      have hpk : k + 1 - 1 = k := by omega
      generalize hse : d[k]! = s at hs hat hck
      have hstep : unitsS s = if s.Kind = 1 then s.Elems.map Un.a else List.replicate s.N.toNat (.r (decide (s.Kind = 2)) s.Attrs) := rfl
      have erep : ∀ (m : Nat) (c : Bool) (t : List GAttr), cntR (List.replicate m (.r c t)) = m := fun m c t => by unfold cntR; rw [List.countP_replicate]; rfl
      rcases hs.kind with ⟨k0, e, n1, n2, _⟩ | ⟨k2, e, a, n1, n2⟩ | ⟨k1, nn, a, e0, p⟩
      · rw [if_neg (by omega), decide_eq_false (by omega)] at hstep
        rw [hstep, erep] at hck
        obtain ⟨N, hN⟩ : ∃ N : Nat, s.N = (N : Int) := ⟨s.N.toNat, by omega⟩
        have hNt : s.N.toNat = N := by omega
        rw [hNt] at hck hstep
        obtain ⟨w1, w2⟩ := pushN_ok z1 false s.Attrs N
        have hcl : (pushN z false s.Attrs N).Cuts.length = z.Cuts.length + N := by simp [pushN]
        rw [if_neg (by rw [decide_eq_true_eq]; omega), if_neg (by rw [decide_eq_true_eq]; omega), read_keep z z1 s (n - z.Cuts.length) N hN (by omega) (by omega), ctl1_ext, ctl1_nrm, hN, chk64 (by omega) (by omega), bnd1_some, bnd2_some, chk_nat (by omega), bnd1_some]
        refine ⟨_, rfl, pushN z false s.Attrs N, w1, by rw [w2, z2, hat, hstep], by omega, ?_, fun _ => ?_⟩
        · rw [hcl, show n - z.Cuts.length - N = n - (z.Cuts.length + N) by omega]
          congr 1
        · obtain ⟨N', hN'⟩ : ∃ N', N = N' + 1 := ⟨N - 1, by omega⟩
          have hw' := (pushN_ok z1 false s.Attrs N').1.adds
          have hc' : (pushN z false s.Attrs N').Cuts.length = z.Cuts.length + N' := by simp [pushN]
          rw [hN', pushN_succ]
          dsimp only
          rw [List.length_append, List.length_singleton, ← hw']
          exact last_nil _
      · rw [if_neg (by omega), decide_eq_true k2, a] at hstep
        rw [hstep, erep] at hck
        obtain ⟨N, hN⟩ : ∃ N : Nat, s.N = (N : Int) := ⟨s.N.toNat, by omega⟩
        have hNt : s.N.toNat = N := by omega
        rw [hNt] at hck hstep
        obtain ⟨w1, w2⟩ := pushN_ok z1 true [] N
        have hcl : (pushN z true [] N).Cuts.length = z.Cuts.length + N := by simp [pushN]
        rw [if_neg (by rw [decide_eq_true_eq]; omega), if_pos (by rw [decide_eq_true_eq]; omega), read_cut z z1 s (n - z.Cuts.length) N hN (by omega) (by omega), ctl1_ext, ctl1_nrm, hN, chk64 (by omega) (by omega), bnd1_some, bnd2_some, chk_nat (by omega), bnd1_some]
        refine ⟨_, rfl, pushN z true [] N, w1, by rw [w2, z2, hat, hstep], by omega, ?_, fun _ => ?_⟩
        · rw [hcl, show n - z.Cuts.length - N = n - (z.Cuts.length + N) by omega]
          congr 1
        · obtain ⟨N', hN'⟩ : ∃ N', N = N' + 1 := ⟨N - 1, by omega⟩
          have hw' := (pushN_ok z1 true [] N').1.adds
          rw [hN', pushN_succ]
          dsimp only
          rw [List.length_append, List.length_singleton, ← hw']
          exact last_nil _
      · rw [if_pos k1] at hstep
        have hz0 : z.Adds[z.Cuts.length]! = [] := by
          refine z5 ?_
          by_cases hk0 : k = 0
          · exact .inl hk0
          · right
            intro hprev
            have := hord (by omega) hk
            rw [hse] at this
            unfold ordBad at this
            rw [hprev, k1] at this
            simp at this
        obtain ⟨w1, w2⟩ := push_add z1 s.Elems
        have ha := z1.adds
        have hlen : z.Cuts.length < (padS z (n - z.Cuts.length)).adds.length := by
          show _ < (z.Adds ++ _).length
          rw [List.length_append]; omega
        rw [if_pos (by rw [decide_eq_true_eq]; exact k1), idx_nat hlen, bnd1_some, ctl1_ext, bnd2_some, chk_nat (by omega), bnd1_some, set_eq, set_pad z z1 _ _ hz0]
        exact ⟨_, rfl, _, w1, by rw [w2, z2, hat, hstep], z3, rfl, fun h => by
          rcases h with h | h
          · omega
          · rw [hpk, hse] at h; exact absurd k1 h⟩
    · rintro st ⟨z, z1, z2, z3, rfl, z5⟩
      rw [List.take_length] at z2
      refine ⟨_, ?_, rfl⟩
      show merge_read_L1 d (z.Cuts.length : Int) (d.length : Int) _ = _
      unfold merge_read_L1
      rw [if_neg (by simp)]
      obtain rfl := wf_inj z1 hx (by rw [z2, hxu])
      have hc := z1.cnt
      have : (cntR (unitsD d) : Int) = oldD d := cntR_unitsD hg.st
      rw [z2] at hc
      have e : n - z.Cuts.length = 0 := by omega
      rw [e]
      unfold padS
      simp
  obtain ⟨r, h1, h2⟩ := key
  have m1 : mk 24 ((n : Int) + 1) ([] : List GElem) = some (List.replicate (n + 1) []) := by
    unfold mk; rw [if_pos ⟨by omega, by omega, by omega⟩]
    congr 1
  have m2 : mk 1 (n : Int) false = some (List.replicate n false) := by
    unfold mk; rw [if_pos ⟨by omega, by omega, by omega⟩]
    congr 1
  have m3 : mk 24 (n : Int) ([] : List GAttr) = some (List.replicate n []) := by
    unfold mk; rw [if_pos ⟨by omega, by omega, by omega⟩]
    congr 1
  unfold merge_read
  rw [chk64 (by omega) (by omega), bnd1_some, m1, bnd1_some, m2, bnd1_some, m3, bnd1_some, h1, bnd1_some, h2]
end Go.Proofs.Ytfkolgjapajekaa.Al


namespace Go.Proofs.Ytfkolgjapajekaa.Al
theorem flow_Same_eq (a b : List GElem) (hm : a.length ≤ 9223372036854775806) (h : ∀ e ∈ a, e.Attrs.length ≤ 1073741824) : flow_Same a b = some (decide (a = b)) := by
  unfold flow_Same
  by_cases hl : a.length = b.length
  · rw [if_neg (by simp [hl]), iter_find (n := a.length) (fun k => if decide (a[k]! = b[k]!) then none else some false) (fun k hk => by
      unfold flow_Same_L1
      have ha := h _ (mem_at hk)
      rw [if_pos (by simpa using hk), idx_nat hk, idx_nat (by omega), bnd1_some, bnd1_some, attr_Same_eq _ _ (by omega), chk_nat (by omega)]
      generalize a[k]! = x
      generalize b[k]! = y
      obtain ⟨x1, x2, x3⟩ := x
      obtain ⟨y1, y2, y3⟩ := y
      by_cases h1 : x1 = y1 <;> by_cases h2 : x2 = y2 <;> by_cases h3 : x3 = y3 <;> simp [h1, h2, h3, stepOf, default]) (by unfold flow_Same_L1; rw [if_neg (by simp)]), find_const, ctl_outOf]
    by_cases h : a = b
    · subst h; rw [all_refl, decide_eq_true rfl]; rfl
    · rw [decide_eq_false h]
      have : ((List.range a.length).all fun k => decide (a[k]! = b[k]!)) = false := by
        rw [← Bool.not_eq_true]; exact fun hh => h (all_eq_of hl hh)
      rw [this]; rfl
  · rw [if_pos (by simp; omega), decide_eq_false (by rintro rfl; exact hl rfl)]
theorem first_fnd : ∀ (l : List GAttr) (n : List UInt8) (f : Nat → Int), (fnd l n = none ∧ (List.range l.length).findSome? (fun k => if l[k]!.Name = n then some (f k) else none) = none) ∨
    ∃ k, k < l.length ∧ fnd l n = some l[k]! ∧ (List.range l.length).findSome? (fun k => if l[k]!.Name = n then some (f k) else none) = some (f k)
  | [], n, f => .inl ⟨rfl, rfl⟩
  | x :: l, n, f => by
    rw [List.length_cons, List.range_succ_eq_map, List.findSome?_cons, List.findSome?_map]
    by_cases h : x.Name = n
    · right
      refine ⟨0, by omega, by rw [fnd, if_pos h]; rfl, ?_⟩
      rw [if_pos (show (x :: l)[0]!.Name = n from h)]
    · rw [if_neg (show ¬ (x :: l)[0]!.Name = n from h), fnd, if_neg h]
      have e : ((fun k => if (x :: l)[k]!.Name = n then some (f k) else none) ∘ Nat.succ) = fun k => if l[k]!.Name = n then some (f (k + 1)) else none := by
        funext k
        show (if (x :: l)[k + 1]!.Name = n then some (f (k + 1)) else none) = _
        rfl
      rw [e]
      rcases first_fnd l n (fun k => f (k + 1)) with ⟨h1, h2⟩ | ⟨k, h1, h2, h3⟩
      · exact .inl ⟨h1, h2⟩
      · exact .inr ⟨k + 1, by omega, h2, h3⟩
theorem index_eq (w : GAttr) (s : List GAttr) (hm : s.length ≤ 1073741824) : (fnd s w.Name = none ∧ slices_IndexFunc_api_Attr_api_Attr__joined_elem_f1 w s = some (-1)) ∨
    ∃ k, k < s.length ∧ fnd s w.Name = some s[k]! ∧ slices_IndexFunc_api_Attr_api_Attr__joined_elem_f1 w s = some (k : Int) := by
  have key : slices_IndexFunc_api_Attr_api_Attr__joined_elem_f1 w s = (ctl1 (some (outOf ((List.range s.length).findSome? fun (k : Nat) => if s[k]!.Name = w.Name then some (k : Int) else none))) fun (_ : Unit) => some (-1)) := by
    unfold slices_IndexFunc_api_Attr_api_Attr__joined_elem_f1
    rw [iter_find (n := s.length) (fun (k : Nat) => if s[k]!.Name = w.Name then some (k : Int) else none) (fun k hk => by
      unfold slices_IndexFunc_api_Attr_api_Attr__joined_elem_f1_L1 merge_joined_elem_f1
      rw [if_pos (by simpa using hk), idx_nat hk, bnd1_some, bnd1_some, chk_nat (by omega)]
      generalize s[k]! = x
      by_cases h : x.Name = w.Name <;> simp [h, stepOf]) (by unfold slices_IndexFunc_api_Attr_api_Attr__joined_elem_f1_L1; rw [if_neg (by simp)])]
  rcases first_fnd s w.Name (fun k => (k : Int)) with ⟨h1, h2⟩ | ⟨k, h1, h2, h3⟩
  · left; rw [key, h2]; exact ⟨h1, rfl⟩
  · right; refine ⟨k, h1, h2, ?_⟩; rw [key, h3]; rfl
abbrev Jn := List GElem × List GConflict
def gapP (j : Jn) (A B : List GElem) : Jn := if B = [] ∨ A = B then (j.1 ++ A, j.2) else (j.1 ++ A ++ B, if A = [] then j.2 else j.2 ++ [⟨0, 0, (j.1.length : Int), ((j.1 ++ A ++ B).length : Int), []⟩])
def confl (n : Nat) (tb : List GAttr) (v : GAttr) : Option GConflict := match fnd tb v.Name with
  | none => none
  | some w => if w.Value = v.Value then none else some ⟨2, 0, (n : Int), (n : Int) + 1, v.Name⟩
def elemP (j : Jn) (x : GElem) (ta tb : List GAttr) (ca cb : Bool) : Jn :=
  if (ca || cb) = true then (j.1, if (ca = false ∧ ta ≠ []) ∨ (cb = false ∧ tb ≠ []) then j.2 ++ [⟨1, 0, (j.1.length : Int), (j.1.length : Int), []⟩] else j.2)
  else (j.1 ++ [⟨x.Char, x.Ref, rawA (rawA x.Attrs tb) ta⟩], j.2 ++ ta.filterMap (confl j.1.length tb))
def mJ (j : Jn) : Merge_Joined := ⟨0, j.1, j.2⟩
theorem app48 {α : Type} {o : List α} {x : α} (h : o.length + 1 ≤ 1099511627776) : app 48 o [x] = some (o ++ [x]) := by
  unfold app; rw [if_pos]; simp only [List.length_singleton]; omega
theorem gap_eq (j : Jn) (A B : List GElem) (h1 : j.1.length ≤ 1000000) (h2 : A.length ≤ 1000) (h3 : B.length ≤ 1000) (h4 : j.2.length ≤ 1000000000) (ha : ∀ e ∈ A, e.Attrs.length ≤ 1073741824) : merge_joined_gap (mJ j) A B = some (mJ (gapP j A B)) := by
  unfold merge_joined_gap mJ gapP
  dsimp only
  rw [app40 (by omega), bnd1_some]
  by_cases hB : B = []
  · rw [if_pos (.inl hB), hB]
    simp only [List.length_nil, Int.ofNat_zero, decide_true, Bool.true_or, if_true, show (true == false) = false from rfl, gd_false, bnd1_some]
  · have hbl : decide ((B.length : Int) = 0) = false := by rw [len_zero]; exact decide_eq_false hB
    rw [hbl]
    simp only [beq_self_eq_true, gd_true, Bool.false_or]
    rw [flow_Same_eq A B (by omega) ha, bnd1_some]
    by_cases hAB : A = B
    · rw [if_pos (decide_eq_true hAB), if_pos (.inr hAB)]
    · rw [if_neg (by rw [decide_eq_true_eq]; exact hAB), if_neg (by rintro (h | h); exact hB h; exact hAB h), app40 (by rw [List.length_append]; omega), bnd1_some]
      by_cases hA : A = []
      · rw [if_neg (by rw [hA]; decide), if_pos hA]
      · rw [if_pos (by rw [len_pos]; simp [hA]), if_neg hA, app48 (by omega), bnd1_some]
theorem elem_loop (j : Jn) (ta tb : List GAttr) (h1 : j.1.length ≤ 1000000) (h4 : j.2.length ≤ 1000000000) (hta : ta.length ≤ 1073741824) (htb : tb.length ≤ 1073741824) :
    iter (fun (a : Int × Merge_Joined) => merge_joined_elem_L1 (mJ j) ta tb a.1 a.2) (0, mJ j) = some (mJ (j.1, j.2 ++ ta.filterMap (confl j.1.length tb))) := by
  have key : ∃ r, iter (fun (a : Int × Merge_Joined) => merge_joined_elem_L1 (mJ j) ta tb a.1 a.2) (0, mJ j) = some r ∧ r = mJ (j.1, j.2 ++ ta.filterMap (confl j.1.length tb)) := by
    refine iter_hoare ta.length (fun k st => st = ((k : Int), mJ (j.1, j.2 ++ (ta.take k).filterMap (confl j.1.length tb)))) _ ?_ ?_ (by simp)
    · rintro k st hk rfl
      refine .inl ⟨_, ?_, rfl⟩
      have hfl : ((ta.take k).filterMap (confl j.1.length tb)).length ≤ k := by
        refine Nat.le_trans (List.length_filterMap_le _ _) ?_
        rw [List.length_take]; omega
      show merge_joined_elem_L1 (mJ j) ta tb (k : Int) (mJ (j.1, j.2 ++ (ta.take k).filterMap (confl j.1.length tb))) = _
      unfold merge_joined_elem_L1
      rw [if_pos (by simpa using hk), idx_nat hk, bnd1_some, take_at hk, List.filterMap_append]
      generalize ta[k]! = v
      generalize (ta.take k).filterMap (confl j.1.length tb) = pre at hfl
      have hc : List.filterMap (confl j.1.length tb) [v] = match confl j.1.length tb v with | none => [] | some c => [c] := by
        rw [List.filterMap_cons]; cases confl j.1.length tb v <;> rfl
      rw [hc]
      rcases index_eq v tb htb with ⟨g1, g2⟩ | ⟨i, g1, g2, g3⟩
      · rw [g2, bnd1_some]
        have e : decide ((0 : Int) ≤ -1) = false := rfl
        rw [e]
        simp only [show (false == true) = false from rfl, gd_false, bnd1_some, Bool.false_and]
        rw [if_neg (by decide), bnd1_some, chk_nat (by omega), bnd1_some]
        unfold confl
        rw [g1, List.append_nil]
      · rw [g3, bnd1_some]
        have e : decide ((0 : Int) ≤ (i : Int)) = true := decide_eq_true (by omega)
        rw [e]
        simp only [beq_self_eq_true, gd_true, Bool.true_and]
        rw [idx_nat g1, bnd1_some]
        unfold confl
        rw [g2]
        dsimp only
        by_cases hv : tb[i]!.Value = v.Value
        · rw [if_neg (ndF hv), bnd1_some, if_pos hv, List.append_nil, chk_nat (by omega), bnd1_some]
        · rw [if_pos (ndT hv), if_neg hv]
          unfold mJ
          dsimp only
          rw [chk64 (by omega) (by omega), bnd1_some, app48 (by rw [List.length_append]; omega), bnd1_some, bnd1_some, chk_nat (by omega), bnd1_some, List.append_assoc]
    · rintro st rfl
      refine ⟨_, ?_, rfl⟩
      show merge_joined_elem_L1 (mJ j) ta tb (ta.length : Int) _ = _
      unfold merge_joined_elem_L1
      rw [if_neg (by simp), List.take_length]
  obtain ⟨r, g1, g2⟩ := key
  rw [g1, g2]
theorem elem_eq (j : Jn) (x : GElem) (ta tb : List GAttr) (ca cb : Bool) (h1 : j.1.length ≤ 1000000) (h4 : j.2.length ≤ 1000000000) (hx : x.Attrs.length ≤ 1073741824) (hta : ta.length ≤ 1073741824) (htb : tb.length ≤ 1073741824) :
    merge_joined_elem (mJ j) x ta tb ca cb = some (mJ (elemP j x ta tb ca cb)) := by
  unfold merge_joined_elem elemP
  by_cases hc : (ca || cb) = true
  · rw [if_pos hc, if_pos hc]
    have e : ((((!ca) && (decide (0 < (ta.length : Int)))) || ((!cb) && (decide (0 < (tb.length : Int))))) = true) ↔ ((ca = false ∧ ta ≠ []) ∨ (cb = false ∧ tb ≠ [])) := by
      rw [len_pos, len_pos]; simp
    by_cases hq : (ca = false ∧ ta ≠ []) ∨ (cb = false ∧ tb ≠ [])
    · rw [if_pos (e.2 hq), if_pos hq]
      unfold mJ
      dsimp only
      rw [app48 (by omega), bnd1_some, bnd1_some]
    · rw [if_neg (fun h => hq (e.1 h)), if_neg hq, bnd1_some]
  · rw [if_neg hc, if_neg hc, elem_loop j ta tb h1 h4 hta htb, bnd1_some, attr_Raw_eq _ _ (by omega), bnd1_some]
    have hl := rawA_len x.Attrs tb
    rw [attr_Raw_eq _ _ (by unfold rawA at hl; omega), bnd1_some]
    unfold mJ
    dsimp only
    rw [app40 (by rw [List.length_singleton]; omega), bnd1_some]; rfl
end Go.Proofs.Ytfkolgjapajekaa.Al


namespace Go.Proofs.Ytfkolgjapajekaa.Al
theorem adds_mem {x : Ref_Act} (h : WfA x) {k : Nat} (hk : k ≤ x.Cuts.length) {e : GElem} (he : e ∈ x.Adds[k]!) : Un.a e ∈ x.us := by
  obtain ⟨p, hp⟩ := from_sub x k h hk
  rw [hp]
  refine List.mem_append_right _ ?_
  by_cases hl : k < x.Cuts.length
  · rw [from_at h hl]; exact List.mem_append_left _ (List.mem_map.2 ⟨e, he, rfl⟩)
  · obtain rfl : k = x.Cuts.length := by omega
    rw [from_end h]; exact List.mem_map.2 ⟨e, he, rfl⟩
theorem changed_raw2 {l t : List GAttr} (h1 : attrErr l false = 0) (h2 : attrErr t true = 0) (b : l.length + t.length ≤ 1099511627776) : ref_Changed l t = some (rawA l t) := by
  rw [ref_Changed_eq l t (good_of h1).1 (good_of h2).1 b, ← raw_changed h1 h2]; rfl
structure Sides (o : List GElem) (x y : Ref_Act) : Prop where
  wx : WfA x
  wy : WfA y
  cx : x.Cuts.length = o.length
  cy : y.Cuts.length = o.length
  lo : o.length ≤ 100
  ux : ∀ u ∈ x.us, OkW u
  uy : ∀ u ∈ y.us, OkW u
  lx : x.us.length ≤ 1000
  ly : y.us.length ≤ 1000
  eo : ∀ e ∈ o, elemErr e = 0 ∧ e.Attrs.length ≤ 1048576
theorem row_at {x : Ref_Act} (h : WfA x) (hu : ∀ u ∈ x.us, OkW u) {k : Nat} (hk : k < x.Cuts.length) : attrErr x.Attrs[k]! true = 0 ∧ x.Attrs[k]!.length ≤ 1048576 := by
  have := hu _ (from_mem h hk)
  obtain ⟨h1, h2, h3⟩ := this
  refine ⟨?_, h3⟩
  cases hc : x.Cuts[k]! with
  | false => exact h1 hc
  | true => rw [h2 hc]; exact attrErr_nil
theorem add_at {x : Ref_Act} (h : WfA x) (hu : ∀ u ∈ x.us, OkW u) {k : Nat} (hk : k ≤ x.Cuts.length) : x.Adds[k]!.length ≤ x.us.length ∧ ∀ e ∈ x.Adds[k]!, okA e.Attrs := by
  refine ⟨h.add_le (by rw [h.adds]; omega), fun e he => ?_⟩
  have := hu _ (adds_mem h hk he)
  exact okA_err (okE_attrs this.1) (by have := this.2; omega)
def stP (o : List GElem) (x y : Ref_Act) : Nat → Jn
  | 0 => ([], [])
  | k + 1 => elemP (gapP (stP o x y k) x.Adds[k]! y.Adds[k]!) o[k]! x.Attrs[k]! y.Attrs[k]! x.Cuts[k]! y.Cuts[k]!
def finP (o : List GElem) (x y : Ref_Act) : Jn := gapP (stP o x y o.length) x.Adds[o.length]! y.Adds[o.length]!
structure OkJ (n m : Nat) (j : Jn) : Prop where
  l1 : j.1.length ≤ n
  l2 : j.2.length ≤ m
  ea : ∀ e ∈ j.1, okA e.Attrs
  nd : ∀ c ∈ j.2, c.Node = 0
theorem gap_ok {n m : Nat} {j : Jn} (h : OkJ n m j) {A B : List GElem} (hA : ∀ e ∈ A, okA e.Attrs) (hB : ∀ e ∈ B, okA e.Attrs) : OkJ (n + A.length + B.length) (m + 1) (gapP j A B) := by
  obtain ⟨h1, h2, h3, h4⟩ := h
  have e1 : ∀ e ∈ j.1 ++ A, okA e.Attrs := fun e he => by
    rcases List.mem_append.1 he with h | h
    · exact h3 e h
    · exact hA e h
  unfold gapP
  split
  · exact ⟨by dsimp only; rw [List.length_append]; omega, by dsimp only; omega, e1, h4⟩
  · refine ⟨by dsimp only; rw [List.length_append, List.length_append]; omega, ?_, fun e he => ?_, ?_⟩
    · dsimp only
      split
      · omega
      · rw [List.length_append, List.length_singleton]; omega
    · rcases List.mem_append.1 he with h | h
      · exact e1 e h
      · exact hB e h
    · dsimp only
      split
      · exact h4
      · intro c hc
        rcases List.mem_append.1 hc with h | h
        · exact h4 c h
        · rw [List.mem_singleton] at h; subst h; rfl
theorem elem_ok {n m : Nat} {j : Jn} (h : OkJ n m j) {x : GElem} {ta tb : List GAttr} (ca cb : Bool) (hx : elemErr x = 0) (hxl : x.Attrs.length ≤ 1048576) (ha : attrErr ta true = 0) (hal : ta.length ≤ 1048576) (hb : attrErr tb true = 0) (hbl : tb.length ≤ 1048576) : OkJ (n + 1) (m + 1048577) (elemP j x ta tb ca cb) := by
  obtain ⟨h1, h2, h3, h4⟩ := h
  unfold elemP
  split
  · refine ⟨by dsimp only; omega, ?_, h3, ?_⟩
    · dsimp only
      split
      · rw [List.length_append, List.length_singleton]; omega
      · omega
    · dsimp only
      split
      · intro c hc
        rcases List.mem_append.1 hc with h | h
        · exact h4 c h
        · rw [List.mem_singleton] at h; subst h; rfl
      · exact h4
  · refine ⟨by dsimp only; rw [List.length_append, List.length_singleton]; omega, ?_, fun e he => ?_, fun c hc => ?_⟩
    · dsimp only
      have := List.length_filterMap_le (confl j.1.length tb) ta
      rw [List.length_append]; omega
    · rcases List.mem_append.1 he with h | h
      · exact h3 e h
      · rw [List.mem_singleton] at h; subst h
        have l1 := rawA_len x.Attrs tb
        have l2 := rawA_len (rawA x.Attrs tb) ta
        exact okA_err (raw_err (raw_err (okE_attrs hx) hb) ha) (by show (rawA (rawA x.Attrs tb) ta).length ≤ _; omega)
    · rcases List.mem_append.1 hc with h | h
      · exact h4 c h
      · obtain ⟨v, _, hv⟩ := List.mem_filterMap.1 h
        unfold confl at hv
        split at hv
        · cases hv
        · split at hv
          · cases hv
          · injection hv with hv; subst hv; rfl
theorem st_ok {o : List GElem} {x y : Ref_Act} (h : Sides o x y) : ∀ k, k ≤ o.length → OkJ (2001 * k) (1048578 * k) (stP o x y k)
  | 0, _ => ⟨Nat.zero_le _, Nat.zero_le _, fun e he => (by cases he), fun c hc => (by cases hc)⟩
  | k + 1, hk => by
    have hx := h.cx
    have hy := h.cy
    have lx := h.lx
    have ly := h.ly
    obtain ⟨a1, a2⟩ := add_at h.wx h.ux (k := k) (by omega)
    obtain ⟨b1, b2⟩ := add_at h.wy h.uy (k := k) (by omega)
    obtain ⟨r1, r2⟩ := row_at h.wx h.ux (k := k) (by omega)
    obtain ⟨q1, q2⟩ := row_at h.wy h.uy (k := k) (by omega)
    obtain ⟨e1, e2⟩ := h.eo _ (mem_at (show k < o.length by omega))
    have := elem_ok (gap_ok (st_ok h k (by omega)) a2 b2) x.Cuts[k]! y.Cuts[k]! e1 e2 r1 r2 q1 q2
    exact ⟨Nat.le_trans this.l1 (by omega), Nat.le_trans this.l2 (by omega), this.ea, this.nd⟩
theorem fin_ok {o : List GElem} {x y : Ref_Act} (h : Sides o x y) : OkJ 1000000 1000000000 (finP o x y) := by
  have hx := h.cx
  have hy := h.cy
  have lx := h.lx
  have ly := h.ly
  have lo := h.lo
  obtain ⟨a1, a2⟩ := add_at h.wx h.ux (k := o.length) (by omega)
  obtain ⟨b1, b2⟩ := add_at h.wy h.uy (k := o.length) (by omega)
  have := gap_ok (st_ok h o.length (Nat.le_refl _)) a2 b2
  exact ⟨Nat.le_trans this.l1 (by omega), Nat.le_trans this.l2 (by omega), this.ea, this.nd⟩
def sideOf (x : Ref_Act) : Merge_Side := ⟨x.Adds, x.Cuts, x.Attrs⟩
theorem merge_loop {o : List GElem} {x y : Ref_Act} (h : Sides o x y) : iter (fun (a : Int × Merge_Joined) => merge_flows_L1 o (sideOf x) (sideOf y) a.1 a.2) (0, (Merge_Joined.mk 0 [] [])) = some (mJ (stP o x y o.length)) := by
  have hx := h.cx
  have hy := h.cy
  have lx := h.lx
  have ly := h.ly
  have lo := h.lo
  have ax := h.wx.adds
  have ay := h.wy.adds
  have tx := h.wx.attrs
  have ty := h.wy.attrs
  have key : ∃ r, iter (fun (a : Int × Merge_Joined) => merge_flows_L1 o (sideOf x) (sideOf y) a.1 a.2) (0, (Merge_Joined.mk 0 [] [])) = some r ∧ r = mJ (stP o x y o.length) := by
    refine iter_hoare o.length (fun k st => st = ((k : Int), mJ (stP o x y k))) _ ?_ ?_ rfl
    · rintro k st hk rfl
      refine .inl ⟨_, ?_, rfl⟩
      obtain ⟨s1, s2, s3, s4⟩ := st_ok h k (by omega)
      obtain ⟨a1, a2⟩ := add_at h.wx h.ux (k := k) (by omega)
      obtain ⟨b1, b2⟩ := add_at h.wy h.uy (k := k) (by omega)
      obtain ⟨r1, r2⟩ := row_at h.wx h.ux (k := k) (by omega)
      obtain ⟨q1, q2⟩ := row_at h.wy h.uy (k := k) (by omega)
      obtain ⟨e1, e2⟩ := h.eo _ (mem_at hk)
      obtain ⟨g1, g2, g3, g4⟩ := gap_ok (st_ok h k (by omega)) a2 b2
      show merge_flows_L1 o (sideOf x) (sideOf y) (k : Int) (mJ (stP o x y k)) = _
      unfold merge_flows_L1 sideOf
      dsimp only
      rw [if_pos (by simpa using hk), idx_nat hk, bnd1_some, idx_nat (by omega), bnd1_some, idx_nat (by omega), bnd1_some, gap_eq _ _ _ (by omega) (by omega) (by omega) (by omega) (fun e he => (a2 e he).1), bnd1_some, idx_nat (by omega), bnd1_some, idx_nat (by omega), bnd1_some, idx_nat (by omega), bnd1_some, idx_nat (by omega), bnd1_some,
        elem_eq _ _ _ _ _ _ (by omega) (by omega) (by omega) (by omega) (by omega), bnd1_some, chk_nat (by omega), bnd1_some]
      rfl
    · rintro st rfl
      refine ⟨_, ?_, rfl⟩
      show merge_flows_L1 o (sideOf x) (sideOf y) (o.length : Int) (mJ (stP o x y o.length)) = _
      unfold merge_flows_L1
      rw [if_neg (by simp)]
  obtain ⟨r, h1, h2⟩ := key
  rw [h1, h2]
theorem ref_gap (j : Jn) (A B : List GElem) (h1 : j.1.length ≤ 1000000) (h2 : A.length ≤ 1000) (h3 : B.length ≤ 1000) (h4 : j.2.length ≤ 1000000000) {α : Type} (f : List GElem → List GConflict → Option α) :
    (bnd2 (
        if (!decide (A = B)) then (
          bnd1 (app 40 (j.1 ++ A) B) fun (out9 : List GElem) =>
          if ((decide (0 < (A.length : Int))) && (decide (0 < (B.length : Int)))) then (
            bnd1 (app 48 j.2 [(GConflict.mk 0 0 (j.1.length : Int) (out9.length : Int) [])]) fun (bad15 : List GConflict) =>
            some (out9, bad15)
          ) else (
            some (out9, j.2)
          )
        ) else (
          some (j.1 ++ A, j.2)
        )
      ) f) = f (gapP j A B).1 (gapP j A B).2 := by
  unfold gapP
  by_cases hAB : A = B
  · rw [if_neg (ndF hAB), if_pos (.inr hAB), bnd2_some]
  · rw [if_pos (ndT hAB), app40 (by rw [List.length_append]; omega), bnd1_some]
    by_cases hB : B = []
    · subst hB
      rw [if_neg (by simp), bnd2_some, if_pos (show ([] : List GElem) = [] ∨ A = [] from .inl rfl), List.append_nil]
    · have hg : ¬ (B = [] ∨ A = B) := by
        rintro (h | h)
        · exact hB h
        · exact hAB h
      by_cases hA : A = []
      · rw [if_neg (show ¬ (decide (0 < (A.length : Int)) && decide (0 < (B.length : Int))) = true by rw [hA]; simp), bnd2_some, if_neg hg, if_pos hA]
      · rw [if_pos (show (decide (0 < (A.length : Int)) && decide (0 < (B.length : Int))) = true by rw [len_pos, len_pos]; simp [hA, hB]), app48 (by omega), bnd1_some, bnd2_some, if_neg hg, if_neg hA]
theorem ref_conf_loop (y : Ref_Act) (k : Nat) (hk : k < y.Attrs.length) (out : List GElem) (ta : List GAttr) (bad : List GConflict) (h1 : out.length ≤ 1000000) (h4 : bad.length ≤ 1000000000) (hta : ta.length ≤ 1073741824) (htb : y.Attrs[k]!.length ≤ 1073741824) :
    iter (fun (a : Int × (List GConflict)) => ref_Merged_L2 y (k : Int) out ta a.1 a.2) (0, bad) = some (bad ++ ta.filterMap (confl out.length y.Attrs[k]!)) := by
  have key : ∃ r, iter (fun (a : Int × (List GConflict)) => ref_Merged_L2 y (k : Int) out ta a.1 a.2) (0, bad) = some r ∧ r = bad ++ ta.filterMap (confl out.length y.Attrs[k]!) := by
    refine iter_hoare ta.length (fun i st => st = ((i : Int), bad ++ (ta.take i).filterMap (confl out.length y.Attrs[k]!))) _ ?_ ?_ (by simp)
    · rintro i st hi rfl
      refine .inl ⟨_, ?_, rfl⟩
      have hfl : ((ta.take i).filterMap (confl out.length y.Attrs[k]!)).length ≤ i := by
        refine Nat.le_trans (List.length_filterMap_le _ _) ?_
        rw [List.length_take]; omega
      show ref_Merged_L2 y (k : Int) out ta (i : Int) (bad ++ (ta.take i).filterMap (confl out.length y.Attrs[k]!)) = _
      unfold ref_Merged_L2
      rw [if_pos (by simpa using hi), idx_nat hi, bnd1_some, idx_nat hk, bnd1_some, take_at hi, List.filterMap_append]
      generalize ta[i]! = v
      generalize (ta.take i).filterMap (confl out.length y.Attrs[k]!) = pre at hfl
      generalize y.Attrs[k]! = tb at htb
      have hc : List.filterMap (confl out.length tb) [v] = match confl out.length tb v with | none => [] | some c => [c] := by
        rw [List.filterMap_cons]; cases confl out.length tb v <;> rfl
      rw [hc, ref_Has_eq _ _ (by omega), bnd1_some, ref_Get_eq _ _ (by omega), getA_eq]
      unfold confl
      cases hf : fnd tb v.Name with
      | none =>
        dsimp only [Option.isSome]
        simp only [show (false == true) = false from rfl, gd_false, bnd1_some, Bool.false_and]
        rw [if_neg (by decide), bnd1_some, chk_nat (by omega), bnd1_some, List.append_nil]
      | some w =>
        dsimp only [Option.isSome]
        simp only [beq_self_eq_true, gd_true, Bool.true_and, bnd1_some]
        by_cases hv : w.Value = v.Value
        · rw [if_neg (ndF hv), bnd1_some, if_pos hv, List.append_nil, chk_nat (by omega), bnd1_some]
        · rw [if_pos (ndT hv), if_neg hv, chk64 (by omega) (by omega), bnd1_some, app48 (by rw [List.length_append]; omega), bnd1_some, bnd1_some, chk_nat (by omega), bnd1_some, List.append_assoc]
    · rintro st rfl
      refine ⟨_, ?_, rfl⟩
      show ref_Merged_L2 y (k : Int) out ta (ta.length : Int) _ = _
      unfold ref_Merged_L2
      rw [if_neg (by simp), List.take_length]
  obtain ⟨r, g1, g2⟩ := key
  rw [g1, g2]
theorem ref_round {o : List GElem} {x y : Ref_Act} (h : Sides o x y) {k : Nat} (hk : k ≤ o.length) : ref_Merged_L1 o x y (k : Int) (stP o x y k).1 (stP o x y k).2 =
    if k = o.length then some (.inr ((finP o x y).1, (finP o x y).2)) else some (.inl (((k + 1 : Nat) : Int), (stP o x y (k + 1)).1, (stP o x y (k + 1)).2)) := by
  have hx := h.cx
  have hy := h.cy
  have lx := h.lx
  have ly := h.ly
  have lo := h.lo
  have ax := h.wx.adds
  have ay := h.wy.adds
  have tx := h.wx.attrs
  have ty := h.wy.attrs
  obtain ⟨s1, s2, s3, s4⟩ := st_ok h k hk
  obtain ⟨a1, a2⟩ := add_at h.wx h.ux (k := k) (by omega)
  obtain ⟨b1, b2⟩ := add_at h.wy h.uy (k := k) (by omega)
  obtain ⟨g1, g2, g3, g4⟩ := gap_ok (st_ok h k hk) a2 b2
  unfold ref_Merged_L1
  rw [if_pos (by rw [decide_eq_true_eq]; omega), idx_nat (by omega), bnd1_some, idx_nat (by omega), bnd1_some, app40 (by omega), bnd1_some, ref_SameFlow_eq _ _ (by omega) (fun e he => (a2 e he).1), bnd1_some, ref_gap _ _ _ (by omega) (by omega) (by omega) (by omega)]
  by_cases hkn : k = o.length
  · rw [if_pos (by rw [decide_eq_true_eq]; omega), if_pos hkn, ctl2_ext]
    subst hkn
    rfl
  · rw [if_neg (by rw [decide_eq_true_eq]; omega), if_neg hkn]
    have hkl : k < o.length := by omega
    obtain ⟨r1, r2⟩ := row_at h.wx h.ux (k := k) (by omega)
    obtain ⟨q1, q2⟩ := row_at h.wy h.uy (k := k) (by omega)
    obtain ⟨e1, e2⟩ := h.eo _ (mem_at hkl)
    have hst : stP o x y (k + 1) = elemP (gapP (stP o x y k) x.Adds[k]! y.Adds[k]!) o[k]! x.Attrs[k]! y.Attrs[k]! x.Cuts[k]! y.Cuts[k]! := rfl
    rw [hst]
    have hconf := ref_conf_loop y k (by omega) (gapP (stP o x y k) x.Adds[k]! y.Adds[k]!).1 x.Attrs[k]! (gapP (stP o x y k) x.Adds[k]! y.Adds[k]!).2 (by omega) (by omega) (by omega) (by omega)
    have i1 : idx x.Cuts (k : Int) = some x.Cuts[k]! := idx_nat (by omega)
    have i2 : idx y.Cuts (k : Int) = some y.Cuts[k]! := idx_nat (by omega)
    have i3 : idx x.Attrs (k : Int) = some x.Attrs[k]! := idx_nat (by omega)
    have i4 : idx y.Attrs (k : Int) = some y.Attrs[k]! := idx_nat (by omega)
    have i5 : idx o (k : Int) = some o[k]! := idx_nat hkl
    rw [i1, bnd1_some]
    rw [i2, i3, i4, i5]
    generalize gapP (stP o x y k) x.Adds[k]! y.Adds[k]! = j at g1 g2 g3 g4 hconf
    generalize x.Attrs[k]! = ta at r1 r2 hconf
    generalize y.Attrs[k]! = tb at q1 q2 hconf
    generalize o[k]! = z at e1 e2
    have hbad : ∀ c1 : Bool, (bnd1 (if c1 = true then (bnd1 (app 48 j.2 [(GConflict.mk 1 0 (j.1.length : Int) (j.1.length : Int) [])]) fun (bad8 : List GConflict) => some bad8) else some j.2) fun (bad7 : List GConflict) => (some (.nrm (j.1, bad7)) : Option (Ctl (List GElem × List GConflict) (Int × (List GElem) × (List GConflict) ⊕ ((List GElem) × (List GConflict)))))) = some (.nrm (j.1, if c1 = true then j.2 ++ [(GConflict.mk 1 0 (j.1.length : Int) (j.1.length : Int) [])] else j.2)) := by
      intro c1
      cases c1 with
      | true => rw [if_pos rfl, if_pos rfl, app48 (by omega), bnd1_some, bnd1_some]
      | false => rw [if_neg (by decide), if_neg (by decide), bnd1_some]
    cases hca : x.Cuts[k]! with
    | true =>
      simp only [show (true == false) = false from rfl, gd_false, bnd1_some, Bool.true_or, if_true, Bool.not_true, show (false == true) = false from rfl, Bool.false_and, beq_self_eq_true, gd_true, Bool.true_and, Bool.false_or]
      cases hcb : y.Cuts[k]! with
      | true =>
        simp only [Bool.not_true, show (false == true) = false from rfl, gd_false, bnd1_some, Bool.false_and]
        rw [hbad, ctl2_nrm, if_neg (by decide), chk_nat (by omega), bnd1_some]
        unfold elemP
        rw [if_pos (by rfl), if_neg (by rintro (⟨h, _⟩ | ⟨h, _⟩) <;> cases h)]
      | false =>
        simp only [Bool.not_false, beq_self_eq_true, gd_true, bnd1_some, Bool.true_and]
        rw [hbad, ctl2_nrm, chk_nat (by omega), bnd1_some]
        unfold elemP
        rw [if_pos (show (true || false) = true from rfl), len_pos]
        by_cases ht : tb = []
        · rw [if_neg (by simp [ht]), if_neg (by rintro (⟨h, _⟩ | ⟨_, h⟩); cases h; exact h ht)]
        · rw [if_pos (by simp [ht]), if_pos (.inr ⟨rfl, ht⟩)]
    | false =>
      simp only [beq_self_eq_true, gd_true, bnd1_some, Bool.false_or, Bool.not_false, Bool.true_and]
      cases hcb : y.Cuts[k]! with
      | true =>
        rw [if_pos rfl]
        by_cases ht : ta = []
        · have e0 : decide (0 < (ta.length : Int)) = false := by rw [len_pos, ht]; rfl
          rw [e0]
          simp only [beq_self_eq_true, gd_true, bnd1_some, Bool.not_true, show (false == true) = false from rfl, Bool.and_false, gd_false, Bool.false_and, Bool.or_self]
          rw [hbad, ctl2_nrm, if_neg (by decide), chk_nat (by omega), bnd1_some]
          unfold elemP
          rw [if_pos (by rfl), if_neg (by rintro (⟨_, h⟩ | ⟨h, _⟩); exact h ht; cases h)]
        · have e0 : decide (0 < (ta.length : Int)) = true := by rw [len_pos]; simp [ht]
          rw [e0]
          simp only [show (true == false) = false from rfl, gd_false, bnd1_some, Bool.false_and, Bool.true_or]
          rw [if_pos trivial, app48 (by omega), bnd1_some, bnd1_some, ctl2_nrm, chk_nat (by omega), bnd1_some]
          unfold elemP
          rw [if_pos (by rfl), if_pos (.inl ⟨rfl, ht⟩)]
      | false =>
        rw [if_neg (by decide), hconf, bnd1_some, changed_raw2 (okE_attrs e1) q1 (by omega), bnd1_some]
        have hl := rawA_len z.Attrs tb
        rw [changed_raw2 (raw_err (okE_attrs e1) q1) r1 (by omega), bnd1_some, app40 (by rw [List.length_singleton]; omega), bnd1_some, ctl2_nrm, chk_nat (by omega), bnd1_some]
        unfold elemP
        rw [if_neg (by decide)]
theorem ref_Merged_eq {o a b : List GElem} {x y : Ref_Act} (h : Sides o x y) (h1 : ref_DiffAct o a = some x) (h2 : ref_DiffAct o b = some y) : ref_Merged o a b = some ((finP o x y).1, (finP o x y).2) := by
  have key : ∃ r, iter (fun (a : Int × (List GElem) × (List GConflict)) => ref_Merged_L1 o x y a.1 a.2.1 a.2.2) (0, [], []) = some r ∧ r = ((finP o x y).1, (finP o x y).2) := by
    refine iter_hoare o.length (fun k st => st = ((k : Int), (stP o x y k).1, (stP o x y k).2)) _ ?_ ?_ rfl
    · rintro k st hk rfl
      have := ref_round h (k := k) (by omega)
      rw [if_neg (by omega)] at this
      exact .inl ⟨_, this, rfl⟩
    · rintro st rfl
      have := ref_round h (k := o.length) (Nat.le_refl _)
      rw [if_pos rfl] at this
      exact ⟨_, this, rfl⟩
  obtain ⟨r, g1, g2⟩ := key
  unfold ref_Merged
  rw [h1, bnd1_some, h2, bnd1_some, g1, g2, bnd2_some]
end Go.Proofs.Ytfkolgjapajekaa.Al


namespace Go.Proofs.Ytfkolgjapajekaa.Al
theorem way_read {o a : List GElem} (h : TwoF o a) (ho : o.length ≤ 100) (ha : a.length ≤ 100) : ∃ x, ref_DiffAct o a = some x ∧ WfA x ∧ x.us = unitsD (deltaOf (wayU o a)) ∧ (∀ u ∈ x.us, OkW u) ∧ x.us.length ≤ 200 ∧ x.Cuts.length = o.length ∧
    diff_Raw o a = some (deltaOf (wayU o a)) ∧ merge_read (o.length : Int) (deltaOf (wayU o a)) = some (sideOf x) := by
  obtain ⟨w1, w2, w3, w4, w5, w6⟩ := way_facts h (by omega) (by omega)
  have hg := goodD_of w4
  have hold : oldD (deltaOf (wayU o a)) = (o.length : Int) := by
    have := (cd_fl (dOn_cd fun u hu => okW_un (w1 u hu))).2.2.1
    rw [wayU_cnt] at this
    exact this
  obtain ⟨x, x1, x2⟩ := ref_DiffAct_eq o a h (by omega) (by omega)
  have hxu : ∀ u ∈ x.us, u ∈ wayU o a := by
    obtain ⟨_, _, _, _, _, _, _, h6, _⟩ := x2
    exact h6
  have hxw : ∀ u ∈ x.us, OkW u := fun u hu => w1 u (hxu u hu)
  have hwl := wayU_len o a
  have hc : x.Cuts.length = o.length := by
    have q1 := x2.wf.cnt
    have q2 := cntR_unitsD hg.st
    rw [x2.units] at q2
    omega
  refine ⟨x, x1, x2.wf, x2.units.symm, hxw, by rw [x2.len]; omega, hc, diff_Raw_eq o a h (by omega) (by omega), ?_⟩
  exact merge_read_eq o.length _ hg w3 (by omega) (by omega) hold x2.wf x2.units.symm
structure In3 (o a b : List GElem) : Prop where
  oa : InF o a
  ob : InF o b
  lo : o.length ≤ 100
  la : a.length ≤ 100
  lb : b.length ≤ 100
theorem In3.at_ {o a b : List GElem} (h : In3 o a b) {k : Nat} (hk : k < 3) : (∀ e ∈ ([o, a, b] : List (List GElem))[k]!, okA e.Attrs) ∧ ([o, a, b] : List (List GElem))[k]!.length ≤ 100 := by
  match k, hk with
  | 0, _ => exact ⟨h.oa.oa, h.lo⟩
  | 1, _ => exact ⟨h.oa.ob, h.la⟩
  | 2, _ => exact ⟨h.ob.ob, h.lb⟩
theorem find3 {ρ : Type} (o a b : List GElem) (g : List GElem → Option ρ) : (List.range 3).findSome? (fun k => g ([o, a, b] : List (List GElem))[k]!) = (match g o with | some r => some r | none => match g a with | some r => some r | none => g b) := by
  show (match g o with | some r => some r | none => match g a with | some r => some r | none => match g b with | some r => some r | none => none) = _
  cases g o <;> cases g a <;> cases g b <;> rfl
def chkG (f : List GElem) : Option (List GElem × List GConflict × Int) := if partErr f = 0 then none else some (([] : List GElem), ([] : List GConflict), partErr f)
def lawG (r2 : List GElem) (r3 : List GConflict) (r4 : Int) (f : List GElem) : Option Bool := if partErr f = 0 then none else some ((decide (r4 = partErr f)) && (decide ((if r4 = partErr f then (r2.length : Int) + (r3.length : Int) else 0) = 0)))
theorem flows_check (o a b : List GElem) (h : In3 o a b) : iter (fun (z : Int) => merge_Flows_L1 o a b z) 0 = some (outOf ((List.range 3).findSome? fun k => chkG ([o, a, b] : List (List GElem))[k]!)) := by
  refine iter_find (n := 3) (fun k => chkG ([o, a, b] : List (List GElem))[k]!) (fun k hk => ?_) ?_
  · obtain ⟨h1, h2⟩ := h.at_ hk
    unfold merge_Flows_L1
    rw [if_pos (by rw [decide_eq_true_eq]; omega), idx_nat (by simpa using hk), bnd1_some, flow_CheckPart_eq _ (okE_of h1) (by omega), bnd1_some]
    unfold chkG
    by_cases e : partErr ([o, a, b] : List (List GElem))[k]! = 0
    · rw [if_neg (ndF e), if_pos e, chk_nat (by omega), bnd1_some]; rfl
    · rw [if_pos (ndT e), if_neg e]; rfl
  · unfold merge_Flows_L1
    rw [if_neg (by decide)]
theorem flows_len (o a b : List GElem) (h : In3 o a b) : iter (fun (z : Int) => merge_Flows_L2 o a b z) 0 = some (.nrm ()) := by
  have := iter_find (f := fun (z : Int) => merge_Flows_L2 o a b z) (n := 3) (fun _ => none) (fun k hk => by
    obtain ⟨h1, h2⟩ := h.at_ hk
    unfold merge_Flows_L2
    rw [if_pos (by rw [decide_eq_true_eq]; omega), idx_nat (by simpa using hk), bnd1_some, if_neg (by rw [decide_eq_true_eq]; omega), chk_nat (by omega), bnd1_some]; rfl) (by unfold merge_Flows_L2; rw [if_neg (by decide)])
  rw [this]
  rfl
theorem flows_ok {o a b : List GElem} (h : In3 o a b) (e1 : partErr o = 0) (e2 : partErr a = 0) (e3 : partErr b = 0) : ∃ x y, Sides o x y ∧ ref_DiffAct o a = some x ∧ ref_DiffAct o b = some y ∧ x.us = unitsD (deltaOf (wayU o a)) ∧ y.us = unitsD (deltaOf (wayU o b)) ∧
    merge_Flows o a b = some ((finP o x y).1, (finP o x y).2, 0) := by
  have t1 := h.oa.two e1 e2
  have t2 := h.ob.two e1 e3
  obtain ⟨x, x1, x2, x3, x4, x5, x6, x7, x8⟩ := way_read t1 h.lo h.la
  obtain ⟨y, y1, y2, y3, y4, y5, y6, y7, y8⟩ := way_read t2 h.lo h.lb
  have hS : Sides o x y := ⟨x2, y2, x6, y6, h.lo, x4, y4, by omega, by omega, t1.ea⟩
  refine ⟨x, y, hS, x1, y1, x3, y3, ?_⟩
  have hf := fin_ok hS
  have lo := h.lo
  obtain ⟨s1, s2, s3, s4⟩ := st_ok hS o.length (Nat.le_refl _)
  obtain ⟨a1, a2⟩ := add_at x2 x4 (k := o.length) (by omega)
  obtain ⟨b1, b2⟩ := add_at y2 y4 (k := o.length) (by omega)
  have hax := x2.adds
  have hay := y2.adds
  have hm : merge_flows 0 o a b = some ((finP o x y).1, (finP o x y).2) := by
    unfold merge_flows
    rw [x7, bnd1_some, x8, bnd1_some, y7, bnd1_some, y8, bnd1_some, merge_loop hS, bnd1_some]
    unfold sideOf
    dsimp only
    rw [idx_nat (by omega), bnd1_some, idx_nat (by omega), bnd1_some, gap_eq _ _ _ (by omega) (by omega) (by omega) (by omega) (fun e he => (a2 e he).1), bnd1_some]
    show (bnd1 (flow_Copy (finP o x y).1) fun (r5 : List GElem) => some (r5, (finP o x y).2)) = _
    rw [flow_Copy_eq _ (by have := hf.l1; omega) hf.ea, bnd1_some]
  unfold merge_Flows
  rw [flows_check o a b h, find3 o a b chkG]
  unfold chkG
  rw [if_pos e1, if_pos e2, if_pos e3]
  dsimp only
  rw [show outOf (none : Option (List GElem × List GConflict × Int)) = .nrm () from rfl, ctl1_nrm, flows_len o a b h, ctl1_nrm, hm, bnd2_some]
def eX : GElem := ⟨120, 0, []⟩
def eY : GElem := ⟨121, 0, []⟩
theorem inF_bare {a b : List GElem} (ha : ∀ e ∈ a, e.Attrs = []) (hb : ∀ e ∈ b, e.Attrs = []) (la : a.length ≤ 100) (lb : b.length ≤ 100) : InF a b :=
  ⟨by omega, by omega, fun e he => by rw [ha e he]; exact okA_nil, fun e he => by rw [hb e he]; exact okA_nil, fun e he => by rw [ha e he]; simp, fun e he => by rw [hb e he]; simp, fun x hx y hy => by rw [ha x hx, hb y hy]; simp⟩
theorem way_in {z : GElem} (h1 : alikeB eB z = false) (h2 : z.Char ≠ 10 ∨ True) : wayU [eA, eB] [eA, z, eB] = [.r false [], .a z, .r false []] := by
  have cA : chgX eA eA = [] := (chgX_nil (by decide) (by decide)).2 rfl
  have cB : chgX eB eB = [] := (chgX_nil (by decide) (by decide)).2 rfl
  have k1 : costN [eB] [z, eB] = 1 := by
    rw [costN_cons, h1, if_neg (by decide), costN_nil, cost_bb]; rfl
  have k2 : costN [eA, eB] [eA, z, eB] = 1 := by
    rw [costN_cons, if_pos (by decide), k1, show priceN eA eA = 0 from rfl]; omega
  have ht : tiedB [eA, eB] [eA, z, eB] = false := rfl
  unfold wayU
  rw [ht, if_neg (by decide), walkU_cons, if_pos ⟨by decide, by rw [k2, k1]; rfl⟩, walkU_cons, if_neg (by rw [h1]; rintro ⟨h, _⟩; cases h), if_neg (by rw [k1, costN_nil]; simp), walkU_cons, if_pos ⟨by decide, by rw [cost_bb, costN_nil]; rfl⟩, walkU_nil, cA, cB]
theorem units_in (z : GElem) : unitsD (deltaOf [.r false [], .a z, .r false []]) = [.r false [], .a z, .r false []] := rfl
theorem act_in {x : Ref_Act} {z : GElem} (h : WfA x) (hu : x.us = unitsD (deltaOf [.r false [], .a z, .r false []])) : x = ⟨[[], [z], []], [false, false], [[], []]⟩ :=
  wf_inj h ⟨rfl, rfl⟩ (by rw [hu, units_in]; rfl)
theorem law_merges_eq : law_merges = some true := by
  have b2 : ∀ e ∈ [eA, eB], e.Attrs = [] := by intro e he; simp at he; rcases he with rfl | rfl <;> rfl
  have bx : ∀ e ∈ [eA, eX, eB], e.Attrs = [] := by intro e he; simp at he; rcases he with rfl | rfl | rfl <;> rfl
  have by_ : ∀ e ∈ [eA, eY, eB], e.Attrs = [] := by intro e he; simp at he; rcases he with rfl | rfl | rfl <;> rfl
  have hI : In3 [eA, eB] [eA, eX, eB] [eA, eY, eB] := ⟨inF_bare b2 bx (by decide) (by decide), inF_bare b2 by_ (by decide) (by decide), by decide, by decide, by decide⟩
  obtain ⟨x, y, hS, _, _, hxu, hyu, hm⟩ := flows_ok hI (by decide) (by decide) (by decide)
  rw [way_in (by decide) (.inr trivial)] at hxu hyu
  have ex := act_in hS.wx hxu
  have ey := act_in hS.wy hyu
  have hfin : finP [eA, eB] x y = ([eA, eX, eY, eB], [⟨0, 0, 1, 3, []⟩]) := by
    rw [ex, ey]
    decide +kernel
  rw [hfin] at hm
  unfold law_merges
  rw [law_letters_eq _ (by decide), bnd1_some, law_letters_eq _ (by decide), bnd1_some, law_letters_eq _ (by decide), bnd1_some]
  show bnd3 (merge_Flows [eA, eB] [eA, eX, eB] [eA, eY, eB]) _ = _
  rw [hm, bnd3_some, if_pos (by decide), law_letters_eq _ (by decide), bnd1_some, ref_SameFlow_eq _ _ (by decide) (by decide), bnd1_some]
  rfl
theorem same_confl (c : List GConflict) (h : ∀ z ∈ c, z.Node = 0) (hm : c.length ≤ 1000000000) : ref_SameConflicts c c 0 = some true := by
  unfold ref_SameConflicts
  rw [if_neg (by simp), iter_find (n := c.length) (fun _ => none) (fun k hk => by
    have hz := h _ (mem_at hk)
    unfold ref_SameConflicts_L1
    rw [if_pos (by simpa using hk), idx_nat hk, bnd1_some, bnd1_some, chk_nat (by omega), hz]
    simp [stepOf]) (by unfold ref_SameConflicts_L1; rw [if_neg (by simp)])]
  have : (List.range c.length).findSome? (fun _ => (none : Option Bool)) = none := by simp
  rw [this]; rfl
theorem law_check (o a b r2 : List GElem) (r3 : List GConflict) (r4 : Int) (h : In3 o a b) (h2 : r2.length ≤ 1000000) (h3 : r3.length ≤ 1000000000) : iter (fun (z : Int) => law_MergeFlowsMatch_L1 o a b r2 r3 r4 z) 0 = some (outOf ((List.range 3).findSome? fun k => lawG r2 r3 r4 ([o, a, b] : List (List GElem))[k]!)) := by
  refine iter_find (n := 3) (fun k => lawG r2 r3 r4 ([o, a, b] : List (List GElem))[k]!) (fun k hk => ?_) ?_
  · obtain ⟨g1, g2⟩ := h.at_ hk
    unfold law_MergeFlowsMatch_L1
    rw [if_pos (by rw [decide_eq_true_eq]; omega), idx_nat (by simpa using hk), bnd1_some, ref_PartError_eq _ (okE_of g1) (by omega), bnd1_some]
    unfold lawG
    by_cases e : partErr ([o, a, b] : List (List GElem))[k]! = 0
    · rw [if_neg (ndF e), if_pos e, chk_nat (by omega), bnd1_some]; rfl
    · rw [if_pos (ndT e), if_neg e]
      by_cases q : r4 = partErr ([o, a, b] : List (List GElem))[k]!
      · rw [decide_eq_true q, if_pos q]
        simp only [beq_self_eq_true, gd_true]
        rw [chk64 (by omega) (by omega), bnd1_some]; rfl
      · rw [decide_eq_false q, if_neg q]
        simp only [show (false == true) = false from rfl, gd_false, bnd1_some]
        rfl
  · unfold law_MergeFlowsMatch_L1
    rw [if_neg (by decide)]
theorem law_MergeFlows_true (o a b : List GElem) (h1 : InF o a) (h2 : InF o b) : law_MergeFlowsMatch o a b = some true := by
  have t1 := take_ite (a := o) 8 (by decide)
  have t2 := take_ite (a := a) 8 (by decide)
  have t3 := take_ite (a := b) 8 (by decide)
  have hI : In3 (o.take 8) (a.take 8) (b.take 8) := ⟨h1.take 8 8, h2.take 8 8, by rw [List.length_take]; omega, by rw [List.length_take]; omega, by rw [List.length_take]; omega⟩
  unfold law_MergeFlowsMatch
  rw [law_merges_eq, bnd1_some, if_neg (by decide)]
  rw [show ((8 : Nat) : Int) = 8 from rfl] at t1 t2 t3
  rw [t1, bnd1_some, t2, bnd1_some, t3, bnd1_some]
  generalize o.take 8 = o2 at hI
  generalize a.take 8 = a2 at hI
  generalize b.take 8 = b2 at hI
  by_cases e : partErr o2 = 0 ∧ partErr a2 = 0 ∧ partErr b2 = 0
  · obtain ⟨e1, e2, e3⟩ := e
    obtain ⟨x, y, hS, x1, y1, _, _, hm⟩ := flows_ok hI e1 e2 e3
    have hf := fin_ok hS
    have f1 := hf.l1
    have f2 := hf.l2
    rw [hm, bnd3_some, law_check _ _ _ _ _ _ hI (by omega) (by omega), find3 _ _ _ (lawG _ _ _)]
    unfold lawG
    rw [if_pos e1, if_pos e2, if_pos e3]
    dsimp only
    rw [show outOf (none : Option Bool) = .nrm () from rfl, ctl1_nrm, ref_Merged_eq hS x1 y1, bnd2_some, show ((decide ((0 : Int) = 0)) == true) = true from rfl, gd_true]
    rw [ref_SameFlow_eq _ _ (by omega) (fun e he => (hf.ea e he).1), bnd1_some, decide_eq_true (rfl : (0 : Int) = 0), decide_eq_true (rfl : (finP o2 x y).1 = (finP o2 x y).1)]
    rw [show ((true && true) == true) = true from rfl, gd_true, same_confl _ hf.nd (by omega), bnd1_some]; rfl
  · have hr : ∃ e : Int, merge_Flows o2 a2 b2 = some ([], [], e) ∧ (match (if partErr o2 = 0 then none else some (partErr o2)) with | some r => some r | none => match (if partErr a2 = 0 then none else some (partErr a2)) with | some r => some r | none => if partErr b2 = 0 then none else some (partErr b2)) = some e := by
      unfold merge_Flows
      rw [flows_check _ _ _ hI, find3 _ _ _ chkG]
      unfold chkG
      by_cases e1 : partErr o2 = 0
      · rw [if_pos e1, if_pos e1]
        by_cases e2 : partErr a2 = 0
        · rw [if_pos e2, if_pos e2]
          have e3 : ¬ partErr b2 = 0 := fun e3 => e ⟨e1, e2, e3⟩
          rw [if_neg e3, if_neg e3]
          exact ⟨_, rfl, rfl⟩
        · rw [if_neg e2, if_neg e2]; exact ⟨_, rfl, rfl⟩
      · rw [if_neg e1, if_neg e1]; exact ⟨_, rfl, rfl⟩
    obtain ⟨e0, r1, r2⟩ := hr
    rw [r1, bnd3_some, law_check _ _ _ _ _ _ hI (by simp) (by simp), find3 _ _ _ (lawG _ _ _)]
    unfold lawG
    have fin : ∀ e1 : Int, e1 = e0 → ((decide (e0 = e1)) && (decide ((if e0 = e1 then (([] : List GElem).length : Int) + (([] : List GConflict).length : Int) else 0) = 0))) = true := by
      rintro e1 rfl
      rw [decide_eq_true rfl, if_pos rfl]; rfl
    by_cases e1 : partErr o2 = 0
    · rw [if_pos e1] at r2 ⊢
      by_cases e2 : partErr a2 = 0
      · rw [if_pos e2] at r2 ⊢
        have e3 : ¬ partErr b2 = 0 := fun e3 => e ⟨e1, e2, e3⟩
        rw [if_neg e3] at r2 ⊢
        dsimp only at r2 ⊢
        injection r2 with r2
        rw [fin _ r2]; rfl
      · rw [if_neg e2] at r2 ⊢
        dsimp only at r2 ⊢
        injection r2 with r2
        rw [fin _ r2]; rfl
    · rw [if_neg e1] at r2 ⊢
      dsimp only at r2 ⊢
      injection r2 with r2
      rw [fin _ r2]; rfl
end Go.Proofs.Ytfkolgjapajekaa.Al

