/- Plain laws over the models, a part of them. -/
import Derived.Test.YtfkolgjapajekaaPL1
namespace Go.Proofs.Ytfkolgjapajekaa.Al
def plusC (y : Ref_Act) (n : Nat) : Ref_Act := ⟨y.Adds ++ List.replicate n [], y.Cuts ++ List.replicate n true, y.Attrs ++ List.replicate n []⟩
theorem plusC_zero (y : Ref_Act) : plusC y 0 = y := by cases y; simp [plusC]
theorem plusC_succ (y : Ref_Act) (n : Nat) : plusC y (n + 1) = ⟨(plusC y n).Adds ++ [[]], (plusC y n).Cuts ++ [true], (plusC y n).Attrs ++ [[]]⟩ := by
  unfold plusC
  dsimp only
  rw [List.append_assoc, List.append_assoc, List.append_assoc, ← List.replicate_succ', ← List.replicate_succ', ← List.replicate_succ']
theorem plusC_ok {y : Ref_Act} (h : WfA y) : ∀ n, WfA (plusC y n) ∧ (plusC y n).us = y.us ++ List.replicate n (.r true [])
  | 0 => by rw [plusC_zero]; exact ⟨h, by simp⟩
  | n + 1 => by
    obtain ⟨h1, h2⟩ := plusC_ok h n
    rw [plusC_succ, List.replicate_succ', ← List.append_assoc, ← h2]
    exact push_row h1 true []
def unitsW (s : DS) : List Un := unitsD s.out ++ s.adds.map Un.a
def nnW (s : DS) : Prop := ∀ x ∈ s.out, 0 ≤ x.N
theorem unitsD_dFl (s : DS) (h : nnW s) : unitsD (dFl s) = unitsW s ++ List.replicate s.cuts (.r true []) ∧ ∀ x ∈ dFl s, 0 ≤ x.N := by
  obtain ⟨o, A, c⟩ := s
  unfold dFl unitsW
  dsimp only
  have h1 : unitsD (if 0 < A.length then o ++ [⟨1, 0, [], A⟩] else o) = unitsD o ++ A.map Un.a ∧ ∀ x ∈ (if 0 < A.length then o ++ [⟨1, 0, [], A⟩] else o), 0 ≤ x.N := by
    by_cases hA : 0 < A.length
    · rw [if_pos hA]
      refine ⟨by rw [unitsD_app]; simp [unitsD, unitsS], fun x hx => ?_⟩
      rcases List.mem_append.1 hx with hx | hx
      · exact h x hx
      · rw [List.mem_singleton] at hx; subst hx; exact Int.le_refl 0
    · rw [if_neg hA]
      obtain rfl : A = [] := List.eq_nil_of_length_eq_zero (by omega)
      exact ⟨by simp, h⟩
  by_cases hc : 0 < c
  · rw [if_pos hc, unitsD_app, h1.1]
    refine ⟨by simp [unitsD, unitsS], fun x hx => ?_⟩
    rcases List.mem_append.1 hx with hx | hx
    · exact h1.2 x hx
    · rw [List.mem_singleton] at hx; subst hx; exact Int.natCast_nonneg c
  · rw [if_neg hc, List.append_nil]
    obtain rfl : c = 0 := by omega
    exact ⟨by rw [h1.1]; simp, h1.2⟩
def IsA (us : List Un) (x : Ref_Act) : Prop :=
  ∃ y n, WfA y ∧ x = plusC y n ∧ (0 < y.Cuts.length → y.Cuts[y.Cuts.length - 1]! = false) ∧ dOn x.us = dOn us ∧ x.us.length = us.length ∧ (∀ u ∈ x.us, u ∈ us) ∧ unitsW (dOn us) = y.us ∧ (dOn us).cuts = n ∧ nnW (dOn us)
theorem isA_nil : IsA [] ⟨[[]], [], []⟩ := ⟨⟨[[]], [], []⟩, 0, wfA_nil, (plusC_zero _).symm, fun h => absurd h (Nat.lt_irrefl 0), rfl, rfl, fun u hu => (by cases hu), rfl, rfl, fun x hx => (by cases hx)⟩
theorem IsA.wf {us : List Un} {x : Ref_Act} (h : IsA us x) : WfA x := by
  obtain ⟨y, n, h1, rfl, _⟩ := h
  exact (plusC_ok h1 n).1
theorem IsA.len {us : List Un} {x : Ref_Act} (h : IsA us x) : x.us.length = us.length := by
  obtain ⟨y, n, _, _, _, _, h, _⟩ := h
  exact h
theorem IsA.units {us : List Un} {x : Ref_Act} (h : IsA us x) : unitsD (deltaOf us) = x.us := by
  obtain ⟨y, n, h1, rfl, _, _, _, _, h7, h8, h9⟩ := h
  rw [deltaOf_dOn, (unitsD_dFl _ h9).1, h7, h8, (plusC_ok h1 n).2]
theorem isA_keep {us : List Un} {x : Ref_Act} (h : IsA us x) (t : List GAttr) : IsA (us ++ [.r false t]) ⟨x.Adds ++ [[]], x.Cuts ++ [false], x.Attrs ++ [t]⟩ := by
  obtain ⟨w1, w2⟩ := push_row h.wf false t
  have hun := h.units
  obtain ⟨y, n, h1, h2, h3, h4, h5, h6, h7, h8, h9⟩ := h
  have hbp := unitsD_bump t (unitsD_dFl _ h9).2
  refine ⟨_, 0, w1, (plusC_zero _).symm, fun _ => ?_, ?_, ?_, ?_, ?_, ?_, ?_⟩
  · dsimp only
    rw [List.length_append, List.length_singleton, Nat.add_sub_cancel, getElem!_pos _ _ (by simp), List.getElem_append_right (Nat.le_refl _)]
    simp
  · rw [w2, dOn_snoc, dOn_snoc, h4]
  · rw [w2, List.length_append, List.length_append, h5]
  · rw [w2]
    intro u hu
    rcases List.mem_append.1 hu with hu | hu
    · exact List.mem_append_left _ (h6 u hu)
    · exact List.mem_append_right _ hu
  · rw [w2, ← hun, dOn_snoc]
    show unitsD (bumpD (dFl (dOn us)) t) ++ [] = _
    rw [List.append_nil, hbp.1]; rfl
  · rw [dOn_snoc]; rfl
  · rw [dOn_snoc]; exact hbp.2
theorem isA_cut {us : List Un} {x : Ref_Act} (h : IsA us x) : IsA (us ++ [.r true []]) ⟨x.Adds ++ [[]], x.Cuts ++ [true], x.Attrs ++ [[]]⟩ := by
  obtain ⟨w1, w2⟩ := push_row h.wf true []
  obtain ⟨y, n, h1, rfl, h3, h4, h5, h6, h7, h8, h9⟩ := h
  refine ⟨y, n + 1, h1, (plusC_succ y n).symm, h3, ?_, ?_, ?_, by rw [dOn_snoc]; exact h7, by rw [dOn_snoc, ← h8]; rfl, by rw [dOn_snoc]; exact h9⟩
  · rw [w2, dOn_snoc, dOn_snoc, h4]
  · rw [w2, List.length_append, List.length_append, h5]
  · rw [w2]
    intro u hu
    rcases List.mem_append.1 hu with hu | hu
    · exact List.mem_append_left _ (h6 u hu)
    · exact List.mem_append_right _ hu
theorem skip_cuts (y : Ref_Act) (n : Nat) (h : WfA y) (hlast : 0 < y.Cuts.length → y.Cuts[y.Cuts.length - 1]! = false) (hb : y.Cuts.length + n ≤ 1073741824) :
    ∀ j, j ≤ n → iter (fun (a : Int) => ref_DiffAct_L2 (plusC y n) a) ((y.Cuts.length + j : Nat) : Int) = some ((y.Cuts.length : Nat) : Int) := by
  have hcl : (plusC y n).Cuts.length = y.Cuts.length + n := by simp [plusC]
  intro j
  induction j with
  | zero =>
    intro _
    rw [Nat.add_zero]
    by_cases h0 : 0 < y.Cuts.length
    · have hg : (plusC y n).Cuts[y.Cuts.length - 1]! = false := by
        rw [← hlast h0, getElem!_pos (plusC y n).Cuts _ (by omega), getElem!_pos y.Cuts _ (by omega)]
        exact List.getElem_append_left (by omega)
      refine iter_stop (f := fun (a : Int) => ref_DiffAct_L2 (plusC y n) a) ?_
      show ref_DiffAct_L2 (plusC y n) ((y.Cuts.length : Nat) : Int) = _
      unfold ref_DiffAct_L2
      rw [decide_eq_true (show (0 : Int) < ((y.Cuts.length : Nat) : Int) by omega)]
      simp only [beq_self_eq_true, gd_true, Bool.true_and]
      rw [chk_pred h0 (by omega), bnd1_some, idx_nat (by omega), bnd1_some, hg, if_neg (by decide)]
    · refine iter_stop (f := fun (a : Int) => ref_DiffAct_L2 (plusC y n) a) ?_
      show ref_DiffAct_L2 (plusC y n) ((y.Cuts.length : Nat) : Int) = _
      unfold ref_DiffAct_L2
      rw [decide_eq_false (show ¬ (0 : Int) < ((y.Cuts.length : Nat) : Int) by omega)]
      simp only [show (false == true) = false from rfl, gd_false, bnd1_some, Bool.false_and]
      rw [if_neg (by decide)]
  | succ j ih =>
    intro hj
    have hg : (plusC y n).Cuts[y.Cuts.length + j]! = true := by
      show (y.Cuts ++ List.replicate n true)[y.Cuts.length + j]! = true
      rw [getElem!_pos _ _ (by rw [List.length_append, List.length_replicate]; omega), List.getElem_append_right (by omega)]; simp
    have hstep : ref_DiffAct_L2 (plusC y n) ((y.Cuts.length + (j + 1) : Nat) : Int) = some (.inl ((y.Cuts.length + j : Nat) : Int)) := by
      unfold ref_DiffAct_L2
      rw [decide_eq_true (show (0 : Int) < ((y.Cuts.length + (j + 1) : Nat) : Int) by omega)]
      simp only [beq_self_eq_true, gd_true, Bool.true_and]
      rw [chk_pred (by omega) (by omega), bnd1_some, show y.Cuts.length + (j + 1) - 1 = y.Cuts.length + j by omega, idx_nat (by omega), bnd1_some, hg, if_pos rfl, bnd1_some]
    rw [iter_next (f := fun (a : Int) => ref_DiffAct_L2 (plusC y n) a) hstep, ih (by omega)]
theorem isA_add {us : List Un} {x : Ref_Act} (h : IsA us x) (hb : us.length ≤ 1073741824) (e : GElem) : ∃ k1 : Int, chk .i64 ((x.Adds.length : Int) - 1) = some k1 ∧ ∃ x', IsA (us ++ [.a e]) x' ∧
    ∀ (a3 b4 : List GElem), daAdd a3 (e :: b4) x k1 = some (.inl (a3, b4, x')) := by
  have hlen := h.len
  obtain ⟨y, n, h1, rfl, h3, h4, h5, h6, h7, h8, h9⟩ := h
  obtain ⟨w1, w2⟩ := plusC_ok h1 n
  have hcl : (plusC y n).Cuts.length = y.Cuts.length + n := by simp [plusC]
  have hcu := w1.cuts_le
  obtain ⟨v1, v2⟩ := push_add h1 [e]
  obtain ⟨z1, z2⟩ := plusC_ok v1 n
  have ha := h1.adds
  have hg : (plusC y n).Adds[y.Cuts.length]! = y.Adds[y.Cuts.length]! := by
    rw [getElem!_pos (plusC y n).Adds _ (by rw [w1.adds]; omega), getElem!_pos y.Adds _ (by omega)]
    exact List.getElem_append_left (by omega)
  have hal := w1.add_le (k := y.Cuts.length) (by rw [w1.adds]; omega)
  refine ⟨_, last_add w1 (by omega), _, ⟨_, n, v1, rfl, h3, ?_, ?_, ?_, by
    rw [v2, ← h7, dOn_snoc]
    show unitsD (dOn us).out ++ ((dOn us).adds ++ [e]).map Un.a = _
    unfold unitsW
    rw [List.map_append, List.append_assoc], by rw [dOn_snoc]; exact h8, by rw [dOn_snoc]; exact h9⟩, fun a3 b4 => ?_⟩
  · rw [z2, v2, dOn_snoc, ← h4, w2]
    have q1 := dOn_cut (y.us ++ [e].map Un.a) n []
    have q2 := dOn_adds y.us [e]
    have q3 := dOn_cut y.us n []
    rw [← q1, ← q2, ← q3]; rfl
  · rw [z2, v2, List.length_append, List.length_append, List.length_append, ← h5, w2]; simp; omega
  · rw [z2, v2]
    rw [w2] at h6
    intro u hu
    rcases List.mem_append.1 hu with hu | hu
    · rcases List.mem_append.1 hu with hu | hu
      · exact List.mem_append_left _ (h6 u (List.mem_append_left _ hu))
      · exact List.mem_append_right _ hu
    · exact List.mem_append_left _ (h6 u (List.mem_append_right _ hu))
  · unfold daAdd
    rw [hcl, skip_cuts y n h1 h3 (by omega) n (Nat.le_refl _), bnd1_some, idx_nat (by rw [w1.adds]; omega), bnd1_some, hg, app40 (by rw [hg] at hal; rw [List.length_nil]; omega), bnd1_some, List.nil_append, idx_hd, bnd1_some, app40 (by rw [hg] at hal; rw [List.length_singleton]; omega), bnd1_some, slc_tl, bnd1_some, set_eq]
    have : (plusC y n).Adds.set y.Cuts.length (y.Adds[y.Cuts.length]! ++ [e]) = y.Adds.set y.Cuts.length (y.Adds[y.Cuts.length]! ++ [e]) ++ List.replicate n [] := by
      show (y.Adds ++ List.replicate n []).set _ _ = _
      exact List.set_append_left _ _ (by omega)
    rw [this]; rfl
def Tl (tied : Bool) (sa sb : List GElem) : Prop := (tied = false ∧ sa = [] ∧ sb = []) ∨ (tied = true ∧ ∃ p q, sa = [p] ∧ sb = [q])
def cT (sa sb : List GElem) : Nat := match sa, sb with | [p], [q] => priceN p q | _, _ => 0
theorem cT_le (sa sb : List GElem) : cT sa sb ≤ 1 := by
  unfold cT
  split
  · unfold priceN; split <;> omega
  · omega
theorem cost_tl {tied : Bool} {sa sb : List GElem} (T : Tl tied sa sb) (a b : List GElem) (h : TwoF (a ++ sa) (b ++ sb)) (ha : a.length ≤ 262144) (hb : b.length ≤ 262144) :
    ref_DiffCost (a ++ sa) (b ++ sb) tied = some ((costN a b + cT sa sb : Nat) : Int) ∧ costN a b + cT sa sb ≤ 1048576 := by
  have hc := cost_le a b
  have ht := cT_le sa sb
  refine ⟨?_, by omega⟩
  rcases T with ⟨rfl, rfl, rfl⟩ | ⟨rfl, p, q, rfl, rfl⟩
  · rw [List.append_nil, List.append_nil] at h ⊢
    rw [DiffCost_false a b (by omega) (by omega) (fun e he => by have := (h.ea e he).2; omega)]; rfl
  · rw [DiffCost_true _ _ (by simp; omega) (by simp; omega) (fun e he => by have := (h.ea e he).2; omega) (by simp) (by simp)]
    unfold tiedN
    have e1 : ∀ (l : List GElem) (z : GElem), (l ++ [z])[(l ++ [z]).length - 1]! = z := fun l z => by
      rw [List.length_append, List.length_singleton, Nat.add_sub_cancel, getElem!_pos _ _ (by simp), List.getElem_append_right (Nat.le_refl _)]; simp
    have e2 : ∀ (l : List GElem) (z : GElem), (l ++ [z]).take ((l ++ [z]).length - 1) = l := fun l z => by
      rw [List.length_append, List.length_singleton, Nat.add_sub_cancel, List.take_left']; rfl
    rw [e1, e1, e2, e2, Nat.add_comm]; rfl
theorem wfA_bound {us : List Un} {x : Ref_Act} (h : IsA us x) (hb : us.length ≤ 1073741824) : x.Adds.length ≤ 1073741825 ∧ x.Cuts.length ≤ 1073741824 ∧ x.Attrs.length ≤ 1073741824 := by
  have h1 := h.wf.cuts_le
  have h2 := h.wf.adds
  have h3 := h.wf.attrs
  have h4 := h.len
  omega
theorem daCut_eq {us : List Un} {o : Ref_Act} (hx : IsA us o) (hb : us.length ≤ 1073741824) (x : GElem) (a4 b3 : List GElem) : daCut (x :: a4) b3 o = some (.inl (a4, b3, ⟨o.Adds ++ [[]], o.Cuts ++ [true], o.Attrs ++ [[]]⟩)) := by
  obtain ⟨h1, h2, h3⟩ := wfA_bound hx hb
  unfold daCut
  rw [app24 (by omega), bnd1_some, app1c (by omega), bnd1_some, app24 (by omega), bnd1_some, slc_tl, bnd1_some]
theorem daKeep_eq {us : List Un} {o : Ref_Act} (hx : IsA us o) (hb : us.length ≤ 1073741824) (tied : Bool) (x y : GElem) (a4 b4 : List GElem) (h1 : elemErr x = 0) (h2 : elemErr y = 0) (h3 : x.Attrs.length + y.Attrs.length ≤ 1048576) :
    daKeep tied (x :: a4) (y :: b4) o = if ((tied && (decide (((x :: a4).length : Int) = 1))) && (decide (((y :: b4).length : Int) = 1))) = true then some (.inr (.ext ⟨o.Adds ++ [[]], o.Cuts ++ [false], o.Attrs ++ [chgX x y]⟩)) else some (.inl (a4, b4, ⟨o.Adds ++ [[]], o.Cuts ++ [false], o.Attrs ++ [chgX x y]⟩)) := by
  obtain ⟨b1, b2, b3⟩ := wfA_bound hx hb
  unfold daKeep
  rw [app24 (by omega), bnd1_some, app1c (by omega), bnd1_some, idx_hd, bnd1_some, idx_hd, bnd1_some, between_chg h1 h2 h3, bnd1_some, app24 (by omega), bnd1_some, slc_tl, bnd1_some, slc_tl, bnd1_some]
theorem da_round {tied : Bool} {sa sb : List GElem} (T : Tl tied sa sb) (a b : List GElem) (us : List Un) (o : Ref_Act) (hx : IsA us o) (h : TwoF (a ++ sa) (b ++ sb)) (ha : a.length ≤ 262144) (hb : b.length ≤ 262144) (hu : us.length ≤ 1048576) (hne : a ≠ [] ∨ b ≠ []) :
    ∃ a' b' u x', ref_DiffAct_L1 tied (a ++ sa) (b ++ sb) o = some (.inl (a' ++ sa, b' ++ sb, x')) ∧ walkU a b = u :: walkU a' b' ∧ IsA (us ++ [u]) x' ∧ a'.length + b'.length < a.length + b.length ∧ a'.length ≤ a.length ∧ b'.length ≤ b.length ∧ TwoF (a' ++ sa) (b' ++ sb) := by
  have hlen : ∀ {z : GElem} {l s : List GElem}, Tl tied sa sb → (s = sa ∨ s = sb) → tied = true → 1 < (z :: (l ++ s)).length := by
    intro z l s T hs ht
    rcases T with ⟨rfl, _⟩ | ⟨_, p, q, rfl, rfl⟩
    · cases ht
    · rcases hs with rfl | rfl <;> simp
  match a, b, hne with
  | x :: a1, y :: b1, _ =>
    simp only [List.length_cons] at ha hb
    have hA : TwoF (a1 ++ sa) (y :: b1 ++ sb) := h.tlA
    have hB : TwoF (x :: a1 ++ sa) (b1 ++ sb) := h.tlB
    obtain ⟨c0, l0⟩ := cost_tl T (x :: a1) (y :: b1) h (by simpa using ha) (by simpa using hb)
    obtain ⟨c1, l1⟩ := cost_tl T a1 b1 hA.tlB (by omega) (by omega)
    obtain ⟨c2, l2⟩ := cost_tl T a1 (y :: b1) hA (by omega) (by simpa using hb)
    obtain ⟨k1, hk, x', hx', hadd⟩ := isA_add hx (by omega) y
    have hmx : x ∈ x :: a1 ++ sa := List.mem_cons_self ..
    have hmy : y ∈ y :: b1 ++ sb := List.mem_cons_self ..
    have hr := da_both tied x y (a1 ++ sa) (b1 ++ sb) o k1 hk (fun ht => ⟨hlen T (.inl rfl) ht, hlen T (.inr rfl) ht⟩) _ _ _ c0 c1 c2 (by omega) (by omega) (h.ea _ hmx).2
    have hw := walkU_cons x y a1 b1
    by_cases g1 : alikeB x y = true ∧ costN (x :: a1) (y :: b1) = costN a1 b1 + priceN x y
    · rw [if_pos g1] at hw
      rw [if_pos ⟨g1.1, by have := g1.2; omega⟩, daKeep_eq hx (by omega) tied x y _ _ (h.ea _ hmx).1 (h.eb _ hmy).1 (h.ab _ hmx _ hmy), if_neg (by
        cases tied with
        | false => simp
        | true => have := hlen (z := x) (l := a1) T (.inl rfl) rfl; rw [decide_eq_false (by omega)]; simp)] at hr
      exact ⟨a1, b1, _, _, hr, hw, isA_keep hx _, by simp only [List.length_cons]; omega, by simp, by simp, hA.tlB⟩
    · rw [if_neg g1] at hw
      rw [if_neg (fun g => g1 ⟨g.1, by have := g.2; omega⟩)] at hr
      by_cases g2 : costN (x :: a1) (y :: b1) = 1 + costN a1 (y :: b1)
      · rw [if_pos g2] at hw
        rw [if_pos (by omega), daCut_eq hx (by omega)] at hr
        exact ⟨a1, y :: b1, _, _, hr, hw, isA_cut hx, by simp only [List.length_cons]; omega, by simp, Nat.le_refl _, hA⟩
      · rw [if_neg g2] at hw
        rw [if_neg (by omega), hadd] at hr
        exact ⟨x :: a1, b1, _, _, hr, hw, hx', by simp only [List.length_cons]; omega, Nat.le_refl _, by simp, hB⟩
  | x :: a1, [], _ =>
    simp only [List.length_cons] at ha
    have hA : TwoF (a1 ++ sa) ([] ++ sb) := h.tlA
    obtain ⟨c0, l0⟩ := cost_tl T (x :: a1) [] h (by simpa using ha) (by simp)
    obtain ⟨c2, l2⟩ := cost_tl T a1 [] hA (by omega) (by simp)
    rw [List.nil_append] at c0 c2
    have hk := last_add hx.wf (by have := wfA_bound hx (by omega); omega)
    have hr := da_not tied (x :: a1 ++ sa) sb o _ hk (.inl (by simp)) _ c0 (by
      rcases T with ⟨rfl, rfl, rfl⟩ | ⟨rfl, p, q, rfl, rfl⟩
      · left; simp
      · right
        refine ⟨rfl, ?_, by simp⟩
        rw [decide_eq_false (by simp only [List.cons_append, List.length_cons, List.length_append]; omega)]; rfl)
    rw [List.cons_append, rest_some tied x (a1 ++ sa) sb o _ (fun ht => hlen T (.inl rfl) ht) _ _ c2 (by omega), if_pos (by rw [costN_nil2, costN_nil2, List.length_cons]; omega), daCut_eq hx (by omega)] at hr
    exact ⟨a1, [], _, _, hr, walkU_cut x a1, isA_cut hx, by simp, by simp, Nat.le_refl _, hA⟩
  | [], y :: b1, _ =>
    simp only [List.length_cons] at hb
    have hB : TwoF ([] ++ sa) (b1 ++ sb) := h.tlB
    obtain ⟨c0, l0⟩ := cost_tl T [] (y :: b1) h (by simp) (by simpa using hb)
    rw [List.nil_append] at c0
    obtain ⟨k1, hk, x', hx', hadd⟩ := isA_add hx (by omega) y
    have hr := da_not tied sa (y :: b1 ++ sb) o _ hk (.inr (by simp)) _ c0 (by
      rcases T with ⟨rfl, rfl, rfl⟩ | ⟨rfl, p, q, rfl, rfl⟩
      · left; simp
      · right
        refine ⟨rfl, ?_, by simp⟩
        rw [decide_eq_false (show ¬ (((y :: b1 ++ [q]).length : Nat) : Int) = 1 by simp only [List.cons_append, List.length_cons, List.length_append]; omega)]; simp)
    rw [rest_none tied sa _ o _ _ (by
      rcases T with ⟨rfl, rfl, rfl⟩ | ⟨rfl, p, q, rfl, rfl⟩ <;> simp), List.cons_append, hadd] at hr
    exact ⟨[], b1, _, _, hr, walkU_add y b1, hx', by simp, Nat.le_refl _, by simp, hB⟩
end Go.Proofs.Ytfkolgjapajekaa.Al


namespace Go.Proofs.Ytfkolgjapajekaa.Al
theorem da_loop {tied : Bool} {sa sb : List GElem} (T : Tl tied sa sb) : ∀ (n : Nat) (a b : List GElem) (us : List Un) (o : Ref_Act), a.length + b.length = n → IsA us o → TwoF (a ++ sa) (b ++ sb) → a.length ≤ 262144 → b.length ≤ 262144 → us.length + n ≤ 1048576 →
    ∃ o', IsA (us ++ walkU a b) o' ∧ iter (fun (z : (List GElem) × (List GElem) × Ref_Act) => ref_DiffAct_L1 tied z.1 z.2.1 z.2.2) (a ++ sa, b ++ sb, o) = iter (fun (z : (List GElem) × (List GElem) × Ref_Act) => ref_DiffAct_L1 tied z.1 z.2.1 z.2.2) (sa, sb, o') := by
  intro n
  induction n using Nat.strongRecOn with
  | _ n ih =>
    intro a b us o hn hx h ha hb hu
    by_cases hne : a ≠ [] ∨ b ≠ []
    · obtain ⟨a', b', u, x', h1, h2, h3, h4, h5, h6, h7⟩ := da_round T a b us o hx h ha hb (by omega) hne
      obtain ⟨o', i1, i2⟩ := ih _ (by omega) a' b' (us ++ [u]) x' rfl h3 h7 (by omega) (by omega) (by rw [List.length_append, List.length_singleton]; omega)
      refine ⟨o', by rw [h2]; rw [List.append_assoc] at i1; exact i1, ?_⟩
      rw [iter_next (f := fun (z : (List GElem) × (List GElem) × Ref_Act) => ref_DiffAct_L1 tied z.1 z.2.1 z.2.2) h1, i2]
    · have e1 : a = [] := Classical.byContradiction fun h => hne (.inl h)
      have e2 : b = [] := Classical.byContradiction fun h => hne (.inr h)
      subst e1; subst e2
      exact ⟨o, by rw [walkU_nil, List.append_nil]; exact hx, rfl⟩
theorem ref_line {e : GElem} (h : elemErr e = 0) (hc : e.Char = 10) : e.Ref = 0 := by
  unfold elemErr at h
  apply Classical.byContradiction
  intro hr
  rw [if_pos (.inr ⟨by omega, hr⟩)] at h
  cases h
theorem da_end (p q : GElem) (us : List Un) (o : Ref_Act) (hx : IsA us o) (hu : us.length ≤ 1048576) (h : TwoF [p] [q]) (hp : p.Char = 10) (hq : q.Char = 10) :
    ref_DiffAct_L1 true [p] [q] o = some (.inr (.ext ⟨o.Adds ++ [[]], o.Cuts ++ [false], o.Attrs ++ [chgX p q]⟩)) := by
  have hmp := h.ea p (List.mem_singleton.2 rfl)
  have hmq := h.eb q (List.mem_singleton.2 rfl)
  have hal : (decide (p.Char = q.Char) && decide (p.Ref = q.Ref)) = true := by
    rw [decide_eq_true (hp.trans hq.symm), decide_eq_true ((ref_line hmp.1 hp).trans (ref_line hmq.1 hq).symm)]; rfl
  obtain ⟨c0, _⟩ := cost_tl (tied := true) (.inr ⟨rfl, p, q, rfl, rfl⟩) [] [] h (by simp) (by simp)
  rw [List.nil_append, List.nil_append] at c0
  have hk : daKeepB true [p] [q] ((costN [] [] + cT [p] [q] : Nat) : Int) p q p q = some true := by
    have e1 : decide (0 < (([p] : List GElem).length : Int)) = true := rfl
    have e2 : decide (0 < (([q] : List GElem).length : Int)) = true := rfl
    have e3 : decide ((([p] : List GElem).length : Int) = 1) = true := rfl
    have e4 : decide ((([q] : List GElem).length : Int) = 1) = true := rfl
    unfold daKeepB
    rw [e1, e2, e3, e4]
    simp only [Bool.and_self, Bool.true_and, Bool.not_true, Bool.and_false, Bool.or_true, Bool.false_or, Bool.true_or, Bool.and_true]
    rw [if_neg (by decide), hal]
  rw [da_unf, if_pos (by simp), c0, bnd1_some]
  have e1 : decide (0 < (([p] : List GElem).length : Int)) = true := rfl
  have e2 : decide (0 < (([q] : List GElem).length : Int)) = true := rfl
  rw [e1, e2]
  simp only [Bool.and_self, beq_self_eq_true, gd_true, Bool.true_and]
  rw [idx_hd, bnd1_some, idx_hd, bnd1_some, decide_eq_true (hp.trans hq.symm)]
  simp only [beq_self_eq_true, gd_true]
  rw [bnd1_some, bnd1_some, hk, bnd1_some, last_add hx.wf (by have := wfA_bound hx (by omega); omega), bnd1_some, if_pos rfl, daKeep_eq hx (by omega) true p q [] [] hmp.1 hmq.1 (h.ab p (List.mem_singleton.2 rfl) q (List.mem_singleton.2 rfl)), if_pos (by simp)]
theorem split_last {a : List GElem} (h : 0 < a.length) : a = a.take (a.length - 1) ++ [a[a.length - 1]!] := by
  have h1 := List.take_append_drop (a.length - 1) a
  have h2 : a.drop (a.length - 1) = [a[a.length - 1]!] := by
    rw [dropB (show a.length - 1 < a.length by omega), show a.length - 1 + 1 = a.length by omega, List.drop_length]
  rw [h2] at h1
  exact h1.symm
theorem ref_DiffAct_eq (a b : List GElem) (h : TwoF a b) (ha : a.length ≤ 262144) (hb : b.length ≤ 262144) : ∃ x, ref_DiffAct a b = some x ∧ IsA (wayU a b) x := by
  unfold ref_DiffAct
  rw [ref_Tied_eq a b (by omega) (by omega), bnd1_some]
  unfold wayU
  by_cases ht : tiedB a b = true
  · rw [if_pos ht, ht]
    unfold tiedB at ht
    simp only [Bool.and_eq_true, decide_eq_true_eq] at ht
    have e1 := split_last (a := a) (by omega)
    have e2 := split_last (a := b) (by omega)
    have hT : Tl true [a[a.length - 1]!] [b[b.length - 1]!] := .inr ⟨rfl, _, _, rfl, rfl⟩
    have l1 : (a.take (a.length - 1)).length = a.length - 1 := by rw [List.length_take]; omega
    have l2 : (b.take (b.length - 1)).length = b.length - 1 := by rw [List.length_take]; omega
    obtain ⟨o', i1, i2⟩ := da_loop hT _ (a.take (a.length - 1)) (b.take (b.length - 1)) [] ⟨[[]], [], []⟩ rfl isA_nil (by rw [← e1, ← e2]; exact h) (by omega) (by omega) (by rw [List.length_nil]; omega)
    rw [← e1, ← e2] at i2
    rw [List.nil_append] at i1
    have hwl := walkU_len _ (a.take (a.length - 1)) (b.take (b.length - 1)) rfl
    have m1 := last_memB (a := a) (by omega)
    have m2 := last_memB (a := b) (by omega)
    have hTF : TwoF [a[a.length - 1]!] [b[b.length - 1]!] := ⟨fun e he => by rw [List.mem_singleton] at he; subst he; exact h.ea _ m1, fun e he => by rw [List.mem_singleton] at he; subst he; exact h.eb _ m2, fun x hx y hy => by rw [List.mem_singleton] at hx hy; subst hx; subst hy; exact h.ab _ m1 _ m2⟩
    have he := da_end _ _ _ o' i1 (by omega) hTF ht.1.2 ht.2
    rw [i2, iter_stop (f := fun (z : (List GElem) × (List GElem) × Ref_Act) => ref_DiffAct_L1 true z.1 z.2.1 z.2.2) he, ctl1_ext]
    exact ⟨_, rfl, isA_keep i1 _⟩
  · rw [Bool.not_eq_true] at ht
    rw [ht, if_neg (by decide)]
    have hT : Tl false [] [] := .inl ⟨rfl, rfl, rfl⟩
    obtain ⟨o', i1, i2⟩ := da_loop hT _ a b [] ⟨[[]], [], []⟩ rfl isA_nil (by rw [List.append_nil, List.append_nil]; exact h) ha hb (by rw [List.length_nil]; omega)
    rw [List.append_nil, List.append_nil] at i2
    rw [List.nil_append] at i1
    have he : ref_DiffAct_L1 false [] [] o' = some (.inr (.nrm o')) := by
      rw [da_unf, if_neg (by decide)]
    rw [i2, iter_stop (f := fun (z : (List GElem) × (List GElem) × Ref_Act) => ref_DiffAct_L1 false z.1 z.2.1 z.2.2) he, ctl1_nrm]
    exact ⟨_, rfl, i1⟩
theorem isA_deltaOf {us : List Un} {x : Ref_Act} (h : IsA us x) (hw : ∀ u ∈ us, OkW u) (hl : us.length ≤ 1048576) : ref_DeltaOf x = some (deltaOf us) := by
  have hlen := h.len
  have hwf := h.wf
  obtain ⟨y, n, h1, h2, h3, h4, h5, h6, _⟩ := h
  rw [ref_DeltaOf_eq x hwf (fun u hu => by
    have := hw u (h6 u hu)
    match u, this with
    | .a e, _ => trivial
    | .r c t, hh => have := hh.2.2; show t.length ≤ _; omega) (by omega), deltaOf_dOn, deltaOf_dOn, h4]
end Go.Proofs.Ytfkolgjapajekaa.Al


namespace Go.Proofs.Ytfkolgjapajekaa.Al
theorem raw_chg {x y : GElem} (hx : elemErr x = 0) (hy : elemErr y = 0) : rawA x.Attrs (chgX x y) = y.Attrs := by
  have e1 := okE_attrs hx
  have e2 := okE_attrs hy
  obtain ⟨s1, n1, v1⟩ := good_of e1
  obtain ⟨s2, n2, v2⟩ := good_of e2
  obtain ⟨k1, k2⟩ := spec_of stpChange_g gChange_ok s1 s2 n1 n2
  have e3 := good_of (change_err e1 e2)
  obtain ⟨m1, m2⟩ := spec_of stpRaw_g gRaw_ok s1 e3.1 n1 e3.2.1
  refine srt_ext m1 s2 fun n => ?_
  show fnd (bothL stpRaw x.Attrs (bothL stpChange x.Attrs y.Attrs []) []) n = _
  rw [m2, k2]
  cases ha : fnd x.Attrs n with
  | none =>
    cases hb : fnd y.Attrs n with
    | none => rfl
    | some v =>
      have := v2 rfl v (fnd_name hb).2
      show (if v.Value = [] then none else some v) = _
      rw [if_neg this]
  | some u =>
    cases hb : fnd y.Attrs n with
    | none => rfl
    | some v =>
      have := v2 rfl v (fnd_name hb).2
      show GRaw (some u) (if u = v then none else some v) = _
      by_cases e : u = v
      · rw [if_pos e, e]; rfl
      · rw [if_neg e]
        show (if v.Value = [] then none else some v) = _
        rw [if_neg this]
theorem chgX_nil {x y : GElem} (hx : elemErr x = 0) (hy : elemErr y = 0) : chgX x y = [] ↔ x.Attrs = y.Attrs := by
  have e1 := okE_attrs hx
  constructor
  · intro h
    have := raw_chg hx hy
    rw [h, raw_nil e1] at this
    exact this
  · intro h
    have := chg_eq (a := x.Attrs) (t := []) e1 attrErr_nil (fun v hv => by cases hv)
    rw [raw_nil e1] at this
    unfold chgX
    rw [← h]; exact this
def stepP (s : GStep) : Int := if s.Kind = 1 then s.Elems.length else if s.Kind = 2 ∨ s.Attrs ≠ [] then s.N else 0
def deltaP (d : List GStep) : Int := (d.map stepP).sum
end Go.Proofs.Ytfkolgjapajekaa.Al


namespace Go.Proofs.Ytfkolgjapajekaa.Al
structure InF (a b : List GElem) : Prop where
  la : a.length ≤ 1048576
  lb : b.length ≤ 1048576
  oa : ∀ e ∈ a, okA e.Attrs
  ob : ∀ e ∈ b, okA e.Attrs
  sa : ∀ e ∈ a, e.Attrs.length ≤ 1048576
  sb : ∀ e ∈ b, e.Attrs.length ≤ 1048576
  ab : ∀ x ∈ a, ∀ y ∈ b, x.Attrs.length + y.Attrs.length ≤ 1048576
theorem InF.take {a b : List GElem} (h : InF a b) (i k : Nat) : InF (a.take i) (b.take k) :=
  ⟨by have := h.la; rw [List.length_take]; omega, by have := h.lb; rw [List.length_take]; omega, fun e he => h.oa e (List.mem_of_mem_take he), fun e he => h.ob e (List.mem_of_mem_take he),
    fun e he => h.sa e (List.mem_of_mem_take he), fun e he => h.sb e (List.mem_of_mem_take he), fun x hx y hy => h.ab x (List.mem_of_mem_take hx) y (List.mem_of_mem_take hy)⟩
theorem part_all {f : List GElem} (h : partErr f = 0) : ∀ e ∈ f, elemErr e = 0 := by
  intro e he
  obtain ⟨k, hk, rfl⟩ := List.mem_iff_getElem.1 he
  have := partErr_at h hk
  rwa [getElem!_pos f k hk] at this
theorem InF.two {a b : List GElem} (h : InF a b) (ha : partErr a = 0) (hb : partErr b = 0) : TwoF a b :=
  ⟨fun e he => ⟨part_all ha e he, h.sa e he⟩, fun e he => ⟨part_all hb e he, h.sb e he⟩, h.ab⟩
theorem inF_bulk {ν : GElem → Nat} {κ : GAttr → Nat} (h2 : ∀ e, (e.Attrs.map κ).sum + 1 ≤ ν e) (h3 : ∀ a, a.Name.length + a.Value.length + 1 ≤ κ a) {a b : List GElem} (hb : (a.map ν).sum + (b.map ν).sum ≤ 1048576) : InF a b := by
  obtain ⟨a1, a2⟩ := okF_bulk h2 h3 (f := a) (by omega)
  obtain ⟨b1, b2⟩ := okF_bulk h2 h3 (f := b) (by omega)
  have key : ∀ (f : List GElem), ∀ e ∈ f, e.Attrs.length ≤ (f.map ν).sum := by
    intro f e he
    have h4 := mem_le_sum (μ := ν) he
    have h5 := len_le_sum (μ := κ) (fun a => by have := h3 a; omega) e.Attrs
    have := h2 e
    omega
  exact ⟨a1, b1, a2, b2, fun e he => by have := key a e he; omega, fun e he => by have := key b e he; omega, fun x hx y hy => by
    have := key a x hx
    have := key b y hy
    omega⟩
def flowsR (a b : List GElem) : List GStep × Int := if partErr a ≠ 0 then ([], partErr a) else if partErr b ≠ 0 then ([], partErr b) else if 2000 < a.length ∨ 2000 < b.length then ([], 3) else (deltaOf (wayU a b), 0)
theorem diff_Flows_eq (a b : List GElem) (h : InF a b) : diff_Flows a b = some (flowsR a b) := by
  have hla := h.la
  have hlb := h.lb
  have c1 := flow_CheckPart_eq a (okE_of h.oa) (by omega)
  have c2 := flow_CheckPart_eq b (okE_of h.ob) (by omega)
  have i1 : idx ([a, b] : List (List GElem)) 0 = some a := rfl
  have i2 : idx ([a, b] : List (List GElem)) 1 = some b := rfl
  have key : iter (fun (x : Int) => diff_Flows_L1 a b x) 0 = some (if partErr a ≠ 0 then .ext ([], partErr a) else if partErr b ≠ 0 then .ext ([], partErr b) else .nrm ()) := by
    by_cases e1 : partErr a = 0
    · rw [if_neg (by simpa using e1)]
      have s1 : diff_Flows_L1 a b 0 = some (.inl 1) := by
        unfold diff_Flows_L1
        rw [if_pos (by decide), i1, bnd1_some, c1, bnd1_some, if_neg (ndF e1), chk64 (by decide) (by decide), bnd1_some]; rfl
      rw [iter_next (f := fun (x : Int) => diff_Flows_L1 a b x) s1]
      by_cases e2 : partErr b = 0
      · rw [if_neg (by simpa using e2)]
        have s2 : diff_Flows_L1 a b 1 = some (.inl 2) := by
          unfold diff_Flows_L1
          rw [if_pos (by decide), i2, bnd1_some, c2, bnd1_some, if_neg (ndF e2), chk64 (by decide) (by decide), bnd1_some]; rfl
        have s3 : diff_Flows_L1 a b 2 = some (.inr (.nrm ())) := by
          unfold diff_Flows_L1
          rw [if_neg (by decide)]
        rw [iter_next (f := fun (x : Int) => diff_Flows_L1 a b x) s2, iter_stop (f := fun (x : Int) => diff_Flows_L1 a b x) s3]
      · rw [if_pos e2]
        have s2 : diff_Flows_L1 a b 1 = some (.inr (.ext ([], partErr b))) := by
          unfold diff_Flows_L1
          rw [if_pos (by decide), i2, bnd1_some, c2, bnd1_some, if_pos (ndT e2)]
        rw [iter_stop (f := fun (x : Int) => diff_Flows_L1 a b x) s2]
    · rw [if_pos e1]
      have s1 : diff_Flows_L1 a b 0 = some (.inr (.ext ([], partErr a))) := by
        unfold diff_Flows_L1
        rw [if_pos (by decide), i1, bnd1_some, c1, bnd1_some, if_pos (ndT e1)]
      rw [iter_stop (f := fun (x : Int) => diff_Flows_L1 a b x) s1]
  unfold diff_Flows flowsR
  rw [key]
  by_cases e1 : partErr a = 0
  · rw [if_neg (by simpa using e1), if_neg (show ¬ (partErr a ≠ 0) by simpa using e1)]
    by_cases e2 : partErr b = 0
    · rw [if_neg (by simpa using e2), if_neg (show ¬ (partErr b ≠ 0) by simpa using e2), ctl1_nrm]
      by_cases hl : 2000 < a.length ∨ 2000 < b.length
      · rw [if_pos (by rw [Bool.or_eq_true, decide_eq_true_eq, decide_eq_true_eq]; omega), if_pos hl]
      · rw [if_neg (by rw [Bool.or_eq_true, decide_eq_true_eq, decide_eq_true_eq]; omega), if_neg hl, diff_Raw_eq a b (h.two e1 e2) (by omega) (by omega), bnd1_some]
    · rw [if_pos e2, if_pos e2, ctl1_ext]
  · rw [if_pos e1, if_pos e1, ctl1_ext]
theorem stepP_good {s : GStep} (h : GoodS s) (ho : OkSt s) : 0 ≤ stepP s ∧ stepP s ≤ 2147483647 ∧ (if ((!decide (s.Kind = 0)) || (decide (0 < (s.Attrs.length : Int)))) = true then s.N + (s.Elems.length : Int) else 0) = stepP s ∧ 0 ≤ s.N ∧ s.N ≤ 2147483647 := by
  have hel := ho.el
  unfold stepP
  rw [len_pos]
  rcases h.kind with ⟨k, e, n1, n2, _⟩ | ⟨k, e, a, n1, n2⟩ | ⟨k, n, a, _, _⟩
  · rw [if_neg (by omega), k]
    by_cases ha : s.Attrs = []
    · rw [if_neg (by rintro (h | h); cases h; exact h ha), if_neg (by rw [ha]; simp)]; omega
    · rw [if_pos (.inr ha), if_pos (by simp [ha]), e]; refine ⟨by omega, n2, by simp, by omega, n2⟩
  · rw [if_neg (by omega), if_pos (.inl k), if_pos (by rw [k]; rfl), e]; refine ⟨by omega, n2, by simp, by omega, n2⟩
  · rw [if_pos k, if_pos (by rw [k]; rfl), n]; refine ⟨by omega, by omega, by omega, by omega, by omega⟩
theorem deltaP_at {d : List GStep} {k : Nat} (h : k < d.length) : deltaP (d.take (k + 1)) = deltaP (d.take k) + stepP d[k]! := by rw [take_at h]; simp [deltaP]
theorem deltaP_le {d : List GStep} (h : GoodD d) (ho : OkD d) : ∀ k, k ≤ d.length → 0 ≤ deltaP (d.take k) ∧ deltaP (d.take k) ≤ 2147483647 * (k : Int)
  | 0, _ => by rw [List.take_zero]; exact ⟨Int.le_refl 0, by decide⟩
  | k + 1, hk => by
    obtain ⟨h1, h2⟩ := deltaP_le h ho k (by omega)
    obtain ⟨h3, h4, _⟩ := stepP_good (h.st _ (mem_at (show k < d.length by omega))) (ho.st _ (mem_at (show k < d.length by omega)))
    rw [deltaP_at (by omega)]
    omega
theorem diff_Cost_eq (d : List GStep) (ho : OkD d) (hl : d.length ≤ 1048576) : diff_Cost d = some (if delErr d ≠ 0 then (0, delErr d) else (deltaP d, 0)) := by
  unfold diff_Cost
  rw [delta_Check_eq d ho, bnd1_some]
  by_cases e : delErr d = 0
  · rw [if_neg (ndF e), if_neg (show ¬ (delErr d ≠ 0) by simpa using e)]
    have hg := goodD_of e
    have key : ∃ r, iter (fun (a : Int × Int) => diff_Cost_L1 d a.1 a.2) (0, 0) = some r ∧ r = deltaP d := by
      refine iter_hoare d.length (fun k st => st = (deltaP (d.take k), (k : Int))) _ ?_ ?_ rfl
      · rintro k st hk rfl
        left
        obtain ⟨h1, h2⟩ := deltaP_le hg ho k (by omega)
        have hs := hg.st _ (mem_at hk)
        have hos := ho.st _ (mem_at hk)
        obtain ⟨h3, h4, _⟩ := stepP_good hs hos
        refine ⟨(deltaP (d.take (k + 1)), ((k + 1 : Nat) : Int)), ?_, rfl⟩
        show diff_Cost_L1 d (deltaP (d.take k)) (k : Int) = _
        unfold diff_Cost_L1
        rw [if_pos (by simpa using hk), idx_nat hk, bnd1_some, deltaP_at hk]
        generalize d[k]! = s at hs hos h3 h4
        unfold stepP at h3 h4 ⊢
        by_cases k1 : s.Kind = 1
        · rw [if_pos k1] at h3 h4 ⊢
          rw [if_pos (decide_eq_true k1), chk64 (by omega) (by omega), bnd1_some, bnd1_some, chk_nat (by omega), bnd1_some]
        · rw [if_neg k1] at h3 h4 ⊢
          rw [if_neg (by rw [decide_eq_true_eq]; exact k1)]
          by_cases k2 : s.Kind = 2 ∨ s.Attrs ≠ []
          · rw [if_pos k2] at h3 h4 ⊢
            rw [if_pos (by rw [len_pos]; rcases k2 with h | h <;> simp [h]), chk64 (by omega) (by omega), bnd1_some, bnd1_some, chk_nat (by omega), bnd1_some]
          · rw [if_neg k2, if_neg (by
              rw [len_pos, Bool.or_eq_true, decide_eq_true_eq]
              rintro (h | h)
              · exact k2 (.inl h)
              · exact k2 (.inr (by simpa using h))), bnd1_some, chk_nat (by omega), bnd1_some, Int.add_zero]
      · rintro st rfl
        refine ⟨_, ?_, rfl⟩
        show diff_Cost_L1 d (deltaP (d.take d.length)) (d.length : Int) = _
        unfold diff_Cost_L1
        rw [if_neg (by simp), List.take_length]
    obtain ⟨r, h1, h2⟩ := key
    rw [h1, h2]; rfl
  · rw [if_pos (ndT e), if_pos e]
theorem law_cost_loop (d : List GStep) (ho : OkD d) (hg : GoodD d) (hl : d.length ≤ 1048576) : iter (fun (a : Int × Int) => law_DiffFlowsMatch_L1 d a.1 a.2) (0, 0) = some (deltaP d) := by
  have key : ∃ r, iter (fun (a : Int × Int) => law_DiffFlowsMatch_L1 d a.1 a.2) (0, 0) = some r ∧ r = deltaP d := by
    refine iter_hoare d.length (fun k st => st = (deltaP (d.take k), (k : Int))) _ ?_ ?_ rfl
    · rintro k st hk rfl
      left
      obtain ⟨h1, h2⟩ := deltaP_le hg ho k (by omega)
      have hs := hg.st _ (mem_at hk)
      have hos := ho.st _ (mem_at hk)
      have hel := hos.el
      obtain ⟨h3, h4, h5, h6, h7⟩ := stepP_good hs hos
      refine ⟨(deltaP (d.take (k + 1)), ((k + 1 : Nat) : Int)), ?_, rfl⟩
      show law_DiffFlowsMatch_L1 d (deltaP (d.take k)) (k : Int) = _
      unfold law_DiffFlowsMatch_L1
      rw [if_pos (by simpa using hk), idx_nat hk, bnd1_some, deltaP_at hk]
      generalize d[k]! = s at hs hos h3 h4 h5 h6 h7 hel
      by_cases c : ((!decide (s.Kind = 0)) || (decide (0 < (s.Attrs.length : Int)))) = true
      · rw [if_pos c] at h5
        rw [if_pos c, chk64 (by omega) (by omega), bnd1_some, chk64 (by omega) (by omega), bnd1_some, bnd1_some, chk_nat (by omega), bnd1_some, h5]
      · rw [if_neg c] at h5
        rw [if_neg c, bnd1_some, chk_nat (by omega), bnd1_some, ← h5, Int.add_zero]
    · rintro st rfl
      refine ⟨_, ?_, rfl⟩
      show law_DiffFlowsMatch_L1 d (deltaP (d.take d.length)) (d.length : Int) = _
      unfold law_DiffFlowsMatch_L1
      rw [if_neg (by simp), List.take_length]
  obtain ⟨r, h1, h2⟩ := key
  rw [h1, h2]
def eA : GElem := ⟨97, 0, []⟩
def eB : GElem := ⟨98, 0, []⟩
theorem inF_ab : InF [eA, eB] [eB] := by
  have h0 : ∀ e ∈ [eA, eB], e.Attrs = [] := by intro e he; simp at he; rcases he with rfl | rfl <;> rfl
  have h1 : ∀ e ∈ [eB], e.Attrs = [] := by intro e he; simp at he; subst he; rfl
  exact ⟨by simp, by simp, fun e he => by rw [h0 e he]; exact okA_nil, fun e he => by rw [h1 e he]; exact okA_nil, fun e he => by rw [h0 e he]; simp, fun e he => by rw [h1 e he]; simp, fun x hx y hy => by rw [h0 x hx, h1 y hy]; simp⟩
theorem cost_bb : costN [eB] [eB] = 0 := by
  rw [costN_cons, costN_nil, costN_nil2, costN_nil, if_pos (by decide)]; decide
theorem cost_abb : costN [eA, eB] [eB] = 1 := by
  rw [costN_cons, cost_bb, costN_nil2, if_neg (by decide)]; decide
theorem way_ab : wayU [eA, eB] [eB] = [.r true [], .r false []] := by
  have h2 : chgX eB eB = [] := (chgX_nil (by decide) (by decide)).2 rfl
  unfold wayU
  rw [if_neg (by decide), walkU_cons, if_neg (by rintro ⟨h, _⟩; revert h; decide), if_pos (by rw [cost_abb, cost_bb]), walkU_cons, if_pos ⟨by decide, by rw [cost_bb, costN_nil]; rfl⟩, walkU_nil, h2]
theorem law_diffs_eq : law_diffs = some true := by
  have e1 : flowsR [eA, eB] [eB] = ([⟨2, 1, [], []⟩, ⟨0, 1, [], []⟩], 0) := by
    unfold flowsR
    rw [if_neg (by decide), if_neg (by decide), if_neg (by decide), way_ab]; rfl
  unfold law_diffs
  rw [law_letters_eq _ (by decide), bnd1_some, law_letters_eq _ (by decide), bnd1_some]
  show bnd2 (diff_Flows [eA, eB] [eB]) _ = _
  rw [diff_Flows_eq _ _ inF_ab, e1, bnd2_some, law_deltas_eq, bnd1_some, if_pos (by decide), ref_SameDelta_eq _ _ (by decide) (fun s hs => (dB_spec (d := [⟨2, 1, [], []⟩, ⟨0, 1, [], []⟩]) (by decide)).st s hs), bnd1_some, decide_eq_true rfl]; rfl
theorem way_facts {a b : List GElem} (h : TwoF a b) (ha : a.length ≤ 262144) (hb : b.length ≤ 262144) : (∀ u ∈ wayU a b, OkW u) ∧ (wayU a b).length ≤ 524288 ∧ OkD (deltaOf (wayU a b)) ∧ delErr (deltaOf (wayU a b)) = 0 ∧ (deltaOf (wayU a b)).length ≤ 524288 ∧ (unitsD (deltaOf (wayU a b))).length = (wayU a b).length := by
  have h1 := wayU_ok h
  have h2 := wayU_len a b
  have h3 : ∀ u ∈ wayU a b, OkUn u := fun u hu => okW_un (h1 u hu)
  have h4 := dOn_out_len h3
  have h5 := dFl_len (dOn (wayU a b))
  have h6 := (cd_fl (dOn_cd h3)).2.2.2.2.1
  have h7 := cntA_le (wayU a b)
  obtain ⟨x, _, hx⟩ := ref_DiffAct_eq a b h ha hb
  refine ⟨h1, by omega, dOn_okD h3 (by omega) (by omega), units_err h1 (by omega), by rw [deltaOf_dOn]; omega, by rw [hx.units]; exact hx.len⟩
theorem take_ite {a : List GElem} (n : Nat) (hn : n ≤ 100) : (if (decide ((n : Int) < (a.length : Int))) = true then (bnd1 (slc a 0 (n : Int)) fun (a3 : List GElem) => some a3) else some a) = some (a.take n) := by
  by_cases h : n < a.length
  · rw [if_pos (decide_eq_true (by omega)), slc_to a _ (by omega) (by omega), bnd1_some, Int.toNat_natCast]
  · rw [if_neg (by rw [decide_eq_true_eq]; omega), List.take_of_length_le (by omega)]
theorem law_DiffFlows_true (a b : List GElem) (d : List GStep) (h : InF a b) (ho : OkD d) (hs : SmD d) : law_DiffFlowsMatch a b d = some true := by
  have hl := hs.len
  have hT := h.take 10 10
  have la : (a.take 10).length ≤ 10 := by rw [List.length_take]; omega
  have lb : (b.take 10).length ≤ 10 := by rw [List.length_take]; omega
  have t1 := take_ite (a := a) 10 (by decide)
  have t2 := take_ite (a := b) 10 (by decide)
  unfold law_DiffFlowsMatch
  rw [law_diffs_eq, bnd1_some, if_neg (by decide)]
  rw [show ((10 : Nat) : Int) = 10 from rfl] at t1 t2
  rw [t1, bnd1_some, t2, bnd1_some, diff_Cost_eq d ho hl]
  generalize a.take 10 = a2 at hT la
  generalize b.take 10 = b2 at hT lb
  have hdlen := ref_DeltaError_eq d ho
  have fin : (bnd2 (diff_Flows a2 b2) fun (r4 : List GStep) (r5 : Int) =>
    bnd1 (ref_PartError a2) fun (f2 : Int) =>
    bnd1 (if (decide (f2 = 0)) then (bnd1 (ref_PartError b2) fun (f4 : Int) => some f4) else (some f2)) fun (f3 : Int) =>
    if (!decide (f3 = 0)) then (some ((decide (r5 = f3)) && (decide ((r4.length : Int) = 0)))) else (
      bnd1 (
        if ((decide (r5 = 0)) == true) then (
          bnd1 (ref_DiffAct a2 b2) fun (r6 : Ref_Act) =>
          bnd1 (ref_DeltaOf r6) fun (r7 : List GStep) =>
          bnd1 (ref_SameDelta r4 r7) fun (r8 : Bool) =>
          some ((decide (r5 = 0)) && r8)
        ) else (
          some ((decide (r5 = 0)) && false)
        )
      ) fun (x1 : Bool) =>
      some x1)) = some true := by
    rw [diff_Flows_eq a2 b2 hT]
    unfold flowsR
    rw [ref_PartError_eq a2 (okE_of hT.oa) (by omega), ref_PartError_eq b2 (okE_of hT.ob) (by omega)]
    by_cases e1 : partErr a2 = 0
    · rw [if_neg (show ¬ (partErr a2 ≠ 0) by simpa using e1)]
      by_cases e2 : partErr b2 = 0
      · have h2 := hT.two e1 e2
        obtain ⟨w1, w2, w3, w4, w5, w6⟩ := way_facts h2 (by omega) (by omega)
        obtain ⟨x, x1, x2⟩ := ref_DiffAct_eq a2 b2 h2 (by omega) (by omega)
        rw [if_neg (show ¬ (partErr b2 ≠ 0) by simpa using e2), if_neg (by omega), bnd2_some, bnd1_some, if_pos (decide_eq_true e1), bnd1_some, bnd1_some, if_neg (ndF e2), if_pos (by rfl), x1, bnd1_some, isA_deltaOf x2 w1 (by omega), bnd1_some, ref_SameDelta_eq _ _ (by omega) w3.st, bnd1_some, decide_eq_true rfl, decide_eq_true rfl]; rfl
      · rw [if_pos e2, bnd2_some, bnd1_some, if_pos (decide_eq_true e1), bnd1_some, bnd1_some, if_pos (ndT e2), decide_eq_true rfl]; rfl
    · rw [if_pos e1, bnd2_some, bnd1_some, if_neg (by rw [decide_eq_true_eq]; exact e1), bnd1_some, if_pos (ndT e1), decide_eq_true rfl]; rfl
  by_cases e : delErr d = 0
  · rw [if_neg (show ¬ (delErr d ≠ 0) by simpa using e), bnd2_some, hdlen, bnd1_some, if_neg (ndF e), law_cost_loop d ho (goodD_of e) hl, bnd1_some, if_neg (by simp), ctl1_nrm]
    exact fin
  · rw [if_pos e, bnd2_some, hdlen, bnd1_some, if_pos (ndT e), if_neg (by simp), ctl1_nrm]
    exact fin
end Go.Proofs.Ytfkolgjapajekaa.Al

