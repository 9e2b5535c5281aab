/-
  What single operations do: those that make or write memory; slices of data; calls of functions from data to data.
-/
import Derived.Test.YthhodpedkdapcaaAl4
namespace Go.Proofs.Ythhodpedkdapcaa.Al
section
variable {P : Program} {c : Bool} {o : Oper} {R : Env} {h : Heap} {n : Nat}

theorem hget_upd (id : Nat) (ob : AObj) (h : Heap) : (fun i => if id = i then some ob else hget h i) = hget ((id, some ob) :: h) := by
  funext i; rw [hget_cons]

/-- The cells of a value. -/
def cellsAV : AV → List AV
  | .agg cs => cs
  | a => [a]
theorem cellsAV_rep {x : Cx} {a : AV} {v : Value} (hv : AVRep x a v) (h1 : ∀ b ∈ cellsAV a, b.one = true) :
    v.cells.size = (cellsAV a).length ∧ (∀ (j : Nat) (b : AV), (cellsAV a)[j]? = some b → ∃ u : Value, v.cells[j]? = some u ∧ u.oneCell' = true ∧ AVRep x b u) ∧ ∀ u ∈ v.cells.toList, u.oneCell' = true := by
  have key : ∀ (cs : List AV) (us : Array Value), cs.length = us.size → (∀ (i : Nat) (c : AV) (u : Value), cs[i]? = some c → us[i]? = some u → AVRep x c u) → (∀ b ∈ cs, b.one = true) →
      us.size = cs.length ∧ (∀ (j : Nat) (b : AV), cs[j]? = some b → ∃ u : Value, us[j]? = some u ∧ u.oneCell' = true ∧ AVRep x b u) ∧ ∀ u ∈ us.toList, u.oneCell' = true := by
    intro cs us hl hall hone
    refine ⟨hl.symm, fun j b hj => ?_, fun u hu => ?_⟩
    · have hjl : j < us.size := by have := (List.getElem?_eq_some_iff.1 hj).1; omega
      exact ⟨us[j], Array.getElem?_eq_getElem hjl, (hall j b us[j] hj (Array.getElem?_eq_getElem hjl)).one (hone b (List.mem_of_getElem? hj)), hall j b us[j] hj (Array.getElem?_eq_getElem hjl)⟩
    · obtain ⟨j, hj⟩ := List.mem_iff_getElem?.1 hu
      have hjl : j < cs.length := by have := (List.getElem?_eq_some_iff.1 hj).1; simp at this; omega
      have h1 := hall j cs[j] u (List.getElem?_eq_getElem hjl) (by simpa using hj)
      exact h1.one (hone _ (List.getElem_mem hjl))
  cases a with
  | agg cs =>
    cases hv with
    | agg hl hall => exact key _ _ hl hall h1
  | _ =>
    have h2 := hv.one (h1 _ (by simp [cellsAV]))
    have h3 : v.cells = #[v] := by cases v <;> first | rfl | (simp [Value.oneCell'] at h2)
    rw [h3]
    refine key _ _ rfl (fun i c u hc hu => ?_) h1
    simp only [cellsAV, List.getElem?_singleton] at hc
    split at hc
    · rename_i hi; subst hi
      cases hc; simp at hu; subst hu; exact hv
    · cases hc

/-- A new variable. -/
theorem newVar_spec {x : Cx} (hok : x.ok) (id : Nat) (e : TypeId) (a : AV) {v : Value} (hv : AVRep x a v) (h1 : ∀ b ∈ cellsAV a, b.one = true) :
    ∃ y : Cx, x.le y ∧ y.ok ∧ y.w = x.w.alloc (.cells v.cells e) ∧ y.H = (fun i => if id = i then some (.box x.n e (cellsAV a)) else x.H i) ∧ y.n = x.n + 1 ∧
      AVRep y (.ptr id x.n 0 0) (.pointer (some ⟨x.w.heap.size, 0, none⟩)) := by
  obtain ⟨hs, hcell, _⟩ := cellsAV_rep hv h1
  have := Cx.upd hok id (.box x.n e (cellsAV a)) (x.w.alloc (.cells v.cells e)) (some (x.w.heap.size, 1)) (x.n + 1) (by simp) rfl rfl rfl
    (fun b hb _ => heap_alloc_old _ _ hb) (fun b k hb => by cases hb; simp) (by omega) (by simp [AObj.gen]) (fun hg => absurd hg (by simp [AObj.gen]))
    (fun hle => ⟨x.w.heap.size, v.cells, rfl, heap_alloc_new _ _, hs, fun j b hj => by
      obtain ⟨u, k1, k2, k3⟩ := hcell j b hj
      exact ⟨u, k1, k2, k3.mono hle⟩⟩)
  refine ⟨_, this.1, this.2, rfl, rfl, rfl, .ptr (by simp) rfl fun o' ho' _ => ?_⟩
  simp only [if_pos] at ho'
  cases ho'
  exact ⟨x.w.heap.size, 1, by simp, by simp⟩

theorem run_newVar {t : TypeId} {v : Value} {w : World} : (newVar t v).run P w = .ok ⟨w.heap.size, 0, none⟩ (w.alloc (.cells v.cells t)) := by
  simp [newVar, newRow]

def ZeroTy (P : Program) (t : TypeId) (z : Value) : Prop := ∃ i, P.info? t = some i ∧ i.zero = some z
def zeroAV (z : Value) : AV :=
  match z with
  | .agg cs => .agg (cs.toList.map ofConst)
  | v => ofConst v
theorem zeroAV_rep (x : Cx) (z : Value) : AVRep x (zeroAV z) z := by
  cases z with
  | agg cs =>
    refine .agg (by simp) fun i a u h1 h2 => ?_
    have h2' : cs.toList[i]? = some u := by simpa using h2
    simp only [List.getElem?_map, h2', Option.map_some, Option.some.injEq] at h1
    subst h1; exact ofConst_rep x u
  | _ => simp only [zeroAV]; exact ofConst_rep x _

theorem sp_box {t : TypeId} {x : Operand} {a : AV} (id : Nat) (ho : o.op = .box t x) (hx : Ev c R x a) (h1 : (cellsAV a).all AV.one = true) : OpSpec P c o R h n (.ptr id n 0 0) ((id, some (.box n t (cellsAV a))) :: h) (n + 1) := by
  intro hc z w hok hH hn he K Q hK
  obtain ⟨y, k1, k2, k3, k4, k5, k6⟩ := newVar_spec hok id t a (hx.rep he hc) (fun b hb => List.all_eq_true.1 h1 b hb)
  unfold Oper.wp execOp
  rw [ho]
  simp only [Instr.box, Sem.run_bind, run_newVar, Result.andThen_ok, Sem.run_pure]
  have := hK (.pointer (some ⟨z.w.heap.size, 0, none⟩)) y k1 k2 (by rw [k4, hH, hn, hget_upd]) (by rw [k5, hn]) (by rw [← hn]; exact k6)
  rw [k3] at this
  exact this
theorem sp_alloc {t : TypeId} {zv : Value} (id : Nat) (ho : o.op = .alloc t) (hz : ZeroTy P t zv) (h1 : (cellsAV (zeroAV zv)).all AV.one = true) :
    OpSpec P c o R h n (.ptr id n 0 0) ((id, some (.box n t (cellsAV (zeroAV zv)))) :: h) (n + 1) := by
  intro hc z w hok hH hn he K Q hK
  obtain ⟨i, hi, hz⟩ := hz
  obtain ⟨y, k1, k2, k3, k4, k5, k6⟩ := newVar_spec hok id t (zeroAV zv) (zeroAV_rep z zv) (fun b hb => List.all_eq_true.1 h1 b hb)
  unfold Oper.wp execOp
  rw [ho]
  simp only [Instr.alloc, zeroValue, typeInfo, Sem.run_bind, run_program, Result.andThen_ok, hi, Sem.run_pure, hz, run_newVar]
  have := hK (.pointer (some ⟨z.w.heap.size, 0, none⟩)) y k1 k2 (by rw [k4, hH, hn, hget_upd]) (by rw [k5, hn]) (by rw [← hn]; exact k6)
  rw [k3] at this
  exact this

/-! Stores. -/
theorem run_storeAt {t : TypeId} {i : TypeInfo} (hi : P.info? t = some i) {w : World} {b k : Nat} {e : TypeId} {cur : Array Value} (hh : w.heap[b]? = some (.cells cur e (0, 0))) {v : Value} (hs : v.cells.size = i.size)
    (h1 : ∀ u ∈ v.cells.toList, u.oneCell' = true) (hfit : k + v.cells.size ≤ cur.size) :
    (Instr.storeAt t (.pointer (some ⟨b, k, none⟩)) v).run P w = .ok () (w.setRow b (cur.toList.take k ++ v.cells.toList ++ cur.toList.drop (k + v.cells.size)).toArray) := by
  have := run_storeCells_at P b k e v.cells.toList 0 cur w hh (by simpa using hfit) h1
  simp only [Nat.add_zero, Array.length_toList] at this
  simp [Instr.storeAt, Instr.sureAddr, storeVar, run_sizeOf hi, hs, this]

theorem splice_get {α : Type} (l vs : List α) (k j : Nat) (hk : k + vs.length ≤ l.length) : (l.take k ++ vs ++ l.drop (k + vs.length))[j]? = if k ≤ j ∧ j < k + vs.length then vs[j - k]? else l[j]? := by
  by_cases h1 : j < k
  · rw [if_neg (by omega), List.append_assoc, List.getElem?_append_left (by simp; omega), List.getElem?_take, if_pos h1]
  · by_cases h2 : j < k + vs.length
    · rw [if_pos (by omega), List.append_assoc, List.getElem?_append_right (by simp; omega), List.getElem?_append_left (by simp; omega)]
      congr 1
      simp only [List.length_take]
      omega
    · rw [if_neg (by omega), List.getElem?_append_right (by simp; omega)]
      simp only [List.length_append, List.length_take, List.getElem?_drop]
      congr 1 <;> omega

def splice (cs : List AV) (k : Nat) (vs : List AV) : List AV := cs.take k ++ vs ++ cs.drop (k + vs.length)

theorem sp_store_box {t : TypeId} {x y : Operand} {id g k : Nat} {e : TypeId} {cs : List AV} {a : AV} {sz : Nat} (ho : o.op = .store t x y) (ht : ∃ i, P.info? t = some i ∧ i.size = sz) (hx : Ev c R x (.ptr id g 0 k))
    (hh : hget h id = some (.box g e cs)) (hy : Ev c R y a) (hsz : (cellsAV a).length = sz) (h1 : (cellsAV a).all AV.one = true) (hfit : Nat.ble (k + sz) cs.length = true) :
    OpSpec P c o R h n .any ((id, some (.box g e (splice cs k (cellsAV a)))) :: h) n := by
  intro hc z w hok hH hn he K Q hK
  obtain ⟨ii, hi, hisz⟩ := ht
  have hHid : z.H id = some (.box g e cs) := by rw [hH]; exact hh
  have hfit' : k + sz ≤ cs.length := Nat.le_of_ble_eq_true hfit
  obtain ⟨b, cur, hβ, hx2, hrow, hcs, hcells⟩ := rep_box hok hHid (hx.rep he hc)
  obtain ⟨hvs, hvc, hv1⟩ := cellsAV_rep (hy.rep he hc) (fun b hb => List.all_eq_true.1 h1 b hb)
  have hrun := run_storeAt (P := P) (k := k) hi hrow (v := w.eval y) (by omega) hv1 (by omega)
  have hgn := (hok.obj _ _ hHid).1
  have hl : (splice cs k (cellsAV a)).length = cs.length := by simp [splice]; omega
  have hup := Cx.upd hok id (.box g e (splice cs k (cellsAV a))) (z.w.setRow b (cur.toList.take k ++ (w.eval y).cells.toList ++ cur.toList.drop (k + (w.eval y).cells.size)).toArray) (some (b, 1)) z.n (by simp [World.setRow]) rfl rfl rfl
    (fun b' _ hne => setRow_other _ _ _ _ (fun e => hne _ 1 hHid (by rw [e]; exact hβ))) (fun b' k' hb => by
      cases hb
      exact ⟨by simpa [World.setRow] using (hok.own id _ b 1 hHid hβ).1, .inr ⟨_, _, hHid, hβ⟩⟩) (Nat.le_refl _) hgn
    (fun _ => ⟨_, hHid, rfl, by simp [AObj.shape, hl], hβ.symm⟩)
    (fun hle => ⟨b, _, rfl, setRow_heap _ _ _ _ _ _ hrow, by simp; omega, fun j d hj => by
      have hsp := splice_get cs (cellsAV a) k j (by omega)
      have hsp2 := splice_get cur.toList (w.eval y).cells.toList k j (by simp; omega)
      rw [Array.length_toList] at hsp2
      rw [List.getElem?_toArray, hsp2]
      unfold splice at hj
      rw [hsp, ← hvs] at hj
      split at hj
      · rename_i hc'
        obtain ⟨u, k1, k2, k3⟩ := hvc _ _ hj
        exact ⟨u, by rw [if_pos hc']; simpa using k1, k2, k3.mono hle⟩
      · rename_i hc'
        obtain ⟨u, k1, k2, k3⟩ := hcells _ _ hj
        exact ⟨u, by rw [if_neg hc']; simpa using k1, k2, k3.mono hle⟩⟩)
  unfold Oper.wp execOp
  rw [ho]
  simp only [hx2, Sem.run_bind, hrun, Result.andThen_ok, Sem.run_pure]
  exact hK undef _ hup.1 hup.2 (by simp only [hH]; exact hget_upd _ _ _) hn (.any _)
end
end Go.Proofs.Ythhodpedkdapcaa.Al
