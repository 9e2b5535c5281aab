/-
  make, stores into rows, slices of data, struct literals; adopting and freezing; contracts from data to data.
-/
import Derived.Test.YthhodpedkdapcaaAl7
namespace Go.Proofs.Ythhodpedkdapcaa.Al
section
variable {P : Program} {c : Bool} {o : Oper} {R : Env} {h : Heap} {n : Nat}

def ZRow (P : Program) (e : TypeId) (zrow : List RV) : Prop := ∃ i zv, P.info? e = some i ∧ i.zero = some zv ∧ rowRV (zeroAV zv) = some zrow

theorem sp_makeSlice {t e : TypeId} {sz by_ : Nat} {l k : Operand} (id : Nat) {m : Int} {zrow : List RV} (ho : o.op = .makeSlice t l k) (ht : GrowTy P t e sz by_) (hz : ZRow P e zrow)
    (hl : Ev c R l (.r (.int .i64 m))) (hk : Ev c R k (.r (.int .i64 m))) (h0 : 0 ≤ m) (hb : m * by_ ≤ 281474976710656) (hm : m ≤ 9223372036854775807) :
    OpSpec P c o R h n (.own id n) ((id, some (.arr n e sz (List.replicate m.toNat zrow))) :: h) (n + 1) := by
  intro hc z w hok hH hn he K Q hK
  obtain ⟨ht1, ii, zv, hi, hisz, hiby, hiz, hzs, _, hpos⟩ := ht
  obtain ⟨i2, zv2, hi2, hz2, hzr⟩ := hz
  rw [hi] at hi2; cases hi2
  rw [hiz] at hz2; cases hz2
  have hrun := run_make (P := P) z.w t e ii zv ht1 hi hiz .i64 .i64 m m h0 (Int.le_refl _) (by rw [hiby, Int.mul_comm]; exact hb) hm
  obtain ⟨k1, k2⟩ := rowRV_rep hzr (zeroAV_rep z zv)
  have hzl : zrow.length = sz := by rw [← k1, hzs]
  obtain ⟨y, e1, e2, e3, e4, e5, e6⟩ := newRow_spec hok id e sz (List.replicate m.toNat zrow) (madeCells zv.cells (m.toNat * ii.size)) hpos (fun row hr => by rw [(List.mem_replicate.1 hr).2]; exact hzl)
    (by rw [size_madeCells, hisz]; simp) (by unfold maxLen; simp; omega) (fun i row k d h1 h2 => by
      obtain ⟨hi', hrow⟩ := List.getElem?_eq_some_iff.1 h1
      simp only [List.length_replicate] at hi'
      rw [List.getElem_replicate] at hrow
      subst hrow
      have hkl : k < sz := by rw [← hzl]; exact (List.getElem?_eq_some_iff.1 h2).1
      obtain ⟨u, h3, h4⟩ := k2 k d h2
      refine ⟨u, ?_, h4⟩
      have hlt : i * sz + k < m.toNat * sz := by
        calc i * sz + k < i * sz + sz := by omega
          _ = (i + 1) * sz := by rw [Nat.add_mul, Nat.one_mul]
          _ ≤ m.toNat * sz := Nat.mul_le_mul_right _ hi'
      have hmod : (i * sz + k) % zv.cells.size = k := by rw [hzs, Nat.mul_comm, Nat.mul_add_mod, Nat.mod_eq_of_lt hkl]
      simp only [madeCells, hisz]
      rw [Array.getElem?_map, Array.getElem?_range, if_pos hlt]
      simp only [Option.map_some, hmod]
      rw [← h3]
      have hks : k < zv.cells.size := by omega
      rw [getElem!_pos zv.cells k hks, Array.getElem?_eq_getElem hks])
  unfold Oper.wp execOp
  simp only [ho, rep_int (hl.rep he hc), rep_int (hk.rep he hc), Sem.run_bind, hrun, Result.andThen_ok, Sem.run_pure]
  have := hK _ y e1 e2 (by rw [e4, hH, hn, hget_upd]) (by rw [e5, hn]) (by rw [← hn]; exact e6)
  rw [e3, List.length_replicate] at this
  exact this

/-- A store of one cell into a row. -/
theorem sp_store_arr {t : TypeId} {x y : Operand} {id g i k : Nat} {e : TypeId} {sz : Nat} {xs : List (List RV)} {row : List RV} {a : AV} {d : RV} (ho : o.op = .store t x y) (ht : ∃ i, P.info? t = some i ∧ i.size = 1)
    (hx : Ev c R x (.ptr id g i k)) (hh : hget h id = some (.arr g e sz xs)) (hrow : xs[i]? = some row) (hk : k < row.length) (hy : Ev c R y a) (hd : cellRV a = some d) (h1 : (cellsAV a).length = 1) :
    OpSpec P c o R h n .any ((id, some (.arr g e sz (xs.set i (row.set k d)))) :: h) n := by
  intro hc z w hok hH hn he K Q hK
  obtain ⟨ii, hi, hisz⟩ := ht
  have hHid : z.H id = some (.arr g e sz xs) := by rw [hH]; exact hh
  have hil : i < xs.length := (List.getElem?_eq_some_iff.1 hrow).1
  obtain ⟨b, cap, us, hβ, hx2, hown, hrows, hcells⟩ := rep_elem hok hHid hil (hx.rep he hc)
  have hgn := (hok.obj _ _ hHid).1
  obtain ⟨hus, hown2⟩ := hown
  rcases hown2 with ⟨hv, _⟩ | ⟨b', cap', cur, hv, _, hcur, hnc, hcm, hcs, htake⟩
  · cases hv
  simp only [Value.slice.injEq, Option.some.injEq, Addr.mk.injEq, true_and, and_true] at hv
  obtain ⟨rfl, rfl⟩ := hv
  have hsz : 0 < sz := (hok.obj _ _ hHid).2.1
  have hrl := hrows row (List.mem_of_getElem? hrow)
  have hone : a.one = true := cellRV_one hd
  have hcl : cellsAV a = [a] := by cases a <;> first | rfl | (simp [AV.one] at hone)
  have hvr := hy.rep he hc
  have hvc : (w.eval y).cells = #[w.eval y] := by
    have h2 := hvr.one hone
    generalize w.eval y = v at h2 ⊢
    cases v <;> first | rfl | (simp [Value.oneCell'] at h2)
  have hbase : i * sz + sz ≤ xs.length * sz := by
    have : (i + 1) * sz ≤ xs.length * sz := Nat.mul_le_mul_right _ hil
    rwa [Nat.add_mul, Nat.one_mul] at this
  have hcap : xs.length * sz ≤ cur.size := by rw [hcs]; exact Nat.mul_le_mul_right _ hnc
  have hrun := run_storeAt (P := P) (k := i * sz + k) hi hcur (v := w.eval y) (by rw [hvc, hisz]; rfl) (by rw [hvc]; simpa using hvr.one hone) (by rw [hvc]; simp; omega)
  rw [hvc] at hrun
  simp only [List.size_toArray, List.length_singleton] at hrun
  have hsp2 := fun j => splice_get cur.toList [w.eval y] (i * sz + k) j (by simp; omega)
  simp only [List.length_singleton] at hsp2
  let cur' : Array Value := (cur.toList.take (i * sz + k) ++ [w.eval y] ++ cur.toList.drop (i * sz + k + 1)).toArray
  have hcur's : cur'.size = cur.size := by simp [cur']; omega
  have hup := Cx.upd hok id (.arr g e sz (xs.set i (row.set k d))) (z.w.setRow b cur') (some (b, cap)) z.n (by simp [World.setRow]) rfl rfl rfl
    (fun b' _ hne => setRow_other _ _ _ _ (fun e => hne _ cap hHid (by rw [e]; exact hβ))) (fun b' k' hb => by
      cases hb
      exact ⟨by simpa [World.setRow] using (hok.own id _ b cap hHid hβ).1, .inr ⟨_, _, hHid, hβ⟩⟩) (Nat.le_refl _) hgn
    (fun _ => ⟨_, hHid, rfl, by simp [AObj.shape], hβ.symm⟩)
    (fun hle => by
      have hbs : ∀ b', z.S b' → (z.w.setRow b cur').heap[b']? = z.w.heap[b']? := fun b' hb => hle.blk b' (.inl hb)
      refine ⟨hsz, fun r hr => ?_, .slice (some ⟨b, 0, none⟩) xs.length cap, cur'.toList.take (xs.length * sz), by simp [hdrOk], ⟨by simp [hcur's]; omega, .inr ⟨b, cap, cur', by simp, Nat.zero_le _, setRow_heap _ _ _ _ _ _ hcur, by simpa using hnc, hcm, by rw [hcur's, hcs], by simp⟩⟩, fun i' row' c' d' k1 k2 => ?_⟩
      · rcases List.mem_or_eq_of_mem_set hr with hr | rfl
        · exact hrows r hr
        · simpa using hrl
      · have hi'l : i' < xs.length := by simpa using (List.getElem?_eq_some_iff.1 k1).1
        have hc'l : c' < sz := by
          have := (List.getElem?_eq_some_iff.1 k2).1
          rw [List.getElem?_set] at k1
          split at k1
          · cases k1; simpa [hrl] using this
          · rw [← hrows row' (List.mem_of_getElem? k1)]; exact this
        have hlt : i' * sz + c' < xs.length * sz := by
          calc i' * sz + c' < i' * sz + sz := by omega
            _ = (i' + 1) * sz := by rw [Nat.add_mul, Nat.one_mul]
            _ ≤ xs.length * sz := Nat.mul_le_mul_right _ hi'l
        have hget : (cur'.toList.take (xs.length * sz))[i' * sz + c']? = if i * sz + k ≤ i' * sz + c' ∧ i' * sz + c' < i * sz + k + 1 then [w.eval y][i' * sz + c' - (i * sz + k)]? else cur.toList[i' * sz + c']? := by
          rw [List.getElem?_take, if_pos hlt]
          simp only [cur']
          exact hsp2 _
        have huniq : i * sz + k = i' * sz + c' → i = i' ∧ k = c' := by
          intro heq
          have e1 : (i * sz + k) / sz = i := by rw [Nat.mul_comm, Nat.mul_add_div hsz, Nat.div_eq_of_lt (by omega), Nat.add_zero]
          have e2 : (i' * sz + c') / sz = i' := by rw [Nat.mul_comm, Nat.mul_add_div hsz, Nat.div_eq_of_lt (by omega), Nat.add_zero]
          have : i = i' := by rw [← e1, ← e2, heq]
          subst this
          exact ⟨rfl, by omega⟩
        by_cases heq : i * sz + k = i' * sz + c'
        · obtain ⟨rfl, rfl⟩ := huniq heq
          rw [List.getElem?_set, if_pos rfl, if_pos hil] at k1
          cases k1
          rw [List.getElem?_set, if_pos rfl, if_pos hk] at k2
          cases k2
          refine ⟨w.eval y, by rw [hget, if_pos (by omega)]; simp, (cellRV_rep hd hvr).mono hbs (fun _ h => h)⟩
        · have hold : ∃ row0, xs[i']? = some row0 ∧ row0[c']? = some d' := by
            rw [List.getElem?_set] at k1
            split at k1
            · rename_i hii; subst hii
              cases k1
              rw [List.getElem?_set] at k2
              split at k2
              · rename_i hkk; subst hkk; exact absurd rfl heq
              · exact ⟨row, hrow, k2⟩
            · exact ⟨row', k1, k2⟩
          obtain ⟨row0, k3, k4⟩ := hold
          obtain ⟨u, k5, k6⟩ := hcells _ _ _ _ k3 k4
          refine ⟨u, ?_, k6.mono hbs (fun _ h => h)⟩
          rw [hget, if_neg (by omega), ← k5, ← htake, List.getElem?_take, if_pos hlt])
  unfold Oper.wp execOp
  rw [ho]
  simp only [hx2, Sem.run_bind, hrun, Result.andThen_ok, Sem.run_pure]
  exact hK undef _ hup.1 hup.2 (by simp only [hH]; exact hget_upd _ _ _) hn (.any _)
end
end Go.Proofs.Ythhodpedkdapcaa.Al
