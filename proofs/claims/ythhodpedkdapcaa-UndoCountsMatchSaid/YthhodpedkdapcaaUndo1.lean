/- The walks of which entries count. -/
import Derived.Test.YthhodpedkdapcaaUndo0b
import Derived.Test.YthhodpedkdapcaaProg
namespace Go.Proofs.Ythhodpedkdapcaa.Al
open Go.Proofs
theorem hmix : Try.prog.follows .mixedOrders = true := by kernel_rfl
theorem i_24 : (Try.prog.info? 24).map (fun i => (i.zero, i.size, i.bytes)) = some (some (.int .i64 0), 1, 8) := by kernel_rfl
theorem i_26 : (Try.prog.info? 26).map (fun i => (i.zero, i.size, i.bytes)) = some (some (.agg #[.int .i64 0, .int .i64 0, .slice none 0 0, .int .i64 0, .int .i64 0]), 5, 56) := by kernel_rfl
theorem i_3 : (Try.prog.info? 3).map (fun i => (i.zero, i.size, i.bytes)) = some (some (.int .i64 0), 1, 8) := by kernel_rfl
theorem i_4 : (Try.prog.info? 4).map (fun i => (i.zero, i.size, i.bytes)) = some (some (.bool false), 1, 1) := by kernel_rfl
theorem tb_26 : BuildTy Try.prog 26 [(0, 1), (1, 1), (2, 1), (3, 1), (4, 1)] [.int .i64 0, .int .i64 0, .slice none 0 0, .int .i64 0, .int .i64 0] := BuildTy.of Try.underlying26 (fun w => by kernel_rfl) i_26
theorem tf_26_0 : FieldTy Try.prog 26 0 0 := FieldTy.of Try.underlying26 rfl rfl i_3 (by decide)
theorem tf_26_3 : FieldTy Try.prog 26 3 3 := FieldTy.of Try.underlying26 rfl rfl i_3 (by decide)
theorem tf_26_4 : FieldTy Try.prog 26 4 4 := FieldTy.of Try.underlying26 rfl rfl i_24 (by decide)
theorem tg_22 : GrowTy Try.prog 22 26 5 56 := GrowTy.of Try.underlying22 i_26 rfl rfl (by decide)
theorem tg_27 : GrowTy Try.prog 27 4 1 1 := GrowTy.of Try.underlying27 i_4 rfl rfl (by decide)
theorem tr_4 : ZRow Try.prog 4 [.bool false] := ZRow.of i_4 rfl
theorem ts_24 : ScalTy Try.prog 24 := ScalTy.of Try.underlying24 rfl i_24
theorem ts_3 : ScalTy Try.prog 3 := ScalTy.of Try.underlying3 rfl i_3
theorem ts_4 : ScalTy Try.prog 4 := ScalTy.of Try.underlying4 rfl i_4
theorem tz_4 : ∃ i, Try.prog.info? 4 = some i ∧ i.size = 1 := size_of i_4

set_option maxHeartbeats 1000000 in
set_option maxRecDepth 10000 in
theorem c14 (log : List Entry) (hlen : log.length ≤ 1048576) : ARO Try.prog 14 [.r (.sl (log.map Entry.row))] (.r (.sl ((counts log).map bRow))) := by
  refine ARO.mk Try.func14 rfl rfl Try.ntmps14 rfl (Nat.le_of_ble_eq_true rfl) fun n0 => ?_
  refine AW.seq_k fun K1 hK1 => ?_
  refine AW.region ?_
  refine AOps.step rfl rfl rfl (OpQ.spec (sp_assign rfl (.inl rfl)) _) ?_
  refine AOps.nil ?_
  refine hK1 _ ?_
  refine AW.seq_k fun K2 hK2 => ?_
  refine AW.region ?_
  refine AOps.step rfl rfl rfl (OpQ.spec (sp_move rfl (.inl rfl)) _) ?_
  first | refine AOps.step rfl rfl rfl (OpQ.spec (sp_len_roM rfl tg_22.slice (.inl rfl)) _) ?_ | refine AOps.step rfl rfl rfl (OpQ.spec (sp_len_ro rfl tg_22.slice (.inl rfl)) _) ?_
  refine AOps.step rfl rfl rfl (sp_makeSlice 9 rfl tg_27 tr_4 (.inl rfl) (.inl rfl) ?_ ?_ ?_) ?_
  · omega
  · omega
  · omega
  refine AOps.step rfl rfl rfl (OpQ.spec (sp_assign rfl (.inl rfl)) _) ?_
  refine AOps.nil ?_
  refine hK2 _ ?_
  refine AW.seq_k fun K3 hK3 => ?_
  refine AW.region ?_
  refine AOps.step rfl rfl rfl (OpQ.spec (sp_move rfl (.inl rfl)) _) ?_
  first | refine AOps.step rfl rfl rfl (OpQ.spec (sp_len_roM rfl tg_22.slice (.inl rfl)) _) ?_ | refine AOps.step rfl rfl rfl (OpQ.spec (sp_len_ro rfl tg_22.slice (.inl rfl)) _) ?_
  refine AOps.step rfl rfl rfl (sp_makeSlice 12 rfl tg_27 tr_4 (.inl rfl) (.inl rfl) ?_ ?_ ?_) ?_
  · omega
  · omega
  · omega
  refine AOps.step rfl rfl rfl (OpQ.spec (sp_assign rfl (.inl rfl)) _) ?_
  refine AOps.nil ?_
  refine hK3 _ ?_
  refine AW.seq_k fun K4 hK4 => ?_
  refine AW.seq_k fun K5 hK5 => ?_
  refine AW.region ?_
  refine AOps.step rfl rfl rfl (OpQ.spec (sp_move rfl (.inl rfl)) _) ?_
  first | refine AOps.step rfl rfl rfl (OpQ.spec (sp_len_roM rfl tg_22.slice (.inl rfl)) _) ?_ | refine AOps.step rfl rfl rfl (OpQ.spec (sp_len_ro rfl tg_22.slice (.inl rfl)) _) ?_
  refine AOps.step rfl rfl rfl (OpQ.spec (sp_sub rfl (.inl rfl) (.inl rfl) ?_) _) ?_
  · exact w64 (by omega) (by omega)
  refine AOps.step rfl rfl rfl (OpQ.spec (sp_assign rfl (.inl rfl)) _) ?_
  refine AOps.nil ?_
  refine hK5 _ ?_
  refine AW.block ?_
  refine AW.loop (fun m s => ∃ (j g1 g2 : Nat) (out und : List Bool) (n : Nat), s = ⟨[(0, .r (.sl (log.map Entry.row))), (3, .own 9 g1), (4, .own 12 g2), (5, .r (.int .i64 ((j : Int) - 1)))], [(9, some (.arr g1 4 1 (out.map bRow))), (12, some (.arr g2 4 1 (und.map bRow)))], n, 59⟩ ∧ j ≤ log.length ∧ out.length = log.length ∧ und.length = log.length ∧ countsLoop log j (out, und) = countsLoop log log.length (List.replicate log.length false, List.replicate log.length false) ∧ m = j) (log.length) ⟨⟨_, _, _, _⟩, (by exact Weak.mk ⟨.inr (sl_eq (by first | rfl | (simp [bRow]; done))), .inr rfl, .inr rfl, .inr (int_eq (by first | rfl | omega)), trivial⟩ ⟨.inr (arr_eq (by first | with_reducible rfl | (simp [bRow]; done) | rfl)), .inr (arr_eq (by first | with_reducible rfl | (simp [bRow]; done) | rfl)), trivial⟩ (Nat.le_refl _)), log.length, n0, (n0 + 1), List.replicate log.length false, List.replicate log.length false, (n0 + 2), rfl, ⟨Nat.le_refl _, by simp, by simp, rfl, rfl⟩⟩ ?_
  rintro m0 _ ⟨j, g1, g2, out, und, n, rfl, hj, ho, hu, hrel, hm⟩
  refine AW.seq_k fun K6 hK6 => ?_
  refine AW.seq_k fun K7 hK7 => ?_
  refine AW.region ?_
  refine AOps.step rfl rfl rfl (OpQ.spec (sp_move rfl (.inl rfl)) _) ?_
  refine AOps.step rfl rfl rfl (OpQ.spec (sp_geq rfl (.inl rfl) (.inl rfl)) _) ?_
  refine AOps.nil ?_
  refine hK7 _ ?_
  refine AW.cond rfl (fun hc0 => ?_) (fun hc0 => ?_)
  ·
    simp at hc0
    obtain ⟨i, rfl⟩ : ∃ i, j = i + 1 := ⟨j - 1, by omega⟩
    rw [show (((i + 1 : Nat) : Int) - 1) = (i : Int) by omega]
    refine AW.skip ?_
    refine hK6 _ ?_
    refine AW.seq_k fun K8 hK8 => ?_
    refine AW.block ?_
    refine AW.seq_k fun K9 hK9 => ?_
    refine AW.region ?_
    refine AOps.step rfl rfl rfl (OpQ.spec (sp_move rfl (.inl rfl)) _) ?_
    refine AOps.step rfl rfl rfl (OpQ.spec (sp_move rfl (.inl rfl)) _) ?_
    refine AOps.step rfl rfl rfl (OpQ.spec (sp_move rfl (.inl rfl)) _) ?_
    refine AOps.step rfl rfl rfl (OpQ.spec (sp_move rfl (.inl rfl)) _) ?_
    refine AOps.step rfl rfl rfl (OpQ.spec (sp_indexAddr_ownM (i) rfl tg_27.slice (.inl rfl) rfl (.inl rfl) ?_ ?_) _) ?_
    · intro _; omega
    · intro _; first | omega | (simp; omega)
    refine AOps.step rfl rfl rfl (OpQ.spec (sp_load_arrM rfl ts_4 (.inl rfl) (fun _ => rfl) (fun _ => rfl) ?_) _) ?_
    · intro _; first | omega | (simp; omega)
    refine AOps.step rfl rfl rfl (OpQ.spec (sp_not rfl (.inl rfl)) _) ?_
    refine AOps.step rfl rfl rfl (OpQ.spec (sp_move rfl (.inl rfl)) _) ?_
    refine AOps.stepG rfl rfl rfl rfl rfl (OpQ.spec (sp_move rfl (.inl rfl)) _) ?_
    refine AOps.stepG rfl rfl rfl rfl rfl (OpQ.spec (sp_move rfl (.inl rfl)) _) ?_
    refine AOps.stepG rfl rfl rfl rfl rfl (OpQ.spec (sp_indexAddr_roM (i) rfl tg_22.slice (.inr rfl) (.inr rfl) rfl ?_ ?_) _) ?_
    · intro hg; (try simp at hg); omega
    · intro hg; (try simp at hg); first | omega | (simp; omega)
    refine AOps.stepG rfl rfl rfl rfl rfl (OpQ.spec (sp_fieldAddr_ro rfl tf_26_4 (.inr rfl)) _) ?_
    refine AOps.stepG rfl rfl rfl rfl rfl (OpQ.spec (sp_load_ro rfl ts_24 (.inr rfl) (fun _ => rfl)) _) ?_
    refine AOps.stepG rfl rfl rfl rfl rfl (OpQ.spec (sp_eql rfl (.inr rfl) (.inl rfl)) _) ?_
    refine AOps.step rfl rfl rfl (OpQ.spec (sp_and rfl (.inl rfl) (.inl rfl)) _) ?_
    refine AOps.step rfl rfl rfl (OpQ.spec (sp_indexAddr_ownM (i) rfl tg_27.slice (.inl rfl) rfl (.inl rfl) ?_ ?_) _) ?_
    · intro _; omega
    · intro _; first | omega | (simp; omega)
    refine AOps.step0 rfl rfl (sp_storeM (cOut log und i) rfl tz_4 (.inl rfl) rfl (.inl rfl) rfl rfl ?_ ?_ ?_) ?_
    · first | omega | (simp; omega)
    · simp [bRow]
    · rfl
    refine AOps.nil ?_
    refine hK9 _ ?_
    refine AW.seq_k fun K10 hK10 => ?_
    refine AW.region ?_
    refine AOps.step rfl rfl rfl (OpQ.spec (sp_move rfl (.inl rfl)) _) ?_
    refine AOps.step rfl rfl rfl (OpQ.spec (sp_move rfl (.inl rfl)) _) ?_
    refine AOps.step rfl rfl rfl (OpQ.spec (sp_indexAddr_roM (i) rfl tg_22.slice (.inl rfl) (.inl rfl) rfl ?_ ?_) _) ?_
    · intro _; omega
    · intro _; first | omega | (simp; omega)
    refine AOps.step rfl rfl rfl (OpQ.spec (sp_fieldAddr_ro rfl tf_26_3 (.inl rfl)) _) ?_
    refine AOps.step rfl rfl rfl (OpQ.spec (sp_load_ro rfl ts_3 (.inl rfl) (fun _ => rfl)) _) ?_
    refine AOps.step rfl rfl rfl (OpQ.spec (sp_assign rfl (.inl rfl)) _) ?_
    refine AOps.nil ?_
    refine hK10 _ ?_
    refine AW.seq_k fun K11 hK11 => ?_
    refine AW.region ?_
    refine AOps.step rfl rfl rfl (OpQ.spec (sp_move rfl (.inl rfl)) _) ?_
    refine AOps.step rfl rfl rfl (OpQ.spec (sp_move rfl (.inl rfl)) _) ?_
    refine AOps.step rfl rfl rfl (OpQ.spec (sp_indexAddr_ownM (i) rfl tg_27.slice (.inl rfl) rfl (.inl rfl) ?_ ?_) _) ?_
    · intro _; omega
    · intro _; first | omega | (simp; omega)
    refine AOps.step rfl rfl rfl (OpQ.spec (sp_load_arrM rfl ts_4 (.inl rfl) (fun _ => rfl) (fun _ => rfl) ?_) _) ?_
    · intro _; first | omega | (simp; omega)
    refine AOps.step rfl rfl rfl (OpQ.spec (sp_move rfl (.inl rfl)) _) ?_
    refine AOps.stepG rfl rfl rfl rfl rfl (OpQ.spec (sp_move rfl (.inl rfl)) _) ?_
    refine AOps.stepG rfl rfl rfl rfl rfl (OpQ.spec (sp_geq rfl (.inr rfl) (.inl rfl)) _) ?_
    refine AOps.step rfl rfl rfl (OpQ.spec (sp_and rfl (.inl rfl) (.inl rfl)) _) ?_
    refine AOps.step rfl rfl rfl (OpQ.spec (sp_move rfl (.inl rfl)) _) ?_
    refine AOps.stepG rfl rfl rfl rfl rfl (OpQ.spec (sp_move rfl (.inl rfl)) _) ?_
    refine AOps.stepG rfl rfl rfl rfl rfl (OpQ.spec (sp_move rfl (.inl rfl)) _) ?_
    refine AOps.stepG rfl rfl rfl rfl rfl (OpQ.spec (sp_leq rfl (.inr rfl) (.inr rfl)) _) ?_
    refine AOps.step rfl rfl rfl (OpQ.spec (sp_and rfl (.inl rfl) (.inl rfl)) _) ?_
    refine AOps.nil ?_
    refine hK11 _ ?_
    refine AW.cond rfl (fun hc1 => ?_) (fun hc1 => ?_)
    ·
      simp [-List.getElem!_eq_getElem?_getD] at hc1
      rw [set_get (by omega)] at hc1
      refine AW.region ?_
      refine AOps.step rfl rfl rfl (OpQ.spec (sp_move rfl (.inl rfl)) _) ?_
      refine AOps.step rfl rfl rfl (OpQ.spec (sp_move rfl (.inl rfl)) _) ?_
      refine AOps.step rfl rfl rfl (OpQ.spec (sp_sub rfl (.inl rfl) (.inl rfl) ?_) _) ?_
      · exact w64 (by omega) (by omega)
      refine AOps.step rfl rfl rfl (OpQ.spec (sp_indexAddr_ownM ((log[i]!.undoes - 1).toNat) rfl tg_27.slice (.inl rfl) rfl (.inl rfl) ?_ ?_) _) ?_
      · intro _; omega
      · intro _; first | omega | (simp; omega)
      refine AOps.step0 rfl rfl (sp_storeM (true) rfl tz_4 (.inl rfl) rfl (.inl rfl) rfl rfl ?_ ?_ ?_) ?_
      · first | omega | (simp; omega)
      · simp [bRow]
      · rfl
      refine AOps.nil ?_
      refine hK8 _ ?_
      refine AW.region ?_
      refine AOps.step rfl rfl rfl (OpQ.spec (sp_move rfl (.inl rfl)) _) ?_
      refine AOps.step rfl rfl rfl (OpQ.spec (sp_sub rfl (.inl rfl) (.inl rfl) ?_) _) ?_
      · exact w64 (by omega) (by omega)
      refine AOps.step rfl rfl rfl (OpQ.spec (sp_assign rfl (.inl rfl)) _) ?_
      refine AOps.nil ?_
      refine ⟨i, by omega, ⟨_, _, _, _⟩, (by exact Weak.mk ⟨.inr (sl_eq (by first | rfl | (simp [bRow]; done))), .inr rfl, .inr rfl, .inr (int_eq (by first | rfl | omega)), trivial⟩ ⟨.inr (arr_eq (by first | with_reducible rfl | (simp [bRow]; done) | rfl)), .inr (arr_eq (by first | with_reducible rfl | (simp [bRow]; done) | rfl)), trivial⟩ (Nat.le_refl _)), i, g1, g2, out.set i (cOut log und i), und.set (log[i]!.undoes - 1).toNat true, n, rfl, ⟨by omega, by simp [ho], by simp [hu], ?_, rfl⟩⟩
      rw [← hrel, countsLoop, cUnd, if_pos (by simp only [Bool.and_eq_true, decide_eq_true_eq]; exact hc1)]
    ·
      simp [-List.getElem!_eq_getElem?_getD] at hc1
      rw [set_get (by omega)] at hc1
      refine AW.skip ?_
      refine hK8 _ ?_
      refine AW.region ?_
      refine AOps.step rfl rfl rfl (OpQ.spec (sp_move rfl (.inl rfl)) _) ?_
      refine AOps.step rfl rfl rfl (OpQ.spec (sp_sub rfl (.inl rfl) (.inl rfl) ?_) _) ?_
      · exact w64 (by omega) (by omega)
      refine AOps.step rfl rfl rfl (OpQ.spec (sp_assign rfl (.inl rfl)) _) ?_
      refine AOps.nil ?_
      refine ⟨i, by omega, ⟨_, _, _, _⟩, (by exact Weak.mk ⟨.inr (sl_eq (by first | rfl | (simp [bRow]; done))), .inr rfl, .inr rfl, .inr (int_eq (by first | rfl | omega)), trivial⟩ ⟨.inr (arr_eq (by first | with_reducible rfl | (simp [bRow]; done) | rfl)), .inr (arr_eq (by first | with_reducible rfl | (simp [bRow]; done) | rfl)), trivial⟩ (Nat.le_refl _)), i, g1, g2, out.set i (cOut log und i), und, n, rfl, ⟨by omega, by simp [ho], by simp [hu], ?_, rfl⟩⟩
      rw [← hrel, countsLoop, cUnd, if_neg (by simp only [Bool.and_eq_true, decide_eq_true_eq]; rintro ⟨⟨a, b⟩, c⟩; have := hc1 a b; omega)]
  ·
    simp [-List.getElem!_eq_getElem?_getD] at hc0
    refine AW.exit ?_
    refine hK4 _ ?_
    refine AW.seq_k fun K12 hK12 => ?_
    refine AW.region ?_
    refine AOps.step rfl rfl rfl (OpQ.spec (sp_move rfl (.inl rfl)) _) ?_
    refine AOps.step rfl rfl rfl (OpQ.spec (sp_assign rfl (.inl rfl)) _) ?_
    refine AOps.nil ?_
    refine hK12 _ ?_
    refine AW.ret ?_
    obtain rfl : j = 0 := by omega
    exact ret_own (.inl rfl) rfl rfl (by rw [counts, ← hrel]; rfl)

set_option maxHeartbeats 1000000 in
set_option maxRecDepth 10000 in
theorem c100 (log : List Entry) (i : Nat) (hi : i < log.length) : ARO Try.prog 100 [.r (.sl (log.map Entry.row)), .r (.int .i64 i)] (.r (.bool (uok log i))) := by
  refine ARO.mk Try.func100 rfl rfl Try.ntmps100 rfl (Nat.le_of_ble_eq_true rfl) fun n0 => ?_
  refine AW.seq_k fun K13 hK13 => ?_
  refine AW.region ?_
  refine AOps.step rfl rfl rfl (OpQ.spec (sp_assign rfl (.inl rfl)) _) ?_
  refine AOps.nil ?_
  refine hK13 _ ?_
  refine AW.seq_k fun K14 hK14 => ?_
  refine AW.region ?_
  refine AOps.step rfl rfl rfl (OpQ.spec (sp_move rfl (.inl rfl)) _) ?_
  refine AOps.step rfl rfl rfl (OpQ.spec (sp_move rfl (.inl rfl)) _) ?_
  refine AOps.step rfl rfl rfl (OpQ.spec (sp_indexAddr_roM (i) rfl tg_22.slice (.inl rfl) (.inl rfl) rfl ?_ ?_) _) ?_
  · intro _; omega
  · intro _; first | omega | (simp; omega)
  refine AOps.step rfl rfl rfl (OpQ.spec (sp_fieldAddr_ro rfl tf_26_3 (.inl rfl)) _) ?_
  refine AOps.step rfl rfl rfl (OpQ.spec (sp_load_ro rfl ts_3 (.inl rfl) (fun _ => rfl)) _) ?_
  refine AOps.step rfl rfl rfl (OpQ.spec (sp_geq rfl (.inl rfl) (.inl rfl)) _) ?_
  refine AOps.step rfl rfl rfl (OpQ.spec (sp_move rfl (.inl rfl)) _) ?_
  refine AOps.stepG rfl rfl rfl rfl rfl (OpQ.spec (sp_move rfl (.inl rfl)) _) ?_
  refine AOps.stepG rfl rfl rfl rfl rfl (OpQ.spec (sp_move rfl (.inl rfl)) _) ?_
  refine AOps.stepG rfl rfl rfl rfl rfl (OpQ.spec (sp_indexAddr_roM (i) rfl tg_22.slice (.inr rfl) (.inr rfl) rfl ?_ ?_) _) ?_
  · intro hg; (try simp at hg); omega
  · intro hg; (try simp at hg); first | omega | (simp; omega)
  refine AOps.stepG rfl rfl rfl rfl rfl (OpQ.spec (sp_fieldAddr_ro rfl tf_26_3 (.inr rfl)) _) ?_
  refine AOps.stepG rfl rfl rfl rfl rfl (OpQ.spec (sp_load_ro rfl ts_3 (.inr rfl) (fun _ => rfl)) _) ?_
  refine AOps.stepG rfl rfl rfl rfl rfl (OpQ.spec (sp_move rfl (.inl rfl)) _) ?_
  refine AOps.stepG rfl rfl rfl rfl rfl (OpQ.spec (sp_leq rfl (.inr rfl) (.inr rfl)) _) ?_
  refine AOps.step rfl rfl rfl (OpQ.spec (sp_and rfl (.inl rfl) (.inl rfl)) _) ?_
  refine AOps.step rfl rfl rfl (OpQ.spec (sp_assign rfl (.inl rfl)) _) ?_
  refine AOps.nil ?_
  refine hK14 _ ?_
  refine AW.ret ?_
  exact ret_closed (.inl rfl) rfl rfl

set_option maxHeartbeats 1000000 in
set_option maxRecDepth 10000 in
theorem c31 (a b c : Int) : ARO Try.prog 31 [.r (.int .i64 a), .r (.int .i64 b), .r (.int .i64 c)] (.r (.bool (decide (b ≤ a) && decide (a ≤ c)))) := by
  refine ARO.mk Try.func31 rfl rfl Try.ntmps31 rfl (Nat.le_of_ble_eq_true rfl) fun n0 => ?_
  refine AW.seq_k fun K15 hK15 => ?_
  refine AW.region ?_
  refine AOps.step rfl rfl rfl (OpQ.spec (sp_assign rfl (.inl rfl)) _) ?_
  refine AOps.nil ?_
  refine hK15 _ ?_
  refine AW.seq_k fun K16 hK16 => ?_
  refine AW.region ?_
  refine AOps.step rfl rfl rfl (OpQ.spec (sp_move rfl (.inl rfl)) _) ?_
  refine AOps.step rfl rfl rfl (OpQ.spec (sp_move rfl (.inl rfl)) _) ?_
  refine AOps.step rfl rfl rfl (OpQ.spec (sp_geq rfl (.inl rfl) (.inl rfl)) _) ?_
  refine AOps.step rfl rfl rfl (OpQ.spec (sp_move rfl (.inl rfl)) _) ?_
  refine AOps.stepG rfl rfl rfl rfl rfl (OpQ.spec (sp_move rfl (.inl rfl)) _) ?_
  refine AOps.stepG rfl rfl rfl rfl rfl (OpQ.spec (sp_move rfl (.inl rfl)) _) ?_
  refine AOps.stepG rfl rfl rfl rfl rfl (OpQ.spec (sp_leq rfl (.inr rfl) (.inr rfl)) _) ?_
  refine AOps.step rfl rfl rfl (OpQ.spec (sp_and rfl (.inl rfl) (.inl rfl)) _) ?_
  refine AOps.step rfl rfl rfl (OpQ.spec (sp_assign rfl (.inl rfl)) _) ?_
  refine AOps.nil ?_
  refine hK16 _ ?_
  refine AW.ret ?_
  exact ret_closed (.inl rfl) rfl rfl

set_option maxHeartbeats 1000000 in
set_option maxRecDepth 10000 in
theorem c71 (log : List Entry) (i : Nat) (hi : i < log.length) : ARO Try.prog 71 [.r (.sl (log.map Entry.row)), .r (.int .i64 i)] (.r (.bool (uok log i))) := by
  refine ARO.mk Try.func71 rfl rfl Try.ntmps71 rfl (Nat.le_of_ble_eq_true rfl) fun n0 => ?_
  refine AW.seq_k fun K17 hK17 => ?_
  refine AW.region ?_
  refine AOps.step rfl rfl rfl (OpQ.spec (sp_assign rfl (.inl rfl)) _) ?_
  refine AOps.nil ?_
  refine hK17 _ ?_
  refine AW.seq_k fun K18 hK18 => ?_
  refine AW.region ?_
  refine AOps.step rfl rfl rfl (OpQ.spec (sp_move rfl (.inl rfl)) _) ?_
  refine AOps.step rfl rfl rfl (OpQ.spec (sp_move rfl (.inl rfl)) _) ?_
  refine AOps.step rfl rfl rfl (OpQ.spec (sp_indexAddr_roM (i) rfl tg_22.slice (.inl rfl) (.inl rfl) rfl ?_ ?_) _) ?_
  · intro _; omega
  · intro _; first | omega | (simp; omega)
  refine AOps.step rfl rfl rfl (OpQ.spec (sp_fieldAddr_ro rfl tf_26_3 (.inl rfl)) _) ?_
  refine AOps.step rfl rfl rfl (OpQ.spec (sp_load_ro rfl ts_3 (.inl rfl) (fun _ => rfl)) _) ?_
  refine AOps.step rfl rfl rfl (OpQ.spec (sp_move rfl (.inl rfl)) _) ?_
  refine AOps.step rfl rfl rfl (sp_call (caps := []) (bs := [_, _, _]) rfl (.inl rfl) rfl ⟨⟨.r _, (.inl rfl), .one (.closed _ rfl)⟩, ⟨.r _, (.inl rfl), .one (.closed _ rfl)⟩, ⟨.r _, (.inl rfl), .one (.closed _ rfl)⟩, trivial⟩ (fun _ => c31 _ _ _) rfl) ?_
  refine AOps.step rfl rfl rfl (OpQ.spec (sp_assign rfl (.inl rfl)) _) ?_
  refine AOps.nil ?_
  refine hK18 _ ?_
  refine AW.ret ?_
  exact ret_closed (.inl rfl) rfl rfl

set_option maxHeartbeats 1000000 in
set_option maxRecDepth 10000 in
theorem c70 (log : List Entry) (i : Nat) (hi : i < log.length) (hs : log.length ≤ 1048576) : ARO Try.prog 70 [.r (.sl (log.map Entry.row)), .r (.int .i64 i)] (.r (.int .i64 (depthN log i))) := by
  refine ARO.mk Try.func70 rfl rfl Try.ntmps70 rfl (Nat.le_of_ble_eq_true rfl) fun n0 => ?_
  refine AW.seq_k fun K19 hK19 => ?_
  refine AW.region ?_
  refine AOps.step rfl rfl rfl (OpQ.spec (sp_assign rfl (.inl rfl)) _) ?_
  refine AOps.nil ?_
  refine hK19 _ ?_
  refine AW.seq_k fun K20 hK20 => ?_
  refine AW.region ?_
  refine AOps.step rfl rfl rfl (OpQ.spec (sp_assign rfl (.inl rfl)) _) ?_
  refine AOps.nil ?_
  refine hK20 _ ?_
  refine AW.seq_k fun K21 hK21 => ?_
  refine AW.block ?_
  refine AW.loop (fun m s => ∃ (q k : Nat) (n : Nat), s = ⟨[(0, .r (.sl (log.map Entry.row))), (1, .r (.int .i64 q)), (5, .r (.int .i64 k))], [], n, 18⟩ ∧ q ≤ i ∧ q + k ≤ i ∧ k + depthN log q = depthN log i ∧ m = q) (i) ⟨⟨_, _, _, _⟩, (by exact Weak.mk ⟨.inr (sl_eq (by first | rfl | (simp []; done))), .inr (int_eq (by first | rfl | omega)), .inr (int_eq (by first | rfl | omega)), trivial⟩ trivial (Nat.le_refl _)), i, 0, n0, rfl, ⟨Nat.le_refl _, Nat.le_refl _, by simp, rfl⟩⟩ ?_
  rintro m0 _ ⟨q, k, n, rfl, h1, h2, h3, hm⟩
  refine AW.seq_k fun K22 hK22 => ?_
  refine AW.seq_k fun K23 hK23 => ?_
  refine AW.region ?_
  refine AOps.step rfl rfl rfl (OpQ.spec (sp_move rfl (.inl rfl)) _) ?_
  refine AOps.step rfl rfl rfl (OpQ.spec (sp_move rfl (.inl rfl)) _) ?_
  refine AOps.step rfl rfl rfl (sp_call (caps := []) (bs := [_, _]) rfl (.inl rfl) rfl ⟨⟨.r _, (.inl rfl), .one (.closed _ rfl)⟩, ⟨.r _, (.inl rfl), .one (.closed _ rfl)⟩, trivial⟩ (fun _ => c100 log q (by omega)) rfl) ?_
  refine AOps.nil ?_
  refine hK23 _ ?_
  refine AW.cond rfl (fun hc0 => ?_) (fun hc0 => ?_)
  ·
    skip
    refine AW.skip ?_
    refine hK22 _ ?_
    refine AW.block ?_
    refine AW.seq_k fun K24 hK24 => ?_
    refine AW.region ?_
    refine AOps.step rfl rfl rfl (OpQ.spec (sp_move rfl (.inl rfl)) _) ?_
    refine AOps.step rfl rfl rfl (OpQ.spec (sp_move rfl (.inl rfl)) _) ?_
    refine AOps.step rfl rfl rfl (OpQ.spec (sp_indexAddr_roM (q) rfl tg_22.slice (.inl rfl) (.inl rfl) rfl ?_ ?_) _) ?_
    · intro _; omega
    · intro _; first | omega | (simp; omega)
    refine AOps.step rfl rfl rfl (OpQ.spec (sp_fieldAddr_ro rfl tf_26_3 (.inl rfl)) _) ?_
    refine AOps.step rfl rfl rfl (OpQ.spec (sp_load_ro rfl ts_3 (.inl rfl) (fun _ => rfl)) _) ?_
    refine AOps.step rfl rfl rfl (OpQ.spec (sp_sub rfl (.inl rfl) (.inl rfl) ?_) _) ?_
    · exact w64 (by have hu : uok log q = true := hc0; simp only [uok, Bool.and_eq_true, decide_eq_true_eq] at hu; omega) (by have hu : uok log q = true := hc0; simp only [uok, Bool.and_eq_true, decide_eq_true_eq] at hu; omega)
    refine AOps.step rfl rfl rfl (OpQ.spec (sp_assign rfl (.inl rfl)) _) ?_
    refine AOps.nil ?_
    refine hK24 _ ?_
    refine AW.region ?_
    refine AOps.step rfl rfl rfl (OpQ.spec (sp_move rfl (.inl rfl)) _) ?_
    refine AOps.step rfl rfl rfl (OpQ.spec (sp_add rfl (.inl rfl) (.inl rfl) ?_) _) ?_
    · exact w64 (by omega) (by omega)
    refine AOps.step rfl rfl rfl (OpQ.spec (sp_assign rfl (.inl rfl)) _) ?_
    refine AOps.nil ?_
    have hu : uok log q = true := hc0
    have hu2 := hu
    simp only [uok, Bool.and_eq_true, decide_eq_true_eq] at hu2
    rw [depthN, dif_pos hu] at h3
    refine ⟨(log[q]!.undoes - 1).toNat, by omega, ⟨_, _, _, _⟩, (by exact Weak.mk ⟨.inr (sl_eq (by first | rfl | (simp []; done))), .inr (int_eq (by first | rfl | omega)), .inr (int_eq (by first | rfl | omega)), trivial⟩ trivial (Nat.le_refl _)), (log[q]!.undoes - 1).toNat, k + 1, n, rfl, ⟨by omega, by omega, by omega, rfl⟩⟩
  ·
    skip
    refine AW.exit ?_
    refine hK21 _ ?_
    refine AW.seq_k fun K25 hK25 => ?_
    refine AW.region ?_
    refine AOps.step rfl rfl rfl (OpQ.spec (sp_move rfl (.inl rfl)) _) ?_
    refine AOps.step rfl rfl rfl (OpQ.spec (sp_assign rfl (.inl rfl)) _) ?_
    refine AOps.nil ?_
    refine hK25 _ ?_
    refine AW.ret ?_
    have hu : ¬ uok log q = true := by rw [show uok log q = false from hc0]; decide
    rw [depthN, dif_neg hu] at h3
    exact ret_closed (.inl rfl) (int_eq (by omega)) rfl

set_option maxHeartbeats 1000000 in
set_option maxRecDepth 10000 in
theorem c15 (log : List Entry) (hlen : log.length ≤ 1048576) (site : Int) : ARO Try.prog 15 [.r (.sl (log.map Entry.row)), .r (.int .i64 site)] (.r (.int .i64 (lastLoop log (counts log) site log.length))) := by
  refine ARO.mk Try.func15 rfl rfl Try.ntmps15 rfl (Nat.le_of_ble_eq_true rfl) fun n0 => ?_
  refine AW.seq_k fun K26 hK26 => ?_
  refine AW.region ?_
  refine AOps.step rfl rfl rfl (OpQ.spec (sp_assign rfl (.inl rfl)) _) ?_
  refine AOps.nil ?_
  refine hK26 _ ?_
  refine AW.seq_k fun K27 hK27 => ?_
  refine AW.region ?_
  refine AOps.step rfl rfl rfl (OpQ.spec (sp_move rfl (.inl rfl)) _) ?_
  refine AOps.step rfl rfl rfl (sp_callS (caps := []) (bs := [_]) rfl (.inl rfl) rfl ⟨.inl ⟨(.inl rfl), rfl⟩, trivial⟩ (fun _ => c14 log hlen)) ?_
  refine AOps.step rfl rfl rfl (OpQ.spec (sp_assign rfl (.inl rfl)) _) ?_
  refine AOps.nil ?_
  refine hK27 _ ?_
  refine AW.seq_k fun K28 hK28 => ?_
  refine AW.seq_k fun K29 hK29 => ?_
  refine AW.region ?_
  refine AOps.step rfl rfl rfl (OpQ.spec (sp_move rfl (.inl rfl)) _) ?_
  first | refine AOps.step rfl rfl rfl (OpQ.spec (sp_len_roM rfl tg_22.slice (.inl rfl)) _) ?_ | refine AOps.step rfl rfl rfl (OpQ.spec (sp_len_ro rfl tg_22.slice (.inl rfl)) _) ?_
  refine AOps.step rfl rfl rfl (OpQ.spec (sp_sub rfl (.inl rfl) (.inl rfl) ?_) _) ?_
  · exact w64 (by omega) (by omega)
  refine AOps.step rfl rfl rfl (OpQ.spec (sp_assign rfl (.inl rfl)) _) ?_
  refine AOps.nil ?_
  refine hK29 _ ?_
  refine AW.block ?_
  refine AW.loop (fun m s => ∃ (j : Nat) (n : Nat), s = ⟨[(0, .r (.sl (log.map Entry.row))), (1, .r (.int .i64 site)), (5, .r (.sl ((counts log).map bRow))), (6, .r (.int .i64 ((j : Int) - 1)))], [], n, 37⟩ ∧ j ≤ log.length ∧ lastLoop log (counts log) site log.length = lastLoop log (counts log) site j ∧ m = j) (log.length) ⟨⟨_, _, _, _⟩, (by exact Weak.mk ⟨.inr (sl_eq (by first | rfl | (simp []; done))), .inr (int_eq (by first | rfl | omega)), .inr (sl_eq (by first | rfl | (simp []; done))), .inr (int_eq (by first | rfl | omega)), trivial⟩ trivial (Nat.le_refl _)), log.length, n0, rfl, ⟨Nat.le_refl _, rfl, rfl⟩⟩ ?_
  rintro m0 _ ⟨j, n, rfl, hj, hrel, hm⟩
  refine AW.seq_k fun K30 hK30 => ?_
  refine AW.seq_k fun K31 hK31 => ?_
  refine AW.region ?_
  refine AOps.step rfl rfl rfl (OpQ.spec (sp_move rfl (.inl rfl)) _) ?_
  refine AOps.step rfl rfl rfl (OpQ.spec (sp_geq rfl (.inl rfl) (.inl rfl)) _) ?_
  refine AOps.nil ?_
  refine hK31 _ ?_
  refine AW.cond rfl (fun hc0 => ?_) (fun hc0 => ?_)
  ·
    simp at hc0
    obtain ⟨i, rfl⟩ : ∃ i, j = i + 1 := ⟨j - 1, by omega⟩
    rw [show (((i + 1 : Nat) : Int) - 1) = (i : Int) by omega]
    have hcl := counts_length log
    refine AW.skip ?_
    refine hK30 _ ?_
    refine AW.seq_k fun K32 hK32 => ?_
    refine AW.block ?_
    refine AW.seq_k fun K33 hK33 => ?_
    refine AW.region ?_
    refine AOps.step rfl rfl rfl (OpQ.spec (sp_move rfl (.inl rfl)) _) ?_
    refine AOps.step rfl rfl rfl (OpQ.spec (sp_move rfl (.inl rfl)) _) ?_
    refine AOps.step rfl rfl rfl (OpQ.spec (sp_indexAddr_roM (i) rfl tg_22.slice (.inl rfl) (.inl rfl) rfl ?_ ?_) _) ?_
    · intro _; omega
    · intro _; first | omega | (simp; omega)
    refine AOps.step rfl rfl rfl (OpQ.spec (sp_fieldAddr_ro rfl tf_26_0 (.inl rfl)) _) ?_
    refine AOps.step rfl rfl rfl (OpQ.spec (sp_load_ro rfl ts_3 (.inl rfl) (fun _ => rfl)) _) ?_
    refine AOps.step rfl rfl rfl (OpQ.spec (sp_move rfl (.inl rfl)) _) ?_
    refine AOps.step rfl rfl rfl (OpQ.spec (sp_eql rfl (.inl rfl) (.inl rfl)) _) ?_
    refine AOps.step rfl rfl rfl (OpQ.spec (sp_move rfl (.inl rfl)) _) ?_
    refine AOps.stepG rfl rfl rfl rfl rfl (OpQ.spec (sp_move rfl (.inl rfl)) _) ?_
    refine AOps.stepG rfl rfl rfl rfl rfl (OpQ.spec (sp_move rfl (.inl rfl)) _) ?_
    refine AOps.stepG rfl rfl rfl rfl rfl (OpQ.spec (sp_indexAddr_roM (i) rfl tg_27.slice (.inr rfl) (.inr rfl) rfl ?_ ?_) _) ?_
    · intro hg; (try simp at hg); omega
    · intro hg; (try simp at hg); first | omega | (simp; omega)
    refine AOps.stepG rfl rfl rfl rfl rfl (OpQ.spec (sp_load_ro rfl ts_4 (.inr rfl) (fun _ => rfl)) _) ?_
    refine AOps.step rfl rfl rfl (OpQ.spec (sp_and rfl (.inl rfl) (.inl rfl)) _) ?_
    refine AOps.step rfl rfl rfl (OpQ.spec (sp_move rfl (.inl rfl)) _) ?_
    refine AOps.stepG rfl rfl rfl rfl rfl (OpQ.spec (sp_move rfl (.inl rfl)) _) ?_
    refine AOps.stepG rfl rfl rfl rfl rfl (OpQ.spec (sp_move rfl (.inl rfl)) _) ?_
    refine AOps.stepG rfl rfl rfl rfl rfl (sp_call (caps := []) (bs := [_, _]) rfl (.inl rfl) rfl ⟨⟨.r _, (.inr rfl), .one (.closed _ rfl)⟩, ⟨.r _, (.inr rfl), .one (.closed _ rfl)⟩, trivial⟩ (fun _ => c70 log i (by omega) hlen) rfl) ?_
    refine AOps.stepG rfl rfl rfl rfl rfl (OpQ.spec (sp_eql rfl (.inr rfl) (.inl rfl)) _) ?_
    refine AOps.step rfl rfl rfl (OpQ.spec (sp_and rfl (.inl rfl) (.inl rfl)) _) ?_
    refine AOps.nil ?_
    refine hK33 _ ?_
    refine AW.cond rfl (fun hc1 => ?_) (fun hc1 => ?_)
    ·
      simp [-List.getElem!_eq_getElem?_getD] at hc1
      refine AW.seq_k fun K34 hK34 => ?_
      refine AW.region ?_
      refine AOps.step rfl rfl rfl (OpQ.spec (sp_move rfl (.inl rfl)) _) ?_
      refine AOps.step rfl rfl rfl (OpQ.spec (sp_add rfl (.inl rfl) (.inl rfl) ?_) _) ?_
      · exact w64 (by omega) (by omega)
      refine AOps.step rfl rfl rfl (OpQ.spec (sp_assign rfl (.inl rfl)) _) ?_
      refine AOps.nil ?_
      refine hK34 _ ?_
      refine AW.ret ?_
      exact ret_closed (.inl rfl) (int_eq (by rw [hrel, lastLoop, if_pos (And.intro hc1.1.1 (And.intro hc1.1.2 hc1.2))])) rfl
    ·
      simp [-List.getElem!_eq_getElem?_getD] at hc1
      refine AW.skip ?_
      refine hK32 _ ?_
      refine AW.region ?_
      refine AOps.step rfl rfl rfl (OpQ.spec (sp_move rfl (.inl rfl)) _) ?_
      refine AOps.step rfl rfl rfl (OpQ.spec (sp_sub rfl (.inl rfl) (.inl rfl) ?_) _) ?_
      · exact w64 (by omega) (by omega)
      refine AOps.step rfl rfl rfl (OpQ.spec (sp_assign rfl (.inl rfl)) _) ?_
      refine AOps.nil ?_
      refine ⟨i, by omega, ⟨_, _, _, _⟩, (by exact Weak.mk ⟨.inr (sl_eq (by first | rfl | (simp []; done))), .inr (int_eq (by first | rfl | omega)), .inr (sl_eq (by first | rfl | (simp []; done))), .inr (int_eq (by first | rfl | omega)), trivial⟩ trivial (Nat.le_refl _)), i, n, rfl, ⟨by omega, ?_, rfl⟩⟩
      rw [hrel, lastLoop, if_neg (by rintro ⟨a, b, c⟩; exact hc1 a b c)]
  ·
    simp [-List.getElem!_eq_getElem?_getD] at hc0
    refine AW.exit ?_
    refine hK28 _ ?_
    refine AW.seq_k fun K35 hK35 => ?_
    refine AW.region ?_
    refine AOps.step rfl rfl rfl (OpQ.spec (sp_assign rfl (.inl rfl)) _) ?_
    refine AOps.nil ?_
    refine hK35 _ ?_
    refine AW.ret ?_
    obtain rfl : j = 0 := by omega
    exact ret_closed (.inl rfl) (int_eq (by rw [hrel]; rfl)) rfl

set_option maxHeartbeats 1000000 in
set_option maxRecDepth 10000 in
theorem c18 (log : List Entry) (hlen : log.length ≤ 1048576) (site : Int) : ARO Try.prog 18 [.r (.sl (log.map Entry.row)), .r (.int .i64 site)] (.r (.int .i64 (lastUnd log (counts log) site log.length))) := by
  refine ARO.mk Try.func18 rfl rfl Try.ntmps18 rfl (Nat.le_of_ble_eq_true rfl) fun n0 => ?_
  refine AW.seq_k fun K36 hK36 => ?_
  refine AW.region ?_
  refine AOps.step rfl rfl rfl (OpQ.spec (sp_assign rfl (.inl rfl)) _) ?_
  refine AOps.nil ?_
  refine hK36 _ ?_
  refine AW.seq_k fun K37 hK37 => ?_
  refine AW.region ?_
  refine AOps.step rfl rfl rfl (OpQ.spec (sp_move rfl (.inl rfl)) _) ?_
  refine AOps.step rfl rfl rfl (sp_callS (caps := []) (bs := [_]) rfl (.inl rfl) rfl ⟨.inl ⟨(.inl rfl), rfl⟩, trivial⟩ (fun _ => c14 log hlen)) ?_
  refine AOps.step rfl rfl rfl (OpQ.spec (sp_assign rfl (.inl rfl)) _) ?_
  refine AOps.nil ?_
  refine hK37 _ ?_
  refine AW.seq_k fun K38 hK38 => ?_
  refine AW.seq_k fun K39 hK39 => ?_
  refine AW.region ?_
  refine AOps.step rfl rfl rfl (OpQ.spec (sp_move rfl (.inl rfl)) _) ?_
  first | refine AOps.step rfl rfl rfl (OpQ.spec (sp_len_roM rfl tg_22.slice (.inl rfl)) _) ?_ | refine AOps.step rfl rfl rfl (OpQ.spec (sp_len_ro rfl tg_22.slice (.inl rfl)) _) ?_
  refine AOps.step rfl rfl rfl (OpQ.spec (sp_sub rfl (.inl rfl) (.inl rfl) ?_) _) ?_
  · exact w64 (by omega) (by omega)
  refine AOps.step rfl rfl rfl (OpQ.spec (sp_assign rfl (.inl rfl)) _) ?_
  refine AOps.nil ?_
  refine hK39 _ ?_
  refine AW.block ?_
  refine AW.loop (fun m s => ∃ (j : Nat) (n : Nat), s = ⟨[(0, .r (.sl (log.map Entry.row))), (1, .r (.int .i64 site)), (5, .r (.sl ((counts log).map bRow))), (6, .r (.int .i64 ((j : Int) - 1)))], [], n, 47⟩ ∧ j ≤ log.length ∧ lastUnd log (counts log) site log.length = lastUnd log (counts log) site j ∧ m = j) (log.length) ⟨⟨_, _, _, _⟩, (by exact Weak.mk ⟨.inr (sl_eq (by first | rfl | (simp []; done))), .inr (int_eq (by first | rfl | omega)), .inr (sl_eq (by first | rfl | (simp []; done))), .inr (int_eq (by first | rfl | omega)), trivial⟩ trivial (Nat.le_refl _)), log.length, n0, rfl, ⟨Nat.le_refl _, rfl, rfl⟩⟩ ?_
  rintro m0 _ ⟨j, n, rfl, hj, hrel, hm⟩
  refine AW.seq_k fun K40 hK40 => ?_
  refine AW.seq_k fun K41 hK41 => ?_
  refine AW.region ?_
  refine AOps.step rfl rfl rfl (OpQ.spec (sp_move rfl (.inl rfl)) _) ?_
  refine AOps.step rfl rfl rfl (OpQ.spec (sp_geq rfl (.inl rfl) (.inl rfl)) _) ?_
  refine AOps.nil ?_
  refine hK41 _ ?_
  refine AW.cond rfl (fun hc0 => ?_) (fun hc0 => ?_)
  ·
    simp at hc0
    obtain ⟨i, rfl⟩ : ∃ i, j = i + 1 := ⟨j - 1, by omega⟩
    rw [show (((i + 1 : Nat) : Int) - 1) = (i : Int) by omega]
    have hcl := counts_length log
    refine AW.skip ?_
    refine hK40 _ ?_
    refine AW.seq_k fun K42 hK42 => ?_
    refine AW.block ?_
    refine AW.seq_k fun K43 hK43 => ?_
    refine AW.seq_k fun K44 hK44 => ?_
    refine AW.region ?_
    refine AOps.step rfl rfl rfl (OpQ.spec (sp_move rfl (.inl rfl)) _) ?_
    refine AOps.step rfl rfl rfl (OpQ.spec (sp_move rfl (.inl rfl)) _) ?_
    refine AOps.step rfl rfl rfl (OpQ.spec (sp_indexAddr_roM (i) rfl tg_22.slice (.inl rfl) (.inl rfl) rfl ?_ ?_) _) ?_
    · intro _; omega
    · intro _; first | omega | (simp; omega)
    refine AOps.step rfl rfl rfl (OpQ.spec (sp_fieldAddr_ro rfl tf_26_0 (.inl rfl)) _) ?_
    refine AOps.step rfl rfl rfl (OpQ.spec (sp_load_ro rfl ts_3 (.inl rfl) (fun _ => rfl)) _) ?_
    refine AOps.step rfl rfl rfl (OpQ.spec (sp_move rfl (.inl rfl)) _) ?_
    refine AOps.step rfl rfl rfl (OpQ.spec (sp_neq rfl (.inl rfl) (.inl rfl)) _) ?_
    refine AOps.step rfl rfl rfl (OpQ.spec (sp_move rfl (.inl rfl)) _) ?_
    refine AOps.stepG rfl rfl rfl rfl rfl (OpQ.spec (sp_move rfl (.inl rfl)) _) ?_
    refine AOps.stepG rfl rfl rfl rfl rfl (OpQ.spec (sp_move rfl (.inl rfl)) _) ?_
    refine AOps.stepG rfl rfl rfl rfl rfl (OpQ.spec (sp_indexAddr_roM (i) rfl tg_22.slice (.inr rfl) (.inr rfl) rfl ?_ ?_) _) ?_
    · intro hg; (try simp at hg); omega
    · intro hg; (try simp at hg); first | omega | (simp; omega)
    refine AOps.stepG rfl rfl rfl rfl rfl (OpQ.spec (sp_fieldAddr_ro rfl tf_26_4 (.inr rfl)) _) ?_
    refine AOps.stepG rfl rfl rfl rfl rfl (OpQ.spec (sp_load_ro rfl ts_24 (.inr rfl) (fun _ => rfl)) _) ?_
    refine AOps.stepG rfl rfl rfl rfl rfl (OpQ.spec (sp_neq rfl (.inr rfl) (.inl rfl)) _) ?_
    refine AOps.step rfl rfl rfl (OpQ.spec (sp_or rfl (.inl rfl) (.inl rfl)) _) ?_
    refine AOps.nil ?_
    refine hK44 _ ?_
    refine AW.cond rfl (fun hc1 => ?_) (fun hc1 => ?_)
    ·
      simp [-List.getElem!_eq_getElem?_getD] at hc1
      replace hc1 : log[i]!.site ≠ site ∨ log[i]!.refused ≠ 0 := by omega
      refine AW.exit ?_
      refine hK42 _ ?_
      refine AW.region ?_
      refine AOps.step rfl rfl rfl (OpQ.spec (sp_move rfl (.inl rfl)) _) ?_
      refine AOps.step rfl rfl rfl (OpQ.spec (sp_sub rfl (.inl rfl) (.inl rfl) ?_) _) ?_
      · exact w64 (by omega) (by omega)
      refine AOps.step rfl rfl rfl (OpQ.spec (sp_assign rfl (.inl rfl)) _) ?_
      refine AOps.nil ?_
      refine ⟨i, by omega, ⟨_, _, _, _⟩, (by exact Weak.mk ⟨.inr (sl_eq (by first | rfl | (simp []; done))), .inr (int_eq (by first | rfl | omega)), .inr (sl_eq (by first | rfl | (simp []; done))), .inr (int_eq (by first | rfl | omega)), trivial⟩ trivial (Nat.le_refl _)), i, n, rfl, ⟨by omega, ?_, rfl⟩⟩
      rw [hrel, lastUnd, if_pos hc1]
    ·
      simp [-List.getElem!_eq_getElem?_getD] at hc1
      refine AW.skip ?_
      refine hK43 _ ?_
      refine AW.seq_k fun K45 hK45 => ?_
      refine AW.region ?_
      refine AOps.step rfl rfl rfl (OpQ.spec (sp_move rfl (.inl rfl)) _) ?_
      refine AOps.step rfl rfl rfl (OpQ.spec (sp_move rfl (.inl rfl)) _) ?_
      refine AOps.step rfl rfl rfl (sp_call (caps := []) (bs := [_, _]) rfl (.inl rfl) rfl ⟨⟨.r _, (.inl rfl), .one (.closed _ rfl)⟩, ⟨.r _, (.inl rfl), .one (.closed _ rfl)⟩, trivial⟩ (fun _ => c70 log i (by omega) hlen) rfl) ?_
      refine AOps.step rfl rfl rfl (OpQ.spec (sp_rem rfl (.inl rfl) (.inl rfl) ?_) _) ?_
      · omega
      refine AOps.nil ?_
      refine hK45 _ ?_
      refine AW.block ?_
      refine AW.seq_k fun K46 hK46 => ?_
      refine AW.region ?_
      refine AOps.step rfl rfl rfl (OpQ.spec (sp_eql rfl (.inl rfl) (.inl rfl)) _) ?_
      refine AOps.step rfl rfl rfl (OpQ.spec (sp_assign rfl (.inl rfl)) _) ?_
      refine AOps.nil ?_
      refine hK46 _ ?_
      refine AW.cond rfl (fun hc2 => ?_) (fun hc2 => ?_)
      ·
        simp only [decide_eq_true_eq] at hc2
        rw [Int.tmod_eq_emod_of_nonneg (by omega)] at hc2
        replace hc2 : depthN log i % 2 = 1 := by omega
        refine AW.seq_k fun K47 hK47 => ?_
        refine AW.region ?_
        refine AOps.step rfl rfl rfl (OpQ.spec (sp_move rfl (.inl rfl)) _) ?_
        refine AOps.step rfl rfl rfl (OpQ.spec (sp_move rfl (.inl rfl)) _) ?_
        refine AOps.step rfl rfl rfl (OpQ.spec (sp_indexAddr_roM (i) rfl tg_27.slice (.inl rfl) (.inl rfl) rfl ?_ ?_) _) ?_
        · intro _; omega
        · intro _; first | omega | (simp; omega)
        refine AOps.step rfl rfl rfl (OpQ.spec (sp_load_ro rfl ts_4 (.inl rfl) (fun _ => rfl)) _) ?_
        refine AOps.nil ?_
        refine hK47 _ ?_
        refine AW.cond rfl (fun hc3 => ?_) (fun hc3 => ?_)
        ·
          skip
          refine AW.seq_k fun K48 hK48 => ?_
          refine AW.region ?_
          refine AOps.step rfl rfl rfl (OpQ.spec (sp_move rfl (.inl rfl)) _) ?_
          refine AOps.step rfl rfl rfl (OpQ.spec (sp_add rfl (.inl rfl) (.inl rfl) ?_) _) ?_
          · exact w64 (by omega) (by omega)
          refine AOps.step rfl rfl rfl (OpQ.spec (sp_assign rfl (.inl rfl)) _) ?_
          refine AOps.nil ?_
          refine hK48 _ ?_
          refine AW.ret ?_
          exact ret_closed (.inl rfl) (int_eq (by rw [hrel, lastUnd, if_neg (by omega), if_pos hc2, if_pos hc3])) rfl
        ·
          skip
          refine AW.skip ?_
          refine hK42 _ ?_
          refine AW.region ?_
          refine AOps.step rfl rfl rfl (OpQ.spec (sp_move rfl (.inl rfl)) _) ?_
          refine AOps.step rfl rfl rfl (OpQ.spec (sp_sub rfl (.inl rfl) (.inl rfl) ?_) _) ?_
          · exact w64 (by omega) (by omega)
          refine AOps.step rfl rfl rfl (OpQ.spec (sp_assign rfl (.inl rfl)) _) ?_
          refine AOps.nil ?_
          refine ⟨i, by omega, ⟨_, _, _, _⟩, (by exact Weak.mk ⟨.inr (sl_eq (by first | rfl | (simp []; done))), .inr (int_eq (by first | rfl | omega)), .inr (sl_eq (by first | rfl | (simp []; done))), .inr (int_eq (by first | rfl | omega)), trivial⟩ trivial (Nat.le_refl _)), i, n, rfl, ⟨by omega, ?_, rfl⟩⟩
          rw [hrel, lastUnd, if_neg (by omega), if_pos hc2, if_neg (by rw [hc3]; decide)]
      ·
        simp only [decide_eq_false_iff_not] at hc2
        rw [Int.tmod_eq_emod_of_nonneg (by omega)] at hc2
        replace hc2 : ¬ depthN log i % 2 = 1 := by omega
        refine AW.seq_k fun K49 hK49 => ?_
        refine AW.region ?_
        refine AOps.step rfl rfl rfl (OpQ.spec (sp_move rfl (.inl rfl)) _) ?_
        refine AOps.step rfl rfl rfl (OpQ.spec (sp_move rfl (.inl rfl)) _) ?_
        refine AOps.step rfl rfl rfl (sp_call (caps := []) (bs := [_, _]) rfl (.inl rfl) rfl ⟨⟨.r _, (.inl rfl), .one (.closed _ rfl)⟩, ⟨.r _, (.inl rfl), .one (.closed _ rfl)⟩, trivial⟩ (fun _ => c70 log i (by omega) hlen) rfl) ?_
        refine AOps.step rfl rfl rfl (OpQ.spec (sp_eql rfl (.inl rfl) (.inl rfl)) _) ?_
        refine AOps.nil ?_
        refine hK49 _ ?_
        refine AW.cond rfl (fun hc4 => ?_) (fun hc4 => ?_)
        ·
          simp only [decide_eq_true_eq] at hc4
          replace hc4 : depthN log i = 0 := by omega
          refine AW.seq_k fun K50 hK50 => ?_
          refine AW.region ?_
          refine AOps.step rfl rfl rfl (OpQ.spec (sp_assign rfl (.inl rfl)) _) ?_
          refine AOps.nil ?_
          refine hK50 _ ?_
          refine AW.ret ?_
          exact ret_closed (.inl rfl) (int_eq (by rw [hrel, lastUnd, if_neg (by omega), if_neg hc2, if_pos hc4])) rfl
        ·
          simp only [decide_eq_false_iff_not] at hc4
          replace hc4 : ¬ depthN log i = 0 := by omega
          refine AW.skip ?_
          refine hK42 _ ?_
          refine AW.region ?_
          refine AOps.step rfl rfl rfl (OpQ.spec (sp_move rfl (.inl rfl)) _) ?_
          refine AOps.step rfl rfl rfl (OpQ.spec (sp_sub rfl (.inl rfl) (.inl rfl) ?_) _) ?_
          · exact w64 (by omega) (by omega)
          refine AOps.step rfl rfl rfl (OpQ.spec (sp_assign rfl (.inl rfl)) _) ?_
          refine AOps.nil ?_
          refine ⟨i, by omega, ⟨_, _, _, _⟩, (by exact Weak.mk ⟨.inr (sl_eq (by first | rfl | (simp []; done))), .inr (int_eq (by first | rfl | omega)), .inr (sl_eq (by first | rfl | (simp []; done))), .inr (int_eq (by first | rfl | omega)), trivial⟩ trivial (Nat.le_refl _)), i, n, rfl, ⟨by omega, ?_, rfl⟩⟩
          rw [hrel, lastUnd, if_neg (by omega), if_neg hc2, if_neg hc4]
  ·
    simp [-List.getElem!_eq_getElem?_getD] at hc0
    refine AW.exit ?_
    refine hK38 _ ?_
    refine AW.seq_k fun K51 hK51 => ?_
    refine AW.region ?_
    refine AOps.step rfl rfl rfl (OpQ.spec (sp_assign rfl (.inl rfl)) _) ?_
    refine AOps.nil ?_
    refine hK51 _ ?_
    refine AW.ret ?_
    obtain rfl : j = 0 := by omega
    exact ret_closed (.inl rfl) (int_eq (by rw [hrel]; rfl)) rfl

set_option maxHeartbeats 1000000 in
set_option maxRecDepth 10000 in
theorem c16 (log : List Entry) (hlen : log.length ≤ 1048576) : ARO Try.prog 16 [.r (.sl (log.map Entry.row))] (.r (.sl ((counting log).map bRow))) := by
  refine ARO.mk Try.func16 rfl rfl Try.ntmps16 rfl (Nat.le_of_ble_eq_true rfl) fun n0 => ?_
  refine AW.seq_k fun K52 hK52 => ?_
  refine AW.region ?_
  refine AOps.step rfl rfl rfl (OpQ.spec (sp_assign rfl (.inl rfl)) _) ?_
  refine AOps.nil ?_
  refine hK52 _ ?_
  refine AW.seq_k fun K53 hK53 => ?_
  refine AW.region ?_
  refine AOps.step rfl rfl rfl (OpQ.spec (sp_move rfl (.inl rfl)) _) ?_
  first | refine AOps.step rfl rfl rfl (OpQ.spec (sp_len_roM rfl tg_22.slice (.inl rfl)) _) ?_ | refine AOps.step rfl rfl rfl (OpQ.spec (sp_len_ro rfl tg_22.slice (.inl rfl)) _) ?_
  refine AOps.step rfl rfl rfl (sp_makeSlice 8 rfl tg_27 tr_4 (.inl rfl) (.inl rfl) ?_ ?_ ?_) ?_
  · omega
  · omega
  · omega
  refine AOps.step rfl rfl rfl (OpQ.spec (sp_assign rfl (.inl rfl)) _) ?_
  refine AOps.nil ?_
  refine hK53 _ ?_
  refine AW.seq_k fun K54 hK54 => ?_
  refine AW.seq_k fun K55 hK55 => ?_
  refine AW.region ?_
  refine AOps.step rfl rfl rfl (OpQ.spec (sp_move rfl (.inl rfl)) _) ?_
  first | refine AOps.step rfl rfl rfl (OpQ.spec (sp_len_roM rfl tg_22.slice (.inl rfl)) _) ?_ | refine AOps.step rfl rfl rfl (OpQ.spec (sp_len_ro rfl tg_22.slice (.inl rfl)) _) ?_
  refine AOps.step rfl rfl rfl (OpQ.spec (sp_sub rfl (.inl rfl) (.inl rfl) ?_) _) ?_
  · exact w64 (by omega) (by omega)
  refine AOps.step rfl rfl rfl (OpQ.spec (sp_assign rfl (.inl rfl)) _) ?_
  refine AOps.nil ?_
  refine hK55 _ ?_
  refine AW.block ?_
  refine AW.loop (fun m s => ∃ (j g : Nat) (out : List Bool) (n : Nat), s = ⟨[(0, .r (.sl (log.map Entry.row))), (3, .own 8 g), (4, .r (.int .i64 ((j : Int) - 1)))], [(8, some (.arr g 4 1 (out.map bRow)))], n, 51⟩ ∧ j ≤ log.length ∧ out.length = log.length ∧ countingLoop log j out = counting log ∧ m = j) (log.length) ⟨⟨_, _, _, _⟩, (by exact Weak.mk ⟨.inr (sl_eq (by first | rfl | (simp [bRow]; done))), .inr rfl, .inr (int_eq (by first | rfl | omega)), trivial⟩ ⟨.inr (arr_eq (by first | with_reducible rfl | (simp [bRow]; done) | rfl)), trivial⟩ (Nat.le_refl _)), log.length, n0, List.replicate log.length false, (n0 + 1), rfl, ⟨Nat.le_refl _, by simp, rfl, rfl⟩⟩ ?_
  rintro m0 _ ⟨j, g, out, n, rfl, hj, ho, hrel, hm⟩
  refine AW.seq_k fun K56 hK56 => ?_
  refine AW.seq_k fun K57 hK57 => ?_
  refine AW.region ?_
  refine AOps.step rfl rfl rfl (OpQ.spec (sp_move rfl (.inl rfl)) _) ?_
  refine AOps.step rfl rfl rfl (OpQ.spec (sp_geq rfl (.inl rfl) (.inl rfl)) _) ?_
  refine AOps.nil ?_
  refine hK57 _ ?_
  refine AW.cond rfl (fun hc0 => ?_) (fun hc0 => ?_)
  ·
    simp at hc0
    obtain ⟨i, rfl⟩ : ∃ i, j = i + 1 := ⟨j - 1, by omega⟩
    rw [show (((i + 1 : Nat) : Int) - 1) = (i : Int) by omega]
    refine AW.skip ?_
    refine hK56 _ ?_
    refine AW.seq_k fun K58 hK58 => ?_
    refine AW.block ?_
    refine AW.seq_k fun K59 hK59 => ?_
    refine AW.region ?_
    refine AOps.step rfl rfl rfl (OpQ.spec (sp_move rfl (.inl rfl)) _) ?_
    refine AOps.step rfl rfl rfl (OpQ.spec (sp_move rfl (.inl rfl)) _) ?_
    refine AOps.step rfl rfl rfl (OpQ.spec (sp_move rfl (.inl rfl)) _) ?_
    refine AOps.step rfl rfl rfl (OpQ.spec (sp_move rfl (.inl rfl)) _) ?_
    refine AOps.step rfl rfl rfl (OpQ.spec (sp_indexAddr_roM (i) rfl tg_22.slice (.inl rfl) (.inl rfl) rfl ?_ ?_) _) ?_
    · intro _; omega
    · intro _; first | omega | (simp; omega)
    refine AOps.step rfl rfl rfl (OpQ.spec (sp_fieldAddr_ro rfl tf_26_4 (.inl rfl)) _) ?_
    refine AOps.step rfl rfl rfl (OpQ.spec (sp_load_ro rfl ts_24 (.inl rfl) (fun _ => rfl)) _) ?_
    refine AOps.step rfl rfl rfl (OpQ.spec (sp_eql rfl (.inl rfl) (.inl rfl)) _) ?_
    refine AOps.step rfl rfl rfl (OpQ.spec (sp_indexAddr_ownM (i) rfl tg_27.slice (.inl rfl) rfl (.inl rfl) ?_ ?_) _) ?_
    · intro _; omega
    · intro _; first | omega | (simp; omega)
    refine AOps.step0 rfl rfl (sp_storeM (decide (log[i]!.refused = 0)) rfl tz_4 (.inl rfl) rfl (.inl rfl) rfl rfl ?_ ?_ ?_) ?_
    · first | omega | (simp; omega)
    · simp [bRow]
    · rfl
    refine AOps.nil ?_
    refine hK59 _ ?_
    refine AW.seq_k fun K60 hK60 => ?_
    refine AW.region ?_
    refine AOps.step rfl rfl rfl (OpQ.spec (sp_move rfl (.inl rfl)) _) ?_
    refine AOps.step rfl rfl rfl (OpQ.spec (sp_add rfl (.inl rfl) (.inl rfl) ?_) _) ?_
    · exact w64 (by omega) (by omega)
    refine AOps.step rfl rfl rfl (OpQ.spec (sp_assign rfl (.inl rfl)) _) ?_
    refine AOps.nil ?_
    refine hK60 _ ?_
    refine AW.block ?_
    have hc00 := cIn_first log out i
    refine AW.loop (fun m s => ∃ (k g : Nat) (n : Nat), s = ⟨[(0, .r (.sl (log.map Entry.row))), (3, .own 8 g), (4, .r (.int .i64 i)), (5, .r (.int .i64 k))], [(8, some (.arr g 4 1 ((out.set i (cIn log out i k)).map bRow)))], n, 51⟩ ∧ i + 1 ≤ k ∧ k ≤ log.length ∧ m = log.length - k) (log.length - (i + 1)) ⟨⟨_, _, _, _⟩, (by exact Weak.mk ⟨.inr (sl_eq (by first | rfl | (simp [bRow, hc00]; done))), .inr rfl, .inr (int_eq (by first | rfl | omega)), .inr (int_eq (by first | rfl | omega)), trivial⟩ ⟨.inr (arr_eq (by first | with_reducible rfl | (simp [bRow, hc00]; done) | rfl)), trivial⟩ (Nat.le_refl _)), i + 1, g, n, rfl, ⟨Nat.le_refl _, hj, rfl⟩⟩ ?_
    rintro m1 _ ⟨k, g, n, rfl, hk1, hk2, hmm⟩
    refine AW.seq_k fun K61 hK61 => ?_
    refine AW.seq_k fun K62 hK62 => ?_
    refine AW.region ?_
    refine AOps.step rfl rfl rfl (OpQ.spec (sp_move rfl (.inl rfl)) _) ?_
    refine AOps.step rfl rfl rfl (OpQ.spec (sp_move rfl (.inl rfl)) _) ?_
    first | refine AOps.step rfl rfl rfl (OpQ.spec (sp_len_roM rfl tg_22.slice (.inl rfl)) _) ?_ | refine AOps.step rfl rfl rfl (OpQ.spec (sp_len_ro rfl tg_22.slice (.inl rfl)) _) ?_
    refine AOps.step rfl rfl rfl (OpQ.spec (sp_lss rfl (.inl rfl) (.inl rfl)) _) ?_
    refine AOps.nil ?_
    refine hK62 _ ?_
    refine AW.cond rfl (fun hc1 => ?_) (fun hc1 => ?_)
    ·
      simp at hc1
      refine AW.skip ?_
      refine hK61 _ ?_
      refine AW.seq_k fun K63 hK63 => ?_
      refine AW.block ?_
      refine AW.seq_k fun K64 hK64 => ?_
      refine AW.region ?_
      refine AOps.step rfl rfl rfl (OpQ.spec (sp_move rfl (.inl rfl)) _) ?_
      refine AOps.step rfl rfl rfl (OpQ.spec (sp_move rfl (.inl rfl)) _) ?_
      refine AOps.step rfl rfl rfl (OpQ.spec (sp_indexAddr_roM (k) rfl tg_22.slice (.inl rfl) (.inl rfl) rfl ?_ ?_) _) ?_
      · intro _; omega
      · intro _; first | omega | (simp; omega)
      refine AOps.step rfl rfl rfl (OpQ.spec (sp_fieldAddr_ro rfl tf_26_3 (.inl rfl)) _) ?_
      refine AOps.step rfl rfl rfl (OpQ.spec (sp_load_ro rfl ts_3 (.inl rfl) (fun _ => rfl)) _) ?_
      refine AOps.step rfl rfl rfl (OpQ.spec (sp_move rfl (.inl rfl)) _) ?_
      refine AOps.step rfl rfl rfl (OpQ.spec (sp_add rfl (.inl rfl) (.inl rfl) ?_) _) ?_
      · exact w64 (by omega) (by omega)
      refine AOps.step rfl rfl rfl (OpQ.spec (sp_eql rfl (.inl rfl) (.inl rfl)) _) ?_
      refine AOps.step rfl rfl rfl (OpQ.spec (sp_move rfl (.inl rfl)) _) ?_
      refine AOps.stepG rfl rfl rfl rfl rfl (OpQ.spec (sp_move rfl (.inl rfl)) _) ?_
      refine AOps.stepG rfl rfl rfl rfl rfl (OpQ.spec (sp_move rfl (.inl rfl)) _) ?_
      refine AOps.stepG rfl rfl rfl rfl rfl (OpQ.spec (sp_indexAddr_ownM (k) rfl tg_27.slice (.inr rfl) rfl (.inr rfl) ?_ ?_) _) ?_
      · intro hg; (try simp at hg); omega
      · intro hg; (try simp at hg); first | omega | (simp; omega)
      refine AOps.stepG rfl rfl rfl rfl rfl (OpQ.spec (sp_load_arrM rfl ts_4 (.inr rfl) (fun _ => rfl) (fun _ => rfl) ?_) _) ?_
      · intro hg; (try simp at hg); first | omega | (simp; omega)
      refine AOps.step rfl rfl rfl (OpQ.spec (sp_and rfl (.inl rfl) (.inl rfl)) _) ?_
      refine AOps.nil ?_
      refine hK64 _ ?_
      refine AW.cond rfl (fun hc2 => ?_) (fun hc2 => ?_)
      ·
        simp [-List.getElem!_eq_getElem?_getD] at hc2
        rw [set_other (by omega)] at hc2
        refine AW.region ?_
        refine AOps.step rfl rfl rfl (OpQ.spec (sp_move rfl (.inl rfl)) _) ?_
        refine AOps.step rfl rfl rfl (OpQ.spec (sp_move rfl (.inl rfl)) _) ?_
        refine AOps.step rfl rfl rfl (OpQ.spec (sp_indexAddr_ownM (i) rfl tg_27.slice (.inl rfl) rfl (.inl rfl) ?_ ?_) _) ?_
        · intro _; omega
        · intro _; first | omega | (simp; omega)
        refine AOps.step0 rfl rfl (sp_storeM (false) rfl tz_4 (.inl rfl) rfl (.inl rfl) rfl rfl ?_ ?_ ?_) ?_
        · first | omega | (simp; omega)
        · simp [bRow]
        · rfl
        refine AOps.nil ?_
        refine hK63 _ ?_
        refine AW.region ?_
        refine AOps.step rfl rfl rfl (OpQ.spec (sp_move rfl (.inl rfl)) _) ?_
        refine AOps.step rfl rfl rfl (OpQ.spec (sp_add rfl (.inl rfl) (.inl rfl) ?_) _) ?_
        · exact w64 (by omega) (by omega)
        refine AOps.step rfl rfl rfl (OpQ.spec (sp_assign rfl (.inl rfl)) _) ?_
        refine AOps.nil ?_
        have hcs := cIn_hit hk1 hc2.1 hc2.2 
        refine ⟨log.length - (k + 1), by omega, ⟨_, _, _, _⟩, (by exact Weak.mk ⟨.inr (sl_eq (by first | rfl | (simp [bRow, hcs]; done))), .inr rfl, .inr (int_eq (by first | rfl | omega)), .inr (int_eq (by first | rfl | omega)), trivial⟩ ⟨.inr (arr_eq (by first | with_reducible rfl | (simp [bRow, hcs]; done) | rfl)), trivial⟩ (Nat.le_refl _)), k + 1, g, n, rfl, ⟨by omega, by omega, rfl⟩⟩
      ·
        simp [-List.getElem!_eq_getElem?_getD] at hc2
        rw [set_other (by omega)] at hc2
        refine AW.skip ?_
        refine hK63 _ ?_
        refine AW.region ?_
        refine AOps.step rfl rfl rfl (OpQ.spec (sp_move rfl (.inl rfl)) _) ?_
        refine AOps.step rfl rfl rfl (OpQ.spec (sp_add rfl (.inl rfl) (.inl rfl) ?_) _) ?_
        · exact w64 (by omega) (by omega)
        refine AOps.step rfl rfl rfl (OpQ.spec (sp_assign rfl (.inl rfl)) _) ?_
        refine AOps.nil ?_
        have hcs := cIn_miss (k := k) hk1 hc2
        refine ⟨log.length - (k + 1), by omega, ⟨_, _, _, _⟩, (by exact Weak.mk ⟨.inr (sl_eq (by first | rfl | (simp [bRow, hcs]; done))), .inr rfl, .inr (int_eq (by first | rfl | omega)), .inr (int_eq (by first | rfl | omega)), trivial⟩ ⟨.inr (arr_eq (by first | with_reducible rfl | (simp [bRow, hcs]; done) | rfl)), trivial⟩ (Nat.le_refl _)), k + 1, g, n, rfl, ⟨by omega, by omega, rfl⟩⟩
    ·
      simp at hc1
      refine AW.exit ?_
      refine hK58 _ ?_
      refine AW.region ?_
      refine AOps.step rfl rfl rfl (OpQ.spec (sp_move rfl (.inl rfl)) _) ?_
      refine AOps.step rfl rfl rfl (OpQ.spec (sp_sub rfl (.inl rfl) (.inl rfl) ?_) _) ?_
      · exact w64 (by omega) (by omega)
      refine AOps.step rfl rfl rfl (OpQ.spec (sp_assign rfl (.inl rfl)) _) ?_
      refine AOps.nil ?_
      refine ⟨i, by omega, ⟨_, _, _, _⟩, (by exact Weak.mk ⟨.inr (sl_eq (by first | rfl | (simp [bRow]; done))), .inr rfl, .inr (int_eq (by first | rfl | omega)), trivial⟩ ⟨.inr (arr_eq (by first | with_reducible rfl | (simp [bRow]; done) | rfl)), trivial⟩ (Nat.le_refl _)), i, g, out.set i (cIn log out i k), n, rfl, ⟨by omega, by simp [ho], ?_, rfl⟩⟩
      rw [← hrel, countingLoop, show k = log.length by omega]
  ·
    simp [-List.getElem!_eq_getElem?_getD] at hc0
    refine AW.exit ?_
    refine hK54 _ ?_
    refine AW.seq_k fun K65 hK65 => ?_
    refine AW.region ?_
    refine AOps.step rfl rfl rfl (OpQ.spec (sp_move rfl (.inl rfl)) _) ?_
    refine AOps.step rfl rfl rfl (OpQ.spec (sp_assign rfl (.inl rfl)) _) ?_
    refine AOps.nil ?_
    refine hK65 _ ?_
    refine AW.ret ?_
    obtain rfl : j = 0 := by omega
    exact ret_own (.inl rfl) rfl rfl (by rw [← hrel]; rfl)

set_option maxHeartbeats 1000000 in
set_option maxRecDepth 10000 in
theorem c17 (log : List Entry) (hlen : log.length ≤ 1048576) : ∀ (i : Nat) (z : Int), z = i → i < log.length → ARO Try.prog 17 [.r (.sl (log.map Entry.row)), .r (.int .i64 z)] (.r (.int .i64 (levelN log i))) := by
  intro i
  induction i using Nat.strongRecOn with | _ i ih => ?_
  intro z hz hi
  subst hz
  refine ARO.mk Try.func17 rfl rfl Try.ntmps17 rfl (Nat.le_of_ble_eq_true rfl) fun n0 => ?_
  refine AW.seq_k fun K66 hK66 => ?_
  refine AW.region ?_
  refine AOps.step rfl rfl rfl (OpQ.spec (sp_assign rfl (.inl rfl)) _) ?_
  refine AOps.nil ?_
  refine hK66 _ ?_
  refine AW.seq_k fun K67 hK67 => ?_
  refine AW.seq_k fun K68 hK68 => ?_
  refine AW.region ?_
  refine AOps.step rfl rfl rfl (OpQ.spec (sp_move rfl (.inl rfl)) _) ?_
  refine AOps.step rfl rfl rfl (OpQ.spec (sp_move rfl (.inl rfl)) _) ?_
  refine AOps.step rfl rfl rfl (sp_call (caps := []) (bs := [_, _]) rfl (.inl rfl) rfl ⟨⟨.r _, (.inl rfl), .one (.closed _ rfl)⟩, ⟨.r _, (.inl rfl), .one (.closed _ rfl)⟩, trivial⟩ (fun _ => c71 log i hi) rfl) ?_
  refine AOps.step rfl rfl rfl (OpQ.spec (sp_not rfl (.inl rfl)) _) ?_
  refine AOps.nil ?_
  refine hK68 _ ?_
  refine AW.cond rfl (fun hc0 => ?_) (fun hc0 => ?_)
  ·
    have hu : ¬ uok log i = true := by simpa using hc0
    refine AW.seq_k fun K69 hK69 => ?_
    refine AW.region ?_
    refine AOps.step rfl rfl rfl (OpQ.spec (sp_assign rfl (.inl rfl)) _) ?_
    refine AOps.nil ?_
    refine hK69 _ ?_
    refine AW.ret ?_
    exact ret_closed (.inl rfl) (int_eq (by rw [levelN, dif_neg hu]; rfl)) rfl
  ·
    have hu : uok log i = true := by simpa using hc0
    have hu2 := hu
    simp only [uok, Bool.and_eq_true, decide_eq_true_eq] at hu2
    refine AW.skip ?_
    refine hK67 _ ?_
    refine AW.seq_k fun K70 hK70 => ?_
    refine AW.seq_k fun K71 hK71 => ?_
    refine AW.region ?_
    refine AOps.step rfl rfl rfl (OpQ.spec (sp_move rfl (.inl rfl)) _) ?_
    refine AOps.step rfl rfl rfl (OpQ.spec (sp_move rfl (.inl rfl)) _) ?_
    refine AOps.step rfl rfl rfl (OpQ.spec (sp_move rfl (.inl rfl)) _) ?_
    refine AOps.step rfl rfl rfl (OpQ.spec (sp_indexAddr_roM (i) rfl tg_22.slice (.inl rfl) (.inl rfl) rfl ?_ ?_) _) ?_
    · intro _; omega
    · intro _; first | omega | (simp; omega)
    refine AOps.step rfl rfl rfl (OpQ.spec (sp_fieldAddr_ro rfl tf_26_3 (.inl rfl)) _) ?_
    refine AOps.step rfl rfl rfl (OpQ.spec (sp_load_ro rfl ts_3 (.inl rfl) (fun _ => rfl)) _) ?_
    refine AOps.step rfl rfl rfl (OpQ.spec (sp_sub rfl (.inl rfl) (.inl rfl) ?_) _) ?_
    · exact w64 (by omega) (by omega)
    refine AOps.step rfl rfl rfl (sp_call (caps := []) (bs := [_, _]) rfl (.inl rfl) rfl ⟨⟨.r _, (.inl rfl), .one (.closed _ rfl)⟩, ⟨.r _, (.inl rfl), .one (.closed _ rfl)⟩, trivial⟩ (fun _ => ih _ (uok_lt hu) _ (by omega) (by omega)) rfl) ?_
    refine AOps.step rfl rfl rfl (OpQ.spec (sp_eql rfl (.inl rfl) (.inl rfl)) _) ?_
    refine AOps.nil ?_
    refine hK71 _ ?_
    refine AW.cond rfl (fun hc1 => ?_) (fun hc1 => ?_)
    ·
      simp only [decide_eq_true_eq] at hc1
      replace hc1 : levelN log (log[i]!.undoes - 1).toNat = 1 := by omega
      refine AW.seq_k fun K72 hK72 => ?_
      refine AW.region ?_
      refine AOps.step rfl rfl rfl (OpQ.spec (sp_assign rfl (.inl rfl)) _) ?_
      refine AOps.nil ?_
      refine hK72 _ ?_
      refine AW.ret ?_
      exact ret_closed (.inl rfl) (int_eq (by rw [levelN, dif_pos hu, if_pos hc1]; rfl)) rfl
    ·
      simp only [decide_eq_false_iff_not] at hc1
      replace hc1 : ¬ levelN log (log[i]!.undoes - 1).toNat = 1 := by omega
      refine AW.skip ?_
      refine hK70 _ ?_
      refine AW.seq_k fun K73 hK73 => ?_
      refine AW.region ?_
      refine AOps.step rfl rfl rfl (OpQ.spec (sp_assign rfl (.inl rfl)) _) ?_
      refine AOps.nil ?_
      refine hK73 _ ?_
      refine AW.ret ?_
      exact ret_closed (.inl rfl) (int_eq (by rw [levelN, dif_pos hu, if_neg hc1]; rfl)) rfl

set_option maxHeartbeats 1000000 in
theorem c16' (log : List Entry) (hlen : log.length ≤ 1048576) : ARO Try.prog 16 [.r (.sl (log.map Entry.row))] (.r (.sl ((counts log).map bRow))) := by
  exact counting_eq log ▸ c16 log hlen

set_option maxHeartbeats 1000000 in
set_option maxRecDepth 10000 in
theorem c3 (log : List Entry) (site : Int) : ARO Try.prog 3 [.r (.sl (log.map Entry.row)), .r (.int .i64 site)] (.r (.bool true)) := by
  refine ARO.mk Try.func3 rfl rfl Try.ntmps3 rfl (Nat.le_of_ble_eq_true rfl) fun n0 => ?_
  refine AW.seq_k fun K74 hK74 => ?_
  refine AW.region ?_
  refine AOps.step rfl rfl rfl (OpQ.spec (sp_assign rfl (.inl rfl)) _) ?_
  refine AOps.nil ?_
  refine hK74 _ ?_
  refine AW.seq_k fun K75 hK75 => ?_
  refine AW.region ?_
  refine AOps.step rfl rfl rfl (OpQ.spec (sp_build rfl tb_26 (q := [(0, _)]) (by exact ⟨rfl, rfl, rfl, (.inl rfl), trivial⟩) (cs := [_, _, _, _, _]) (by rfl)) _) ?_
  refine AOps.step rfl rfl rfl (OpQ.spec (sp_build rfl tb_26 (q := [(0, _), (3, _)]) (by exact ⟨rfl, rfl, rfl, (.inl rfl), rfl, rfl, rfl, (.inl rfl), trivial⟩) (cs := [_, _, _, _, _]) (by rfl)) _) ?_
  refine AOps.step rfl rfl rfl (OpQ.spec (sp_build rfl tb_26 (q := [(0, _), (3, _)]) (by exact ⟨rfl, rfl, rfl, (.inl rfl), rfl, rfl, rfl, (.inl rfl), trivial⟩) (cs := [_, _, _, _, _]) (by rfl)) _) ?_
  refine AOps.step rfl rfl rfl (sp_buildSlice 16 rfl tg_22 (rows := [_, _, _]) ⟨rfl, ⟨_, (.inl rfl), rfl⟩, rfl, ⟨_, (.inl rfl), rfl⟩, rfl, ⟨_, (.inl rfl), rfl⟩, trivial⟩ rfl ?_ rfl) ?_
  · simp
  refine AOps.step rfl rfl rfl (OpQ.spec (sp_assign rfl (.inl rfl)) _) ?_
  refine AOps.nil ?_
  refine hK75 _ ?_
  refine AW.seq_k fun K76 hK76 => ?_
  refine AW.seq_k fun K77 hK77 => ?_
  refine AW.weak (Weak.freeze 5 16 rfl rfl) ?_
  refine AW.weak (s' := ⟨[(0, .r (.sl (log.map Entry.row))), (1, .r (.int .i64 site)), (5, .r (.sl (three.map Entry.row)))], [], (n0 + 1), 123⟩) (by exact Weak.mk ⟨.inr (sl_eq (by first | rfl | (simp []; done))), .inr (int_eq (by first | rfl | omega)), .inr (sl_eq (by first | rfl | (simp []; done))), trivial⟩ trivial (Nat.le_refl _)) ?_
  refine AW.region ?_
  refine AOps.step rfl rfl rfl (OpQ.spec (sp_move rfl (.inl rfl)) _) ?_
  refine AOps.step rfl rfl rfl (sp_callS (caps := []) (bs := [_]) rfl (.inl rfl) rfl ⟨.inl ⟨(.inl rfl), rfl⟩, trivial⟩ (fun _ => c14 three (by decide))) ?_
  refine AOps.step rfl rfl rfl (OpQ.spec (sp_assign rfl (.inl rfl)) _) ?_
  refine AOps.nil ?_
  refine hK77 _ ?_
  refine AW.seq_k fun K78 hK78 => ?_
  rw [three_counts]
  refine AW.weak (s' := ⟨[(0, .r (.sl (log.map Entry.row))), (1, .r (.int .i64 site)), (5, .r (.sl (three.map Entry.row))), (6, .r (.sl [[.bool true], [.bool false], [.bool true]]))], [], (n0 + 1), 123⟩) (by exact Weak.mk ⟨.inr (sl_eq (by first | rfl | (simp []; done))), .inr (int_eq (by first | rfl | omega)), .inr (sl_eq (by first | rfl | (simp []; done))), .inr (sl_eq (by first | rfl | (simp []; done))), trivial⟩ trivial (Nat.le_refl _)) ?_
  refine AW.region ?_
  refine AOps.step rfl rfl rfl (OpQ.spec (sp_move rfl (.inl rfl)) _) ?_
  first | refine AOps.step rfl rfl rfl (OpQ.spec (sp_len_roM rfl tg_27.slice (.inl rfl)) _) ?_ | refine AOps.step rfl rfl rfl (OpQ.spec (sp_len_ro rfl tg_27.slice (.inl rfl)) _) ?_
  refine AOps.step rfl rfl rfl (OpQ.spec (sp_neq rfl (.inl rfl) (.inl rfl)) _) ?_
  refine AOps.step rfl rfl rfl (OpQ.spec (sp_move rfl (.inl rfl)) _) ?_
  refine AOps.stepG rfl rfl rfl rfl rfl (OpQ.spec (sp_move rfl (.inl rfl)) _) ?_
  refine AOps.stepG rfl rfl rfl rfl rfl (OpQ.spec (sp_indexAddr_ro rfl tg_27.slice (.inr rfl) (.inl rfl) ?_ (fun _ => rfl) rfl) _) ?_
  · intro hg; (try simp at hg); omega
  refine AOps.stepG rfl rfl rfl rfl rfl (OpQ.spec (sp_load_ro rfl ts_4 (.inr rfl) (fun _ => rfl)) _) ?_
  refine AOps.stepG rfl rfl rfl rfl rfl (OpQ.spec (sp_not rfl (.inr rfl)) _) ?_
  refine AOps.step rfl rfl rfl (OpQ.spec (sp_or rfl (.inl rfl) (.inl rfl)) _) ?_
  refine AOps.step rfl rfl rfl (OpQ.spec (sp_move rfl (.inl rfl)) _) ?_
  refine AOps.stepG rfl rfl rfl rfl rfl (OpQ.spec (sp_move rfl (.inl rfl)) _) ?_
  refine AOps.stepG rfl rfl rfl rfl rfl (OpQ.spec (sp_indexAddr_ro rfl tg_27.slice (.inr rfl) (.inl rfl) ?_ (fun _ => rfl) rfl) _) ?_
  · intro hg; (try simp at hg); omega
  refine AOps.stepG rfl rfl rfl rfl rfl (OpQ.spec (sp_load_ro rfl ts_4 (.inr rfl) (fun _ => rfl)) _) ?_
  refine AOps.step rfl rfl rfl (OpQ.spec (sp_or rfl (.inl rfl) (.inl rfl)) _) ?_
  refine AOps.step rfl rfl rfl (OpQ.spec (sp_move rfl (.inl rfl)) _) ?_
  refine AOps.stepG rfl rfl rfl rfl rfl (OpQ.spec (sp_move rfl (.inl rfl)) _) ?_
  refine AOps.stepG rfl rfl rfl rfl rfl (OpQ.spec (sp_indexAddr_ro rfl tg_27.slice (.inr rfl) (.inl rfl) ?_ (fun _ => rfl) rfl) _) ?_
  · intro hg; (try simp at hg); omega
  refine AOps.stepG rfl rfl rfl rfl rfl (OpQ.spec (sp_load_ro rfl ts_4 (.inr rfl) (fun _ => rfl)) _) ?_
  refine AOps.stepG rfl rfl rfl rfl rfl (OpQ.spec (sp_not rfl (.inr rfl)) _) ?_
  refine AOps.step rfl rfl rfl (OpQ.spec (sp_or rfl (.inl rfl) (.inl rfl)) _) ?_
  refine AOps.step rfl rfl rfl (OpQ.spec (sp_move rfl (.inl rfl)) _) ?_
  refine AOps.stepG rfl rfl rfl rfl rfl (OpQ.spec (sp_move rfl (.inl rfl)) _) ?_
  refine AOps.stepG rfl rfl rfl rfl rfl (sp_call (caps := []) (bs := [_, _]) rfl (.inl rfl) rfl ⟨⟨.r _, (.inr rfl), .one (.closed _ rfl)⟩, ⟨.r _, (.inl rfl), .one (.closed _ rfl)⟩, trivial⟩ (fun _ => c15 three (by decide) 1) rfl) ?_
  refine AOps.stepG rfl rfl rfl rfl rfl (OpQ.spec (sp_neq rfl (.inr rfl) (.inl rfl)) _) ?_
  refine AOps.step rfl rfl rfl (OpQ.spec (sp_or rfl (.inl rfl) (.inl rfl)) _) ?_
  refine AOps.nil ?_
  refine hK78 _ ?_
  refine AW.cond rfl (fun hc0 => ?_) (fun hc0 => ?_)
  ·
    simp at hc0
    exact absurd three_last hc0
  ·
    clear hc0
    refine AW.skip ?_
    refine hK76 _ ?_
    refine AW.seq_k fun K79 hK79 => ?_
    refine AW.seq_k fun K80 hK80 => ?_
    refine AW.region ?_
    refine AOps.step rfl rfl rfl (OpQ.spec (sp_move rfl (.inl rfl)) _) ?_
    first | refine AOps.step rfl rfl rfl (OpQ.spec (sp_len_roM rfl tg_22.slice (.inl rfl)) _) ?_ | refine AOps.step rfl rfl rfl (OpQ.spec (sp_len_ro rfl tg_22.slice (.inl rfl)) _) ?_
    refine AOps.step rfl rfl rfl (OpQ.spec (sp_gtr rfl (.inl rfl) (.inl rfl)) _) ?_
    refine AOps.nil ?_
    refine hK80 _ ?_
    refine join_k hK79 (fun (x : List Entry × Nat) => match x with | (l, n) => ⟨[(0, .r (.sl (l.map Entry.row))), (1, .r (.int .i64 site))], [], n, 123⟩) (fun (x : List Entry × Nat) => match x with | (l, n) => l.length ≤ 40) ?_ (fun J1 => ?_)
    ·
      rintro ⟨l, n⟩ hl
      have hcl := counts_length l
      refine AW.seq_k fun K81 hK81 => ?_
      refine AW.region ?_
      refine AOps.step rfl rfl rfl (OpQ.spec (sp_move rfl (.inl rfl)) _) ?_
      refine AOps.step rfl rfl rfl (sp_callS (caps := []) (bs := [_]) rfl (.inl rfl) rfl ⟨.inl ⟨(.inl rfl), rfl⟩, trivial⟩ (fun _ => c14 l (by omega))) ?_
      refine AOps.step rfl rfl rfl (OpQ.spec (sp_move rfl (.inl rfl)) _) ?_
      refine AOps.step rfl rfl rfl (sp_callS (caps := []) (bs := [_]) rfl (.inl rfl) rfl ⟨.inl ⟨(.inl rfl), rfl⟩, trivial⟩ (fun _ => c16' l (by omega))) ?_
      refine AOps.step rfl rfl rfl (OpQ.spec (sp_assign rfl (.inl rfl)) _) ?_
      refine AOps.step rfl rfl rfl (OpQ.spec (sp_assign rfl (.inl rfl)) _) ?_
      refine AOps.nil ?_
      refine hK81 _ ?_
      refine AW.seq_k fun K82 hK82 => ?_
      refine AW.seq_k fun K83 hK83 => ?_
      refine AW.region ?_
      refine AOps.step rfl rfl rfl (OpQ.spec (sp_move rfl (.inl rfl)) _) ?_
      first | refine AOps.step rfl rfl rfl (OpQ.spec (sp_len_roM rfl tg_27.slice (.inl rfl)) _) ?_ | refine AOps.step rfl rfl rfl (OpQ.spec (sp_len_ro rfl tg_27.slice (.inl rfl)) _) ?_
      refine AOps.step rfl rfl rfl (OpQ.spec (sp_move rfl (.inl rfl)) _) ?_
      first | refine AOps.step rfl rfl rfl (OpQ.spec (sp_len_roM rfl tg_27.slice (.inl rfl)) _) ?_ | refine AOps.step rfl rfl rfl (OpQ.spec (sp_len_ro rfl tg_27.slice (.inl rfl)) _) ?_
      refine AOps.step rfl rfl rfl (OpQ.spec (sp_neq rfl (.inl rfl) (.inl rfl)) _) ?_
      refine AOps.nil ?_
      refine hK83 _ ?_
      refine AW.cond rfl (fun hc2 => ?_) (fun hc2 => ?_)
      ·
        simp at hc2
      ·
        clear hc2
        refine AW.skip ?_
        refine hK82 _ ?_
        refine AW.seq_k fun K84 hK84 => ?_
        refine AW.region ?_
        refine AOps.step rfl rfl rfl (OpQ.spec (sp_assign rfl (.inl rfl)) _) ?_
        refine AOps.step rfl rfl rfl (OpQ.spec (sp_assign rfl (.inl rfl)) _) ?_
        refine AOps.nil ?_
        refine hK84 _ ?_
        refine AW.seq_k fun K85 hK85 => ?_
        refine AW.seq_k fun K86 hK86 => ?_
        refine AW.region ?_
        refine AOps.step rfl rfl rfl (OpQ.spec (sp_move rfl (.inl rfl)) _) ?_
        first | refine AOps.step rfl rfl rfl (OpQ.spec (sp_len_roM rfl tg_22.slice (.inl rfl)) _) ?_ | refine AOps.step rfl rfl rfl (OpQ.spec (sp_len_ro rfl tg_22.slice (.inl rfl)) _) ?_
        refine AOps.step rfl rfl rfl (OpQ.spec (sp_move rfl (.inl rfl)) _) ?_
        refine AOps.nil ?_
        refine hK86 _ ?_
        refine AW.block ?_
        refine AW.loop (fun m s => ∃ (k : Nat) (n : Nat), s = ⟨[(0, .r (.sl (l.map Entry.row))), (1, .r (.int .i64 site)), (7, .r (.sl ((counts l).map bRow))), (8, .r (.sl ((counts l).map bRow))), (9, .r (.int .i64 (fwd l (counts l) site k).1)), (10, .r (.int .i64 (fwd l (counts l) site k).2)), (59, .r (.int .i64 l.length)), (60, .r (.int .i64 k))], [], n, 123⟩ ∧ k ≤ l.length ∧ m = l.length - k) (l.length) ⟨⟨_, _, _, _⟩, (by exact Weak.mk ⟨.inr (sl_eq (by first | rfl | (simp []; done))), .inr (int_eq (by first | rfl | omega)), .inr (sl_eq (by first | rfl | (simp []; done))), .inr (sl_eq (by first | rfl | (simp []; done))), .inr (int_eq (by first | rfl | omega)), .inr (int_eq (by first | rfl | omega)), .inr (int_eq (by first | rfl | omega)), .inr (int_eq (by first | rfl | omega)), trivial⟩ trivial (Nat.le_refl _)), 0, n, rfl, ⟨Nat.zero_le _, rfl⟩⟩ ?_
        rintro m0 _ ⟨k, n, rfl, hk, hm⟩
        refine AW.seq_k fun K87 hK87 => ?_
        refine AW.region ?_
        refine AOps.step rfl rfl rfl (OpQ.spec (sp_lss rfl (.inl rfl) (.inl rfl)) _) ?_
        refine AOps.nil ?_
        refine hK87 _ ?_
        refine AW.seq_k fun K88 hK88 => ?_
        refine AW.cond rfl (fun hc3 => ?_) (fun hc3 => ?_)
        ·
          simp at hc3
          refine AW.skip ?_
          refine hK88 _ ?_
          refine AW.seq_k fun K89 hK89 => ?_
          refine AW.block ?_
          refine AW.seq_k fun K90 hK90 => ?_
          refine AW.region ?_
          refine AOps.step rfl rfl rfl (OpQ.spec (sp_move rfl (.inl rfl)) _) ?_
          refine AOps.step rfl rfl rfl (OpQ.spec (sp_assign rfl (.inl rfl)) _) ?_
          refine AOps.nil ?_
          refine hK90 _ ?_
          refine AW.seq_k fun K91 hK91 => ?_
          refine AW.seq_k fun K92 hK92 => ?_
          refine AW.regionQ hmix (by kernel_rfl) ?_
          refine AQ.step rfl rfl rfl (sp_move rfl (.inl rfl)) ?_
          refine AQ.step rfl rfl rfl (sp_move rfl (.inl rfl)) ?_
          refine AQ.step rfl rfl rfl (sp_indexAddr_roM (k) rfl tg_27.slice (.inl rfl) (.inl rfl) rfl ?_ ?_) ?_
          · intro _; omega
          · intro _; first | omega | (simp; omega)
          refine AQ.step rfl rfl rfl (sp_load_ro rfl ts_4 (.inl rfl) (fun _ => rfl)) ?_
          refine AQ.step rfl rfl rfl (sp_move rfl (.inl rfl)) ?_
          refine AQ.step rfl rfl rfl (sp_move rfl (.inl rfl)) ?_
          refine AQ.step rfl rfl rfl (sp_indexAddr_roM (k) rfl tg_27.slice (.inl rfl) (.inl rfl) rfl ?_ ?_) ?_
          · intro _; omega
          · intro _; first | omega | (simp; omega)
          refine AQ.step rfl rfl rfl (sp_load_ro rfl ts_4 (.inl rfl) (fun _ => rfl)) ?_
          refine AQ.step rfl rfl rfl (sp_bneq rfl Try.underlying4 (.inl rfl) (.inl rfl)) ?_
          refine AQ.nil ?_
          refine hK92 _ ?_
          refine AW.cond rfl (fun hc4 => ?_) (fun hc4 => ?_)
          ·
            simp at hc4
          ·
            clear hc4
            refine AW.skip ?_
            refine hK91 _ ?_
            refine AW.seq_k fun K93 hK93 => ?_
            refine AW.seq_k fun K94 hK94 => ?_
            refine AW.region ?_
            refine AOps.step rfl rfl rfl (OpQ.spec (sp_move rfl (.inl rfl)) _) ?_
            refine AOps.step rfl rfl rfl (OpQ.spec (sp_move rfl (.inl rfl)) _) ?_
            refine AOps.step rfl rfl rfl (OpQ.spec (sp_indexAddr_roM (k) rfl tg_22.slice (.inl rfl) (.inl rfl) rfl ?_ ?_) _) ?_
            · intro _; omega
            · intro _; first | omega | (simp; omega)
            refine AOps.step rfl rfl rfl (OpQ.spec (sp_fieldAddr_ro rfl tf_26_0 (.inl rfl)) _) ?_
            refine AOps.step rfl rfl rfl (OpQ.spec (sp_load_ro rfl ts_3 (.inl rfl) (fun _ => rfl)) _) ?_
            refine AOps.step rfl rfl rfl (OpQ.spec (sp_move rfl (.inl rfl)) _) ?_
            refine AOps.step rfl rfl rfl (OpQ.spec (sp_neq rfl (.inl rfl) (.inl rfl)) _) ?_
            refine AOps.nil ?_
            refine hK94 _ ?_
            refine AW.cond rfl (fun hc5 => ?_) (fun hc5 => ?_)
            ·
              simp [-List.getElem!_eq_getElem?_getD] at hc5
              refine AW.exit ?_
              refine hK89 _ ?_
              refine AW.region ?_
              refine AOps.step rfl rfl rfl (OpQ.spec (sp_add rfl (.inl rfl) (.inl rfl) ?_) _) ?_
              · exact w64 (by omega) (by omega)
              refine AOps.step rfl rfl rfl (OpQ.spec (sp_move rfl (.inl rfl)) _) ?_
              refine AOps.nil ?_
              have hf : fwd l (counts l) site (k + 1) = fwd l (counts l) site k := by rw [fwd, if_pos hc5]
              have hf1 := congrArg Prod.fst hf
              have hf2 := congrArg Prod.snd hf
              try simp only at hf1 hf2
              refine ⟨l.length - (k + 1), by omega, ⟨_, _, _, _⟩, (by exact Weak.mk ⟨.inr (sl_eq (by first | rfl | (simp []; done))), .inr (int_eq (by first | rfl | omega)), .inr (sl_eq (by first | rfl | (simp []; done))), .inr (sl_eq (by first | rfl | (simp []; done))), .inr (int_eq (by first | rfl | omega)), .inr (int_eq (by first | rfl | omega)), .inr (int_eq (by first | rfl | omega)), .inr (int_eq (by first | rfl | omega)), trivial⟩ trivial (Nat.le_refl _)), k + 1, n, rfl, ⟨by omega, rfl⟩⟩
            ·
              simp [-List.getElem!_eq_getElem?_getD] at hc5
              refine AW.skip ?_
              refine hK93 _ ?_
              refine AW.seq_k fun K95 hK95 => ?_
              refine AW.region ?_
              refine AOps.step rfl rfl rfl (OpQ.spec (sp_move rfl (.inl rfl)) _) ?_
              refine AOps.step rfl rfl rfl (OpQ.spec (sp_move rfl (.inl rfl)) _) ?_
              refine AOps.step rfl rfl rfl (sp_call (caps := []) (bs := [_, _]) rfl (.inl rfl) rfl ⟨⟨.r _, (.inl rfl), .one (.closed _ rfl)⟩, ⟨.r _, (.inl rfl), .one (.closed _ rfl)⟩, trivial⟩ (fun _ => c17 l (by omega) _ _ rfl (by omega)) rfl) ?_
              refine AOps.step rfl rfl rfl (OpQ.spec (sp_assign rfl (.inl rfl)) _) ?_
              refine AOps.nil ?_
              refine hK95 _ ?_
              refine AW.block ?_
              refine AW.seq_k fun K96 hK96 => ?_
              refine AW.region ?_
              refine AOps.step rfl rfl rfl (OpQ.spec (sp_move rfl (.inl rfl)) _) ?_
              refine AOps.step rfl rfl rfl (OpQ.spec (sp_eql rfl (.inl rfl) (.inl rfl)) _) ?_
              refine AOps.step rfl rfl rfl (OpQ.spec (sp_move rfl (.inl rfl)) _) ?_
              refine AOps.stepG rfl rfl rfl rfl rfl (OpQ.spec (sp_move rfl (.inl rfl)) _) ?_
              refine AOps.stepG rfl rfl rfl rfl rfl (OpQ.spec (sp_move rfl (.inl rfl)) _) ?_
              refine AOps.stepG rfl rfl rfl rfl rfl (OpQ.spec (sp_indexAddr_roM (k) rfl tg_22.slice (.inr rfl) (.inr rfl) rfl ?_ ?_) _) ?_
              · intro hg; (try simp at hg); omega
              · intro hg; (try simp at hg); first | omega | (simp; omega)
              refine AOps.stepG rfl rfl rfl rfl rfl (OpQ.spec (sp_fieldAddr_ro rfl tf_26_4 (.inr rfl)) _) ?_
              refine AOps.stepG rfl rfl rfl rfl rfl (OpQ.spec (sp_load_ro rfl ts_24 (.inr rfl) (fun _ => rfl)) _) ?_
              refine AOps.stepG rfl rfl rfl rfl rfl (OpQ.spec (sp_eql rfl (.inr rfl) (.inl rfl)) _) ?_
              refine AOps.step rfl rfl rfl (OpQ.spec (sp_and rfl (.inl rfl) (.inl rfl)) _) ?_
              refine AOps.step rfl rfl rfl (OpQ.spec (sp_assign rfl (.inl rfl)) _) ?_
              refine AOps.nil ?_
              refine hK96 _ ?_
              refine AW.cond rfl (fun hc6 => ?_) (fun hc6 => ?_)
              ·
                simp [-List.getElem!_eq_getElem?_getD] at hc6
                refine AW.seq_k fun K97 hK97 => ?_
                refine AW.region ?_
                refine AOps.step rfl rfl rfl (OpQ.spec (sp_assign rfl (.inl rfl)) _) ?_
                refine AOps.nil ?_
                refine hK97 _ ?_
                refine AW.seq_k fun K98 hK98 => ?_
                refine AW.region ?_
                refine AOps.step rfl rfl rfl (OpQ.spec (sp_move rfl (.inl rfl)) _) ?_
                refine AOps.step rfl rfl rfl (OpQ.spec (sp_move rfl (.inl rfl)) _) ?_
                refine AOps.step rfl rfl rfl (OpQ.spec (sp_indexAddr_roM (k) rfl tg_27.slice (.inl rfl) (.inl rfl) rfl ?_ ?_) _) ?_
                · intro _; omega
                · intro _; first | omega | (simp; omega)
                refine AOps.step rfl rfl rfl (OpQ.spec (sp_load_ro rfl ts_4 (.inl rfl) (fun _ => rfl)) _) ?_
                refine AOps.nil ?_
                refine hK98 _ ?_
                refine AW.cond rfl (fun hc7 => ?_) (fun hc7 => ?_)
                ·
                  skip
                  refine AW.region ?_
                  refine AOps.step rfl rfl rfl (OpQ.spec (sp_move rfl (.inl rfl)) _) ?_
                  refine AOps.step rfl rfl rfl (OpQ.spec (sp_add rfl (.inl rfl) (.inl rfl) ?_) _) ?_
                  · exact w64 (by omega) (by omega)
                  refine AOps.step rfl rfl rfl (OpQ.spec (sp_assign rfl (.inl rfl)) _) ?_
                  refine AOps.nil ?_
                  refine hK89 _ ?_
                  refine AW.region ?_
                  refine AOps.step rfl rfl rfl (OpQ.spec (sp_add rfl (.inl rfl) (.inl rfl) ?_) _) ?_
                  · exact w64 (by omega) (by omega)
                  refine AOps.step rfl rfl rfl (OpQ.spec (sp_move rfl (.inl rfl)) _) ?_
                  refine AOps.nil ?_
                  have hf : fwd l (counts l) site (k + 1) = ((k : Int) + 1, 0) := by rw [fwd, if_neg (by omega), if_pos (by omega), if_pos hc7]
                  have hf1 := congrArg Prod.fst hf
                  have hf2 := congrArg Prod.snd hf
                  try simp only at hf1 hf2
                  refine ⟨l.length - (k + 1), by omega, ⟨_, _, _, _⟩, (by exact Weak.mk ⟨.inr (sl_eq (by first | rfl | (simp []; done))), .inr (int_eq (by first | rfl | omega)), .inr (sl_eq (by first | rfl | (simp []; done))), .inr (sl_eq (by first | rfl | (simp []; done))), .inr (int_eq (by first | rfl | omega)), .inr (int_eq (by first | rfl | omega)), .inr (int_eq (by first | rfl | omega)), .inr (int_eq (by first | rfl | omega)), trivial⟩ trivial (Nat.le_refl _)), k + 1, n, rfl, ⟨by omega, rfl⟩⟩
                ·
                  skip
                  refine AW.skip ?_
                  refine hK89 _ ?_
                  refine AW.region ?_
                  refine AOps.step rfl rfl rfl (OpQ.spec (sp_add rfl (.inl rfl) (.inl rfl) ?_) _) ?_
                  · exact w64 (by omega) (by omega)
                  refine AOps.step rfl rfl rfl (OpQ.spec (sp_move rfl (.inl rfl)) _) ?_
                  refine AOps.nil ?_
                  have hf : fwd l (counts l) site (k + 1) = ((fwd l (counts l) site k).1, 0) := by rw [fwd, if_neg (by omega), if_pos (by omega), if_neg (by rw [hc7]; decide)]
                  have hf1 := congrArg Prod.fst hf
                  have hf2 := congrArg Prod.snd hf
                  try simp only at hf1 hf2
                  refine ⟨l.length - (k + 1), by omega, ⟨_, _, _, _⟩, (by exact Weak.mk ⟨.inr (sl_eq (by first | rfl | (simp []; done))), .inr (int_eq (by first | rfl | omega)), .inr (sl_eq (by first | rfl | (simp []; done))), .inr (sl_eq (by first | rfl | (simp []; done))), .inr (int_eq (by first | rfl | omega)), .inr (int_eq (by first | rfl | omega)), .inr (int_eq (by first | rfl | omega)), .inr (int_eq (by first | rfl | omega)), trivial⟩ trivial (Nat.le_refl _)), k + 1, n, rfl, ⟨by omega, rfl⟩⟩
              ·
                simp [-List.getElem!_eq_getElem?_getD] at hc6
                refine AW.seq_k fun K99 hK99 => ?_
                refine AW.region ?_
                refine AOps.step rfl rfl rfl (OpQ.spec (sp_move rfl (.inl rfl)) _) ?_
                refine AOps.step rfl rfl rfl (OpQ.spec (sp_eql rfl (.inl rfl) (.inl rfl)) _) ?_
                refine AOps.step rfl rfl rfl (OpQ.spec (sp_move rfl (.inl rfl)) _) ?_
                refine AOps.stepG rfl rfl rfl rfl rfl (OpQ.spec (sp_move rfl (.inl rfl)) _) ?_
                refine AOps.stepG rfl rfl rfl rfl rfl (OpQ.spec (sp_move rfl (.inl rfl)) _) ?_
                refine AOps.stepG rfl rfl rfl rfl rfl (OpQ.spec (sp_indexAddr_roM (k) rfl tg_27.slice (.inr rfl) (.inr rfl) rfl ?_ ?_) _) ?_
                · intro hg; (try simp at hg); omega
                · intro hg; (try simp at hg); first | omega | (simp; omega)
                refine AOps.stepG rfl rfl rfl rfl rfl (OpQ.spec (sp_load_ro rfl ts_4 (.inr rfl) (fun _ => rfl)) _) ?_
                refine AOps.step rfl rfl rfl (OpQ.spec (sp_and rfl (.inl rfl) (.inl rfl)) _) ?_
                refine AOps.step rfl rfl rfl (OpQ.spec (sp_assign rfl (.inl rfl)) _) ?_
                refine AOps.nil ?_
                refine hK99 _ ?_
                refine AW.cond rfl (fun hc8 => ?_) (fun hc8 => ?_)
                ·
                  simp [-List.getElem!_eq_getElem?_getD] at hc8
                  refine AW.region ?_
                  refine AOps.step rfl rfl rfl (OpQ.spec (sp_move rfl (.inl rfl)) _) ?_
                  refine AOps.step rfl rfl rfl (OpQ.spec (sp_add rfl (.inl rfl) (.inl rfl) ?_) _) ?_
                  · exact w64 (by omega) (by omega)
                  refine AOps.step rfl rfl rfl (OpQ.spec (sp_assign rfl (.inl rfl)) _) ?_
                  refine AOps.nil ?_
                  refine hK89 _ ?_
                  refine AW.region ?_
                  refine AOps.step rfl rfl rfl (OpQ.spec (sp_add rfl (.inl rfl) (.inl rfl) ?_) _) ?_
                  · exact w64 (by omega) (by omega)
                  refine AOps.step rfl rfl rfl (OpQ.spec (sp_move rfl (.inl rfl)) _) ?_
                  refine AOps.nil ?_
                  have hf : fwd l (counts l) site (k + 1) = ((fwd l (counts l) site k).1, (k : Int) + 1) := by rw [fwd, if_neg (by omega), if_neg (by omega), if_pos (And.intro (by omega) hc8.2)]
                  have hf1 := congrArg Prod.fst hf
                  have hf2 := congrArg Prod.snd hf
                  try simp only at hf1 hf2
                  refine ⟨l.length - (k + 1), by omega, ⟨_, _, _, _⟩, (by exact Weak.mk ⟨.inr (sl_eq (by first | rfl | (simp []; done))), .inr (int_eq (by first | rfl | omega)), .inr (sl_eq (by first | rfl | (simp []; done))), .inr (sl_eq (by first | rfl | (simp []; done))), .inr (int_eq (by first | rfl | omega)), .inr (int_eq (by first | rfl | omega)), .inr (int_eq (by first | rfl | omega)), .inr (int_eq (by first | rfl | omega)), trivial⟩ trivial (Nat.le_refl _)), k + 1, n, rfl, ⟨by omega, rfl⟩⟩
                ·
                  simp [-List.getElem!_eq_getElem?_getD] at hc8
                  refine AW.skip ?_
                  refine hK89 _ ?_
                  refine AW.region ?_
                  refine AOps.step rfl rfl rfl (OpQ.spec (sp_add rfl (.inl rfl) (.inl rfl) ?_) _) ?_
                  · exact w64 (by omega) (by omega)
                  refine AOps.step rfl rfl rfl (OpQ.spec (sp_move rfl (.inl rfl)) _) ?_
                  refine AOps.nil ?_
                  have hf : fwd l (counts l) site (k + 1) = fwd l (counts l) site k := by rw [fwd, if_neg (by omega), if_neg (by omega), if_neg (by rintro ⟨a, b⟩; simp [a, b] at hc8)]
                  have hf1 := congrArg Prod.fst hf
                  have hf2 := congrArg Prod.snd hf
                  try simp only at hf1 hf2
                  refine ⟨l.length - (k + 1), by omega, ⟨_, _, _, _⟩, (by exact Weak.mk ⟨.inr (sl_eq (by first | rfl | (simp []; done))), .inr (int_eq (by first | rfl | omega)), .inr (sl_eq (by first | rfl | (simp []; done))), .inr (sl_eq (by first | rfl | (simp []; done))), .inr (int_eq (by first | rfl | omega)), .inr (int_eq (by first | rfl | omega)), .inr (int_eq (by first | rfl | omega)), .inr (int_eq (by first | rfl | omega)), trivial⟩ trivial (Nat.le_refl _)), k + 1, n, rfl, ⟨by omega, rfl⟩⟩
        ·
          simp at hc3
          refine AW.exit ?_
          refine hK85 _ ?_
          refine AW.seq_k fun K100 hK100 => ?_
          refine AW.region ?_
          refine AOps.step rfl rfl rfl (OpQ.spec (sp_move rfl (.inl rfl)) _) ?_
          refine AOps.step rfl rfl rfl (OpQ.spec (sp_move rfl (.inl rfl)) _) ?_
          refine AOps.step rfl rfl rfl (sp_call (caps := []) (bs := [_, _]) rfl (.inl rfl) rfl ⟨⟨.r _, (.inl rfl), .one (.closed _ rfl)⟩, ⟨.r _, (.inl rfl), .one (.closed _ rfl)⟩, trivial⟩ (fun _ => c15 l (by omega) _) rfl) ?_
          refine AOps.step rfl rfl rfl (OpQ.spec (sp_move rfl (.inl rfl)) _) ?_
          refine AOps.step rfl rfl rfl (OpQ.spec (sp_eql rfl (.inl rfl) (.inl rfl)) _) ?_
          refine AOps.step rfl rfl rfl (OpQ.spec (sp_move rfl (.inl rfl)) _) ?_
          refine AOps.stepG rfl rfl rfl rfl rfl (OpQ.spec (sp_move rfl (.inl rfl)) _) ?_
          refine AOps.stepG rfl rfl rfl rfl rfl (OpQ.spec (sp_move rfl (.inl rfl)) _) ?_
          refine AOps.stepG rfl rfl rfl rfl rfl (sp_call (caps := []) (bs := [_, _]) rfl (.inl rfl) rfl ⟨⟨.r _, (.inr rfl), .one (.closed _ rfl)⟩, ⟨.r _, (.inr rfl), .one (.closed _ rfl)⟩, trivial⟩ (fun _ => c18 l (by omega) _) rfl) ?_
          refine AOps.stepG rfl rfl rfl rfl rfl (OpQ.spec (sp_move rfl (.inl rfl)) _) ?_
          refine AOps.stepG rfl rfl rfl rfl rfl (OpQ.spec (sp_eql rfl (.inr rfl) (.inr rfl)) _) ?_
          refine AOps.step rfl rfl rfl (OpQ.spec (sp_and rfl (.inl rfl) (.inl rfl)) _) ?_
          refine AOps.step rfl rfl rfl (OpQ.spec (sp_assign rfl (.inl rfl)) _) ?_
          refine AOps.nil ?_
          refine hK100 _ ?_
          refine AW.ret ?_
          have hke : k = l.length := by omega
          have hf := fwd_eq l site k hk
          have hf1 := congrArg Prod.fst hf
          have hf2 := congrArg Prod.snd hf
          simp only at hf1 hf2
          exact ret_closed (.inl rfl) (bool_eq (by rw [hf1, hf2, hke]; simp)) rfl
    refine AW.cond rfl (fun hc1 => ?_) (fun hc1 => ?_)
    ·
      simp at hc1
      refine AW.region ?_
      refine AOps.step rfl rfl rfl (OpQ.spec (sp_move rfl (.inl rfl)) _) ?_
      refine AOps.step rfl rfl rfl (OpQ.spec (sp_slice_ro rfl tg_22.slice (.inl rfl) (by exact rfl) (by exact ⟨_, _, (.inl rfl), (by intro _; omega), rfl⟩) ?_ ?_ ?_) _) ?_
      · intro _; omega
      · intro _; (simp; omega)
      · (intro row hrow; obtain ⟨e, _, rfl⟩ := List.mem_map.1 hrow; rfl)
      refine AOps.step rfl rfl rfl (OpQ.spec (sp_assign rfl (.inl rfl)) _) ?_
      refine AOps.nil ?_
      exact hK79 _ (AW.weak (by exact Weak.mk ⟨.inr (sl_eq (by first | rfl | (simp [List.map_take]; done))), .inr (int_eq (by first | rfl | omega)), trivial⟩ trivial (Nat.le_refl _)) (J1 (log.take 40, (n0 + 1)) (by simp; omega)))
    ·
      simp at hc1
      refine AW.skip ?_
      exact hK79 _ (AW.weak (by exact Weak.mk ⟨.inr (sl_eq (by first | rfl | (simp [List.map_take]; done))), .inr (int_eq (by first | rfl | omega)), trivial⟩ trivial (Nat.le_refl _)) (J1 (log, (n0 + 1)) (by omega)))

end Go.Proofs.Ythhodpedkdapcaa.Al
