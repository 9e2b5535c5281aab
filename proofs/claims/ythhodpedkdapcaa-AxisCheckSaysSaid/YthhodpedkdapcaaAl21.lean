/-
  Guards, one behind another too; operations under a guard whose value is known.
-/
import Derived.Test.YthhodpedkdapcaaAl20
namespace Go.Proofs.Ythhodpedkdapcaa.Al
section
variable {P : Program} {ops : Array Oper} {rest : List Oper} {s : St} {K : St → Prop} {o : Oper}

/-- What an operation's guard says. -/
inductive GuardC (R : Env) (ops : Array Oper) (o : Oper) : Bool → Prop
  | one {j dj : Nat} {want b : Bool} (hg : o.guard = some (j, want)) (hj : (ops[j]?).bind (·.dst) = some dj) (hb : evalOp R (.tmp dj) = .r (.bool b)) : GuardC R ops o (b == want)
  | two {j dj : Nat} {want b c1 : Bool} (hg : o.guard = some (j, want)) (hj : (ops[j]?).bind (·.dst) = some dj) (hb : evalOp R (.tmp dj) = .whn c1 (.r (.bool b))) : GuardC R ops o (c1 && (b == want))
theorem wanted_undef {a : Act} {j dj : Nat} {want : Bool} (hg : o.guard = some (j, want)) (hj : (ops[j]?).bind (·.dst) = some dj) (hbv : a.tmps.getD dj undef = undef) : Region.wanted o (yielded ops a.tmps) = false := by
  simp only [Region.wanted, hg, yielded]
  rw [hj]
  simp only [Option.bind_some]
  by_cases hd : dj < a.tmps.size
  · have : a.tmps[dj]? = some undef := by
      rw [Array.getElem?_eq_getElem hd]
      simpa [Array.getD, hd] using hbv
    rw [this]; rfl
  · rw [Array.getElem?_eq_none (Nat.not_lt.1 hd)]; rfl
theorem GuardC.wanted {c : Bool} {y : Cx} {a : Act} (hG : GuardC s.e ops o c) (he : EnvOk y s.e a) : Region.wanted o (yielded ops a.tmps) = c := by
  cases hG with
  | @one j dj want b hg hj hb =>
    have h0 := he dj
    rw [show get s.e dj = .r (.bool b) from hb] at h0
    exact wanted_of hg hj (rep_bool h0)
  | @two j dj want b c1 hg hj hb =>
    have h0 := he dj
    rw [show get s.e dj = .whn c1 (.r (.bool b)) from hb] at h0
    generalize hv : a.tmps.getD dj undef = v at h0
    cases h0 with
    | whn h1 h2 =>
      cases c1 with
      | true => rw [wanted_of hg hj (hv.trans (rep_bool (h1 rfl)))]; rfl
      | false => rw [wanted_undef hg hj (hv.trans (h2 rfl))]; rfl

theorem AOps.stepW {d : Nat} {c : Bool} {v : AV} (hG : GuardC s.e ops o c) (hd : o.dst = some d) (hN : Nat.blt d s.N = true) (hs : OpSpec P c o s.e s.h s.n v s.h s.n)
    (hr : AOps P ops rest { e := (d, .whn c v) :: s.e, h := s.h, n := s.n, N := s.N } K) : AOps P ops (o :: rest) s K := by
  intro c0 a w ⟨hdef, hsz, y, hyw, hle, hok, hH, hn, he⟩ Q hQ
  subst hyw
  have hN' : d < a.tmps.size := by rw [hsz]; exact lt_of_blt hN
  refine wpList_step fun K' hK' => ?_
  rw [hG.wanted he]
  split
  · rename_i hc
    refine hs hc y a hok hH hn he K' Q fun u z hyz hzok hzH hzn hzv => ?_
    refine hK' _ _ ?_
    rw [hd]
    exact hr c0 (a.put (some d) u) z.w ⟨hdef, by simpa [Act.put] using hsz, z, rfl, hle.trans hyz, hzok, hzH, hzn, (he.mono hyz).put hN' (.whn (fun _ => hzv) (fun h => by rw [hc] at h; cases h))⟩ Q hQ
  · rename_i hc
    refine hK' _ _ ?_
    rw [hd]
    exact hr c0 (a.put (some d) undef) y.w ⟨hdef, by simpa [Act.put] using hsz, y, rfl, hle, hok, hH, hn, he.put hN' (.whn (fun h => absurd h hc) (fun _ => rfl))⟩ Q hQ
theorem AQ.stepW {d : Nat} {c : Bool} {v : AV} (hG : GuardC s.e ops o c) (hd : o.dst = some d) (hN : Nat.blt d s.N = true) (hs : OpQ P c o s.e s.h v)
    (hr : AQ P ops rest { e := (d, .whn c v) :: s.e, h := s.h, n := s.n, N := s.N } K) : AQ P ops (o :: rest) s K := by
  intro y a hok hH hn hsz he Qa hQ
  have hN' : d < a.tmps.size := by rw [hsz]; exact lt_of_blt hN
  refine wpQuiet_step fun K' hK' => ?_
  rw [hG.wanted he]
  split
  · rename_i hc
    obtain ⟨u, hrun, hv⟩ := hs hc y a hok hH he
    refine ⟨u, fun w2 hw2 => ?_, hK' _ ?_⟩
    · obtain ⟨z, hz, _, _, _, _, _, _, hag⟩ := hw2
      unfold Oper.quietAt
      rw [hrun w2 hag]
      exact ⟨rfl, rfl⟩
    · rw [hd]
      exact hr y (a.put (some d) u) hok hH hn (by simpa [Act.put] using hsz) (he.put hN' (.whn (fun _ => hv) (fun h => by rw [hc] at h; cases h))) Qa fun s' a' k1 k2 k3 k4 k5 k6 k7 => hQ s' a' k1 k2 k3 k4 k5 k6 k7
  · rename_i hc
    refine hK' _ ?_
    rw [hd]
    exact hr y (a.put (some d) undef) hok hH hn (by simpa [Act.put] using hsz) (he.put hN' (.whn (fun h => absurd h hc) (fun _ => rfl))) Qa fun s' a' k1 k2 k3 k4 k5 k6 k7 => hQ s' a' k1 k2 k3 k4 k5 k6 k7
theorem AQ.stepWC {d : Nat} {c : Bool} {f : FuncId} {fo : Operand} {xs : Array Operand} {ats : Array TypeId} {caps bs : List AV} {r : AV} {v : Value} (hG : GuardC s.e ops o c) (hd : o.dst = some d) (hN : Nat.blt d s.N = true)
    (ho : o.op = .call { callee := .value fo, args := xs, argTypes := ats }) (hfo : Ev c s.e fo (.fn f caps)) (hcaps : closedL caps = true) (hx : ArgsEv c s.e s.h xs.toList bs) (hr : c = true → ARO P f (bs ++ caps) r)
    (hfl : flatV r = some v) (hk : AQ P ops rest { e := (d, .whn c r) :: s.e, h := s.h, n := s.n, N := s.N } K) : AQ P ops (o :: rest) s K := by
  intro y a hok hH hn hsz he Qa hQ
  have hN' : d < a.tmps.size := by rw [hsz]; exact lt_of_blt hN
  refine wpQuiet_step fun K' hK' => ?_
  rw [hG.wanted he]
  split
  · rename_i hc
    refine ⟨v, AQ.call ho hfo hcaps hx hr hfl hc hok hH he, hK' _ ?_⟩
    rw [hd]
    exact hk y (a.put (some d) v) hok hH hn (by simpa [Act.put] using hsz) (he.put hN' (.whn (fun _ => flatV_mk hfl) (fun h => by rw [hc] at h; cases h))) Qa fun s' a' k1 k2 k3 k4 k5 k6 k7 => hQ s' a' k1 k2 k3 k4 k5 k6 k7
  · rename_i hc
    refine hK' _ ?_
    rw [hd]
    exact hk y (a.put (some d) undef) hok hH hn (by simpa [Act.put] using hsz) (he.put hN' (.whn (fun h => absurd h hc) (fun _ => rfl))) Qa fun s' a' k1 k2 k3 k4 k5 k6 k7 => hQ s' a' k1 k2 k3 k4 k5 k6 k7
theorem AT.stepW {d : Nat} {c : Bool} {v : AV} (hG : GuardC s.e ops o c) (hd : o.dst = some d) (hN : Nat.blt d s.N = true) (hs : OpQ P c o s.e s.h v)
    (hr : AT P ops rest { e := (d, .whn c v) :: s.e, h := s.h, n := s.n, N := s.N } K) : AT P ops (o :: rest) s K := by
  intro y a hok hH hn hsz he Qa hQ
  have hN' : d < a.tmps.size := by rw [hsz]; exact lt_of_blt hN
  refine wpStill_step fun K' hK' => ?_
  rw [hG.wanted he]
  split
  · rename_i hc
    obtain ⟨u, hrun, hv⟩ := hs hc y a hok hH he
    unfold Oper.still
    rw [hrun y.w fun _ _ => rfl, Oper.stillUpon_value]
    refine hK' _ ?_
    rw [hd]
    exact hr y (a.put (some d) u) hok hH hn (by simpa [Act.put] using hsz) (he.put hN' (.whn (fun _ => hv) (fun h => by rw [hc] at h; cases h))) Qa fun s' a' k1 k2 k3 k4 k5 k6 k7 => hQ s' a' k1 k2 k3 k4 k5 k6 k7
  · rename_i hc
    refine hK' _ ?_
    rw [hd]
    exact hr y (a.put (some d) undef) hok hH hn (by simpa [Act.put] using hsz) (he.put hN' (.whn (fun h => absurd h hc) (fun _ => rfl))) Qa fun s' a' k1 k2 k3 k4 k5 k6 k7 => hQ s' a' k1 k2 k3 k4 k5 k6 k7

/-- Wanted: as if there were no guard. -/
theorem AOps.stepGT {d : Nat} {c : Bool} {v : AV} {h' : Heap} {n' : Nat} (hG : GuardC s.e ops o c) (hc : c = true) (hd : o.dst = some d)
    (hN : Nat.blt d s.N = true) (hs : OpSpec P true o s.e s.h s.n v h' n') (hr : AOps P ops rest { e := (d, v) :: s.e, h := h', n := n', N := s.N } K) : AOps P ops (o :: rest) s K := by
  intro c0 a w ⟨hdef, hsz, y, hyw, hle, hok, hH, hn, he⟩ Q hQ
  subst hyw
  have hN' : d < a.tmps.size := by rw [hsz]; exact lt_of_blt hN
  refine wpList_step fun K' hK' => ?_
  rw [hG.wanted he, if_pos hc]
  refine hs rfl y a hok hH hn he K' Q fun u z hyz hzok hzH hzn hzv => ?_
  refine hK' _ _ ?_
  rw [hd]
  exact hr c0 (a.put (some d) u) z.w ⟨hdef, by simpa [Act.put] using hsz, z, rfl, hle.trans hyz, hzok, hzH, hzn, (he.mono hyz).put hN' hzv⟩ Q hQ
/-- Not wanted: nothing happens. -/
theorem AOps.stepGF {d : Nat} {c : Bool} (hG : GuardC s.e ops o c) (hc : c = false) (hd : o.dst = some d)
    (hN : Nat.blt d s.N = true) (hr : AOps P ops rest { e := (d, .any) :: s.e, h := s.h, n := s.n, N := s.N } K) : AOps P ops (o :: rest) s K := by
  intro c0 a w ⟨hdef, hsz, y, hyw, hle, hok, hH, hn, he⟩ Q hQ
  subst hyw
  have hN' : d < a.tmps.size := by rw [hsz]; exact lt_of_blt hN
  refine wpList_step fun K' hK' => ?_
  rw [hG.wanted he, if_neg (by rw [hc]; decide)]
  refine hK' _ _ ?_
  rw [hd]
  exact hr c0 (a.put (some d) undef) y.w ⟨hdef, by simpa [Act.put] using hsz, y, rfl, hle, hok, hH, hn, he.put hN' (.any _)⟩ Q hQ
end
end Go.Proofs.Ythhodpedkdapcaa.Al
