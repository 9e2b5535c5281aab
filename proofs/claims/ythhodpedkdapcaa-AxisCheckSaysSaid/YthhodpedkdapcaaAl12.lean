/-
  Regions that draw their order, and whose operations only read (calls among them): one walk of the text's order.
-/
import Derived.Test.YthhodpedkdapcaaAl11
import Derived.Deep.Quiet
namespace Go.Proofs.Ythhodpedkdapcaa.Al
section
variable {P : Program} {ops : Array Oper} {rest : List Oper} {s : St} {K : St → Prop} {o : Oper}

/-- The worlds that a quiet region may come to. -/
def CC (y : Cx) (w2 : World) : Prop := ∃ z : Cx, z.w = w2 ∧ y.le z ∧ z.ok ∧ z.H = y.H ∧ z.β = y.β ∧ z.n = y.n ∧ z.S = y.S ∧ Agree y w2

def AQ (P : Program) (ops : Array Oper) (rest : List Oper) (s : St) (K : St → Prop) : Prop :=
  ∀ (y : Cx) (a : Act), y.ok → y.H = hget s.h → y.n = s.n → a.tmps.size = s.N → EnvOk y s.e a → ∀ Qa : Act → Prop,
    (∀ s' a', K s' → s'.h = s.h → s'.n = s.n → s'.N = s.N → a'.tmps.size = s.N → a'.defers = a.defers → EnvOk y s'.e a' → Qa a') → wpQuiet P ops (CC y) Qa rest a

theorem AQ.nil (h : K s) : AQ P ops [] s K := fun _ a _ _ _ hN he _ hQ => wpQuiet_nil (hQ s a h rfl rfl rfl hN rfl he)

theorem Agree.trans_cc {y z : Cx} {w2 : World} (hH : z.H = y.H) (hβ : z.β = y.β) (hS : z.S = y.S) (h1 : Agree y z.w) (h2 : Agree z w2) : Agree y w2 := by
  intro b hb
  refine (h2 b ?_).trans (h1 b hb)
  rw [hH, hβ, hS]; exact hb

theorem AQ.step {d : Nat} {v : AV} (hg : o.guard = none) (hd : o.dst = some d) (hN : Nat.blt d s.N = true) (hs : OpQ P true o s.e s.h v)
    (hr : AQ P ops rest { e := (d, v) :: s.e, h := s.h, n := s.n, N := s.N } K) : AQ P ops (o :: rest) s K := by
  intro y a hok hH hn hsz he Qa hQ
  obtain ⟨u, hrun, hv⟩ := hs rfl y a hok hH he
  have hN' : d < a.tmps.size := by rw [hsz]; exact lt_of_blt hN
  refine wpQuiet_step fun K' hK' => ?_
  rw [if_pos (by simp [Region.wanted, hg])]
  refine ⟨u, fun w2 hw2 => ?_, hK' _ ?_⟩
  · obtain ⟨z, hz, _, _, _, _, _, _, hag⟩ := hw2
    unfold Oper.quietAt
    rw [hrun w2 hag]
    exact ⟨rfl, rfl⟩
  · rw [hd]
    refine hr y (a.put (some d) u) hok hH hn (by simpa [Act.put] using hsz) (he.put hN' hv) Qa fun s' a' k1 k2 k3 k4 k5 k6 k7 => hQ s' a' k1 k2 k3 k4 k5 k6 k7

theorem wanted_of {a : Act} {j dj : Nat} {want b : Bool} (hg : o.guard = some (j, want)) (hj : (ops[j]?).bind (·.dst) = some dj) (hbv : a.tmps.getD dj undef = .bool b) : Region.wanted o (yielded ops a.tmps) = (b == want) := by
  simp only [Region.wanted, hg, yielded]
  cases hoj : ops[j]? with
  | none => rw [hoj] at hj; cases hj
  | some oj =>
    rw [hoj] at hj
    simp only [Option.bind_some] at hj
    simp only [hj, Option.bind_some]
    have : a.tmps[dj]? = some (.bool b) := by
      have hlt : dj < a.tmps.size := by
        rcases Nat.lt_or_ge dj a.tmps.size with h | h
        · exact h
        · simp [Array.getD, Nat.not_lt.2 h] at hbv; cases hbv
      rw [Array.getElem?_eq_getElem hlt]
      simpa [Array.getD, hlt] using hbv
    simp [this]

theorem AQ.stepG {d j dj : Nat} {want b : Bool} {v : AV} (hg : o.guard = some (j, want)) (hj : (ops[j]?).bind (·.dst) = some dj) (hb : evalOp s.e (.tmp dj) = .r (.bool b)) (hd : o.dst = some d)
    (hN : Nat.blt d s.N = true) (hs : OpQ P (b == want) o s.e s.h v)
    (hr : AQ P ops rest { e := (d, .whn (b == want) v) :: s.e, h := s.h, n := s.n, N := s.N } K) : AQ P ops (o :: rest) s K := by
  intro y a hok hH hn hsz he Qa hQ
  have hN' : d < a.tmps.size := by rw [hsz]; exact lt_of_blt hN
  have hbv : a.tmps.getD dj undef = .bool b := by
    have h0 := he dj
    rw [show get s.e dj = .r (.bool b) from hb] at h0
    exact rep_bool h0
  refine wpQuiet_step fun K' hK' => ?_
  rw [wanted_of hg hj hbv]
  split
  · rename_i hc
    obtain ⟨u, hrun, hv⟩ := hs hc y a hok hH he
    refine ⟨u, fun w2 hw2 => ?_, hK' _ ?_⟩
    · obtain ⟨z, hz, _, _, _, _, _, _, hag⟩ := hw2
      unfold Oper.quietAt
      rw [hrun w2 hag]
      exact ⟨rfl, rfl⟩
    · rw [hd]
      exact hr y (a.put (some d) u) hok hH hn (by simpa [Act.put] using hsz) (he.put hN' (.whn (fun _ => hv) (fun h => by rw [hc] at h; cases h))) Qa fun s' a' k1 k2 k3 k4 k5 k6 k7 => hQ s' a' k1 k2 k3 k4 k5 k6 k7
  · rename_i hc
    refine hK' _ ?_
    rw [hd]
    exact hr y (a.put (some d) undef) hok hH hn (by simpa [Act.put] using hsz) (he.put hN' (.whn (fun h => absurd h hc) (fun _ => rfl))) Qa fun s' a' k1 k2 k3 k4 k5 k6 k7 => hQ s' a' k1 k2 k3 k4 k5 k6 k7

/-- The one value of a flat datum. -/
def flatV : AV → Option Value
  | .r (.int k n) => some (.int k n)
  | .r (.bool b) => some (.bool b)
  | .r (.str s) => some (.string ⟨s.toArray⟩)
  | _ => none
theorem flatV_rep {x : Cx} {r : AV} {v u : Value} (h : flatV r = some v) (hu : AVRep x r u) : u = v := by
  unfold flatV at h
  split at h
  · cases h; exact rep_int hu
  · cases h; exact rep_bool hu
  · cases h; exact rep_str hu
  · cases h
theorem flatV_mk {x : Cx} {r : AV} {v : Value} (h : flatV r = some v) : AVRep x r v := by
  unfold flatV at h
  split at h
  · cases h; exact .r (.int _ _)
  · cases h; exact .r (.bool _)
  · cases h; exact .r (.str ⟨_⟩)
  · cases h

/-- A call in such a region: its result is flat. -/
theorem AQ.call {c : Bool} {f : FuncId} {fo : Operand} {xs : Array Operand} {ats : Array TypeId} {caps bs : List AV} {r : AV} {v : Value} {a : Act} {y : Cx} {R : Env} {h : Heap} (ho : o.op = .call { callee := .value fo, args := xs, argTypes := ats })
    (hfo : Ev c R fo (.fn f caps)) (hcaps : closedL caps = true) (hx : ArgsEv c R h xs.toList bs) (hr : c = true → ARO P f (bs ++ caps) r) (hfl : flatV r = some v) (hc : c = true) (_hok : y.ok) (hH : y.H = hget h) (he : EnvOk y R a) :
    ∀ w2, CC y w2 → o.quietAt P a (CC y) w2 v := by
  rintro w2 ⟨z, rfl, hyz, hzok, hzH, hzβ, hzn, hzS, hzag⟩
  obtain ⟨hcall, _, hcon⟩ := hr hc
  obtain ⟨hlen, hget⟩ := hx.get
  have hez := he.mono hyz
  have hHz : z.H = Al.hget h := hzH.trans hH
  have hv := hfo.rep hez hc
  generalize hfv : a.eval fo = vv at hv
  cases hv with
  | @fn _ _ us hl hall =>
    have hrun := run_callV hcall ho hfv z.w
    have hargs : ArgsRep z.frozen (bs ++ caps) (xs.map a.eval ++ us).toList := by
      refine ⟨by simp [hl]; simpa using hlen, fun i b u h1 h2 => ?_⟩
      have h2' : ((xs.toList.map a.eval) ++ us.toList)[i]? = some u := by simpa using h2
      by_cases hi : i < bs.length
      · rw [List.getElem?_append_left hi] at h1
        obtain ⟨x, b', k1, k2, k3⟩ := hget i b h1
        rw [List.getElem?_append_left (by simp at hlen ⊢; omega), List.getElem?_map, k1] at h2'
        simp only [Option.map_some, Option.some.injEq] at h2'
        subst h2'
        exact k3.rep hzok hHz (k2.rep hez hc)
      · rw [List.getElem?_append_right (by omega)] at h1
        rw [List.getElem?_append_right (by simp at hlen ⊢; omega)] at h2'
        have hxl : (xs.toList.map a.eval).length = bs.length := by simpa using hlen
        rw [hxl] at h2'
        exact closed_rep (x := z) (y := z.frozen) rfl (fun b h => Or.inl h) (hall _ b u h1 (by simpa using h2')) (closedL_get hcaps h1)
    unfold Oper.quietAt
    rw [hrun]
    refine ⟨rfl, (hcon z.frozen _ (Cx.frozen_ok hzok) rfl hargs).mono fun e w' ⟨u, q, he', hqw, hle, hqok, hqr⟩ => ?_⟩
    subst hqw
    refine ⟨by rw [he', flatV_rep hfl hqr], ?_⟩
    have hle2 : z.le { q with S := z.S, H := z.H, β := z.β, n := z.n } :=
      ⟨hle.size, hle.os, hle.tape, hle.output, fun b hb => hle.blk b (hb.imp (fun h => Or.inl h) id), fun _ h => h, hle.F, Nat.le_refl _, fun id o h _ => ⟨o, h, rfl, rfl, rfl⟩⟩
    have hFz : ({ q with S := z.S, H := z.H, β := z.β, n := z.n } : Cx).F = z.F := hle.F
    refine ⟨{ q with S := z.S, H := z.H, β := z.β, n := z.n }, rfl, hyz.trans hle2, ⟨fun b hb => Nat.lt_of_lt_of_le (hzok.S_lt b hb) hle.size, hqok.F_lt, fun b hb => ?_, fun id ob hob => ?_, fun id ob b k h1 h2 => ?_, hzok.inj⟩, hzH, hzβ, hzn, hzS, ?_⟩
    · rw [hFz]; exact hzok.SF b hb
    · obtain ⟨k1, k2⟩ := hzok.obj id ob hob
      exact ⟨k1, k2.mono hle2 fun b k hb => hle.blk b (.inl (.inr ⟨id, ob, k, hob, hb⟩))⟩
    · obtain ⟨k1, k2, k3⟩ := hzok.own id ob b k h1 h2
      exact ⟨Nat.lt_of_lt_of_le k1 hle.size, k2, by rw [hFz]; exact k3⟩
    · refine Agree.trans_cc hzH hzβ hzS hzag fun b hb => hle.blk b (.inl (hb.imp id ?_))
      exact fun ⟨id, o, k, h1, h2⟩ => ⟨id, o, k, h1, h2⟩

theorem AQ.stepC {d : Nat} {f : FuncId} {fo : Operand} {xs : Array Operand} {ats : Array TypeId} {caps bs : List AV} {r : AV} {v : Value} (hg : o.guard = none) (hd : o.dst = some d) (hN : Nat.blt d s.N = true)
    (ho : o.op = .call { callee := .value fo, args := xs, argTypes := ats }) (hfo : Ev true s.e fo (.fn f caps)) (hcaps : closedL caps = true) (hx : ArgsEv true s.e s.h xs.toList bs) (hr : true = true → ARO P f (bs ++ caps) r) (hfl : flatV r = some v)
    (hk : AQ P ops rest { e := (d, r) :: s.e, h := s.h, n := s.n, N := s.N } K) : AQ P ops (o :: rest) s K := by
  intro y a hok hH hn hsz he Qa hQ
  have hN' : d < a.tmps.size := by rw [hsz]; exact lt_of_blt hN
  refine wpQuiet_step fun K' hK' => ?_
  rw [if_pos (by simp [Region.wanted, hg])]
  refine ⟨v, AQ.call ho hfo hcaps hx hr hfl rfl hok hH he, hK' _ ?_⟩
  rw [hd]
  exact hk y (a.put (some d) v) hok hH hn (by simpa [Act.put] using hsz) (he.put hN' (flatV_mk hfl)) Qa fun s' a' k1 k2 k3 k4 k5 k6 k7 => hQ s' a' k1 k2 k3 k4 k5 k6 k7

theorem AQ.stepGC {d j dj : Nat} {want b : Bool} {f : FuncId} {fo : Operand} {xs : Array Operand} {ats : Array TypeId} {caps bs : List AV} {r : AV} {v : Value} (hg : o.guard = some (j, want)) (hj : (ops[j]?).bind (·.dst) = some dj)
    (hb : evalOp s.e (.tmp dj) = .r (.bool b)) (hd : o.dst = some d) (hN : Nat.blt d s.N = true)
    (ho : o.op = .call { callee := .value fo, args := xs, argTypes := ats }) (hfo : Ev (b == want) s.e fo (.fn f caps)) (hcaps : closedL caps = true) (hx : ArgsEv (b == want) s.e s.h xs.toList bs) (hr : (b == want) = true → ARO P f (bs ++ caps) r)
    (hfl : flatV r = some v) (hk : AQ P ops rest { e := (d, .whn (b == want) r) :: s.e, h := s.h, n := s.n, N := s.N } K) : AQ P ops (o :: rest) s K := by
  intro y a hok hH hn hsz he Qa hQ
  have hN' : d < a.tmps.size := by rw [hsz]; exact lt_of_blt hN
  have hbv : a.tmps.getD dj undef = .bool b := by
    have h0 := he dj
    rw [show get s.e dj = .r (.bool b) from hb] at h0
    exact rep_bool h0
  refine wpQuiet_step fun K' hK' => ?_
  rw [wanted_of hg hj hbv]
  split
  · rename_i hc
    refine ⟨v, AQ.call ho hfo hcaps hx hr hfl hc hok hH he, hK' _ ?_⟩
    rw [hd]
    exact hk y (a.put (some d) v) hok hH hn (by simpa [Act.put] using hsz) (he.put hN' (.whn (fun _ => flatV_mk hfl) (fun h => by rw [hc] at h; cases h))) Qa fun s' a' k1 k2 k3 k4 k5 k6 k7 => hQ s' a' k1 k2 k3 k4 k5 k6 k7
  · rename_i hc
    refine hK' _ ?_
    rw [hd]
    exact hk y (a.put (some d) undef) hok hH hn (by simpa [Act.put] using hsz) (he.put hN' (.whn (fun h => absurd h hc) (fun _ => rfl))) Qa fun s' a' k1 k2 k3 k4 k5 k6 k7 => hQ s' a' k1 k2 k3 k4 k5 k6 k7

theorem AW.regionQ {id : Nat} {l : List Oper} {Q : Exit → St → Prop} (hm : P.follows .mixedOrders = true) (hB : Region.lexB .any l.toArray = true) (h : AQ P l.toArray l s (Q .normal)) : AW P (.region id l.toArray true) Q s := by
  intro c0 a w ⟨hdef, hsz, y, hyw, hle, hok, hH, hn, he⟩
  subst hyw
  have hcc : ∀ w2 : World, w2.heap = y.w.heap → w2.os = y.w.os → w2.tape = y.w.tape → w2.output = y.w.output → CC y w2 := by
    intro w2 h1 h2 h3 h4
    have hle2 : y.le { y with w := w2 } := ⟨by rw [h1]; exact Nat.le_refl _, h2, h3, h4, fun b _ => by rw [h1], fun _ h => h, rfl, Nat.le_refl _, fun id o h _ => ⟨o, h, rfl, rfl, rfl⟩⟩
    refine ⟨{ y with w := w2 }, rfl, hle2, ⟨fun b hb => by rw [h1]; exact hok.S_lt b hb, fun b hb => by rw [h1]; exact hok.F_lt b hb, hok.SF, fun id o ho => ?_, fun id o b k k1 k2 => by rw [h1]; exact hok.own id o b k k1 k2, hok.inj⟩, rfl, rfl, rfl, rfl, fun b _ => by rw [h1]⟩
    obtain ⟨k1, k2⟩ := hok.obj id o ho
    exact ⟨k1, k2.mono hle2 fun b k _ => by rw [h1]⟩
  refine wp_region_quiet (C := CC y) hm hB (hcc _ rfl rfl rfl rfl) ?_
  refine h y a hok hH hn hsz he _ fun s' a' k1 k2 k3 k4 k5 k6 k7 w2 ⟨z, hz, hyz, hzok, hzH, _, hzn, _, _⟩ => ?_
  subst hz
  exact ⟨s', k1, k6.trans hdef, by rw [k5, k4], z, rfl, hle.trans hyz, hzok, by rw [hzH, hH, k2], by rw [hzn, hn, k3], k7.mono hyz⟩
end
end Go.Proofs.Ythhodpedkdapcaa.Al
