/-
  Regions that draw their order, whose operations only read, but for the last ones, which come in one order.
-/
import Derived.Test.YthhodpedkdapcaaAl18
import Derived.StillTail
namespace Go.Proofs.Ythhodpedkdapcaa.Al
section
variable {P : Program} {ops : Array Oper} {rest : List Oper} {s : St} {K : St → Prop} {o : Oper}

def AT (P : Program) (ops : Array Oper) (rest : List Oper) (s : St) (K : St → Prop) : Prop :=
  ∀ (y : Cx) (a : Act), y.ok → y.H = hget s.h → y.n = s.n → a.tmps.size = s.N → EnvOk y s.e a → ∀ Qa : Act → Prop,
    (∀ s' a', K s' → s'.h = s.h → s'.n = s.n → s'.N = s.N → a'.tmps.size = s.N → a'.defers = a.defers → EnvOk y s'.e a' → Qa a') → wpStill P ops y.w Qa rest a

theorem AT.nil (h : K s) : AT P ops [] s K := fun _ a _ _ _ hN he _ hQ => wpStill_nil (hQ s a h rfl rfl rfl hN rfl he)
theorem AT.step {d : Nat} {v : AV} (hg : o.guard = none) (hd : o.dst = some d) (hN : Nat.blt d s.N = true) (hs : OpQ P true o s.e s.h v)
    (hr : AT P ops rest { e := (d, v) :: s.e, h := s.h, n := s.n, N := s.N } K) : AT P ops (o :: rest) s K := by
  intro y a hok hH hn hsz he Qa hQ
  obtain ⟨u, hrun, hv⟩ := hs rfl y a hok hH he
  have hN' : d < a.tmps.size := by rw [hsz]; exact lt_of_blt hN
  refine wpStill_step fun K' hK' => ?_
  rw [if_pos (by simp [Region.wanted, hg])]
  unfold Oper.still
  rw [hrun y.w fun _ _ => rfl, Oper.stillUpon_value]
  refine hK' _ ?_
  rw [hd]
  exact hr y (a.put (some d) u) hok hH hn (by simpa [Act.put] using hsz) (he.put hN' hv) Qa fun s' a' k1 k2 k3 k4 k5 k6 k7 => hQ s' a' k1 k2 k3 k4 k5 k6 k7
theorem AT.stepG {d j dj : Nat} {want b : Bool} {v : AV} (hg : o.guard = some (j, want)) (hj : (ops[j]?).bind (·.dst) = some dj) (hb : evalOp s.e (.tmp dj) = .r (.bool b)) (hd : o.dst = some d)
    (hN : Nat.blt d s.N = true) (hs : OpQ P (b == want) o s.e s.h v)
    (hr : AT P ops rest { e := (d, .whn (b == want) v) :: s.e, h := s.h, n := s.n, N := s.N } K) : AT P ops (o :: rest) s K := by
  intro y a hok hH hn hsz he Qa hQ
  have hN' : d < a.tmps.size := by rw [hsz]; exact lt_of_blt hN
  have hbv : a.tmps.getD dj undef = .bool b := by
    have h0 := he dj
    rw [show get s.e dj = .r (.bool b) from hb] at h0
    exact rep_bool h0
  refine wpStill_step fun K' hK' => ?_
  rw [wanted_of hg hj hbv]
  split
  · rename_i hc
    obtain ⟨u, hrun, hv⟩ := hs hc y a hok hH he
    unfold Oper.still
    rw [hrun y.w fun _ _ => rfl, Oper.stillUpon_value]
    refine hK' _ ?_
    rw [hd]
    exact hr y (a.put (some d) u) hok hH hn (by simpa [Act.put] using hsz) (he.put hN' (.whn (fun _ => hv) (fun h => by rw [hc] at h; cases h))) Qa fun s' a' k1 k2 k3 k4 k5 k6 k7 => hQ s' a' k1 k2 k3 k4 k5 k6 k7
  · rename_i hc
    refine hK' _ ?_
    rw [hd]
    exact hr y (a.put (some d) undef) hok hH hn (by simpa [Act.put] using hsz) (he.put hN' (.whn (fun h => absurd h hc) (fun _ => rfl))) Qa fun s' a' k1 k2 k3 k4 k5 k6 k7 => hQ s' a' k1 k2 k3 k4 k5 k6 k7

theorem Cx.redraw {y : Cx} (hok : y.ok) : y.le { y with w := { y.w with drawn := y.w.drawn + 1 } } ∧ ({ y with w := { y.w with drawn := y.w.drawn + 1 } } : Cx).ok := by
  have hle : y.le { y with w := { y.w with drawn := y.w.drawn + 1 } } := ⟨Nat.le_refl _, rfl, rfl, rfl, fun _ _ => rfl, fun _ h => h, rfl, Nat.le_refl _, fun _ o h _ => ⟨o, h, rfl, rfl, rfl⟩⟩
  refine ⟨hle, hok.S_lt, hok.F_lt, hok.SF, fun id o ho => ?_, hok.own, hok.inj⟩
  obtain ⟨k1, k2⟩ := hok.obj id o ho
  exact ⟨k1, k2.mono hle fun _ _ _ => rfl⟩

/-- 'n': how many operations come ahead of those that are bound to come last. -/
theorem AW.regionT {id : Nat} {l l1 l2 : List Oper} {Q : Exit → St → Prop} (n : Nat) (hm : P.follows .mixedOrders = true) (hB : Region.lexTailB .any l.toArray n = true) (h1 : l.take n = l1) (h2 : l.drop n = l2)
    (h : AT P l.toArray l1 s (fun s' => AOps P l.toArray l2 s' (Q .normal))) : AW P (.region id l.toArray true) Q s := by
  intro c0 a w ⟨hdef, hsz, y, hyw, hle, hok, hH, hn, he⟩
  subst hyw
  subst h1; subst h2
  obtain ⟨r1, r2⟩ := Cx.redraw hok
  refine wp_region_still_tail n hm hB ?_
  refine h _ a r2 hH hn hsz (he.mono r1) _ fun s' a' k1 k2 k3 k4 k5 k6 k7 => ?_
  exact k1 c0 a' _ ⟨k6.trans hdef, by rw [k5, k4], _, rfl, hle.trans r1, r2, by rw [k2]; exact hH, by rw [k3]; exact hn, k7⟩ _ fun s'' a'' w'' k hs' => ⟨s'', k, hs'⟩
end
end Go.Proofs.Ythhodpedkdapcaa.Al
