/-
  Operations with an effect under a guard: a case for each answer.
-/
import Derived.Test.YthhodpedkdapcaaAl25
namespace Go.Proofs.Ythhodpedkdapcaa.Al
section
variable {P : Program} {ops : Array Oper} {rest : List Oper} {s : St} {K : St → Prop} {o : Oper}
theorem AOps.split (c : Bool) (h1 : c = true → AOps P ops rest s K) (h2 : c = false → AOps P ops rest s K) : AOps P ops rest s K := by
  cases c
  · exact h2 rfl
  · exact h1 rfl
/-- Not wanted: nothing happens. -/
theorem AOps.stepGF2 {d : Nat} {c : Bool} (hG : GuardC s.e ops o c) (hc : c = false) (hd : o.dst = some d)
    (hN : Nat.blt d s.N = true) (hr : AOps P ops rest { e := (d, .whn c (.r (.bool false))) :: s.e, h := s.h, n := s.n, N := s.N } K) : AOps P ops (o :: rest) s K := by
  intro c0 a w ⟨hdef, hsz, y, hyw, hle, hok, hH, hn, he⟩ Q hQ
  subst hyw
  have hN' : d < a.tmps.size := by rw [hsz]; exact lt_of_blt hN
  refine wpList_step fun K' hK' => ?_
  rw [hG.wanted he, if_neg (by rw [hc]; decide)]
  refine hK' _ _ ?_
  rw [hd]
  exact hr c0 (a.put (some d) undef) y.w ⟨hdef, by simpa [Act.put] using hsz, y, rfl, hle, hok, hH, hn, he.put hN' (.whn (fun h => by rw [hc] at h; cases h) (fun _ => rfl))⟩ Q hQ
theorem AOps.stepGF0 {c : Bool} (hG : GuardC s.e ops o c) (hc : c = false) (hd : o.dst = none) (hr : AOps P ops rest s K) : AOps P ops (o :: rest) s K := by
  intro c0 a w ⟨hdef, hsz, y, hyw, hle, hok, hH, hn, he⟩ Q hQ
  subst hyw
  refine wpList_step fun K' hK' => ?_
  rw [hG.wanted he, if_neg (by rw [hc]; decide)]
  refine hK' _ _ ?_
  rw [hd]
  exact hr c0 (a.put none undef) y.w ⟨hdef, hsz, y, rfl, hle, hok, hH, hn, he⟩ Q hQ
theorem AOps.stepGT0 {c : Bool} {v : AV} {h' : Heap} {n' : Nat} (hG : GuardC s.e ops o c) (hc : c = true) (hd : o.dst = none)
    (hs : OpSpec P true o s.e s.h s.n v h' n') (hr : AOps P ops rest { e := s.e, h := h', n := n', N := s.N } K) : AOps P ops (o :: rest) s K := by
  intro c0 a w ⟨hdef, hsz, y, hyw, hle, hok, hH, hn, he⟩ Q hQ
  subst hyw
  refine wpList_step fun K' hK' => ?_
  rw [hG.wanted he, if_pos hc]
  refine hs rfl y a hok hH hn he K' Q fun u z hyz hzok hzH hzn hzv => ?_
  refine hK' _ _ ?_
  rw [hd]
  exact hr c0 (a.put none u) z.w ⟨hdef, hsz, z, rfl, hle.trans hyz, hzok, hzH, hzn, he.mono hyz⟩ Q hQ
end
/-- What a guard laid, where it is known to say yes. -/
def UwE (c : Bool) : Env → Env → Prop
  | [], _ => True
  | (t, v) :: r, e => (get e t = v ∨ get e t = .whn c v) ∧ UwE c r e
theorem UwE.get {c : Bool} {e' e : Env} (h : UwE c e' e) (t : Nat) : Al.get e' t = .any ∨ Al.get e t = Al.get e' t ∨ Al.get e t = .whn c (Al.get e' t) := by
  induction e' with
  | nil => exact .inl rfl
  | cons p r ih =>
    obtain ⟨d, v⟩ := p
    rw [get_cons]
    split
    · rename_i hd; subst hd; exact .inr h.1
    · exact ih h.2
theorem Weak.unw {c : Bool} {e' e : Env} {h : Heap} {n N : Nat} (hc : c = true) (he : UwE c e' e) : Weak ⟨e, h, n, N⟩ ⟨e', h, n, N⟩ := by
  intro c0 a w ⟨hdef, hsz, y, hyw, hle, hok, hH, hyn, henv⟩
  refine ⟨hdef, hsz, y, hyw, hle, hok, hH, hyn, fun t => ?_⟩
  rcases he.get t with h1 | h1 | h1
  · rw [h1]; exact .any _
  · have := henv t; rwa [show Al.get (St.mk e h n N).e t = Al.get e' t from h1] at this
  · have h2 := henv t
    rw [show Al.get (St.mk e h n N).e t = .whn c (Al.get e' t) from h1] at h2
    cases h2 with
    | whn hw _ => exact hw hc
end Go.Proofs.Ythhodpedkdapcaa.Al
