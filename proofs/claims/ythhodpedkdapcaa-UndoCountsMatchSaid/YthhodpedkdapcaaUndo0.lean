/-
  Entries of a log, and what 'which entries count' is: plain Lean.
-/
import Derived.Test.YthhodpedkdapcaaAl14
namespace Go.Proofs.Ythhodpedkdapcaa.Al

structure Entry where
  site : Int
  number : Int
  chg : RV
  undoes : Int
  refused : Int
instance : Inhabited Entry := ⟨⟨0, 0, .any, 0, 0⟩⟩
def Entry.row (e : Entry) : List RV := [.int .i64 e.site, .int .i64 e.number, e.chg, .int .i64 e.undoes, .int .i64 e.refused]
def bRow (b : Bool) : List RV := [.bool b]

/-- The program's way: from behind. -/
def cOut (log : List Entry) (und : List Bool) (i : Nat) : Bool := !und[i]! && decide (log[i]!.refused = 0)
def cUnd (log : List Entry) (o : Bool) (und : List Bool) (i : Nat) : List Bool :=
  if o && decide (1 ≤ log[i]!.undoes) && decide (log[i]!.undoes ≤ i) then und.set (log[i]!.undoes - 1).toNat true else und
def countsLoop (log : List Entry) : Nat → List Bool × List Bool → List Bool × List Bool
  | 0, s => s
  | i + 1, (out, und) => countsLoop log i (out.set i (cOut log und i), cUnd log (cOut log und i) und i)
def counts (log : List Entry) : List Bool := (countsLoop log log.length (List.replicate log.length false, List.replicate log.length false)).1
theorem countsLoop_length (log : List Entry) (j : Nat) (s : List Bool × List Bool) : (countsLoop log j s).1.length = s.1.length := by
  induction j generalizing s with
  | zero => rfl
  | succ i ih => obtain ⟨a, b⟩ := s; rw [countsLoop, ih]; simp
theorem counts_length (log : List Entry) : (counts log).length = log.length := by rw [counts, countsLoop_length]; simp

def uok (log : List Entry) (i : Nat) : Bool := decide (1 ≤ log[i]!.undoes) && decide (log[i]!.undoes ≤ i)
theorem uok_lt {log : List Entry} {i : Nat} (h : uok log i = true) : (log[i]!.undoes - 1).toNat < i := by
  simp only [uok, Bool.and_eq_true, decide_eq_true_eq] at h; omega
def depthN (log : List Entry) (i : Nat) : Nat := if _h : uok log i = true then depthN log (log[i]!.undoes - 1).toNat + 1 else 0
  termination_by i
  decreasing_by exact uok_lt ‹_›
def levelN (log : List Entry) (i : Nat) : Nat := if _h : uok log i = true then if levelN log (log[i]!.undoes - 1).toNat = 1 then 2 else 1 else 0
  termination_by i
  decreasing_by exact uok_lt ‹_›
def lastLoop (log : List Entry) (C : List Bool) (site : Int) : Nat → Int
  | 0 => 0
  | i + 1 => if log[i]!.site = site ∧ C[i]! = true ∧ depthN log i = 0 then (i : Int) + 1 else lastLoop log C site i
def lastUnd (log : List Entry) (C : List Bool) (site : Int) : Nat → Int
  | 0 => 0
  | i + 1 => if log[i]!.site ≠ site ∨ log[i]!.refused ≠ 0 then lastUnd log C site i
    else if depthN log i % 2 = 1 then (if C[i]! = true then (i : Int) + 1 else lastUnd log C site i)
    else if depthN log i = 0 then 0 else lastUnd log C site i
/-- The reference's way. -/
def cIn (log : List Entry) (o : List Bool) (i k : Nat) : Bool := decide (log[i]!.refused = 0) && !((List.range' (i + 1) (k - (i + 1))).any fun q => decide (log[q]!.undoes = (i : Int) + 1) && o[q]!)
def countingLoop (log : List Entry) : Nat → List Bool → List Bool
  | 0, o => o
  | i + 1, o => countingLoop log i (o.set i (cIn log o i log.length))
def counting (log : List Entry) : List Bool := countingLoop log log.length (List.replicate log.length false)
def fwd (log : List Entry) (C : List Bool) (site : Int) : Nat → Int × Int
  | 0 => (0, 0)
  | i + 1 => if log[i]!.site ≠ site then fwd log C site i
    else if levelN log i = 0 ∧ log[i]!.refused = 0 then (if C[i]! = true then (i : Int) + 1 else (fwd log C site i).1, 0)
    else if levelN log i = 1 ∧ C[i]! = true then ((fwd log C site i).1, (i : Int) + 1) else fwd log C site i
theorem cIn_first (log : List Entry) (o : List Bool) (i : Nat) : cIn log o i (i + 1) = decide (log[i]!.refused = 0) := by simp [cIn]
theorem cIn_next (log : List Entry) (o : List Bool) {i k : Nat} (h : i + 1 ≤ k) : cIn log o i (k + 1) = (cIn log o i k && !(decide (log[k]!.undoes = (i : Int) + 1) && o[k]!)) := by
  unfold cIn
  rw [show k + 1 - (i + 1) = (k - (i + 1)) + 1 by omega, List.range'_1_concat, List.any_append, show i + 1 + (k - (i + 1)) = k by omega]
  simp only [List.any_cons, List.any_nil, Bool.or_false, Bool.not_or, Bool.and_assoc]
theorem cIn_hit {log : List Entry} {o : List Bool} {i k : Nat} (h : i + 1 ≤ k) (h1 : log[k]!.undoes = (i : Int) + 1) (h2 : o[k]! = true) : cIn log o i (k + 1) = false := by rw [cIn_next log o h, h1, h2]; simp
theorem cIn_miss {log : List Entry} {o : List Bool} {i k : Nat} (h : i + 1 ≤ k) (h1 : log[k]!.undoes = (i : Int) + 1 → o[k]! = false) : cIn log o i (k + 1) = cIn log o i k := by
  rw [cIn_next log o h]
  by_cases hu : log[k]!.undoes = (i : Int) + 1
  · rw [h1 hu]; simp
  · rw [decide_eq_false hu]; simp
theorem set_other {α : Type} [Inhabited α] {l : List α} {i k : Nat} {v : α} (h : i ≠ k) : (l.set i v)[k]! = l[k]! := by simp [h]
end Go.Proofs.Ythhodpedkdapcaa.Al
