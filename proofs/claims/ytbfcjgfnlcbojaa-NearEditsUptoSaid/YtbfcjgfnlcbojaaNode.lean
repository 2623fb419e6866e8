/-
  A register of states: plain laws. No program in sight. No conditions but those that each lemma names.
-/
import Derived.Test.YtbfcjgfnlcbojaaVis
namespace Go.Hb
/-- how a state's edges are written as a key -/
def kenc (l : List (UInt8 × Nat)) : List UInt8 := l.flatMap fun e => e.1 :: uintB e.2
theorem kenc_inj : ∀ {a b : List (UInt8 × Nat)}, kenc a = kenc b → a = b
  | [], [], _ => rfl
  | [], e :: b, h => by simp [kenc] at h
  | e :: a, [], h => by simp [kenc] at h
  | (c, n) :: a, (d, m) :: b, h => by
    simp only [kenc, List.flatMap_cons, List.cons_append, List.cons.injEq] at h
    obtain ⟨rfl, h⟩ := h
    obtain ⟨rfl, h2⟩ := uintB_inj h
    rw [kenc_inj (a := a) (b := b) h2]
theorem kenc_take {l : List (UInt8 × Nat)} {i : Nat} {e : UInt8 × Nat} (h : l[i]? = some e) : kenc (l.take (i + 1)) = kenc (l.take i) ++ [e.1] ++ uintB e.2 := by
  rw [List.take_add_one, h]; simp [kenc]
theorem kenc_len {l : List (UInt8 × Nat)} (h : ∀ e ∈ l, e.2 < 18446744073709551616) : (kenc l).length ≤ l.length * 11 := by
  induction l with
  | nil => simp [kenc]
  | cons e l ih =>
    have h1 := ih (fun x hx => h x (by simp [hx]))
    have h2 := uintB_len10 (h e (by simp))
    simp only [kenc, List.flatMap_cons, List.length_append, List.length_cons] at *; omega
abbrev Ent := Bool × List (UInt8 × Nat)
/-- the number of the frozen state that means the same; the register behind it -/
def frzS (ents : List Ent) (z : Ent) : Nat × List Ent := if z ∈ ents then (ents.idxOf z + 1, ents) else (ents.length + 1, ents ++ [z])

def dE : Ent := (false, [])
/-- the last state of the path is frozen -/
def clo (cs : List UInt8) (i : Nat) (s : List Ent × List Ent) : List Ent × List Ent :=
  ((frzS s.1 (s.2.getD i dE)).2, s.2.take (i - 1) ++ [((s.2.getD (i - 1) dE).1, (s.2.getD (i - 1) dE).2 ++ [(cs.getD (i - 1) 0, (frzS s.1 (s.2.getD i dE)).1)])])
def cutS (cs : List UInt8) (n : Nat) : Nat → List Ent × List Ent → List Ent × List Ent
  | 0, s => s
  | i + 1, s => if i + 1 ≤ n then s else cutS cs n i (clo cs (i + 1) s)
theorem cutS_done {cs : List UInt8} {n i : Nat} {s : List Ent × List Ent} (h : i ≤ n) : cutS cs n i s = s := by
  cases i with
  | zero => rfl
  | succ i => rw [cutS, if_pos h]
theorem cutS_step {cs : List UInt8} {n i : Nat} {s : List Ent × List Ent} (h : n < i) : cutS cs n i s = cutS cs n (i - 1) (clo cs i s) := by
  cases i with
  | zero => omega
  | succ i => rw [cutS, if_neg (by omega)]; rfl

/-- a word more: what is behind it -/
def addS (last wd : List UInt8) (s : List Ent × List Ent) : List Ent × List Ent :=
  let c := cutS last (common wd last) last.length s
  let l := c.2 ++ List.replicate (wd.length - common wd last) dE
  (c.1, l.take wd.length ++ [(true, (l.getD wd.length dE).2)])
end Go.Hb
