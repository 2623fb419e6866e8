/-
  The automaton of rising words, as a plain function on lists; no program in sight. No conditions but those that each lemma names.
-/
import Derived.Test.YtbfcjgfnlcbojaaPure
namespace Go.Hb

abbrev Tl := List (List UInt8)
/-- runs of one first byte, each with what stands behind it -/
def groups : Tl → List (UInt8 × Tl)
  | [] => []
  | [] :: ts => groups ts
  | (c :: t) :: ts => match groups ts with
    | [] => [(c, [t])]
    | (c', g) :: r => if c = c' then (c, t :: g) :: r else (c, [t]) :: (c', g) :: r
def isE (ts : Tl) : Bool := match ts with | [] :: _ => true | _ => false
def dropE (ts : Tl) : Tl := match ts with | [] :: r => r | r => r
structure VS where
  known : List Tl
  sts : List (Bool × List (UInt8 × Nat))
def visG (v : Tl → VS → Nat × VS) (p : List (UInt8 × Nat) × VS) (g : UInt8 × Tl) : List (UInt8 × Nat) × VS :=
  (p.1 ++ [(g.1, (v g.2 p.2).1)], (v g.2 p.2).2)
def VS.add (s : VS) (ts : Tl) : VS := ⟨s.known ++ [ts], s.sts ++ [(false, [])]⟩
/-- the number of the state of these rests; the states behind it -/
def vis : Nat → Tl → VS → Nat × VS
  | 0, _, s => (0, s)
  | f + 1, ts, s =>
    if ts ∈ s.known then (s.known.idxOf ts, s) else
      let r := (groups (dropE ts)).foldl (visG (vis f)) ([], s.add ts)
      (s.known.length, ⟨r.2.known, r.2.sts.set s.known.length (isE ts, r.1)⟩)

theorem groups_run {L : Tl} {c : UInt8} {r : Nat} (h0 : 0 < r) (hr : r ≤ L.length) (h1 : ∀ j, j < r → (L.getD j []).head? = some c) (h2 : r < L.length → ∃ c', (L.getD r []).head? = some c' ∧ c' ≠ c) :
    groups L = (c, (L.take r).map List.tail) :: groups (L.drop r) := by
  induction r generalizing L with
  | zero => omega
  | succ r ih =>
    cases L with
    | nil => simp at hr
    | cons x L =>
      have hx := h1 0 (by omega)
      simp only [List.getD_cons_zero] at hx
      cases x with
      | nil => simp at hx
      | cons c0 t =>
        simp only [List.head?_cons, Option.some.injEq] at hx
        subst hx
        simp only [List.length_cons] at hr h2
        by_cases hr0 : r = 0
        · subst hr0
          simp only [groups, List.take_succ_cons, List.take_zero, List.map_cons, List.map_nil, List.tail_cons, List.drop_succ_cons, List.drop_zero]
          cases L with
          | nil => simp [groups]
          | cons y L =>
            obtain ⟨c', hc', hne⟩ := h2 (by simp)
            simp only [Nat.zero_add, List.getD_cons_succ, List.getD_cons_zero] at hc'
            cases y with
            | nil => simp at hc'
            | cons c1 t1 =>
              simp only [List.head?_cons, Option.some.injEq] at hc'
              subst hc'
              have hne' : ¬ c0 = c1 := fun e => hne e.symm
              cases hg : groups L with
              | nil => simp [groups, hg, hne']
              | cons p l =>
                obtain ⟨c2, g⟩ := p
                simp only [groups, hg]
                by_cases h : c1 = c2
                · subst h; simp [hne']
                · simp [h, hne']
        · have := ih (L := L) (by omega) (by omega) (fun j hj => by have := h1 (j + 1) (by omega); simpa using this) (fun h => by have := h2 (by omega); simpa using this)
          simp only [groups, this, List.take_succ_cons, List.map_cons, List.tail_cons, List.drop_succ_cons, if_true]

/-- the words of a range, without their first d bytes -/
def rng (ws : Tl) (lo hi d : Nat) : Tl := ((ws.take hi).drop lo).map (List.drop d)
theorem rng_len {ws : Tl} {lo hi d : Nat} (h : hi ≤ ws.length) : (rng ws lo hi d).length = hi - lo := by
  simp only [rng, List.length_map, List.length_drop, List.length_take]; omega
theorem rng_get {ws : Tl} {lo hi d j : Nat} (h : hi ≤ ws.length) (hj : lo + j < hi) : (rng ws lo hi d)[j]? = some ((ws.getD (lo + j) []).drop d) := by
  simp only [rng, List.getElem?_map, List.getElem?_drop, List.getElem?_take]
  rw [if_pos hj, List.getD_eq_getElem?_getD, List.getElem?_eq_getElem (by omega)]; rfl
theorem rng_getD {ws : Tl} {lo hi d j : Nat} (h : hi ≤ ws.length) (hj : lo + j < hi) : (rng ws lo hi d).getD j [] = (ws.getD (lo + j) []).drop d := by
  rw [List.getD_eq_getElem?_getD, rng_get h hj]; rfl
theorem rng_take {ws : Tl} {lo k hi d : Nat} (h1 : lo ≤ k) (h2 : k ≤ hi) : (rng ws lo hi d).take (k - lo) = rng ws lo k d := by
  simp only [rng, ← List.map_take, List.take_drop, List.take_take]
  rw [show min (lo + (k - lo)) hi = k from by omega]
theorem rng_drop {ws : Tl} {lo k hi d : Nat} (h1 : lo ≤ k) : (rng ws lo hi d).drop (k - lo) = rng ws k hi d := by
  simp only [rng, ← List.map_drop, List.drop_drop]
  rw [show lo + (k - lo) = k from by omega]
theorem rng_tail {ws : Tl} {lo hi d : Nat} : (rng ws lo hi d).map List.tail = rng ws lo hi (d + 1) := by
  simp only [rng, List.map_map]
  apply List.map_congr_left
  intro x _
  simp [List.tail_drop]
theorem rng_nil {ws : Tl} {lo hi d : Nat} (h : hi ≤ lo) : rng ws lo hi d = [] := by
  simp only [rng]
  rw [List.drop_eq_nil_of_le (by simp; omega)]; rfl
end Go.Hb
