/-
  Automata in their one shape: the visit, what it says, and the words of each state. No program in sight; no conditions but those that each lemma names.
-/
import Derived.Test.YtbfcjgfnlcbojaaLev
namespace Go.Hb

/-- a state: is it final, and its edges, wherever they lead -/
abbrev EnI : Type := Bool × List (UInt8 × Int)
def dI : EnI := (false, [])
abbrev stOf (a : List EnI) (n : Nat) : EnI := a.getD n dI
def Ris (l : List (UInt8 × Int)) : Prop := l.Pairwise fun x y => x.1.toNat < y.1.toNat
instance (l : List (UInt8 × Int)) : Decidable (Ris l) := by unfold Ris; infer_instance
/-- a state without edges is final, but where it is alone -/
def leafOK (a : List EnI) (p : EnI) : Bool := decide (p.2 ≠ []) || p.1 || decide (a.length = 1)
/-- the visit of a state: the next number and the marks behind it, if nothing is at fault -/
def vs (a : List EnI) : Nat → Nat × List Nat → Int → Option (Nat × List Nat)
  | 0, _, _ => none
  | f + 1, (nx, mk), n =>
    if n ≠ nx then (if 0 ≤ n ∧ n < nx ∧ mk.getD n.toNat 0 = 2 then some (nx, mk) else none)
    else if a.length ≤ nx then none
    else if Ris (stOf a nx).2 ∧ leafOK a (stOf a nx) = true then
      ((stOf a nx).2.foldlM (fun s e => vs a f s e.2) (nx + 1, mk.set nx 1)).map fun s => (s.1, s.2.set nx 2)
    else none
def shaped (a : List EnI) : Bool := decide (0 < a.length) && decide (a.length ≤ 1048576) && match vs a (a.length + 1) (0, List.replicate a.length 0) 0 with
  | some s => decide (s.1 = a.length)
  | none => false

section
variable {a : List EnI}
theorem vs_le : ∀ (f : Nat) {nx nx' : Nat} {mk mk' : List Nat} {n : Int}, vs a f (nx, mk) n = some (nx', mk') → nx ≤ nx' ∧ mk'.length = mk.length := by
  intro f
  induction f with
  | zero => intro nx nx' mk mk' n h; cases h
  | succ f ih =>
    intro nx nx' mk mk' n h
    have hf : ∀ (es : List (UInt8 × Int)) (nx nx' : Nat) (mk mk' : List Nat), es.foldlM (fun s e => vs a f s e.2) (nx, mk) = some (nx', mk') → nx ≤ nx' ∧ mk'.length = mk.length := by
      intro es
      induction es with
      | nil => intro nx nx' mk mk' h; simp only [List.foldlM_nil, Option.pure_def, Option.some.injEq, Prod.mk.injEq] at h; obtain ⟨rfl, rfl⟩ := h; exact ⟨Nat.le_refl _, rfl⟩
      | cons e es ihe =>
        intro nx nx' mk mk' h
        simp only [List.foldlM_cons, Option.bind_eq_bind, Option.bind_eq_some_iff] at h
        obtain ⟨⟨n1, m1⟩, h1, h2⟩ := h
        have g1 := ih h1
        have g2 := ihe _ _ _ _ h2
        exact ⟨by omega, by omega⟩
    rw [vs] at h
    split at h
    · split at h
      · cases h; exact ⟨Nat.le_refl _, rfl⟩
      · cases h
    · split at h
      · cases h
      · split at h
        · simp only [Option.map_eq_some_iff] at h
          obtain ⟨⟨n1, m1⟩, h1, h2⟩ := h
          simp only [Prod.mk.injEq] at h2
          obtain ⟨rfl, rfl⟩ := h2
          have := hf _ _ _ _ _ h1
          simp only [List.length_set] at this ⊢
          exact ⟨by omega, this.2⟩
        · cases h

/-! the order in which states are done -/
def okSt (a : List EnI) (l : List Nat) (i : Nat) : Prop := i < a.length ∧ Ris (stOf a i).2 ∧ leafOK a (stOf a i) = true ∧ ∀ e ∈ (stOf a i).2, 0 ≤ e.2 ∧ e.2.toNat ∈ l
inductive Ord (a : List EnI) : List Nat → Prop
  | nil : Ord a []
  | snoc {l i} : Ord a l → okSt a l i → i ∉ l → Ord a (l ++ [i])
/-- some state ahead leads to it -/
def Met (a : List EnI) (i : Nat) : Prop := ∃ j, j < i ∧ ∃ e ∈ (stOf a j).2, e.2 = (i : Int)
/-- what stands between two steps of the visit -/
structure VIs (a : List EnI) (nx : Nat) (mk : List Nat) (l : List Nat) : Prop where
  ord : Ord a l
  len : mk.length = a.length
  le : nx ≤ a.length
  done : ∀ i, mk.getD i 0 = 2 ↔ i ∈ l
  lt : ∀ i ∈ l, i < nx
  zero : ∀ i, nx ≤ i → mk.getD i 0 = 0
theorem getD_set (mk : List Nat) (i j x : Nat) (h : i < mk.length) : (mk.set i x).getD j 0 = if i = j then x else mk.getD j 0 := by
  simp only [List.getD_eq_getElem?_getD, List.getElem?_set]
  by_cases e : i = j
  · subst e; rw [if_pos rfl, if_pos h, if_pos rfl]; rfl
  · rw [if_neg e, if_neg e]
theorem vs_ok : ∀ (f : Nat) {nx nx' : Nat} {mk mk' : List Nat} {n : Int} {l : List Nat}, vs a f (nx, mk) n = some (nx', mk') → VIs a nx mk l →
    ∃ l', VIs a nx' mk' (l ++ l') ∧ (∀ i, i < nx → mk'.getD i 0 = mk.getD i 0) ∧ (∀ i, nx ≤ i → i < nx' → i ∈ l') ∧ 0 ≤ n ∧ n.toNat ∈ l ++ l' ∧ (∀ i, nx ≤ i → i < nx' → (i : Int) = n ∨ Met a i) := by
  intro f
  induction f with
  | zero => intro nx nx' mk mk' n l h; cases h
  | succ f ih =>
    intro nx nx' mk mk' n l h V
    rw [vs] at h
    split at h
    · rename_i hn
      split at h
      · rename_i hc
        cases h
        exact ⟨[], by rw [List.append_nil]; exact V, fun _ _ => rfl, fun i h1 h2 => by omega, hc.1, by rw [List.append_nil]; exact (V.done _).1 hc.2.2, fun i h1 h2 => by omega⟩
      · cases h
    · rename_i hn
      have hn : n = nx := Classical.not_not.1 hn
      split at h
      · cases h
      · rename_i hlt
        split at h
        · rename_i hc
          simp only [Option.map_eq_some_iff] at h
          obtain ⟨⟨n1, m1⟩, h1, h2⟩ := h
          simp only [Prod.mk.injEq] at h2
          obtain ⟨rfl, rfl⟩ := h2
          have hml : nx < mk.length := by rw [V.len]; omega
          have V1 : VIs a (nx + 1) (mk.set nx 1) l := by
            refine ⟨V.ord, by rw [List.length_set]; exact V.len, by omega, fun i => ?_, fun i hi => by have := V.lt i hi; omega, fun i hi => ?_⟩
            · rw [getD_set _ _ _ _ hml]
              by_cases e : nx = i
              · subst e; rw [if_pos rfl]
                exact ⟨fun h => by omega, fun h => by have := V.lt _ h; omega⟩
              · rw [if_neg e]; exact V.done i
            · rw [getD_set _ _ _ _ hml, if_neg (by omega)]; exact V.zero i (by omega)
          have hf : ∀ (es : List (UInt8 × Int)) (k k' : Nat) (m m' : List Nat) (l : List Nat), (∀ e ∈ es, e ∈ (stOf a nx).2) → nx + 1 ≤ k → es.foldlM (fun s e => vs a f s e.2) (k, m) = some (k', m') → VIs a k m l →
              ∃ l', VIs a k' m' (l ++ l') ∧ (∀ i, i < k → m'.getD i 0 = m.getD i 0) ∧ (∀ i, k ≤ i → i < k' → i ∈ l') ∧ (∀ e ∈ es, 0 ≤ e.2 ∧ e.2.toNat ∈ l ++ l') ∧ (∀ i, k ≤ i → i < k' → Met a i) ∧ k ≤ k' := by
            intro es
            induction es with
            | nil =>
              intro k k' m m' l _ _ h V
              simp only [List.foldlM_nil, Option.pure_def, Option.some.injEq, Prod.mk.injEq] at h
              obtain ⟨rfl, rfl⟩ := h
              exact ⟨[], by rw [List.append_nil]; exact V, fun _ _ => rfl, fun i h1 h2 => by omega, fun e he => by simp at he, fun i h1 h2 => by omega, Nat.le_refl _⟩
            | cons e es ihe =>
              intro k k' m m' l hes hk h V
              simp only [List.foldlM_cons, Option.bind_eq_bind, Option.bind_eq_some_iff] at h
              obtain ⟨⟨k1, m1⟩, g1, g2⟩ := h
              obtain ⟨l1, W1, W2, W3, W4, W5, W6⟩ := ih g1 V
              have hk1 := (vs_le f g1).1
              obtain ⟨l2, X1, X2, X3, X4, X5, X6⟩ := ihe _ _ _ _ _ (fun e he => hes e (by simp [he])) (by omega) g2 W1
              rw [List.append_assoc] at X1
              refine ⟨l1 ++ l2, X1, fun i hi => (X2 i (by omega)).trans (W2 i hi), fun i h1 h2 => ?_, fun e' he' => ?_, fun i h1 h2 => ?_, by omega⟩
              · rcases Nat.lt_or_ge i k1 with h | h
                · exact List.mem_append_left _ (W3 i h1 h)
                · exact List.mem_append_right _ (X3 i h h2)
              · rcases List.mem_cons.1 he' with rfl | he'
                · refine ⟨W4, ?_⟩
                  rw [← List.append_assoc]; exact List.mem_append_left _ W5
                · have := X4 e' he'
                  rw [List.append_assoc] at this; exact this
              · rcases Nat.lt_or_ge i k1 with h | h
                · rcases W6 i h1 h with h3 | h3
                  · exact ⟨nx, by omega, e, hes e (by simp), h3.symm⟩
                  · exact h3
                · exact X5 i h h2
          obtain ⟨l', X1, X2, X3, X4, X5, X6⟩ := hf _ _ _ _ _ _ (fun _ h => h) (Nat.le_refl _) h1 V1
          have hm1 : nx < m1.length := by rw [X1.len]; omega
          have hnl : nx ∉ l ++ l' := fun h => by
            have h3 := (X1.done nx).2 h
            rw [X2 nx (by omega), getD_set _ _ _ _ hml, if_pos rfl] at h3; omega
          refine ⟨l' ++ [nx], ?_, fun i hi => ?_, fun i h2 h3 => ?_, by omega, ?_, fun i h2 h3 => ?_⟩
          · rw [← List.append_assoc]
            refine ⟨.snoc X1.ord ⟨by omega, hc.1, hc.2, X4⟩ hnl, by rw [List.length_set]; exact X1.len, X1.le, fun i => ?_, fun i hi => ?_, fun i hi => ?_⟩
            · rw [getD_set _ _ _ _ hm1, List.mem_append, List.mem_singleton]
              by_cases e : nx = i
              · subst e; rw [if_pos rfl]; exact ⟨fun _ => .inr rfl, fun _ => rfl⟩
              · rw [if_neg e, X1.done i]; exact ⟨.inl, fun h => h.elim id (fun h => absurd h.symm e)⟩
            · rw [List.mem_append, List.mem_singleton] at hi
              rcases hi with hi | rfl
              · exact X1.lt i hi
              · omega
            · rw [getD_set _ _ _ _ hm1, if_neg (by omega)]; exact X1.zero i hi
          · rw [getD_set _ _ _ _ hm1, if_neg (by omega), X2 i (by omega), getD_set _ _ _ _ hml, if_neg (by omega)]
          · rw [List.mem_append, List.mem_singleton]
            rcases Nat.eq_or_lt_of_le h2 with h4 | h4
            · exact .inr h4.symm
            · exact .inl (X3 i (by omega) h3)
          · rw [← List.append_assoc, List.mem_append, List.mem_singleton]; right; omega
          · rcases Nat.eq_or_lt_of_le h2 with h4 | h4
            · left; omega
            · exact .inr (X5 i (by omega) h3)
        · cases h

/-- what an automaton in its one shape is: states can be put in order so that each leads to earlier ones alone; all but the first are met from a state ahead -/
structure Shp (a : List EnI) (l : List Nat) : Prop where
  pos : 0 < a.length
  le : a.length ≤ 1048576
  ord : Ord a l
  all : ∀ i, i < a.length → i ∈ l
  met : ∀ i, 0 < i → i < a.length → Met a i
theorem shaped_shp (h : shaped a = true) : ∃ l, Shp a l := by
  unfold shaped at h
  simp only [Bool.and_eq_true, decide_eq_true_eq] at h
  obtain ⟨⟨h1, h2⟩, h3⟩ := h
  split at h3
  · rename_i s hs
    obtain ⟨k, m⟩ := s
    have h3 := of_decide_eq_true h3
    simp only at h3
    subst h3
    have hz : ∀ i, (List.replicate a.length 0).getD i 0 = 0 := fun i => by
      rw [List.getD_eq_getElem?_getD, List.getElem?_replicate]; split <;> rfl
    obtain ⟨l, V, _, g1, _, _, g2⟩ := vs_ok (l := []) _ hs ⟨.nil, by simp, by omega, fun i => by rw [hz]; simp, fun i hi => by simp at hi, fun i _ => hz i⟩
    refine ⟨l, h1, h2, by simpa using V.ord, fun i hi => g1 i (by omega) hi, fun i h0 hi => (g2 i (by omega) hi).resolve_left (by omega)⟩
  · cases h3

/-! the words of a state -/
def lg (a : List EnI) : Nat → Nat → List (List UInt8)
  | 0, _ => []
  | f + 1, n => (if (stOf a n).1 = true then [[]] else []) ++ (stOf a n).2.flatMap fun e => (lg a f e.2.toNat).map (e.1 :: ·)
def wrds (a : List EnI) (n : Nat) : List (List UInt8) := lg a a.length n
theorem flatMap_congr' {α β : Type} {l : List α} {f g : α → List β} (h : ∀ x ∈ l, f x = g x) : l.flatMap f = l.flatMap g := by
  induction l with
  | nil => rfl
  | cons x l ih => rw [List.flatMap_cons, List.flatMap_cons, h x (by simp), ih fun y hy => h y (by simp [hy])]
theorem Ord.lt {l : List Nat} (h : Ord a l) : ∀ i ∈ l, i < a.length := by
  induction h with
  | nil => intro i hi; simp at hi
  | snoc _ ho _ ih => intro i hi; rcases List.mem_append.1 hi with h | h; exact ih i h; rw [List.mem_singleton] at h; subst h; exact ho.1
theorem Ord.st {l : List Nat} (h : Ord a l) : ∀ i ∈ l, Ris (stOf a i).2 ∧ leafOK a (stOf a i) = true ∧ ∀ e ∈ (stOf a i).2, 0 ≤ e.2 ∧ e.2.toNat ∈ l := by
  induction h with
  | nil => intro i hi; simp at hi
  | snoc _ ho _ ih =>
    intro i hi
    rcases List.mem_append.1 hi with h | h
    · obtain ⟨h1, h2, h3⟩ := ih i h; exact ⟨h1, h2, fun e he => ⟨(h3 e he).1, List.mem_append_left _ (h3 e he).2⟩⟩
    · rw [List.mem_singleton] at h; subst h; exact ⟨ho.2.1, ho.2.2.1, fun e he => ⟨(ho.2.2.2 e he).1, List.mem_append_left _ (ho.2.2.2 e he).2⟩⟩
theorem Ord.dom {l : List Nat} (h : Ord a l) : ∀ i ∈ l, ∀ e ∈ (stOf a i).2, l.idxOf e.2.toNat < l.idxOf i := by
  induction h with
  | nil => intro i hi; simp at hi
  | @snoc l i0 _ ho _ ih =>
    intro i hi e he
    by_cases h : i ∈ l
    · have h1 := ih i h e he
      have h2 : e.2.toNat ∈ l := List.idxOf_lt_length_iff.1 (Nat.lt_trans h1 (List.idxOf_lt_length_of_mem h))
      rw [List.idxOf_append, List.idxOf_append, if_pos h2, if_pos h]; exact h1
    · rcases List.mem_append.1 hi with h9 | h9
      · exact absurd h9 h
      · rw [List.mem_singleton] at h9; subst h9
        have h2 := (ho.2.2.2 e he).2
        rw [List.idxOf_append, List.idxOf_append, if_pos h2, if_neg h]
        have := List.idxOf_lt_length_of_mem h2
        omega
theorem lg_stable {l : List Nat} (h : Ord a l) : ∀ (r i f f' : Nat), i ∈ l → l.idxOf i ≤ r → r < f → r < f' → lg a f i = lg a f' i := by
  intro r
  induction r with
  | zero =>
    intro i f f' hi hr hf hf'
    obtain ⟨g, rfl⟩ : ∃ g, f = g + 1 := ⟨f - 1, by omega⟩
    obtain ⟨g', rfl⟩ : ∃ g', f' = g' + 1 := ⟨f' - 1, by omega⟩
    rw [lg, lg]
    congr 1
    refine flatMap_congr' fun e he => ?_
    have := h.dom i hi e he; omega
  | succ r ih =>
    intro i f f' hi hr hf hf'
    obtain ⟨g, rfl⟩ : ∃ g, f = g + 1 := ⟨f - 1, by omega⟩
    obtain ⟨g', rfl⟩ : ∃ g', f' = g' + 1 := ⟨f' - 1, by omega⟩
    rw [lg, lg]
    congr 1
    refine flatMap_congr' fun e he => ?_
    have h1 := h.dom i hi e he
    have h2 := ((h.st i hi).2.2 e he).2
    rw [ih _ g g' h2 (by omega) (by omega) (by omega)]
theorem Ord.nd {l : List Nat} (h : Ord a l) : l.Nodup := by
  induction h with
  | nil => exact List.nodup_nil
  | snoc _ _ hn ih => exact List.nodup_append.2 ⟨ih, by simp, fun x hx y hy e => by rw [List.mem_singleton] at hy; subst hy; subst e; exact hn hx⟩
theorem Ord.length {l : List Nat} (h : Ord a l) : l.length ≤ a.length := by
  have := List.Nodup.length_le_of_subset h.nd (l₂ := List.range a.length) fun i hi => List.mem_range.2 (h.lt i hi)
  simpa using this
variable {l : List Nat}
theorem Shp.rk (h : Shp a l) {i : Nat} (hi : i < a.length) : l.idxOf i < a.length := Nat.lt_of_lt_of_le (List.idxOf_lt_length_of_mem (h.all i hi)) h.ord.length
theorem Shp.edge (h : Shp a l) {i : Nat} (hi : i < a.length) {e : UInt8 × Int} (he : e ∈ (stOf a i).2) : 0 ≤ e.2 ∧ e.2.toNat < a.length ∧ l.idxOf e.2.toNat < l.idxOf i :=
  ⟨((h.ord.st i (h.all i hi)).2.2 e he).1, h.ord.lt _ ((h.ord.st i (h.all i hi)).2.2 e he).2, h.ord.dom i (h.all i hi) e he⟩
theorem Shp.ris (h : Shp a l) {i : Nat} (hi : i < a.length) : Ris (stOf a i).2 := (h.ord.st i (h.all i hi)).1
theorem Shp.leaf (h : Shp a l) {i : Nat} (hi : i < a.length) : leafOK a (stOf a i) = true := (h.ord.st i (h.all i hi)).2.1
theorem Ris.len {es : List (UInt8 × Int)} (h : Ris es) : es.length ≤ 256 := by
  have h1 : (es.map fun e => e.1.toNat).Pairwise (· < ·) := List.pairwise_map.2 h
  have h2 : (es.map fun e => e.1.toNat).Nodup := h1.imp fun h => Nat.ne_of_lt h
  have := List.Nodup.length_le_of_subset h2 (l₂ := List.range 256) fun i hi => by
    obtain ⟨e, _, rfl⟩ := List.mem_map.1 hi
    exact List.mem_range.2 e.1.toNat_lt
  simpa using this
/-- the words of a state: its own, then those behind its edges -/
theorem Shp.wrds (h : Shp a l) {i : Nat} (hi : i < a.length) : wrds a i = (if (stOf a i).1 = true then [[]] else []) ++ (stOf a i).2.flatMap fun e => (wrds a e.2.toNat).map (e.1 :: ·) := by
  have hr := h.rk hi
  unfold Hb.wrds
  rw [lg_stable h.ord (l.idxOf i) i a.length (a.length + 1) (h.all i hi) (Nat.le_refl _) hr (by omega), lg]
/-- no state has more words than the first -/
theorem Shp.most (h : Shp a l) : ∀ i, i < a.length → (Hb.wrds a i).length ≤ (Hb.wrds a 0).length := by
  intro i
  induction i using Nat.strongRecOn with
  | ind i ih =>
    intro hi
    rcases Nat.eq_zero_or_pos i with rfl | h0
    · exact Nat.le_refl _
    · obtain ⟨j, hj, e, he, hei⟩ := h.met i h0 hi
      refine Nat.le_trans ?_ (ih j hj (by omega))
      rw [h.wrds (show j < a.length by omega), List.length_append]
      have h1 : ((Hb.wrds a e.2.toNat).map (e.1 :: ·)).length ≤ ((stOf a j).2.flatMap fun e => (Hb.wrds a e.2.toNat).map (e.1 :: ·)).length := by
        obtain ⟨s, t, hst⟩ := List.append_of_mem he
        rw [hst, List.flatMap_append, List.flatMap_cons, List.length_append, List.length_append]; omega
      rw [List.length_map, hei, Int.toNat_natCast] at h1
      omega
/-! the visit's cases -/
theorem vs_ne {f nx : Nat} {mk : List Nat} {n : Int} (h : n ≠ nx) : vs a (f + 1) (nx, mk) n = if 0 ≤ n ∧ n < nx ∧ mk.getD n.toNat 0 = 2 then some (nx, mk) else none := by rw [vs, if_pos h]
theorem vs_out {f nx : Nat} {mk : List Nat} {n : Int} (h : n = nx) (h2 : a.length ≤ nx) : vs a (f + 1) (nx, mk) n = none := by rw [vs, if_neg (fun e => e h), if_pos h2]
theorem vs_bad {f nx : Nat} {mk : List Nat} {n : Int} (h : n = nx) (h2 : nx < a.length) (h3 : ¬ (Ris (stOf a nx).2 ∧ leafOK a (stOf a nx) = true)) : vs a (f + 1) (nx, mk) n = none := by
  rw [vs, if_neg (fun e => e h), if_neg (by omega), if_neg h3]
theorem vs_in {f nx : Nat} {mk : List Nat} {n : Int} (h : n = nx) (h2 : nx < a.length) (h3 : Ris (stOf a nx).2) (h4 : leafOK a (stOf a nx) = true) :
    vs a (f + 1) (nx, mk) n = ((stOf a nx).2.foldlM (fun s e => vs a f s e.2) (nx + 1, mk.set nx 1)).map fun s => (s.1, s.2.set nx 2) := by
  rw [vs, if_neg (fun e => e h), if_neg (by omega), if_pos ⟨h3, h4⟩]
theorem vs_ub : ∀ (f : Nat) {nx nx' : Nat} {mk mk' : List Nat} {n : Int}, vs a f (nx, mk) n = some (nx', mk') → nx ≤ a.length → nx' ≤ a.length := by
  intro f
  induction f with
  | zero => intro nx nx' mk mk' n h; cases h
  | succ f ih =>
    intro nx nx' mk mk' n h hle
    have hf : ∀ (es : List (UInt8 × Int)) (nx nx' : Nat) (mk mk' : List Nat), es.foldlM (fun s e => vs a f s e.2) (nx, mk) = some (nx', mk') → nx ≤ a.length → nx' ≤ a.length := by
      intro es
      induction es with
      | nil => intro nx nx' mk mk' h; simp only [List.foldlM_nil, Option.pure_def, Option.some.injEq, Prod.mk.injEq] at h; obtain ⟨rfl, rfl⟩ := h; exact id
      | cons e es ihe =>
        intro nx nx' mk mk' h hle
        simp only [List.foldlM_cons, Option.bind_eq_bind, Option.bind_eq_some_iff] at h
        obtain ⟨⟨n1, m1⟩, h1, h2⟩ := h
        exact ihe _ _ _ _ h2 (ih h1 hle)
    rw [vs] at h
    split at h
    · split at h
      · cases h; exact hle
      · cases h
    · split at h
      · cases h
      · split at h
        · simp only [Option.map_eq_some_iff] at h
          obtain ⟨⟨n1, m1⟩, h1, h2⟩ := h
          simp only [Prod.mk.injEq] at h2
          obtain ⟨rfl, rfl⟩ := h2
          exact hf _ _ _ _ _ h1 (by omega)
        · cases h
/-- the edges up to a place -/
def vse (a : List EnI) (f nx : Nat) (mk : List Nat) (es : List (UInt8 × Int)) : Option (Nat × List Nat) := es.foldlM (fun s e => vs a f s e.2) (nx, mk)
theorem vse_nil (f nx : Nat) (mk : List Nat) : vse a f nx mk [] = some (nx, mk) := rfl
theorem vse_snoc {f nx : Nat} {mk : List Nat} {es : List (UInt8 × Int)} {e : UInt8 × Int} {s : Nat × List Nat} (h : vse a f nx mk es = some s) : vse a f nx mk (es ++ [e]) = vs a f s e.2 := by
  unfold vse at *
  rw [List.foldlM_append, h]
  simp
theorem vse_none {f nx : Nat} {mk : List Nat} {es es' : List (UInt8 × Int)} (h : vse a f nx mk es = none) : vse a f nx mk (es ++ es') = none := by
  unfold vse at *
  rw [List.foldlM_append, h]; rfl
theorem vse_le {f nx : Nat} {mk : List Nat} {es : List (UInt8 × Int)} {s : Nat × List Nat} (h : vse a f nx mk es = some s) (hle : nx ≤ a.length) : nx ≤ s.1 ∧ s.2.length = mk.length ∧ s.1 ≤ a.length := by
  unfold vse at h
  induction es generalizing nx mk with
  | nil => simp only [List.foldlM_nil, Option.pure_def, Option.some.injEq] at h; subst h; exact ⟨Nat.le_refl _, rfl, hle⟩
  | cons e es ih =>
    simp only [List.foldlM_cons, Option.bind_eq_bind, Option.bind_eq_some_iff] at h
    obtain ⟨⟨n1, m1⟩, h1, h2⟩ := h
    have g1 := vs_le f h1
    have g2 := ih h2 (vs_ub f h1 hle)
    exact ⟨by omega, by omega, g2.2.2⟩
theorem ris_take_succ {es : List (UInt8 × Int)} {k : Nat} {e : UInt8 × Int} (h : Ris (es.take k)) (he : es[k]? = some e) (hp : ∀ p, 0 < k → es[k - 1]? = some p → p.1.toNat < e.1.toNat) : Ris (es.take (k + 1)) := by
  obtain ⟨hk, rfl⟩ := List.getElem?_eq_some_iff.1 he
  rw [List.take_succ_eq_append_getElem hk]
  unfold Ris at *
  refine List.pairwise_append.2 ⟨h, by simp, fun x hx y hy => ?_⟩
  rw [List.mem_singleton] at hy; subst hy
  obtain ⟨j, hj, rfl⟩ := List.mem_iff_getElem.1 hx
  simp only [List.length_take] at hj
  have h1 := hp es[k - 1] (by omega) (List.getElem?_eq_getElem (by omega))
  rcases Nat.lt_or_ge j (k - 1) with h2 | h2
  · have h3 := List.pairwise_iff_getElem.1 h j (k - 1) (by rw [List.length_take]; omega) (by rw [List.length_take]; omega) h2
    rw [List.getElem_take, List.getElem_take] at h3
    rw [List.getElem_take]; omega
  · have : j = k - 1 := by omega
    subst this
    rw [List.getElem_take]; exact h1
theorem not_ris {es : List (UInt8 × Int)} {k : Nat} {e p : UInt8 × Int} (h0 : 0 < k) (he : es[k]? = some e) (hp : es[k - 1]? = some p) (h : e.1.toNat ≤ p.1.toNat) : ¬ Ris es := fun hr => by
  obtain ⟨hk, rfl⟩ := List.getElem?_eq_some_iff.1 he
  obtain ⟨hk2, rfl⟩ := List.getElem?_eq_some_iff.1 hp
  have := List.pairwise_iff_getElem.1 hr (k - 1) k hk2 hk (by omega)
  omega
theorem vs_end {f nx : Nat} {mk : List Nat} {s : Nat × List Nat} (h2 : nx < a.length) (hr : Ris (stOf a nx).2) (hv : vse a f (nx + 1) (mk.set nx 1) (stOf a nx).2 = some s) : vs a (f + 1) (nx, mk) (nx : Int) = if leafOK a (stOf a nx) = true then some (s.1, s.2.set nx 2) else none := by
  by_cases h : leafOK a (stOf a nx) = true
  · rw [vs_in rfl h2 hr h, if_pos h]
    unfold vse at hv
    rw [hv]; rfl
  · rw [vs_bad rfl h2 (fun e => h e.2), if_neg h]
theorem vs_fail {f nx k : Nat} {mk : List Nat} (h2 : nx < a.length) (h : vse a f (nx + 1) (mk.set nx 1) ((stOf a nx).2.take k) = none) : vs a (f + 1) (nx, mk) (nx : Int) = none := by
  by_cases h3 : Ris (stOf a nx).2 ∧ leafOK a (stOf a nx) = true
  · rw [vs_in rfl h2 h3.1 h3.2]
    have := vse_none (es' := (stOf a nx).2.drop k) h
    rw [List.take_append_drop] at this
    unfold vse at this
    rw [this]; rfl
  · exact vs_bad rfl h2 h3
theorem vs_nris {f nx : Nat} {mk : List Nat} (h2 : nx < a.length) (h : ¬ Ris (stOf a nx).2) : vs a (f + 1) (nx, mk) (nx : Int) = none := vs_bad rfl h2 (fun e => h e.1)
theorem vs_nleaf {f nx : Nat} {mk : List Nat} (h2 : nx < a.length) (h : leafOK a (stOf a nx) = false) : vs a (f + 1) (nx, mk) (nx : Int) = none := vs_bad rfl h2 (fun e => by rw [h] at e; exact Bool.noConfusion e.2)
theorem vse_step {f nx k : Nat} {mk : List Nat} {es : List (UInt8 × Int)} {e : UInt8 × Int} {s : Nat × List Nat} (h : vse a f nx mk (es.take k) = some s) (he : es[k]? = some e) : vse a f nx mk (es.take (k + 1)) = vs a f s e.2 := by
  obtain ⟨hk, rfl⟩ := List.getElem?_eq_some_iff.1 he
  rw [List.take_succ_eq_append_getElem hk]
  exact vse_snoc h
theorem leaf_n {q : EnI} (h : 0 < q.2.length) : leafOK a q = true := by
  unfold leafOK; rw [decide_eq_true (by rintro e; rw [e] at h; simp at h)]; rfl
theorem leaf_f {q : EnI} (h : q.1 = true) : leafOK a q = true := by
  unfold leafOK; rw [h, Bool.or_true, Bool.true_or]
theorem leaf_e {q : EnI} (h : ¬ 0 < q.2.length) (h2 : q.1 = false) : leafOK a q = decide (a.length = 1) := by
  unfold leafOK; rw [h2, decide_eq_false (fun e => e (List.eq_nil_of_length_eq_zero (by omega)))]; rfl
theorem getD_set_ne (mk : List Nat) {i j : Nat} (x : Nat) (h : i ≠ j) : (mk.set i x).getD j 0 = mk.getD j 0 := by
  simp only [List.getD_eq_getElem?_getD, List.getElem?_set, if_neg h]
theorem vs_zero : ∀ (f : Nat) {nx nx' : Nat} {mk mk' : List Nat} {n : Int}, vs a f (nx, mk) n = some (nx', mk') → (∀ i, nx ≤ i → mk.getD i 0 = 0) → ∀ i, nx' ≤ i → mk'.getD i 0 = 0 := by
  intro f
  induction f with
  | zero => intro nx nx' mk mk' n h; cases h
  | succ f ih =>
    intro nx nx' mk mk' n h hz
    have hf : ∀ (es : List (UInt8 × Int)) (nx nx' : Nat) (mk mk' : List Nat), es.foldlM (fun s e => vs a f s e.2) (nx, mk) = some (nx', mk') → (∀ i, nx ≤ i → mk.getD i 0 = 0) → nx ≤ nx' ∧ ∀ i, nx' ≤ i → mk'.getD i 0 = 0 := by
      intro es
      induction es with
      | nil => intro nx nx' mk mk' h; simp only [List.foldlM_nil, Option.pure_def, Option.some.injEq, Prod.mk.injEq] at h; obtain ⟨rfl, rfl⟩ := h; exact fun h => ⟨Nat.le_refl _, h⟩
      | cons e es ihe =>
        intro nx nx' mk mk' h hz
        simp only [List.foldlM_cons, Option.bind_eq_bind, Option.bind_eq_some_iff] at h
        obtain ⟨⟨n1, m1⟩, h1, h2⟩ := h
        have g := ihe _ _ _ _ h2 (ih h1 hz)
        exact ⟨Nat.le_trans (vs_le f h1).1 g.1, g.2⟩
    rw [vs] at h
    split at h
    · split at h
      · cases h; exact hz
      · cases h
    · split at h
      · cases h
      · split at h
        · simp only [Option.map_eq_some_iff] at h
          obtain ⟨⟨n1, m1⟩, h1, h2⟩ := h
          simp only [Prod.mk.injEq] at h2
          obtain ⟨rfl, rfl⟩ := h2
          obtain ⟨g1, g2⟩ := hf _ _ _ _ _ h1 (fun i hi => by rw [getD_set_ne _ _ (by omega)]; exact hz i (by omega))
          exact fun i hi => by rw [getD_set_ne _ _ (by omega)]; exact g2 i hi
        · cases h
theorem vse_zero {f nx : Nat} {mk : List Nat} {es : List (UInt8 × Int)} {s : Nat × List Nat} (h : vse a f nx mk es = some s) (hz : ∀ i, nx ≤ i → mk.getD i 0 = 0) : ∀ i, s.1 ≤ i → s.2.getD i 0 = 0 := by
  unfold vse at h
  induction es generalizing nx mk with
  | nil => simp only [List.foldlM_nil, Option.pure_def, Option.some.injEq] at h; subst h; exact hz
  | cons e es ih =>
    simp only [List.foldlM_cons, Option.bind_eq_bind, Option.bind_eq_some_iff] at h
    obtain ⟨⟨n1, m1⟩, h1, h2⟩ := h
    exact ih h2 (vs_zero f h1 hz)
theorem shaped_no (h : ¬ (0 < a.length ∧ a.length ≤ 1048576)) : shaped a = false := by
  unfold shaped
  by_cases h1 : 0 < a.length
  · rw [decide_eq_false (p := a.length ≤ 1048576) (fun e => h ⟨h1, e⟩), Bool.and_false, Bool.false_and]
  · rw [decide_eq_false h1, Bool.false_and, Bool.false_and]
theorem shaped_none (h : vs a (a.length + 1) (0, List.replicate a.length 0) 0 = none) : shaped a = false := by
  unfold shaped; rw [h, Bool.and_false]
theorem shaped_some {s : Nat × List Nat} (h1 : 0 < a.length) (h2 : a.length ≤ 1048576) (h : vs a (a.length + 1) (0, List.replicate a.length 0) 0 = some s) : shaped a = decide (s.1 = a.length) := by
  unfold shaped; rw [h, decide_eq_true h1, decide_eq_true h2]; rfl
/-! how many words -/
def cnt (a : List EnI) (i : Nat) : Nat := min (wrds a i).length 1099511627777
def fin1 (q : EnI) : Nat := if q.1 = true then 1 else 0
theorem sat_sum (M : Nat) {es : List (UInt8 × Int)} (f g : UInt8 × Int → Nat) (h : ∀ e ∈ es, f e = min (g e) M) (x : Nat) : min (x + (es.map f).sum) M = min (x + (es.map g).sum) M := by
  induction es generalizing x with
  | nil => rfl
  | cons e es ih =>
    simp only [List.map_cons, List.sum_cons]
    have h1 := ih (fun e he => h e (by simp [he])) x
    have h2 := h e (by simp)
    omega
theorem len_flat (es : List (UInt8 × Int)) (f : UInt8 × Int → List (List UInt8)) : (es.flatMap f).length = (es.map fun e => (f e).length).sum := by
  induction es with
  | nil => rfl
  | cons e es ih => simp [ih]
theorem Shp.cnt (h : Shp a l) {i : Nat} (hi : i < a.length) : cnt a i = min (fin1 (stOf a i) + ((stOf a i).2.map fun e => Hb.cnt a e.2.toNat).sum) 1099511627777 := by
  rw [sat_sum 1099511627777 (fun e => Hb.cnt a e.2.toNat) (fun e => (Hb.wrds a e.2.toNat).length) (fun e _ => rfl)]
  unfold Hb.cnt
  rw [h.wrds hi, List.length_append, len_flat]
  simp only [List.length_map]
  congr 2
  unfold fin1; split <;> rfl
theorem cnt_le (a : List EnI) (i : Nat) : cnt a i ≤ 1099511627777 := Nat.min_le_right _ _
def sumC (a : List EnI) (es : List (UInt8 × Int)) : Nat := (es.map fun e => cnt a e.2.toNat).sum
theorem sumC_le (a : List EnI) (es : List (UInt8 × Int)) : sumC a es ≤ es.length * 1099511627777 := by
  unfold sumC
  induction es with
  | nil => simp
  | cons e es ih =>
    have := cnt_le a e.2.toNat
    simp only [List.map_cons, List.sum_cons, List.length_cons]; omega
theorem sumC_step {es : List (UInt8 × Int)} {k : Nat} {e : UInt8 × Int} (he : es[k]? = some e) : sumC a (es.take (k + 1)) = sumC a (es.take k) + cnt a e.2.toNat := by
  obtain ⟨hk, rfl⟩ := List.getElem?_eq_some_iff.1 he
  rw [List.take_succ_eq_append_getElem hk]
  unfold sumC
  rw [List.map_append, List.sum_append]
  simp only [List.map_cons, List.map_nil, List.sum_cons, List.sum_nil, Nat.add_zero]
end
end Go.Hb
