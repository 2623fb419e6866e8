/-
  Rising lists as sets. No program in sight. No conditions but those that each lemma names.
-/
import Derived.Test.YtkgdlnnmkpgfdaaVis
namespace Go.Hb
theorem up_nodup {l : Tl} (h : l.Pairwise (fun x y => sless x y = true)) : l.Nodup := h.imp fun {a b} hab he => by rw [he, sless_irr] at hab; cases hab
/-- rising lists with the same members are one -/
theorem up_ext : ∀ {l l' : Tl}, l.Pairwise (fun x y => sless x y = true) → l'.Pairwise (fun x y => sless x y = true) → (∀ x, x ∈ l ↔ x ∈ l') → l = l'
  | [], [], _, _, _ => rfl
  | [], y :: l', _, _, h => absurd ((h y).2 (by simp)) (by simp)
  | x :: l, [], _, _, h => absurd ((h x).1 (by simp)) (by simp)
  | x :: l, y :: l', h1, h2, h => by
    rw [List.pairwise_cons] at h1 h2
    have e : x = y := by
      rcases List.mem_cons.1 ((h x).1 (by simp)) with e | hx
      · exact e
      · rcases List.mem_cons.1 ((h y).2 (by simp)) with e | hy
        · exact e.symm
        · have h3 := h1.1 y hy
          have h4 := h2.1 x hx
          rw [sless_asymm h3] at h4; cases h4
    subst e
    rw [up_ext h1.2 h2.2 fun z => ?_]
    constructor
    · intro hz
      rcases List.mem_cons.1 ((h z).1 (by simp [hz])) with e | hz'
      · subst e; have := h1.1 z hz; rw [sless_irr] at this; cases this
      · exact hz'
    · intro hz
      rcases List.mem_cons.1 ((h z).2 (by simp [hz])) with e | hz'
      · subst e; have := h2.1 z hz; rw [sless_irr] at this; cases this
      · exact hz'
def insS (x : List UInt8) : Tl → Tl
  | [] => [x]
  | y :: l => if sless x y then x :: y :: l else if x = y then y :: l else y :: insS x l
/-- the texts of a list, rising, each once -/
def setS (l : Tl) : Tl := l.foldr insS []
theorem mem_insS {x y : List UInt8} : ∀ {l : Tl}, y ∈ insS x l ↔ y = x ∨ y ∈ l
  | [] => by simp [insS]
  | z :: l => by
    simp only [insS]
    split
    · simp
    · split
      · rename_i h; subst h; simp
      · simp only [List.mem_cons, mem_insS (l := l)]
        constructor
        · rintro (h | h | h)
          · exact .inr (.inl h)
          · exact .inl h
          · exact .inr (.inr h)
        · rintro (h | h | h)
          · exact .inr (.inl h)
          · exact .inl h
          · exact .inr (.inr h)
theorem insS_up {x : List UInt8} : ∀ {l : Tl}, l.Pairwise (fun x y => sless x y = true) → (insS x l).Pairwise (fun x y => sless x y = true)
  | [], _ => List.pairwise_singleton _ _
  | y :: l, h => by
    simp only [insS]
    have h' := List.pairwise_cons.1 h
    split
    · rename_i hx
      refine List.pairwise_cons.2 ⟨fun z hz => ?_, h⟩
      rcases List.mem_cons.1 hz with rfl | hz
      · exact hx
      · exact sless_trans hx (h'.1 z hz)
    · rename_i hx
      split
      · exact h
      · rename_i he
        refine List.pairwise_cons.2 ⟨fun z hz => ?_, insS_up h'.2⟩
        rcases mem_insS.1 hz with rfl | hz
        · rcases sless_total z y with h3 | h3 | h3
          · exact absurd h3 hx
          · exact absurd h3 he
          · exact h3
        · exact h'.1 z hz
theorem setS_up (l : Tl) : (setS l).Pairwise (fun x y => sless x y = true) := by
  induction l with
  | nil => exact List.Pairwise.nil
  | cons x l ih => exact insS_up ih
theorem mem_setS {x : List UInt8} {l : Tl} : x ∈ setS l ↔ x ∈ l := by
  induction l with
  | nil => rfl
  | cons y l ih =>
    show x ∈ insS y (setS l) ↔ _
    rw [mem_insS, ih, List.mem_cons]
theorem setS_eq {l m : Tl} (h : m.Pairwise (fun x y => sless x y = true)) (hm : ∀ x, x ∈ m ↔ x ∈ l) : m = setS l := up_ext h (setS_up l) fun x => (hm x).trans mem_setS.symm
theorem setS_self {l : Tl} (h : l.Pairwise (fun x y => sless x y = true)) : setS l = l := (setS_eq h fun _ => Iff.rfl).symm
theorem setS_len (l : Tl) : (setS l).length ≤ l.length := List.Nodup.length_le_of_subset (up_nodup (setS_up l)) fun _ hx => mem_setS.1 hx
theorem insS_vol (x : List UInt8) : ∀ (l : Tl), vol (insS x l) ≤ x.length + vol l
  | [] => by simp [insS, vol]
  | y :: l => by
    have := insS_vol x l
    simp only [insS]
    split
    · simp [vol]
    · split
      · simp only [vol, List.map_cons, List.sum_cons] at *; omega
      · simp only [vol, List.map_cons, List.sum_cons] at *; omega
theorem setS_vol (l : Tl) : vol (setS l) ≤ vol l := by
  induction l with
  | nil => exact Nat.le_refl _
  | cons x l ih =>
    have := insS_vol x (setS l)
    show vol (insS x (setS l)) ≤ _
    simp only [vol, List.map_cons, List.sum_cons] at *; omega
/-- one text more, above all -/
theorem up_push {l : Tl} {x : List UInt8} (h : l.Pairwise (fun x y => sless x y = true)) (hx : ∀ t ∈ l, sless t x = true) : (l ++ [x]).Pairwise (fun x y => sless x y = true) := by
  rw [List.pairwise_append]
  exact ⟨h, by simp, fun a ha b hb => by simp only [List.mem_singleton] at hb; subst hb; exact hx a ha⟩
theorem mem_take_succ {l : Tl} {i : Nat} (hi : i < l.length) {x : List UInt8} : x ∈ l.take (i + 1) ↔ x ∈ l.take i ∨ x = l.getD i [] := by
  rw [take_succ_getD l i [] hi]; simp
/-- what stands below a place is not the text that is looked for -/
theorem halve_mem {l : Tl} {w : List UInt8} {p : Nat} (h1 : ∀ i, i < p → sless (l.getD i []) w = true) (h2 : ∀ i, p ≤ i → i < l.length → sless (l.getD i []) w = false) (hu : l.Pairwise (fun x y => sless x y = true)) : w ∈ l ↔ p < l.length ∧ l.getD p [] = w := by
  constructor
  · intro hm
    obtain ⟨j, hj, he⟩ := List.mem_iff_getElem.1 hm
    have hg : l.getD j [] = w := by rw [getD_get [] hj]; exact he
    rcases Nat.lt_trichotomy j p with h | h | h
    · have := h1 j h; rw [hg, sless_irr] at this; cases this
    · subst h; exact ⟨hj, hg⟩
    · have h3 := pw_get hu h hj
      rw [hg, h2 p (Nat.le_refl _) (by omega)] at h3; cases h3
  · rintro ⟨h3, h4⟩
    rw [← h4, getD_get [] h3]; exact List.getElem_mem h3
/-! two rising lists made one -/
structure MG (la lb : Tl) (i j : Nat) (m : Tl) : Prop where
  up : m.Pairwise (fun x y => sless x y = true)
  mem : ∀ x, x ∈ m ↔ x ∈ la.take i ∨ x ∈ lb.take j
  ma : ∀ x ∈ m, i < la.length → sless x (la.getD i []) = true
  mb : ∀ x ∈ m, j < lb.length → sless x (lb.getD j []) = true
  len : m.length ≤ i + j
theorem MG.zero (la lb : Tl) : MG la lb 0 0 [] := ⟨List.Pairwise.nil, fun x => by simp, fun x h => by simp at h, fun x h => by simp at h, by simp⟩
theorem MG.a {la lb m : Tl} {i j : Nat} (h : MG la lb i j m) (hua : la.Pairwise (fun x y => sless x y = true)) (hi : i < la.length) (hb : j < lb.length → sless (la.getD i []) (lb.getD j []) = true) : MG la lb (i + 1) j (m ++ [la.getD i []]) := by
  refine ⟨up_push h.up (fun t ht => h.ma t ht hi), fun x => ?_, fun x hx hl => ?_, fun x hx hl => ?_, by have := h.len; simp; omega⟩
  · rw [List.mem_append, h.mem, mem_take_succ hi, List.mem_singleton]
    constructor
    · rintro ((h | h) | h)
      · exact .inl (.inl h)
      · exact .inr h
      · exact .inl (.inr h)
    · rintro ((h | h) | h)
      · exact .inl (.inl h)
      · exact .inr h
      · exact .inl (.inr h)
  · have h1 := pw_get hua (show i < i + 1 by omega) hl
    rcases List.mem_append.1 hx with hx | hx
    · exact sless_trans (h.ma x hx hi) h1
    · simp only [List.mem_singleton] at hx; subst hx; exact h1
  · rcases List.mem_append.1 hx with hx | hx
    · exact h.mb x hx hl
    · simp only [List.mem_singleton] at hx; subst hx; exact hb hl
theorem MG.b {la lb m : Tl} {i i2 j : Nat} (h : MG la lb i j m) (hua : la.Pairwise (fun x y => sless x y = true)) (hub : lb.Pairwise (fun x y => sless x y = true)) (hj : j < lb.length) (hna : i < la.length → sless (la.getD i []) (lb.getD j []) = false)
    (h2 : (i2 = i ∧ (i < la.length → la.getD i [] ≠ lb.getD j [])) ∨ (i2 = i + 1 ∧ i < la.length ∧ la.getD i [] = lb.getD j [])) : MG la lb i2 (j + 1) (m ++ [lb.getD j []]) := by
  refine ⟨up_push h.up (fun t ht => h.mb t ht hj), fun x => ?_, fun x hx hl => ?_, fun x hx hl => ?_, by have := h.len; simp; rcases h2 with h2 | h2 <;> omega⟩
  · rw [List.mem_append, h.mem, mem_take_succ hj, List.mem_singleton]
    rcases h2 with ⟨rfl, _⟩ | ⟨rfl, h3, h4⟩
    · exact or_assoc
    · rw [mem_take_succ h3, h4]
      constructor
      · rintro ((h | h) | h)
        · exact .inl (.inl h)
        · exact .inr (.inl h)
        · exact .inr (.inr h)
      · rintro ((h | h) | h | h)
        · exact .inl (.inl h)
        · exact .inr h
        · exact .inl (.inr h)
        · exact .inr h
  · rcases h2 with ⟨rfl, h3⟩ | ⟨rfl, h3, h4⟩
    · rcases List.mem_append.1 hx with hx | hx
      · exact h.ma x hx hl
      · simp only [List.mem_singleton] at hx; subst hx
        rcases sless_total (lb.getD j []) (la.getD i2 []) with h5 | h5 | h5
        · exact h5
        · exact absurd h5.symm (h3 hl)
        · rw [hna hl] at h5; cases h5
    · have h1 := pw_get hua (show i < i + 1 by omega) hl
      rcases List.mem_append.1 hx with hx | hx
      · exact sless_trans (h.ma x hx h3) h1
      · simp only [List.mem_singleton] at hx; subst hx; rw [← h4]; exact h1
  · have h1 := pw_get hub (show j < j + 1 by omega) hl
    rcases List.mem_append.1 hx with hx | hx
    · exact sless_trans (h.mb x hx hj) h1
    · simp only [List.mem_singleton] at hx; subst hx; exact h1
theorem MG.done {la lb m : Tl} {i j : Nat} (h : MG la lb i j m) (hi : la.length ≤ i) (hj : lb.length ≤ j) : m = setS (la ++ lb) :=
  setS_eq h.up fun x => by rw [h.mem, List.take_of_length_le hi, List.take_of_length_le hj, List.mem_append]
theorem vol_take {l : Tl} {i : Nat} (h : i < l.length) : vol (l.drop i) = (l.getD i []).length + vol (l.drop (i + 1)) := by
  rw [List.drop_eq_getElem_cons h, ← getD_get [] h]; simp [vol]
end Go.Hb
