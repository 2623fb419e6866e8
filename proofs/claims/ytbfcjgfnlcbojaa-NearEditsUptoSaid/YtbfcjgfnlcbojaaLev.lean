/-
  Distances of texts: the table of all beginnings, alignments, and the laws of a measure. No program in sight; no conditions but those that each lemma names.
-/
import Derived.Test.YtbfcjgfnlcbojaaPure
namespace Go.Hb

/-- the numbers of f below n, in a row -/
def tab {α : Type} (n : Nat) (f : Nat → α) : List α := (List.range n).map f
theorem tab_len {α : Type} (n : Nat) (f : Nat → α) : (tab n f).length = n := by simp [tab]
theorem tab_get {α : Type} {n i : Nat} (f : Nat → α) (h : i < n) : (tab n f)[i]? = some (f i) := by simp [tab, h]
theorem tab_ext {α : Type} {n : Nat} {f g : Nat → α} (h : ∀ i, i < n → f i = g i) : tab n f = tab n g :=
  List.map_congr_left fun i hi => h i (List.mem_range.1 hi)
theorem tab_set {α : Type} {n i : Nat} {f g : Nat → α} {x : α} (h1 : g i = x) (h2 : ∀ j, j < n → j ≠ i → g j = f j) : (tab n f).set i x = tab n g := by
  refine List.ext_getElem? fun j => ?_
  rw [List.getElem?_set, tab_len]
  by_cases hj : j < n
  · rw [tab_get g hj, tab_get f hj]
    by_cases h : i = j
    · subst h; rw [if_pos rfl, if_pos hj, h1]
    · rw [if_neg h, h2 j hj (fun e => h e.symm)]
  · rw [List.getElem?_eq_none (l := tab n g) (by rw [tab_len]; omega), List.getElem?_eq_none (l := tab n f) (by rw [tab_len]; omega)]
    split
    · split
      · omega
      · rfl
    · rfl
theorem tab_rep {α : Type} (n : Nat) (x : α) : List.replicate n x = tab n (fun _ => x) := by simp [tab, List.map_const']
theorem tab_map {α β : Type} (n : Nat) (f : Nat → α) (g : α → β) : (tab n f).map g = tab n (fun i => g (f i)) := by simp [tab]
theorem tab_succ {α : Type} (n : Nat) (f : Nat → α) : tab (n + 1) f = tab n f ++ [f n] := by simp [tab, List.range_succ]

/-- does a byte change -/
def ch1 (x y : UInt8) : Nat := if x = y then 0 else 1
theorem ch1_le (x y : UInt8) : ch1 x y ≤ 1 := by unfold ch1; split <;> omega
theorem ch1_comm (x y : UInt8) : ch1 x y = ch1 y x := by
  unfold ch1; by_cases h : x = y
  · subst h; rfl
  · rw [if_neg h, if_neg (fun e => h e.symm)]
theorem ch1_tri (x y z : UInt8) : ch1 x z ≤ ch1 x y + ch1 y z := by
  unfold ch1
  by_cases h : x = y
  · subst h; simp
  · rw [if_neg h]; split <;> omega
theorem ch1_self (x : UInt8) : ch1 x x = 0 := if_pos rfl
/-- of the first i bytes of a to the first k of b -/
def dd (a b : List UInt8) : Nat → Nat → Nat
  | 0, k => k
  | i + 1, 0 => i + 1
  | i + 1, k + 1 => min (min (dd a b i k + ch1 (a.getD i 0) (b.getD k 0)) (dd a b (i + 1) k + 1)) (dd a b i (k + 1) + 1)
theorem dd_0 (a b : List UInt8) (k : Nat) : dd a b 0 k = k := by rw [dd]
theorem dd_i0 (a b : List UInt8) (i : Nat) : dd a b i 0 = i := by cases i <;> rw [dd]
theorem dd_s (a b : List UInt8) (i k : Nat) : dd a b (i + 1) (k + 1) = min (min (dd a b i k + ch1 (a.getD i 0) (b.getD k 0)) (dd a b (i + 1) k + 1)) (dd a b i (k + 1) + 1) := by rw [dd]
theorem dd_le (a b : List UInt8) : ∀ i k, dd a b i k ≤ max i k := by
  intro i
  induction i with
  | zero => intro k; rw [dd_0]; omega
  | succ i ih =>
    intro k
    cases k with
    | zero => rw [dd_i0]; omega
    | succ k =>
      have h1 := ih k
      have h2 := ch1_le (a.getD i 0) (b.getD k 0)
      rw [dd_s]; omega
theorem dd_snoc (a b : List UInt8) (x : UInt8) : ∀ i k, k ≤ b.length → dd a (b ++ [x]) i k = dd a b i k := by
  intro i
  induction i with
  | zero => intro k _; rw [dd_0, dd_0]
  | succ i ih =>
    intro k
    induction k with
    | zero => intro _; rw [dd_i0, dd_i0]
    | succ k ihk =>
      intro hk
      have he : (b ++ [x]).getD k 0 = b.getD k 0 := by
        rw [List.getD_eq_getElem?_getD, List.getD_eq_getElem?_getD, List.getElem?_append_left (by omega)]
      rw [dd_s, dd_s, ih k (by omega), ih (k + 1) hk, ihk (by omega), he]
/-- the row of a text t: of the first bytes of w to it -/
def rowOf (w t : List UInt8) : List Nat := tab (w.length + 1) (fun i => dd w t i t.length)
/-- the least of a row never falls on the way on -/
theorem row_min {w t : List UInt8} {x : UInt8} {m : Nat} (h : ∀ i, i ≤ w.length → m ≤ dd w t i t.length) : ∀ i, i ≤ w.length → m ≤ dd w (t ++ [x]) i (t ++ [x]).length := by
  have hl : (t ++ [x]).length = t.length + 1 := by simp
  rw [hl]
  intro i
  induction i with
  | zero =>
    intro hi
    have := h 0 hi
    rw [dd_0] at *; omega
  | succ i ih =>
    intro hi
    have h1 := h i (by omega)
    have h2 := h (i + 1) hi
    have h3 := ih (by omega)
    rw [dd_s, dd_snoc _ _ _ _ _ (Nat.le_refl _), dd_snoc _ _ _ _ _ (Nat.le_refl _)]
    omega
theorem row_min_app {w t : List UInt8} {m : Nat} (h : ∀ i, i ≤ w.length → m ≤ dd w t i t.length) (u : List UInt8) : ∀ i, i ≤ w.length → m ≤ dd w (t ++ u) i (t ++ u).length := by
  induction u generalizing t with
  | nil => rw [List.append_nil]; exact h
  | cons x u ih =>
    have := ih (row_min (x := x) h)
    rw [List.append_assoc] at this; exact this
/-- the distance -/
def dist (a b : List UInt8) : Nat := dd a b a.length b.length

/-! alignments -/
inductive Al : List UInt8 → List UInt8 → Nat → Prop
  | nil : Al [] [] 0
  | ins {s t n} (y : UInt8) : Al s t n → Al s (y :: t) (n + 1)
  | del {s t n} (x : UInt8) : Al s t n → Al (x :: s) t (n + 1)
  | sub {s t n} (x y : UInt8) : Al s t n → Al (x :: s) (y :: t) (n + ch1 x y)
def dl : List UInt8 → List UInt8 → Nat
  | [], t => t.length
  | x :: s, [] => s.length + 1
  | x :: s, y :: t => min (min (dl s t + ch1 x y) (dl (x :: s) t + 1)) (dl s (y :: t) + 1)
theorem dl_nl (t : List UInt8) : dl [] t = t.length := by rw [dl]
theorem dl_nr (s : List UInt8) : dl s [] = s.length := by cases s <;> simp [dl]
theorem dl_c (x y : UInt8) (s t : List UInt8) : dl (x :: s) (y :: t) = min (min (dl s t + ch1 x y) (dl (x :: s) t + 1)) (dl s (y :: t) + 1) := by rw [dl]
theorem Al.nl : ∀ t : List UInt8, Al [] t t.length
  | [] => .nil
  | y :: t => .ins y (Al.nl t)
theorem Al.nr : ∀ s : List UInt8, Al s [] s.length
  | [] => .nil
  | x :: s => .del x (Al.nr s)
theorem al_dl : ∀ s t : List UInt8, Al s t (dl s t) := by
  intro s
  induction s with
  | nil => intro t; rw [dl_nl]; exact Al.nl t
  | cons x s ih =>
    intro t
    induction t with
    | nil => rw [dl_nr]; exact Al.nr _
    | cons y t iht =>
      rw [dl_c]
      rcases Nat.le_total (dl s t + ch1 x y) (dl (x :: s) t + 1) with h1 | h1
      · rw [Nat.min_eq_left h1]
        rcases Nat.le_total (dl s t + ch1 x y) (dl s (y :: t) + 1) with h2 | h2
        · rw [Nat.min_eq_left h2]; exact .sub x y (ih t)
        · rw [Nat.min_eq_right h2]; exact .del x (ih _)
      · rw [Nat.min_eq_right h1]
        rcases Nat.le_total (dl (x :: s) t + 1) (dl s (y :: t) + 1) with h2 | h2
        · rw [Nat.min_eq_left h2]; exact .ins y iht
        · rw [Nat.min_eq_right h2]; exact .del x (ih _)
theorem dl_le {s t : List UInt8} {n : Nat} (h : Al s t n) : dl s t ≤ n := by
  induction h with
  | nil => simp [dl]
  | @ins s t n y _ ih =>
    cases s with
    | nil => rw [dl_nl] at *; simp only [List.length_cons]; omega
    | cons x s => rw [dl_c]; omega
  | @del s t n x _ ih =>
    cases t with
    | nil => rw [dl_nr] at *; simp only [List.length_cons]; omega
    | cons y t => rw [dl_c]; omega
  | sub x y _ ih => rw [dl_c]; omega
theorem Al.trans {s t : List UInt8} {n : Nat} (h1 : Al s t n) : ∀ {u : List UInt8} {m : Nat}, Al t u m → ∃ k, k ≤ n + m ∧ Al s u k := by
  induction h1 with
  | nil => intro u m h2; exact ⟨m, by omega, h2⟩
  | @ins s t n y _ ih =>
    intro u
    induction u with
    | nil =>
      intro m h2
      cases h2 with
      | del _ h2 => obtain ⟨k, hk, h⟩ := ih h2; exact ⟨k, by omega, h⟩
    | cons z u ihu =>
      intro m h2
      cases h2 with
      | ins _ h2 => obtain ⟨k, hk, h⟩ := ihu h2; exact ⟨k + 1, by omega, .ins z h⟩
      | del _ h2 => obtain ⟨k, hk, h⟩ := ih h2; exact ⟨k, by omega, h⟩
      | sub _ _ h2 => obtain ⟨k, hk, h⟩ := ih h2; exact ⟨k + 1, by omega, .ins z h⟩
  | @del s t n x _ ih => intro u m h2; obtain ⟨k, hk, h⟩ := ih h2; exact ⟨k + 1, by omega, .del x h⟩
  | @sub s t n x y _ ih =>
    intro u
    induction u with
    | nil =>
      intro m h2
      cases h2 with
      | del _ h2 => obtain ⟨k, hk, h⟩ := ih h2; exact ⟨k + 1, by omega, .del x h⟩
    | cons z u ihu =>
      intro m h2
      cases h2 with
      | ins _ h2 => obtain ⟨k, hk, h⟩ := ihu h2; exact ⟨k + 1, by omega, .ins z h⟩
      | del _ h2 => obtain ⟨k, hk, h⟩ := ih h2; exact ⟨k + 1, by omega, .del x h⟩
      | sub _ _ h2 =>
        obtain ⟨k, hk, h⟩ := ih h2
        have := ch1_tri x y z
        exact ⟨_, by omega, .sub x z h⟩
theorem Al.symm {s t : List UInt8} {n : Nat} (h : Al s t n) : Al t s n := by
  induction h with
  | nil => exact .nil
  | ins y _ ih => exact .del y ih
  | del x _ ih => exact .ins x ih
  | sub x y _ ih => rw [ch1_comm]; exact .sub y x ih
theorem Al.app {s t : List UInt8} {n : Nat} (h : Al s t n) : ∀ {s' t' : List UInt8} {m : Nat}, Al s' t' m → Al (s ++ s') (t ++ t') (n + m) := by
  induction h with
  | nil => intro s' t' m h; rw [Nat.zero_add]; exact h
  | ins y _ ih => intro s' t' m h; have := Al.ins y (ih h); rwa [show ∀ a b : Nat, a + b + 1 = a + 1 + b from fun a b => by omega] at this
  | del x _ ih => intro s' t' m h; have := Al.del x (ih h); rwa [show ∀ a b : Nat, a + b + 1 = a + 1 + b from fun a b => by omega] at this
  | sub x y _ ih => intro s' t' m h; have := Al.sub x y (ih h); rwa [show ∀ a b c : Nat, a + b + c = a + c + b from fun a b c => by omega] at this
theorem Al.rev {s t : List UInt8} {n : Nat} (h : Al s t n) : Al s.reverse t.reverse n := by
  induction h with
  | nil => exact .nil
  | @ins s t n y _ ih => have := ih.app (Al.ins y .nil); rw [List.append_nil] at this; rw [List.reverse_cons]; exact this
  | @del s t n x _ ih => have := ih.app (Al.del x .nil); rw [List.append_nil] at this; rw [List.reverse_cons]; exact this
  | @sub s t n x y _ ih => have := ih.app (Al.sub x y .nil); rw [Nat.zero_add] at this; rw [List.reverse_cons, List.reverse_cons]; exact this
theorem dl_rev (s t : List UInt8) : dl s.reverse t.reverse = dl s t := by
  refine Nat.le_antisymm (dl_le (al_dl s t).rev) ?_
  have := dl_le (al_dl s.reverse t.reverse).rev
  simpa using this
theorem dd_dl (a b : List UInt8) : ∀ i k, i ≤ a.length → k ≤ b.length → dd a b i k = dl (a.take i).reverse (b.take k).reverse := by
  intro i
  induction i with
  | zero => intro k _ hk; rw [dd_0, List.take_zero, List.reverse_nil, dl_nl, List.length_reverse, List.length_take]; omega
  | succ i ih =>
    intro k
    induction k with
    | zero => intro hi _; rw [dd_i0, List.take_zero, List.reverse_nil, dl_nr, List.length_reverse, List.length_take]; omega
    | succ k ihk =>
      intro hi hk
      have e1 : (a.take (i + 1)).reverse = a.getD i 0 :: (a.take i).reverse := by rw [take_succ_getD a i 0 (by omega), List.reverse_append]; rfl
      have e2 : (b.take (k + 1)).reverse = b.getD k 0 :: (b.take k).reverse := by rw [take_succ_getD b k 0 (by omega), List.reverse_append]; rfl
      rw [dd_s, ih k (by omega) (by omega), ih (k + 1) (by omega) hk, ihk hi (by omega), e1, e2, dl_c]
theorem dist_dl (a b : List UInt8) : dist a b = dl a b := by
  unfold dist
  rw [dd_dl a b _ _ (Nat.le_refl _) (Nat.le_refl _), List.take_length, List.take_length, dl_rev]
theorem al_dist (a b : List UInt8) : Al a b (dist a b) := by rw [dist_dl]; exact al_dl a b
theorem dist_le {a b : List UInt8} {n : Nat} (h : Al a b n) : dist a b ≤ n := by rw [dist_dl]; exact dl_le h
theorem Al.refl : ∀ a : List UInt8, Al a a 0
  | [] => .nil
  | x :: a => by have := Al.sub x x (Al.refl a); rwa [ch1_self] at this
theorem dist_self (a : List UInt8) : dist a a = 0 := Nat.le_zero.1 (dist_le (Al.refl a))
theorem Al.eq {a b : List UInt8} {n : Nat} (h : Al a b n) (h0 : n = 0) : a = b := by
  induction h with
  | nil => rfl
  | ins => omega
  | del => omega
  | sub x y _ ih =>
    unfold ch1 at h0
    by_cases hx : x = y
    · rw [if_pos hx] at h0; rw [ih (by omega), hx]
    · rw [if_neg hx] at h0; omega
theorem dist_zero {a b : List UInt8} : dist a b = 0 ↔ a = b := ⟨fun h => (al_dist a b).eq h, fun h => h ▸ dist_self a⟩
theorem dist_comm (a b : List UInt8) : dist a b = dist b a := Nat.le_antisymm (dist_le (al_dist b a).symm) (dist_le (al_dist a b).symm)
theorem dist_tri (a b c : List UInt8) : dist a c ≤ dist a b + dist b c := by
  obtain ⟨k, hk, h⟩ := (al_dist a b).trans (al_dist b c)
  have := dist_le h; omega
theorem Al.lens {a b : List UInt8} {n : Nat} (h : Al a b n) : a.length ≤ b.length + n ∧ b.length ≤ a.length + n := by
  induction h with
  | nil => simp
  | ins y _ ih => simp only [List.length_cons]; omega
  | del x _ ih => simp only [List.length_cons]; omega
  | sub x y _ ih => simp only [List.length_cons]; omega
theorem dist_lens (a b : List UInt8) : a.length ≤ b.length + dist a b ∧ b.length ≤ a.length + dist a b := (al_dist a b).lens
theorem dist_max (a b : List UInt8) : dist a b ≤ max a.length b.length := dd_le a b _ _
theorem dist_cons (x : UInt8) (a b : List UInt8) : dist (x :: a) (x :: b) = dist a b := by
  refine Nat.le_antisymm (dist_le (by have := Al.sub x x (al_dist a b); rwa [ch1_self] at this)) ?_
  have h1 := dist_le (Al.ins x (Al.refl a))
  have h2 := dist_le (Al.ins x (Al.refl b))
  have h3 := dist_tri a (x :: a) b
  have h4 := dist_tri a (x :: b) b
  have h5 := dist_comm b (x :: b)
  simp only [dist_dl] at *
  rw [dl_c, ch1_self]; omega
theorem dist_left (c a b : List UInt8) : dist (c ++ a) (c ++ b) = dist a b := by
  induction c with
  | nil => rfl
  | cons x c ih => rw [List.cons_append, List.cons_append, dist_cons, ih]
theorem dist_rev (a b : List UInt8) : dist a.reverse b.reverse = dist a b := by rw [dist_dl, dist_dl, dl_rev]
theorem dist_right (c a b : List UInt8) : dist (a ++ c) (b ++ c) = dist a b := by
  rw [← dist_rev, List.reverse_append, List.reverse_append, dist_left, dist_rev]
/-- a byte put in -/
theorem dist_more (p q : List UInt8) (x : UInt8) : dist (p ++ q) (p ++ [x] ++ q) = 1 := by
  rw [List.append_assoc, dist_left]
  show dist q (x :: q) = 1
  have h1 := dist_le (Al.ins x (Al.refl q))
  have h2 := (dist_lens q (x :: q)).2
  rw [List.length_cons] at h2; omega
theorem dist_other (p q : List UInt8) (x y : UInt8) : dist (p ++ [y] ++ q) (p ++ [x] ++ q) = ch1 y x := by
  rw [dist_right, dist_left, dist_dl, dl_c, dl_nl, dl_nr, dl_nl]
  have := ch1_le y x
  simp only [List.length_cons, List.length_nil]; omega
theorem dist_beside {a m : List UInt8} (h : dist a m ≤ 1) (b : List UInt8) : dist m b ≤ dist a b + 1 ∧ dist a b ≤ dist m b + 1 := by
  have h1 := dist_tri m a b
  have h2 := dist_tri a m b
  rw [dist_comm m a] at h1
  omega
end Go.Hb
