/-
  Stable sorting of rows of a word and a number, plain. No program in sight; no conditions but those that each lemma names.
-/
import Derived.Test.YtbfcjgfnlcbojaaNear
namespace Go.Hb

def Srt (l : List Nr) : Prop := l.Pairwise fun x y => x.2 ≤ y.2
/-- those of each number are the same, in the same order -/
def SE (l m : List Nr) : Prop := ∀ d, l.filter (fun q => q.2 == d) = m.filter (fun q => q.2 == d)
theorem SE.refl (l : List Nr) : SE l l := fun _ => rfl
theorem SE.symm {l m : List Nr} (h : SE l m) : SE m l := fun d => (h d).symm
theorem SE.trans {l m o : List Nr} (h : SE l m) (h' : SE m o) : SE l o := fun d => (h d).trans (h' d)
theorem SE.app {l m l' m' : List Nr} (h : SE l m) (h' : SE l' m') : SE (l ++ l') (m ++ m') := fun d => by rw [List.filter_append, List.filter_append, h d, h' d]
theorem SE.comm {u v : List Nr} (h : ∀ x ∈ u, ∀ y ∈ v, x.2 ≠ y.2) : SE (u ++ v) (v ++ u) := fun d => by
  rw [List.filter_append, List.filter_append]
  by_cases hu : u.filter (fun q => q.2 == d) = []
  · rw [hu]; simp
  · obtain ⟨x, hx⟩ := List.exists_mem_of_ne_nil _ hu
    rw [List.mem_filter, beq_iff_eq] at hx
    have hv : v.filter (fun q => q.2 == d) = [] := List.filter_eq_nil_iff.2 fun y hy e => h x hx.1 y hy (by rw [hx.2, beq_iff_eq.1 e])
    rw [hv]; simp
theorem SE.mem {l m : List Nr} (h : SE l m) {x : Nr} (hx : x ∈ l) : x ∈ m := by
  have h1 : x ∈ l.filter (fun q => q.2 == x.2) := List.mem_filter.2 ⟨hx, by simp⟩
  rw [h x.2] at h1
  exact (List.mem_filter.1 h1).1
theorem Srt.head {x : Nr} {l : List Nr} (h : Srt (x :: l)) : ∀ y ∈ x :: l, x.2 ≤ y.2 := fun y hy => by
  rcases List.mem_cons.1 hy with rfl | hy
  · exact Nat.le_refl _
  · exact (List.pairwise_cons.1 h).1 y hy
theorem srt_uniq : ∀ {l m : List Nr}, Srt l → Srt m → SE l m → l = m := by
  intro l
  induction l with
  | nil =>
    intro m _ _ h
    cases m with
    | nil => rfl
    | cons y m => exact absurd (h.symm.mem (x := y) (by simp)) (by simp)
  | cons x l ih =>
    intro m hl hm h
    cases m with
    | nil => exact absurd (h.mem (x := x) (by simp)) (by simp)
    | cons y m =>
      have h1 := hm.head x (h.mem (by simp))
      have h2 := hl.head y (h.symm.mem (by simp))
      have hk : x.2 = y.2 := by omega
      have h3 := h x.2
      rw [List.filter_cons_of_pos (by simp), List.filter_cons_of_pos (by simp [hk])] at h3
      injection h3 with h4 h5
      subst h4
      rw [ih (List.pairwise_cons.1 hl).2 (List.pairwise_cons.1 hm).2 fun d => ?_]
      have h6 := h d
      by_cases hd : x.2 = d
      · rw [List.filter_cons_of_pos (by simp [hd]), List.filter_cons_of_pos (by simp [hd])] at h6
        injection h6
      · rw [List.filter_cons_of_neg (by simp [hd]), List.filter_cons_of_neg (by simp [hd])] at h6
        exact h6
def ins (x : Nr) : List Nr → List Nr
  | [] => [x]
  | y :: l => if x.2 < y.2 then x :: y :: l else y :: ins x l
def isort (l : List Nr) : List Nr := l.foldl (fun acc x => ins x acc) []
theorem isort_nil : isort [] = [] := rfl
theorem isort_snoc (l : List Nr) (x : Nr) : isort (l ++ [x]) = ins x (isort l) := by
  unfold isort; rw [List.foldl_append]; rfl
theorem ins_split {x : Nr} {u v : List Nr} (h1 : ∀ y ∈ u, y.2 ≤ x.2) (h2 : ∀ y ∈ v, x.2 < y.2) : ins x (u ++ v) = u ++ x :: v := by
  induction u with
  | nil =>
    cases v with
    | nil => rfl
    | cons y v => rw [List.nil_append, List.nil_append, ins, if_pos (h2 y (by simp))]
  | cons y u ih =>
    have := h1 y (by simp)
    rw [List.cons_append, ins, if_neg (by omega), ih fun z hz => h1 z (by simp [hz])]; rfl
theorem ins_len (x : Nr) (l : List Nr) : (ins x l).length = l.length + 1 := by
  induction l with
  | nil => rfl
  | cons y l ih => rw [ins]; split <;> simp [ih]
theorem ins_mem {x z : Nr} {l : List Nr} : z ∈ ins x l ↔ z = x ∨ z ∈ l := by
  induction l with
  | nil => simp [ins]
  | cons y l ih =>
    rw [ins]
    split
    · simp
    · rw [List.mem_cons, ih, List.mem_cons]
      exact ⟨fun h => by rcases h with h | h | h; exact .inr (.inl h); exact .inl h; exact .inr (.inr h), fun h => by rcases h with h | h | h; exact .inr (.inl h); exact .inl h; exact .inr (.inr h)⟩
theorem ins_srt {x : Nr} {l : List Nr} (h : Srt l) : Srt (ins x l) := by
  induction l with
  | nil => exact List.pairwise_singleton _ _
  | cons y l ih =>
    rw [ins]
    split
    · rename_i hlt
      refine List.pairwise_cons.2 ⟨fun z hz => ?_, h⟩
      have := h.head z hz; omega
    · rename_i hge
      refine List.pairwise_cons.2 ⟨fun z hz => ?_, ih (List.pairwise_cons.1 h).2⟩
      rcases ins_mem.1 hz with rfl | hz
      · omega
      · exact (List.pairwise_cons.1 h).1 z hz
theorem ins_se {x : Nr} {l : List Nr} (hl : Srt l) : SE (ins x l) (l ++ [x]) := by
  induction l with
  | nil => exact SE.refl _
  | cons y l ih =>
    rw [ins]
    split
    · rename_i hlt
      exact SE.comm (u := [x]) fun a ha b hb => by
        rw [List.mem_singleton] at ha; subst ha
        have := hl.head b hb; omega
    · exact (SE.refl [y]).app (ih (List.pairwise_cons.1 hl).2)
theorem isort_all (l : List Nr) : ∀ acc : List Nr, Srt acc → (l.foldl (fun acc x => ins x acc) acc).length = l.length + acc.length ∧ Srt (l.foldl (fun acc x => ins x acc) acc) ∧ SE (l.foldl (fun acc x => ins x acc) acc) (acc ++ l) := by
  induction l with
  | nil => intro acc h; exact ⟨by simp, h, by rw [List.append_nil]; exact SE.refl _⟩
  | cons x l ih =>
    intro acc h
    obtain ⟨h1, h2, h3⟩ := ih (ins x acc) (ins_srt h)
    refine ⟨?_, h2, ?_⟩
    · rw [List.foldl_cons, h1, ins_len, List.length_cons]; omega
    · rw [List.foldl_cons]
      refine h3.trans ?_
      have := (ins_se (x := x) h).app (SE.refl l)
      rw [List.append_assoc] at this; exact this
theorem isort_len (l : List Nr) : (isort l).length = l.length := (isort_all l [] List.Pairwise.nil).1
theorem isort_srt (l : List Nr) : Srt (isort l) := (isort_all l [] List.Pairwise.nil).2.1
theorem isort_se (l : List Nr) : SE (isort l) l := (isort_all l [] List.Pairwise.nil).2.2
theorem isort_eq {l m : List Nr} (h : Srt m) (h2 : SE m l) : isort l = m := srt_uniq (isort_srt l) h ((isort_se l).trans h2.symm)
theorem srt_take {l : List Nr} (h : Srt l) {p : Nat} {y : Nr} (hp : 0 < p) (hy : l[p - 1]? = some y) : ∀ z ∈ l.take p, z.2 ≤ y.2 := fun z hz => by
  obtain ⟨hk, rfl⟩ := List.getElem?_eq_some_iff.1 hy
  obtain ⟨j, hj, rfl⟩ := List.mem_iff_getElem.1 hz
  simp only [List.length_take] at hj
  rw [List.getElem_take]
  rcases Nat.lt_or_ge j (p - 1) with h1 | h1
  · exact List.pairwise_iff_getElem.1 h j (p - 1) (by omega) hk h1
  · have : j = p - 1 := by omega
    subst this; exact Nat.le_refl _
theorem srt_drop {l : List Nr} (h : Srt l) {p : Nat} {y : Nr} (hy : l[p]? = some y) : ∀ z ∈ l.drop p, y.2 ≤ z.2 := fun z hz => by
  obtain ⟨hk, rfl⟩ := List.getElem?_eq_some_iff.1 hy
  obtain ⟨j, hj, rfl⟩ := List.mem_iff_getElem.1 hz
  rw [List.getElem_drop]
  rcases Nat.eq_zero_or_pos j with rfl | h1
  · exact Nat.le_refl _
  · rw [List.length_drop] at hj
    exact List.pairwise_iff_getElem.1 h p (p + j) hk (by omega) (by omega)
theorem Srt.take {l : List Nr} (h : Srt l) (p : Nat) : Srt (l.take p) := List.Pairwise.sublist (List.take_sublist _ _) h
theorem Srt.drop {l : List Nr} (h : Srt l) (p : Nat) : Srt (l.drop p) := List.Pairwise.sublist (List.drop_sublist _ _) h
theorem Srt.app {l m : List Nr} (h : Srt l) (h' : Srt m) (hx : ∀ x ∈ l, ∀ y ∈ m, x.2 ≤ y.2) : Srt (l ++ m) := List.pairwise_append.2 ⟨h, h', hx⟩
theorem isort_self {l : List Nr} (h : Srt l) : isort l = l := isort_eq h (SE.refl l)
theorem merge_x {x : Nr} {s : List Nr} {p : Nat} (h : Srt s) (hA : p = 0 ∨ ∃ y, s[p - 1]? = some y ∧ y.2 < x.2) (hB : p = s.length ∨ ∃ y, s[p]? = some y ∧ x.2 ≤ y.2) : isort (x :: s) = s.take p ++ x :: s.drop p := by
  have h1 : ∀ z ∈ s.take p, z.2 < x.2 := fun z hz => by
    rcases Nat.eq_zero_or_pos p with rfl | hp
    · simp at hz
    · obtain ⟨y, hy, hlt⟩ := hA.resolve_left (by omega)
      have := srt_take h hp hy z hz; omega
  have h2 : ∀ z ∈ s.drop p, x.2 ≤ z.2 := fun z hz => by
    rcases hB with rfl | ⟨y, hy, hle⟩
    · simp at hz
    · have := srt_drop h hy z hz; omega
  refine isort_eq ((h.take p).app (List.pairwise_cons.2 ⟨h2, h.drop p⟩) fun a ha b hb => ?_) ?_
  · have := h1 a ha
    rcases List.mem_cons.1 hb with rfl | hb
    · omega
    · have := h2 b hb; omega
  · have h3 : SE (s.take p ++ [x]) ([x] ++ s.take p) := SE.comm fun a ha b hb => by
      rw [List.mem_singleton] at hb; subst hb
      have := h1 a ha; omega
    have h4 := h3.app (SE.refl (s.drop p))
    rw [List.append_assoc, List.append_assoc, List.take_append_drop] at h4; exact h4
theorem merge_y {y : Nr} {s : List Nr} {p : Nat} (h : Srt s) (hA : p = 0 ∨ ∃ x, s[p - 1]? = some x ∧ x.2 ≤ y.2) (hB : p = s.length ∨ ∃ x, s[p]? = some x ∧ y.2 < x.2) : isort (s ++ [y]) = s.take p ++ y :: s.drop p := by
  rw [isort_snoc, isort_self h]
  have := ins_split (x := y) (u := s.take p) (v := s.drop p) (fun z hz => by
    rcases Nat.eq_zero_or_pos p with rfl | hp
    · simp at hz
    · obtain ⟨x, hx, hle⟩ := hA.resolve_left (by omega)
      have := srt_take h hp hx z hz; omega) (fun z hz => by
    rcases hB with rfl | ⟨x, hx, hlt⟩
    · simp at hz
    · have := srt_drop h hx z hz; omega)
  rw [List.take_append_drop] at this; exact this
theorem merge_ok {A1 A2 B1 B2 : List Nr} (h1 : Srt (A1 ++ A2)) (h2 : Srt (B1 ++ B2)) (hAB : ∀ x ∈ A1, ∀ y ∈ B2, x.2 ≤ y.2) (hBA : ∀ y ∈ B1, ∀ x ∈ A2, y.2 < x.2) : isort ((A1 ++ A2) ++ (B1 ++ B2)) = isort (A1 ++ B1) ++ isort (A2 ++ B2) := by
  obtain ⟨_, _, hA⟩ := List.pairwise_append.1 h1
  obtain ⟨_, _, hB⟩ := List.pairwise_append.1 h2
  refine isort_eq ((isort_srt _).app (isort_srt _) fun x hx y hy => ?_) ?_
  · rcases List.mem_append.1 ((isort_se _).mem hx) with hx | hx <;> rcases List.mem_append.1 ((isort_se _).mem hy) with hy | hy
    · exact hA x hx y hy
    · exact hAB x hx y hy
    · have := hBA x hx y hy; omega
    · exact hB x hx y hy
  · refine ((isort_se _).app (isort_se _)).trans ?_
    have h3 : SE (B1 ++ A2) (A2 ++ B1) := SE.comm fun a ha b hb => by have := hBA a ha b hb; omega
    have h4 := (SE.refl A1).app (h3.app (SE.refl B2))
    simp only [List.append_assoc] at h4 ⊢; exact h4
theorem symm_ok {s1 s2 : List Nr} {a m b mid lo hi p : Nat} (hs1 : Srt s1) (hs2 : Srt s2) (hm : m = a + s1.length) (hb : b = m + s2.length) (hlo : (mid < m ∧ lo = mid + m - b ∧ hi = mid) ∨ (m ≤ mid ∧ lo = a ∧ hi = m)) (hmid : mid = (a + b) / 2)
    (hA : p = lo ∨ ∃ x y, s1[p - 1 - a]? = some x ∧ s2[mid - p]? = some y ∧ x.2 ≤ y.2) (hB : p = hi ∨ ∃ x y, s1[p - a]? = some x ∧ s2[mid - 1 - p]? = some y ∧ y.2 < x.2) :
    isort (s1 ++ s2) = isort (s1.take (p - a) ++ s2.take (mid - p)) ++ isort (s1.drop (p - a) ++ s2.drop (mid - p)) := by
  have h := merge_ok (A1 := s1.take (p - a)) (A2 := s1.drop (p - a)) (B1 := s2.take (mid - p)) (B2 := s2.drop (mid - p)) (by rw [List.take_append_drop]; exact hs1) (by rw [List.take_append_drop]; exact hs2)
    (fun x hx y hy => by
      rcases hA with hA | ⟨x0, y0, hx0, hy0, hle⟩
      · exfalso
        rcases hlo with h | h
        · rw [List.drop_eq_nil_of_le (by omega)] at hy; simp at hy
        · rw [show p - a = 0 by omega] at hx; simp at hx
      · rcases Nat.eq_zero_or_pos (p - a) with h0 | h0
        · rw [h0] at hx; simp at hx
        · have h1 := srt_take hs1 h0 (y := x0) (by rw [show p - a - 1 = p - 1 - a by omega]; exact hx0) x hx
          have h2 := srt_drop hs2 hy0 y hy
          omega)
    (fun y hy x hx => by
      rcases hB with hB | ⟨x0, y0, hx0, hy0, hlt⟩
      · exfalso
        rcases hlo with h | h
        · rw [show mid - p = 0 by omega] at hy; simp at hy
        · rw [List.drop_eq_nil_of_le (by omega)] at hx; simp at hx
      · rcases Nat.eq_zero_or_pos (mid - p) with h0 | h0
        · rw [h0] at hy; simp at hy
        · have h1 := srt_take hs2 h0 (y := y0) (by rw [show mid - p - 1 = mid - 1 - p by omega]; exact hy0) y hy
          have h2 := srt_drop hs1 hx0 x hx
          omega)
  rw [List.take_append_drop, List.take_append_drop] at h; exact h
theorem get_seg {α : Type} {P S Q : List α} {c : Nat} (h1 : P.length ≤ c) (h2 : c < P.length + S.length) : (P ++ (S ++ Q))[c]? = S[c - P.length]? := by
  rw [List.getElem?_append_right h1, List.getElem?_append_left (by omega)]
theorem shr1 (m : Nat) : (m : Int).fdiv (2 ^ min (1 : Int).toNat IntKind.u64.bits) = ((m / 2 : Nat) : Int) := by
  show (m : Int).fdiv 2 = _
  rw [Int.fdiv_eq_ediv_of_nonneg _ (by omega)]; rfl
theorem two_len {l m : List Nr} : (l ++ m).length = l.length + m.length := List.length_append
/-! places in a row -/
theorem get_mid {α : Type} (p q : List α) (x : α) : (p ++ x :: q)[p.length]? = some x := by simp
theorem get_mid1 {α : Type} (p q : List α) (y x : α) : (p ++ y :: x :: q)[p.length + 1]? = some x := by
  rw [List.getElem?_append_right (by omega)]; simp
theorem set_two {α : Type} (p q : List α) (y x : α) : ((p ++ y :: x :: q).set (p.length + 1) y).set p.length x = p ++ x :: y :: q := by
  simp
theorem set_two' {α : Type} (p q : List α) (y x : α) : ((p ++ y :: x :: q).set p.length x).set (p.length + 1) y = p ++ x :: y :: q := by
  simp
theorem get_far {α : Type} (p m q : List α) (x y : α) : (p ++ x :: (m ++ y :: q))[p.length + 1 + m.length]? = some y := by
  rw [List.getElem?_append_right (by omega), show p.length + 1 + m.length - p.length = m.length + 1 by omega, List.getElem?_cons_succ, List.getElem?_append_right (by omega)]; simp
theorem set_far {α : Type} (p m q : List α) (x y : α) : ((p ++ x :: (m ++ y :: q)).set p.length y).set (p.length + 1 + m.length) x = p ++ y :: (m ++ x :: q) := by
  rw [List.set_append_right _ _ (by omega), List.set_append_right _ _ (by omega), show p.length + 1 + m.length - p.length = m.length + 1 by omega, Nat.sub_self, List.set_cons_zero, List.set_cons_succ, List.set_append_right _ _ (by omega), Nat.sub_self, List.set_cons_zero]
theorem take_some {α : Type} {l : List α} {m : Nat} {x : α} (h : l[m]? = some x) : l.take (m + 1) = l.take m ++ [x] := by
  obtain ⟨hk, rfl⟩ := List.getElem?_eq_some_iff.1 h
  exact List.take_succ_eq_append_getElem hk
theorem drop_some' {α : Type} {l : List α} {m : Nat} {x : α} (h : l[m]? = some x) : l.drop m = x :: l.drop (m + 1) := by
  obtain ⟨hk, rfl⟩ := List.getElem?_eq_some_iff.1 h
  exact List.drop_eq_getElem_cons hk
theorem nfl_set {l : List Nr} {j : Nat} {t : List UInt8} {d : Nat} (h : j < l.length) : (nfl l).take (j * 2) ++ [str t, .int .i64 (d : Nat)] ++ (nfl l).drop (j * 2 + 2) = nfl (l.set j (t, d)) :=
  (flat_set (f := fun q : Nr => [str q.1, nv q.2]) (m := 2) (fun _ => rfl) (t, d) h).symm
section
open Go.RowKit
variable {P : Program} {N : Nat} {σ : Nat → Value} {w : World} {ty : TypeId} {pos : String} {af : Array Edge} {g : Option (Nat × Bool)} {x y : Operand} {K : (Nat → Value) → World → Prop}
theorem stN {t B e n cap off j d : Nat} {ad : Option Addr} {tx : List UInt8} {l : List Nr} (hown : w.ownsRow B e 2 (.slice ad n cap) n (nfl l)) (hz : cellsN P t = some 2) (hx : ev N σ x = .pointer (some ⟨bk ad, off, none⟩)) (hy : ev N σ y = .agg [str tx, .int .i64 (d : Nat)].toArray)
    (hj : off = fo ad + j * 2) (hl : j < n)
    (k : ∀ w', Md (fun q => (Value.slice ad n cap).ownBlock = some q) w w' → w'.ownsRow B e 2 (.slice ad n cap) n (nfl (l.set j (tx, d))) → K σ w') : wpo P N ⟨none, .store t x y, ty, pos, af, g⟩ σ w K :=
  stoa hown hz hx hy rfl rfl hj hl (by omega) fun w' hM ho => k w' hM (by
    have h0 := hown.1
    rw [nfl_len] at h0
    rw [nfl_set (by omega)] at ho; exact ho)
end
theorem own_nlen {w : World} {B e n : Nat} {v : Value} {l : List Nr} (h : w.ownsRow B e 2 v n (nfl l)) : l.length = n := by
  have h0 := h.1
  rw [nfl_len] at h0; omega
end Go.Hb
