/-
  Stable sorting by blocks, plain. No program in sight; no conditions but those that each lemma names.
-/
import Derived.Test.YtbfcjgfnlcbojaaSort
namespace Go.Hb

/-- the part of a list from a place to another -/
def seg (l : List Nr) (c d : Nat) : List Nr := (l.drop c).take (d - c)
def SegS (l : List Nr) (c d : Nat) : Prop := Srt (seg l c d)
/-- a part sorted, the rest left -/
def srtAt (l : List Nr) (a b : Nat) : List Nr := l.take a ++ (isort (seg l a b) ++ l.drop b)
theorem seg_get (l : List Nr) (c d i : Nat) : (seg l c d)[i]? = if i < d - c then l[c + i]? else none := by
  unfold seg; rw [List.getElem?_take, List.getElem?_drop]
theorem seg_len {l : List Nr} {c d : Nat} (h : d ≤ l.length) : (seg l c d).length = d - c := by
  unfold seg; rw [List.length_take, List.length_drop]; omega
theorem seg_split {l : List Nr} {a b : Nat} (h : a ≤ b) : l = l.take a ++ (seg l a b ++ l.drop b) := by
  unfold seg
  have h1 : (l.drop a).drop (b - a) = l.drop b := by rw [List.drop_drop]; congr 1; omega
  rw [← h1, List.take_append_drop, List.take_append_drop]
theorem seg_join {l : List Nr} {a m b : Nat} (h : a ≤ m) (h2 : m ≤ b) : seg l a b = seg l a m ++ seg l m b := by
  unfold seg
  have h1 : l.drop m = (l.drop a).drop (m - a) := by rw [List.drop_drop]; congr 1; omega
  rw [h1, show b - a = (m - a) + (b - m) by omega, List.take_add]
theorem srtAt_len {l : List Nr} {a b : Nat} (h : a ≤ b) (h2 : b ≤ l.length) : (srtAt l a b).length = l.length := by
  unfold srtAt
  rw [List.length_append, List.length_append, isort_len, seg_len h2, List.length_take, List.length_drop]; omega
theorem srtAt_se {l : List Nr} {a b : Nat} (h : a ≤ b) : SE (srtAt l a b) l := by
  have h1 := (SE.refl (l.take a)).app ((isort_se (seg l a b)).app (SE.refl (l.drop b)))
  rw [← seg_split h] at h1; exact h1
theorem srtAt_lo {l : List Nr} {a b i : Nat} (hi : i < a) (h : a ≤ b) (h2 : b ≤ l.length) : (srtAt l a b)[i]? = l[i]? := by
  unfold srtAt
  rw [List.getElem?_append_left (by rw [List.length_take]; omega), List.getElem?_take, if_pos hi]
theorem srtAt_hi {l : List Nr} {a b i : Nat} (hi : b ≤ i) (h : a ≤ b) (h2 : b ≤ l.length) : (srtAt l a b)[i]? = l[i]? := by
  unfold srtAt
  rw [List.getElem?_append_right (by rw [List.length_take]; omega), List.getElem?_append_right (by rw [isort_len, seg_len h2, List.length_take]; omega), isort_len, seg_len h2, List.length_take, List.getElem?_drop]
  congr 1; omega
theorem seg_lo {l : List Nr} {a b c d : Nat} (hd : d ≤ a) (h : a ≤ b) (h2 : b ≤ l.length) : seg (srtAt l a b) c d = seg l c d := by
  refine List.ext_getElem? fun i => ?_
  rw [seg_get, seg_get]
  by_cases hi : i < d - c
  · rw [if_pos hi, if_pos hi, srtAt_lo (by omega) h h2]
  · rw [if_neg hi, if_neg hi]
theorem seg_hi {l : List Nr} {a b c d : Nat} (hc : b ≤ c) (h : a ≤ b) (h2 : b ≤ l.length) : seg (srtAt l a b) c d = seg l c d := by
  refine List.ext_getElem? fun i => ?_
  rw [seg_get, seg_get]
  by_cases hi : i < d - c
  · rw [if_pos hi, if_pos hi, srtAt_hi (by omega) h h2]
  · rw [if_neg hi, if_neg hi]
theorem seg_mid {l : List Nr} {a b : Nat} (h : a ≤ b) (h2 : b ≤ l.length) : seg (srtAt l a b) a b = isort (seg l a b) := by
  unfold srtAt
  generalize hS : seg l a b = S
  have hl : S.length = b - a := by rw [← hS]; exact seg_len h2
  unfold seg
  rw [List.drop_append_of_le_length (by rw [List.length_take]; omega), List.drop_eq_nil_of_le (by rw [List.length_take]; omega), List.nil_append, List.take_append_of_le_length (by rw [isort_len]; omega), List.take_of_length_le (by rw [isort_len]; omega)]
theorem seg_over {l : List Nr} {c d d' : Nat} (h : l.length ≤ d) (h' : l.length ≤ d') : seg l c d = seg l c d' := by
  unfold seg
  rw [List.take_of_length_le (by rw [List.length_drop]; omega), List.take_of_length_le (by rw [List.length_drop]; omega)]
theorem seg_nil {l : List Nr} {c d : Nat} (h : l.length ≤ c) : seg l c d = [] := by
  unfold seg; rw [List.drop_eq_nil_of_le h, List.take_nil]
theorem segS_sub {l : List Nr} {c d d' : Nat} (h : SegS l c d) (hd : l.length ≤ d ∨ d' ≤ d) : SegS l c d' := by
  unfold SegS seg at *
  rcases hd with hd | hd
  · rw [List.take_of_length_le (by rw [List.length_drop]; omega)] at h
    exact h.take _
  · have := h.take (d' - c)
    rw [List.take_take, Nat.min_eq_left (by omega)] at this; exact this
/-- all blocks of a length are sorted -/
def BS (n : Nat) (l : List Nr) : Prop := ∀ t, SegS l (t * n) (t * n + n)
theorem BS.end_ {n : Nat} {l xs : List Nr} (h : BS n l) (hn : l.length ≤ n) (hs : SE l xs) : l = isort xs := by
  have h0 := h 0
  unfold SegS seg at h0
  rw [Nat.zero_mul, List.drop_zero, Nat.zero_add, Nat.sub_zero, List.take_of_length_le hn] at h0
  exact (isort_eq h0 hs).symm
/-- the blocks ahead of a place are sorted -/
def BL (n a : Nat) (l : List Nr) : Prop := ∀ t, t * n < a → SegS l (t * n) (t * n + n)
theorem BL.zero (n : Nat) (l : List Nr) : BL n 0 l := fun t ht => by omega
theorem BL.next {n t0 : Nat} {l : List Nr} (h : BL n (t0 * n) l) (hb : t0 * n + n ≤ l.length) : BL n (t0 * n + n) (srtAt l (t0 * n) (t0 * n + n)) := fun t ht => by
  rcases Nat.lt_trichotomy t t0 with hlt | rfl | hgt
  · have h1 : t * n + n ≤ t0 * n := by rw [← Nat.succ_mul]; exact Nat.mul_le_mul_right _ hlt
    unfold SegS
    rw [seg_lo h1 (by omega) hb]
    exact h t (by
      rcases Nat.eq_zero_or_pos n with rfl | hn
      · omega
      · omega)
  · unfold SegS
    rw [seg_mid (by omega) hb]; exact isort_srt _
  · have h1 : t0 * n + n ≤ t * n := by rw [← Nat.succ_mul]; exact Nat.mul_le_mul_right _ hgt
    omega
theorem BL.last {n t0 : Nat} {l : List Nr} (h : BL n (t0 * n) l) (ha : t0 * n ≤ l.length) (hb : l.length ≤ t0 * n + n) : BS n (srtAt l (t0 * n) l.length) := fun t => by
  rcases Nat.lt_trichotomy t t0 with hlt | rfl | hgt
  · have h1 : t * n + n ≤ t0 * n := by rw [← Nat.succ_mul]; exact Nat.mul_le_mul_right _ hlt
    unfold SegS
    rw [seg_lo h1 ha (Nat.le_refl _)]
    rcases Nat.eq_zero_or_pos n with rfl | hn
    · unfold seg; rw [Nat.mul_zero, Nat.add_zero, Nat.sub_self, List.take_zero]; exact List.Pairwise.nil
    · exact h t (by omega)
  · have h1 := seg_mid ha (Nat.le_refl l.length)
    have h2 := srtAt_len (l := l) ha (Nat.le_refl _)
    unfold SegS
    rw [seg_over (d' := l.length) (by omega) (by omega), h1]; exact isort_srt _
  · have h1 : t0 * n + n ≤ t * n := by rw [← Nat.succ_mul]; exact Nat.mul_le_mul_right _ hgt
    have h2 := srtAt_len (l := l) ha (Nat.le_refl _)
    unfold SegS
    rw [seg_nil (by omega)]; exact List.Pairwise.nil
theorem BL.none {n t0 : Nat} {l : List Nr} (h : BL n (t0 * n) l) (h2 : SegS l (t0 * n) (t0 * n + n)) (hb : l.length ≤ t0 * n + n) : BS n l := fun t => by
  rcases Nat.lt_trichotomy t t0 with hlt | rfl | hgt
  · have h1 : t * n + n ≤ t0 * n := by rw [← Nat.succ_mul]; exact Nat.mul_le_mul_right _ hlt
    rcases Nat.eq_zero_or_pos n with rfl | hn
    · unfold SegS seg; rw [Nat.mul_zero, Nat.add_zero, Nat.sub_self, List.take_zero]; exact List.Pairwise.nil
    · exact h t (by omega)
  · exact h2
  · have h1 : t0 * n + n ≤ t * n := by rw [← Nat.succ_mul]; exact Nat.mul_le_mul_right _ hgt
    unfold SegS
    rw [seg_nil (by omega)]; exact List.Pairwise.nil
/-- the blocks from a place on are sorted -/
def BR (n a : Nat) (l : List Nr) : Prop := ∀ t, a ≤ t * n → SegS l (t * n) (t * n + n)
theorem BS.br {n : Nat} {l : List Nr} (h : BS n l) (a : Nat) : BR n a l := fun t _ => h t
theorem BR.next {n a b : Nat} {l : List Nr} (h : BR n a l) (hab : a ≤ b) (hb : b ≤ l.length) : BR n b (srtAt l a b) := fun t ht => by
  unfold SegS
  rw [seg_hi ht hab hb]; exact h t (by omega)
end Go.Hb
