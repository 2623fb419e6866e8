/-
  Heights of states, the words by their number, and near words ring by ring. No program in sight; no conditions but those that each lemma names.
-/
import Derived.Test.YtbfcjgfnlcbojaaNrp
namespace Go.Hb

/-- the longest way on -/
def hgE (f : Nat → Nat) (es : List (UInt8 × Int)) : Nat := es.foldl (fun m e => max m (f e.2.toNat + 1)) 0
def hg (a : List EnI) : Nat → Nat → Nat
  | 0, _ => 0
  | f + 1, n => hgE (hg a f) (stOf a n).2
def hgt (a : List EnI) (n : Nat) : Nat := hg a a.length n
theorem hgE_snoc (f : Nat → Nat) (es : List (UInt8 × Int)) (e : UInt8 × Int) : hgE f (es ++ [e]) = max (hgE f es) (f e.2.toNat + 1) := by
  unfold hgE; rw [List.foldl_append]; rfl
theorem foldl_max {f : Nat → Nat} : ∀ (es : List (UInt8 × Int)) (m : Nat), m ≤ es.foldl (fun m e => max m (f e.2.toNat + 1)) m ∧ ∀ e ∈ es, f e.2.toNat + 1 ≤ es.foldl (fun m e => max m (f e.2.toNat + 1)) m
  | [], m => ⟨Nat.le_refl _, fun e he => by simp at he⟩
  | e :: es, m => by
    obtain ⟨h1, h2⟩ := foldl_max (f := f) es (max m (f e.2.toNat + 1))
    rw [List.foldl_cons]
    refine ⟨by omega, fun e' he => ?_⟩
    rcases List.mem_cons.1 he with rfl | he
    · omega
    · exact h2 e' he
theorem hgE_lt {f : Nat → Nat} {es : List (UInt8 × Int)} {e : UInt8 × Int} (he : e ∈ es) : f e.2.toNat < hgE f es := (foldl_max es 0).2 e he
theorem foldl_congr {f g : Nat → Nat} : ∀ (es : List (UInt8 × Int)) (m : Nat), (∀ e ∈ es, f e.2.toNat = g e.2.toNat) → es.foldl (fun m e => max m (f e.2.toNat + 1)) m = es.foldl (fun m e => max m (g e.2.toNat + 1)) m
  | [], _, _ => rfl
  | e :: es, m, h => by rw [List.foldl_cons, List.foldl_cons, h e (by simp)]; exact foldl_congr es _ fun e' he => h e' (by simp [he])
section
variable {a : List EnI} {l : List Nat}
theorem hg_le : ∀ (f n : Nat), hg a f n ≤ f := by
  intro f
  induction f with
  | zero => intro n; exact Nat.le_refl _
  | succ f ih =>
    intro n
    rw [hg]
    unfold hgE
    have key : ∀ (es : List (UInt8 × Int)) (m : Nat), m ≤ f + 1 → es.foldl (fun m e => max m (hg a f e.2.toNat + 1)) m ≤ f + 1 := by
      intro es
      induction es with
      | nil => intro m h; exact h
      | cons e es ihe => intro m h; rw [List.foldl_cons]; have := ih e.2.toNat; exact ihe _ (by omega)
    exact key _ 0 (by omega)
theorem hg_stable (h : Ord a l) : ∀ (r i f f' : Nat), i ∈ l → l.idxOf i ≤ r → r < f → r < f' → hg a f i = hg a f' i := by
  intro r
  induction r with
  | zero =>
    intro i f f' hi hr hf hf'
    obtain ⟨g, rfl⟩ : ∃ g, f = g + 1 := ⟨f - 1, by omega⟩
    obtain ⟨g', rfl⟩ : ∃ g', f' = g' + 1 := ⟨f' - 1, by omega⟩
    rw [hg, hg]
    exact foldl_congr _ _ fun e he => by have := h.dom i hi e he; omega
  | succ r ih =>
    intro i f f' hi hr hf hf'
    obtain ⟨g, rfl⟩ : ∃ g, f = g + 1 := ⟨f - 1, by omega⟩
    obtain ⟨g', rfl⟩ : ∃ g', f' = g' + 1 := ⟨f' - 1, by omega⟩
    rw [hg, hg]
    exact foldl_congr _ _ fun e he => by
      have h1 := h.dom i hi e he
      exact ih _ g g' ((h.st i hi).2.2 e he).2 (by omega) (by omega) (by omega)
theorem Shp.hgt (h : Shp a l) {i : Nat} (hi : i < a.length) : hgt a i = hgE (Hb.hgt a) (stOf a i).2 := by
  have hr := h.rk hi
  unfold Hb.hgt
  rw [hg_stable h.ord (l.idxOf i) i a.length (a.length + 1) (h.all i hi) (Nat.le_refl _) hr (by omega), hg]
theorem hgt_le (a : List EnI) (i : Nat) : hgt a i ≤ a.length := hg_le _ _
theorem Shp.hlt (h : Shp a l) {i : Nat} (hi : i < a.length) {e : UInt8 × Int} (he : e ∈ (stOf a i).2) : Hb.hgt a e.2.toNat < Hb.hgt a i := by
  rw [h.hgt hi]; exact hgE_lt he
theorem Shp.htop (h : Shp a l) : ∀ i, i < a.length → Hb.hgt a i ≤ Hb.hgt a 0 := by
  intro i
  induction i using Nat.strongRecOn with
  | ind i ih =>
    intro hi
    rcases Nat.eq_zero_or_pos i with rfl | h0
    · exact Nat.le_refl _
    · obtain ⟨j, hj, e, he, hei⟩ := h.met i h0 hi
      have h1 := h.hlt (show j < a.length by omega) he
      rw [hei, Int.toNat_natCast] at h1
      have h2 := ih j hj (by omega)
      omega
/-- what has been measured is right, and what lies behind it has been measured too -/
structure HI (a : List EnI) (hs : List Int) : Prop where
  len : hs.length = a.length
  ok : ∀ i, i < a.length → hs.getD i 0 = -1 ∨ (hs.getD i 0 = (Hb.hgt a i : Nat) ∧ ∀ e ∈ (stOf a i).2, hs.getD e.2.toNat 0 ≠ -1)
theorem HI.all (h : Shp a l) {hs : List Int} (hI : HI a hs) (h0 : hs.getD 0 0 ≠ -1) : ∀ i, i < a.length → hs.getD i 0 = (Hb.hgt a i : Nat) := by
  have key : ∀ i, i < a.length → hs.getD i 0 ≠ -1 := by
    intro i
    induction i using Nat.strongRecOn with
    | ind i ih =>
      intro hi
      rcases Nat.eq_zero_or_pos i with rfl | hp
      · exact h0
      · obtain ⟨j, hj, e, he, hei⟩ := h.met i hp hi
        rcases hI.ok j (by omega) with h1 | ⟨_, h1⟩
        · exact absurd h1 (ih j hj (by omega))
        · have := h1 e he
          rw [hei, Int.toNat_natCast] at this; exact this
  intro i hi
  exact ((hI.ok i hi).resolve_left (key i hi)).1
theorem getDI_set (hs : List Int) (i j : Nat) (x : Int) (h : i < hs.length) : (hs.set i x).getD j 0 = if i = j then x else hs.getD j 0 := by
  simp only [List.getD_eq_getElem?_getD, List.getElem?_set]
  by_cases e : i = j
  · subst e; rw [if_pos rfl, if_pos h, if_pos rfl]; rfl
  · rw [if_neg e, if_neg e]
theorem HI.put {hs : List Int} (hI : HI a hs) {i : Nat} (hi : i < a.length) (hE : ∀ e ∈ (stOf a i).2, hs.getD e.2.toNat 0 ≠ -1) : HI a (hs.set i (Hb.hgt a i : Nat)) ∧ (∀ j, hs.getD j 0 ≠ -1 → (hs.set i (Hb.hgt a i : Nat)).getD j 0 ≠ -1) ∧ (hs.set i (Hb.hgt a i : Nat)).getD i 0 ≠ -1 := by
  have hl : i < hs.length := by rw [hI.len]; exact hi
  have hmono : ∀ j, hs.getD j 0 ≠ -1 → (hs.set i (Hb.hgt a i : Nat)).getD j 0 ≠ -1 := fun j hj => by
    rw [getDI_set _ _ _ _ hl]
    split
    · omega
    · exact hj
  refine ⟨⟨by rw [List.length_set]; exact hI.len, fun j hj => ?_⟩, hmono, by rw [getDI_set _ _ _ _ hl, if_pos rfl]; omega⟩
  by_cases e : i = j
  · subst e
    exact .inr ⟨by rw [getDI_set _ _ _ _ hl, if_pos rfl], fun e he => hmono _ (hE e he)⟩
  · rcases hI.ok j hj with h1 | ⟨h1, h2⟩
    · left; rw [getDI_set _ _ _ _ hl, if_neg e]; exact h1
    · right; exact ⟨by rw [getDI_set _ _ _ _ hl, if_neg e]; exact h1, fun e he => hmono _ (h2 e he)⟩
/-! the words by their number -/
def edW (a : List EnI) (es : List (UInt8 × Int)) : List (List UInt8) := es.flatMap fun e => (wrds a e.2.toNat).map (e.1 :: ·)
theorem edW_cons (a : List EnI) (e : UInt8 × Int) (es : List (UInt8 × Int)) : edW a (e :: es) = (wrds a e.2.toNat).map (e.1 :: ·) ++ edW a es := List.flatMap_cons
theorem Shp.wrds' (h : Shp a l) {i : Nat} (hi : i < a.length) : Hb.wrds a i = (if (stOf a i).1 = true then [[]] else []) ++ edW a (stOf a i).2 := h.wrds hi
/-- near words ring by ring -/
def ring (L : List Nr) (d : Nat) : List Nr := L.filter fun q => q.2 == d
def rings (L : List Nr) (n : Nat) : List Nr := (List.range n).flatMap (ring L)
theorem rings_succ (L : List Nr) (n : Nat) : rings L (n + 1) = rings L n ++ ring L n := by
  unfold rings; rw [List.range_succ, List.flatMap_append]; simp
theorem ring_key {L : List Nr} {d : Nat} {q : Nr} (h : q ∈ ring L d) : q.2 = d := by
  unfold ring at h
  have := (List.mem_filter.1 h).2
  simpa using this
theorem rings_lt {L : List Nr} {n : Nat} {q : Nr} (h : q ∈ rings L n) : q.2 < n := by
  unfold rings at h
  obtain ⟨d, hd, hq⟩ := List.mem_flatMap.1 h
  rw [ring_key hq]; exact List.mem_range.1 hd
theorem rings_srt (L : List Nr) : ∀ n, Srt (rings L n) := by
  intro n
  induction n with
  | zero => exact List.Pairwise.nil
  | succ n ih =>
    rw [rings_succ]
    refine ih.app ?_ fun x hx y hy => ?_
    · refine List.pairwise_iff_forall_sublist.2 fun {x y} h => ?_
      have hx := ring_key (h.subset (show x ∈ [x, y] by simp))
      have hy := ring_key (h.subset (show y ∈ [x, y] by simp))
      omega
    · have := rings_lt hx
      rw [ring_key hy]; omega
theorem rings_se {L : List Nr} {n : Nat} (h : ∀ q ∈ L, q.2 < n) : SE (rings L n) L := fun d => by
  have key : ∀ m, (rings L m).filter (fun q => q.2 == d) = if d < m then ring L d else [] := by
    intro m
    induction m with
    | zero => rfl
    | succ m ih =>
      rw [rings_succ, List.filter_append, ih]
      by_cases hd : d = m
      · subst hd
        rw [if_neg (by omega), if_pos (by omega), List.nil_append]
        unfold ring; rw [List.filter_filter]; simp
      · have h1 : (ring L m).filter (fun q => q.2 == d) = [] := List.filter_eq_nil_iff.2 fun q hq e => by
          have := ring_key hq
          rw [beq_iff_eq] at e; omega
        rw [h1, List.append_nil]
        by_cases hlt : d < m
        · rw [if_pos hlt, if_pos (by omega)]
        · rw [if_neg hlt, if_neg (by omega)]
  rw [key]
  by_cases hd : d < n
  · rw [if_pos hd]; rfl
  · rw [if_neg hd]
    exact (List.filter_eq_nil_iff.2 fun q hq e => by have := h q hq; rw [beq_iff_eq] at e; omega).symm
theorem isort_rings {L : List Nr} {n : Nat} (h : ∀ q ∈ L, q.2 < n) : isort L = rings L n := isort_eq (rings_srt L n) (rings_se h)
end
end Go.Hb
