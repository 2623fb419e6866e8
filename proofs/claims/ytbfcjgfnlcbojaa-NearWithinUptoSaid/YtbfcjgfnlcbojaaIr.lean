/-
  Rows of own slices that lie apart; states by their height. Over any program. No conditions but those that each lemma names.
-/
import Derived.Test.YtbfcjgfnlcbojaaHgt
namespace Go.Hb
open Go.RowKit

/-- slices of the call's own, in blocks of their own -/
structure IR {X : Type} (enc : X → Value) (e : Nat) (w : World) (B : Nat) (vs : List Value) (ls : List (List X)) : Prop where
  len : vs.length = ls.length
  st : ∀ (j : Nat) vj, vs[j]? = some vj → w.ownsRow B e 1 vj (ls.getD j []).length ((ls.getD j []).map enc)
  sep : ∀ (j k : Nat) vj vk, j ≠ k → vs[j]? = some vj → vs[k]? = some vk → ∀ q, vj.ownBlock = some q → vk.ownBlock ≠ some q
section
variable {X : Type} {enc : X → Value} {e : Nat} {w w' : World} {B : Nat} {vs : List Value} {ls : List (List X)}
theorem IR.wk (h : IR enc e w B vs ls) (hm : Wk w w') : IR enc e w' B vs ls := ⟨h.len, fun j vj hj => own_nw (h.st j vj hj) hm, h.sep⟩
theorem IR.md {F : Nat → Prop} (h : IR enc e w B vs ls) (hm : Md F w w') (hf : ∀ (v : Value) n xs, w.ownsRow B e 1 v n xs → ∀ q, v.ownBlock = some q → ¬ F q) : IR enc e w' B vs ls :=
  ⟨h.len, fun j vj hj => own_md (h.st j vj hj) hm (hf _ _ _ (h.st j vj hj)), h.sep⟩
theorem IR.nil : IR enc e w B [] [] := ⟨rfl, fun j vj h => by simp at h, fun j k vj vk _ h => by simp at h⟩
theorem IR.push (h : IR enc e w B vs ls) : IR enc e w B (vs ++ [.slice none 0 0]) (ls ++ [[]]) := by
  have hg : ∀ (j : Nat) vj, (vs ++ [Value.slice none 0 0])[j]? = some vj → vs[j]? = some vj ∨ (j = vs.length ∧ vj = .slice none 0 0) := fun j vj hj => by
    rw [List.getElem?_append] at hj
    split at hj
    · exact .inl hj
    · obtain ⟨h1, h2⟩ := List.getElem?_eq_some_iff.1 hj
      simp only [List.length_singleton] at h1
      simp only [List.getElem_singleton] at h2
      exact .inr ⟨by omega, h2.symm⟩
  refine ⟨by rw [List.length_append, List.length_append, h.len]; rfl, fun j vj hj => ?_, fun j k vj vk hne hj hk q h1 h2 => ?_⟩
  · rcases hg j vj hj with h1 | ⟨rfl, rfl⟩
    · have hl := (List.getElem?_eq_some_iff.1 h1).1
      rw [List.getD_eq_getElem?_getD, List.getElem?_append_left (by rw [← h.len]; exact hl), ← List.getD_eq_getElem?_getD]
      exact h.st j vj h1
    · rw [List.getD_eq_getElem?_getD, List.getElem?_append_right (by rw [h.len]; exact Nat.le_refl _), h.len, Nat.sub_self]
      exact World.ownsRow_nil _ _ _ _
  · rcases hg j vj hj with h3 | ⟨rfl, rfl⟩
    · rcases hg k vk hk with h4 | ⟨rfl, rfl⟩
      · exact h.sep j k vj vk hne h3 h4 q h1 h2
      · simp [Value.ownBlock] at h2
    · simp [Value.ownBlock] at h1
/-- one of them is appended to -/
theorem IR.upd (h : IR enc e w B vs ls) {j : Nat} {vj v' : Value} {x : X} (hj : vs[j]? = some vj) (ho : w'.ownsRow B e 1 v' ((ls.getD j []).length + 1) ((ls.getD j []).map enc ++ [enc x])) (hm : Md (fun q => vj.ownBlock = some q) w w') (hf : ∀ q, v'.ownBlock = some q → vj.ownBlock = some q ∨ w.heap.size ≤ q) :
    IR enc e w' B (vs.set j v') (ls.set j (ls.getD j [] ++ [x])) := by
  have hjl := (List.getElem?_eq_some_iff.1 hj).1
  have hg : ∀ (k : Nat) vk, (vs.set j v')[k]? = some vk → (k = j ∧ vk = v') ∨ (k ≠ j ∧ vs[k]? = some vk) := fun k vk hk => by
    rw [List.getElem?_set] at hk
    by_cases e : j = k
    · rw [if_pos e, if_pos hjl] at hk
      cases hk; exact .inl ⟨e.symm, rfl⟩
    · rw [if_neg e] at hk
      exact .inr ⟨fun h => e h.symm, hk⟩
  refine ⟨by rw [List.length_set, List.length_set]; exact h.len, fun k vk hk => ?_, fun k k2 vk vk2 hne hk hk2 q h1 h2 => ?_⟩
  · rcases hg k vk hk with ⟨rfl, rfl⟩ | ⟨hne, hk⟩
    · rw [List.getD_eq_getElem?_getD, List.getElem?_set, if_pos rfl, if_pos (by rw [← h.len]; exact hjl), Option.getD_some, List.length_append, List.map_append]
      exact ho
    · rw [List.getD_eq_getElem?_getD, List.getElem?_set, if_neg (fun e => hne e.symm), ← List.getD_eq_getElem?_getD]
      exact own_md (h.st k vk hk) hm (fun q hq hq2 => h.sep k j vk vj hne hk hj q hq hq2)
  · rcases hg k vk hk with ⟨rfl, rfl⟩ | ⟨hn1, hj1⟩
    · rcases hg k2 vk2 hk2 with ⟨rfl, rfl⟩ | ⟨hn2, hj2⟩
      · exact hne rfl
      · rcases hf q h1 with h3 | h3
        · exact h.sep k k2 vj vk2 (fun e => hn2 e.symm) hj hj2 q h3 h2
        · have := (own_lt (h.st k2 vk2 hj2) h2).2; omega
    · rcases hg k2 vk2 hk2 with ⟨rfl, rfl⟩ | ⟨hn2, hj2⟩
      · rcases hf q h2 with h3 | h3
        · exact h.sep k k2 vk vj hn1 hj1 hj q h1 h3
        · have := (own_lt (h.st k vk hj1) h1).2; omega
      · exact h.sep k k2 vk vk2 hne hj1 hj2 q h1 h2
theorem IR.get (h : IR enc e w B vs ls) {j : Nat} (hj : j < vs.length) : ∃ aj cj, vs[j]? = some (.slice aj (ls.getD j []).length cj) ∧ Cells w.heap aj ((ls.getD j []).map enc) := by
  have h1 := List.getElem?_eq_getElem hj
  obtain ⟨aj, cj, hv, hc, _⟩ := own_cells (h.st j _ h1)
  exact ⟨aj, cj, by rw [h1, hv], hc⟩
end
/-! states by their height -/
def BHf (a : List EnI) (i d : Nat) : List Nat := (List.range i).filter fun j => hgt a j == d
theorem BHf_zero (a : List EnI) (d : Nat) : BHf a 0 d = [] := rfl
theorem BHf_yes {a : List EnI} (i : Nat) : BHf a (i + 1) (hgt a i) = BHf a i (hgt a i) ++ [i] := by
  unfold BHf; rw [List.range_succ, List.filter_append]; simp
theorem BHf_no {a : List EnI} {i d : Nat} (h : hgt a i ≠ d) : BHf a (i + 1) d = BHf a i d := by
  unfold BHf; rw [List.range_succ, List.filter_append]; simp [h]
theorem BHf_len (a : List EnI) (i d : Nat) : (BHf a i d).length ≤ i := by
  unfold BHf
  have := List.length_filter_le (fun j => hgt a j == d) (List.range i)
  rw [List.length_range] at this; exact this
theorem BHf_mem {a : List EnI} {i d j : Nat} : j ∈ BHf a i d ↔ j < i ∧ hgt a j = d := by
  unfold BHf; rw [List.mem_filter, List.mem_range, beq_iff_eq]
theorem BHf_nd (a : List EnI) (i d : Nat) : (BHf a i d).Nodup := List.Nodup.sublist List.filter_sublist List.nodup_range
theorem BH_set {a : List EnI} {i m : Nat} (hi : hgt a i < m) : (tab m (BHf a i)).set (hgt a i) ((tab m (BHf a i)).getD (hgt a i) [] ++ [i]) = tab m (BHf a (i + 1)) := by
  refine tab_set ?_ fun j _ hne => BHf_no (fun e => hne e.symm)
  rw [BHf_yes, List.getD_eq_getElem?_getD, tab_get _ hi]; rfl
theorem tab_getD {α : Type} {n i : Nat} (f : Nat → α) (d : α) (h : i < n) : (tab n f).getD i d = f i := by rw [List.getD_eq_getElem?_getD, tab_get f h]; rfl
/-- the counts when the heights below k are done, and the first j of height k -/
def CK (a : List EnI) (f : Nat → Nat) (k j : Nat) : Prop := ∀ i, i < a.length → f i = if hgt a i < k ∨ (hgt a i = k ∧ i ∈ (BHf a a.length k).take j) then cnt a i else 0
theorem CK.zero (a : List EnI) : CK a (fun _ => 0) 0 0 := fun i hi => by rw [if_neg (by simp)]
theorem CK.next {a : List EnI} {f : Nat → Nat} {k j : Nat} (h : CK a f k j) (hj : (BHf a a.length k).length ≤ j) : CK a f (k + 1) 0 := fun i hi => by
  rw [h i hi, List.take_of_length_le hj]
  by_cases h1 : hgt a i < k
  · rw [if_pos (.inl h1), if_pos (.inl (by omega))]
  · by_cases h2 : hgt a i = k
    · rw [if_pos (.inr ⟨h2, BHf_mem.2 ⟨hi, h2⟩⟩), if_pos (.inl (by omega))]
    · rw [if_neg (fun h => h.elim h1 (fun h => h2 h.1)), if_neg (fun h => h.elim (fun h => by omega) (fun h => by simp at h))]
theorem CK.step {a : List EnI} {f : Nat → Nat} {k j x : Nat} (h : CK a f k j) (hx : (BHf a a.length k)[j]? = some x) : CK a (fun i => if i = x then cnt a x else f i) k (j + 1) := fun i hi => by
  have hk := (BHf_mem.1 (List.mem_of_getElem? hx)).2
  rw [take_some hx]
  show (if i = x then cnt a x else f i) = _
  by_cases e : i = x
  · subst e
    rw [if_pos rfl, if_pos (.inr ⟨hk, by simp⟩)]
  · rw [if_neg e, h i hi]
    have : (hgt a i < k ∨ hgt a i = k ∧ i ∈ (BHf a a.length k).take j) ↔ (hgt a i < k ∨ hgt a i = k ∧ i ∈ (BHf a a.length k).take j ++ [x]) := by
      simp [e]
    by_cases h1 : hgt a i < k ∨ hgt a i = k ∧ i ∈ (BHf a a.length k).take j
    · rw [if_pos h1, if_pos (this.1 h1)]
    · rw [if_neg h1, if_neg (fun h => h1 (this.2 h))]
theorem CK.at_ {a : List EnI} {f : Nat → Nat} {k j x : Nat} (h : CK a f k j) (hx : (BHf a a.length k)[j]? = some x) : f x = 0 := by
  obtain ⟨h1, h2⟩ := BHf_mem.1 (List.mem_of_getElem? hx)
  rw [h x h1, if_neg]
  rintro (h3 | ⟨_, h3⟩)
  · omega
  · obtain ⟨hj, rfl⟩ := List.getElem?_eq_some_iff.1 hx
    obtain ⟨i, hi, he⟩ := List.mem_iff_getElem.1 h3
    rw [List.length_take] at hi
    rw [List.getElem_take] at he
    have := (List.getElem_inj (BHf_nd a a.length k)).1 he
    omega
theorem CK.low {a : List EnI} {f : Nat → Nat} {k j i : Nat} (h : CK a f k j) (hi : i < a.length) (hk : hgt a i < k) : f i = cnt a i := by rw [h i hi, if_pos (.inl hk)]
end Go.Hb
