/-
  Near words of an automaton, plain; rows of a word and a number in memory. No program in sight; no conditions but those that each lemma names.
-/
import Derived.Test.YtbfcjgfnlcbojaaSts
import Derived.Test.YtbfcjgfnlcbojaaTag
namespace Go.Hb
open Go.RowKit

abbrev Nr : Type := List UInt8 × Nat
/-- those of a list that are near enough, each with its distance -/
def fnd (ws : List UInt8) (k : Nat) (L : List (List UInt8)) : List Nr := L.filterMap fun v => if dist ws v ≤ k then some (v, dist ws v) else none
/-- what is found from a state on, behind a beginning -/
def foundAt (a : List EnI) (ws : List UInt8) (k : Nat) (t : List UInt8) (i : Nat) : List Nr := fnd ws k ((wrds a i).map (t ++ ·))
theorem fnd_app (ws : List UInt8) (k : Nat) (L M : List (List UInt8)) : fnd ws k (L ++ M) = fnd ws k L ++ fnd ws k M := List.filterMap_append
theorem fnd_len (ws : List UInt8) (k : Nat) (L : List (List UInt8)) : (fnd ws k L).length ≤ L.length := List.length_filterMap_le _ _
def own1 (a : List EnI) (ws : List UInt8) (k : Nat) (t : List UInt8) (i : Nat) : List Nr := if (stOf a i).1 = true ∧ dist ws t ≤ k then [(t, dist ws t)] else []
theorem foundAt_eq {a : List EnI} {l : List Nat} (h : Shp a l) {i : Nat} (hi : i < a.length) (ws : List UInt8) (k : Nat) (t : List UInt8) :
    foundAt a ws k t i = own1 a ws k t i ++ (stOf a i).2.flatMap fun e => foundAt a ws k (t ++ [e.1]) e.2.toNat := by
  unfold foundAt own1
  rw [h.wrds hi, List.map_append, fnd_app]
  congr 1
  · by_cases h1 : (stOf a i).1 = true
    · rw [if_pos h1]
      unfold fnd
      simp only [List.map_cons, List.map_nil, List.append_nil, List.filterMap_cons, List.filterMap_nil]
      by_cases h2 : dist ws t ≤ k
      · rw [if_pos h2, if_pos ⟨h1, h2⟩]
      · rw [if_neg h2, if_neg (fun e => h2 e.2)]
    · rw [if_neg h1, if_neg (fun e => h1 e.1)]; rfl
  · generalize (stOf a i).2 = es
    induction es with
    | nil => rfl
    | cons e es ih =>
      rw [List.flatMap_cons, List.flatMap_cons, List.map_append, fnd_app, ih, List.map_map]
      congr 2
      apply List.map_congr_left
      intro x _
      simp
/-- nothing is found where the least of the row is too great -/
theorem foundAt_none {a : List EnI} {ws t : List UInt8} {k i : Nat} (h : ∀ j, j ≤ ws.length → k + 1 ≤ dd ws t j t.length) : foundAt a ws k t i = [] := by
  unfold foundAt fnd
  rw [List.filterMap_eq_nil_iff]
  intro v hv
  obtain ⟨u, _, rfl⟩ := List.mem_map.1 hv
  have h1 := row_min_app h u ws.length (Nat.le_refl _)
  rw [if_neg]
  unfold dist; omega
def foundE (a : List EnI) (ws : List UInt8) (k : Nat) (t : List UInt8) (es : List (UInt8 × Int)) : List Nr := es.flatMap fun e => foundAt a ws k (t ++ [e.1]) e.2.toNat
theorem foundE_step {a : List EnI} {ws t : List UInt8} {k q : Nat} {es : List (UInt8 × Int)} {e : UInt8 × Int} (he : es[q]? = some e) : foundE a ws k t (es.take (q + 1)) = foundE a ws k t (es.take q) ++ foundAt a ws k (t ++ [e.1]) e.2.toNat := by
  obtain ⟨hk, rfl⟩ := List.getElem?_eq_some_iff.1 he
  rw [List.take_succ_eq_append_getElem hk]
  unfold foundE; rw [List.flatMap_append]; simp
theorem foundE_le {a : List EnI} {ws t : List UInt8} {k q : Nat} {es : List (UInt8 × Int)} {e : UInt8 × Int} (he : es[q]? = some e) : (foundE a ws k t (es.take q)).length + (foundAt a ws k (t ++ [e.1]) e.2.toNat).length ≤ (foundE a ws k t es).length := by
  have h1 : es = es.take (q + 1) ++ es.drop (q + 1) := (List.take_append_drop _ _).symm
  have h2 : foundE a ws k t es = foundE a ws k t (es.take (q + 1)) ++ foundE a ws k t (es.drop (q + 1)) := by
    unfold foundE; rw [← List.flatMap_append, ← h1]
  rw [h2, foundE_step he, List.length_append, List.length_append]; omega

/-! rows of a word and a number -/
def nfl (l : List Nr) : List Value := l.flatMap fun q => [str q.1, nv q.2]
theorem nfl_len (l : List Nr) : (nfl l).length = l.length * 2 := flat_len (f := fun q : Nr => [str q.1, nv q.2]) (m := 2) (fun _ => rfl) l
theorem nfl_app (l m : List Nr) : nfl (l ++ m) = nfl l ++ nfl m := List.flatMap_append
theorem nfl_one (l : List Nr) : (nfl l).all Value.oneCell' = true := flat_one (f := fun q : Nr => [str q.1, nv q.2]) (fun _ => rfl) l
theorem nfl_ne {l : List Nr} (h : 0 < l.length) : nfl l ≠ [] := flat_ne (f := fun q : Nr => [str q.1, nv q.2]) (m := 2) (fun _ => rfl) (by decide) h
theorem nfl_cells {h : Array Obj} {ad : Option Addr} {l : List Nr} {i : Nat} {t : List UInt8} {d : Nat} (hc : Cells h ad (nfl l)) (hl : l[i]? = some (t, d)) : ∀ j, j < 2 → Hb.cel h (bk ad) (fo ad + i * 2 + j) = [str t, .int .i64 d][j]? :=
  flat_cells (f := fun q : Nr => [str q.1, nv q.2]) (m := 2) (fun _ => rfl) hc hl
/-- an own slice cut to what stands ahead -/
theorem own_cut {w : World} {B t size n cap k : Nat} {ad : Option Addr} {xs : List Value} (h : w.ownsRow B t size (.slice ad n cap) n xs) (hk : k ≤ n) (h0 : 0 < n) : w.ownsRow B t size (.slice ad k cap) k (xs.take (k * size)) := by
  have hks : k * size ≤ n * size := Nat.mul_le_mul_right _ hk
  obtain ⟨hl, h | ⟨g, cp, cur, h1, h2, h3, h4, h5, h6, h7⟩⟩ := h
  · have := h.1
    simp only [Value.slice.injEq] at this; omega
  · simp only [Value.slice.injEq, true_and] at h1
    obtain ⟨rfl, rfl⟩ := h1
    exact ⟨by rw [List.length_take, hl]; omega, .inr ⟨g, cap, cur, rfl, h2, h3, by omega, h5, h6, by rw [← h7, List.take_take, show min (k * size) (n * size) = k * size from by omega]⟩⟩
theorem own_cellne' {w : World} {B t size n pp t' : Nat} {v : Value} {xs : List Value} {cs : Array Value} {z : Nat × Nat} (h : w.ownsRow B t size v n xs) (hp : w.heap[pp]? = some (.cells cs t' z)) (hne : t ≠ t') : v.ownBlock ≠ some pp := by
  intro hk
  rcases h.2 with ⟨h1, _⟩ | ⟨g, cap, cur, h1, _, hg, _⟩
  · rw [h1] at hk; simp [Value.ownBlock] at hk
  · rw [h1] at hk; simp only [Value.ownBlock, Option.some.injEq] at hk; subst hk
    rw [hg] at hp
    simp only [Option.some.injEq, Obj.cells.injEq] at hp
    exact hne hp.2.1
end Go.Hb
