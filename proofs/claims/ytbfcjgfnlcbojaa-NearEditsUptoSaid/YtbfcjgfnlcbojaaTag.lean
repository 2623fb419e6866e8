/-
  Blocks told apart by their types: what writes blocks of some types leaves those of others. Over any program. No conditions but those that each lemma names.
-/
import Derived.Test.YtbfcjgfnlcbojaaMap
import Derived.Test.YtbfcjgfnlcbojaaStr
namespace Go.Hb
open Go.RowKit

/-- what kind of block: a map 1, cells by their type -/
def tag (w : World) (k : Nat) : Nat := match w.heap[k]? with | some (.cells _ t _) => t + 2 | some (.map _ _) => 1 | _ => 0
theorem tag_cells {w : World} {k t : Nat} {cs : Array Value} {z : Nat × Nat} (h : w.heap[k]? = some (.cells cs t z)) : tag w k = t + 2 := by unfold tag; rw [h]
theorem tag_map {w : World} {k : Nat} {kvs : List (Value × Value)} (h : MapIs w.heap k kvs) : tag w k = 1 := by
  obtain ⟨es, c, h, _⟩ := h
  unfold tag; rw [h]
theorem tag_own {w : World} {B e size n k : Nat} {v : Value} {xs : List Value} (h : w.ownsRow B e size v n xs) (hk : v.ownBlock = some k) : tag w k = e + 2 := by
  rcases h.2 with ⟨rfl, _⟩ | ⟨g, cap, cur, rfl, _, hg, _⟩
  · simp [Value.ownBlock] at hk
  · simp only [Value.ownBlock, Option.some.injEq] at hk; subst hk
    exact tag_cells hg
theorem tne {w : World} {a b x y : Nat} (ha : tag w a = x) (hb : tag w b = y) (h : x ≠ y) : a ≠ b := by
  rintro rfl; exact h (ha.symm.trans hb)
/-- the blocks of F are of the kinds L -/
def TF (w : World) (L : List Nat) (F : Nat → Prop) : Prop := ∀ k, F k → L.contains (tag w k) = true
theorem TF.no {w : World} {L : List Nat} {F : Nat → Prop} (h : TF w L F) {k t : Nat} (ht : tag w k = t) (hl : L.contains t = false) : ¬ F k := fun hk => by
  have := h k hk
  rw [ht, hl] at this; cases this
theorem TF.or {w : World} {L : List Nat} {F G : Nat → Prop} (h : TF w L F) (h' : TF w L G) : TF w L (fun k => F k ∨ G k) := fun k hk => by
  rcases hk with hk | hk
  · exact h k hk
  · exact h' k hk
theorem TF.eq {w : World} {L : List Nat} {b t : Nat} (ht : tag w b = t) (hl : L.contains t = true) : TF w L (fun k => k = b) := fun k hk => by
  subst hk; rw [ht]; exact hl
theorem TF.own {w : World} {L : List Nat} {B e size n : Nat} {v : Value} {xs : List Value} (h : w.ownsRow B e size v n xs) (hl : L.contains (e + 2) = true) : TF w L (fun k => v.ownBlock = some k) := fun k hk => by
  rw [tag_own h hk]; exact hl
theorem TF.mono {w : World} {L : List Nat} {F G : Nat → Prop} (h : TF w L F) (hg : ∀ k, G k → F k) : TF w L G := fun k hk => h k (hg k hk)
theorem Md.blkT {F : Nat → Prop} {w w' : World} {L : List Nat} {k t : Nat} {cs : Array Value} {z : Nat × Nat} (hm : Md F w w') (hT : TF w L F) (h : w.heap[k]? = some (.cells cs t z)) (hl : L.contains (t + 2) = false) : w'.heap[k]? = some (.cells cs t z) := hm.blk h (hT.no (tag_cells h) hl)
theorem own_mdT {F : Nat → Prop} {w w' : World} {L : List Nat} {B e size n : Nat} {v : Value} {xs : List Value} (h : w.ownsRow B e size v n xs) (hm : Md F w w') (hT : TF w L F) (hl : L.contains (e + 2) = false) : w'.ownsRow B e size v n xs := own_md h hm (fun _ hk => hT.no (tag_own h hk) hl)
theorem MapIs.mdT {F : Nat → Prop} {w w' : World} {L : List Nat} {b : Nat} {kvs : List (Value × Value)} (h : MapIs w.heap b kvs) (hm : Md F w w') (hT : TF w L F) (hl : L.contains 1 = false) : MapIs w'.heap b kvs := h.md hm (hT.no (tag_map h) hl)
theorem Md.tag {F : Nat → Prop} {w w' : World} (hm : Md F w w') {k : Nat} (hk : k < w.heap.size) (hf : ¬ F k) : Hb.tag w' k = Hb.tag w k := by
  unfold Hb.tag; rw [hm.keep k hk hf]
theorem Wk.tag {w w' : World} (hm : Wk w w') {k : Nat} (hk : k < w.heap.size) : Hb.tag w' k = Hb.tag w k := Md.tag hm hk id
end Go.Hb
