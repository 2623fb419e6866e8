/-
  Rows of natural numbers in memory; the least of three. Over any program. No conditions but those that each lemma names.
-/
import Derived.Test.YtbfcjgfnlcbojaaMake
import Derived.Test.YtbfcjgfnlcbojaaLev
namespace Go.Hb
open Go.RowKit

/-- a natural number as an int -/
def nv (n : Nat) : Value := .int .i64 n
theorem nv_cel {h : Array Obj} {a : Option Addr} {r : List Nat} {i x : Nat} (hc : Cells h a (r.map nv)) (hi : r[i]? = some x) : cel h (bk a) (fo a + i * 1) = some (.int .i64 (x : Nat)) := by
  rw [Nat.mul_one]; exact hc.cel _ _ (by rw [List.getElem?_map, hi]; rfl)
theorem nv_celi {h : Array Obj} {a : Option Addr} {r : List Nat} {i x : Nat} (hc : Cells h a (r.map nv)) (hi : r[i]? = some x) : cel h (bk a) (fo a + (i : Int).toNat * 1) = some (.int .i64 (x : Nat)) := nv_cel hc hi
theorem tab_cel {h : Array Obj} {a : Option Addr} {n i : Nat} {f : Nat → Nat} (hc : Cells h a ((tab n f).map nv)) (hi : i < n) : cel h (bk a) (fo a + i * 1) = some (.int .i64 (f i : Nat)) := nv_cel hc (tab_get f hi)
theorem tab_celi {h : Array Obj} {a : Option Addr} {n i : Nat} {f : Nat → Nat} (hc : Cells h a ((tab n f).map nv)) (hi : i < n) : cel h (bk a) (fo a + (i : Int).toNat * 1) = some (.int .i64 (f i : Nat)) := tab_cel hc hi
theorem ne_nv {r : List Nat} (h : 0 < r.length) : r.map nv ≠ [] := ne_map h
theorem ne_tab {n : Nat} {f : Nat → Nat} (h : 0 < n) : (tab n f).map nv ≠ [] := ne_map (by rw [tab_len]; exact h)
theorem tab_nvset {n i x : Nat} {f g : Nat → Nat} (h1 : g i = x) (h2 : ∀ j, j < n → j ≠ i → g j = f j) : ((tab n f).map nv).set i (.int .i64 (x : Nat)) = (tab n g).map nv := by
  rw [← tab_set (f := f) h1 h2, List.map_set]; rfl
theorem rep_nv (n : Nat) : List.replicate n (Value.int .i64 0) = (tab n (fun _ => 0)).map nv := by rw [← tab_rep, List.map_replicate]; rfl
theorem set_nv (r : List Nat) (i x : Nat) : (r.map nv).set i (.int .i64 (x : Nat)) = (r.set i x).map nv := by rw [List.map_set]; rfl
section
variable {P : Program} {N : Nat} {σ : Nat → Value} {w : World} {dst : Option Nat} {ty : TypeId} {pos : String} {af : Array Edge} {g : Option (Nat × Bool)} {x y z : Operand}
theorem mn3 {k : IntKind} {a b c : Int} {at_ : Array TypeId} (hx : ev N σ x = .int k a) (hy : ev N σ y = .int k b) (hz : ev N σ z = .int k c) :
    (execOp (ev N σ) ⟨dst, .call ⟨.builtin .min, #[x, y, z], at_⟩, ty, pos, af, g⟩).run P w = .ok (.value (.int k (min (min a b) c))) w := by
  have h1 : (if b < a then b else a) = min a b := by omega
  have h2 : (if c < min a b then c else min a b) = min (min a b) c := by omega
  simp [execOp, resolve, invoke, builtin, Builtin.min_, Builtin.min2, hx, hy, hz, h1, h2]
/-- a number laid into a row of the call's own -/
theorem stn {K : (Nat → Value) → World → Prop} {t B e n cap off i v : Nat} {a : Option Addr} {f : Nat → Nat} (hown : w.ownsRow B e 1 (.slice a n cap) n ((tab n f).map nv)) (gx : Nat → Nat) (hz : cellsN P t = some 1) (hx : ev N σ x = .pointer (some ⟨bk a, off, none⟩)) (hy : ev N σ y = .int .i64 (v : Nat))
    (hj : off = fo a + i * 1) (hl : i < n) (h1 : gx i = v) (h2 : ∀ j, j < n → j ≠ i → gx j = f j)
    (k : ∀ w', Md (fun k => (Value.slice a n cap).ownBlock = some k) w w' → w'.ownsRow B e 1 (.slice a n cap) n ((tab n gx).map nv) → K σ w') : wpo P N ⟨none, .store t x y, ty, pos, af, g⟩ σ w K :=
  sto (j := i) hown hz hx hy rfl (by rw [hj, Nat.mul_one]) (by omega) fun w' hM ho => k w' hM (by rw [tab_nvset h1 h2] at ho; exact ho)
/-- the same into a list -/
theorem stl {K : (Nat → Value) → World → Prop} {t B e n cap off i v : Nat} {a : Option Addr} {r : List Nat} (hown : w.ownsRow B e 1 (.slice a n cap) n (r.map nv)) (hz : cellsN P t = some 1) (hx : ev N σ x = .pointer (some ⟨bk a, off, none⟩)) (hy : ev N σ y = .int .i64 (v : Nat))
    (hj : off = fo a + i * 1) (hl : i < n)
    (k : ∀ w', Md (fun k => (Value.slice a n cap).ownBlock = some k) w w' → w'.ownsRow B e 1 (.slice a n cap) n ((r.set i v).map nv) → K σ w') : wpo P N ⟨none, .store t x y, ty, pos, af, g⟩ σ w K :=
  sto (j := i) hown hz hx hy rfl (by rw [hj, Nat.mul_one]) (by omega) fun w' hM ho => k w' hM (by rw [set_nv] at ho; exact ho)
end
end Go.Hb
