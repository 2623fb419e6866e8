/-
  make([]T, n, n) for elements of one cell. Over any program. No conditions but those that the lemma names.
-/
import Derived.Test.YtbfcjgfnlcbojaaEff
import Derived.Laws.MakeOwn
namespace Go.Hb
open Go.RowKit
section
variable {P : Program} {N : Nat} {σ : Nat → Value} {w : World} {dst : Option Nat} {ty : TypeId} {pos : String} {af : Array Edge} {g : Option (Nat × Bool)} {x y z : Operand} {K : (Nat → Value) → World → Prop}
theorem madeCells_one {zv : Value} (h1 : zv.oneCell' = true) (n : Nat) : madeCells zv.cells n = (List.replicate n zv).toArray := by
  rw [one_cells h1]
  apply Array.ext
  · simp [madeCells]
  · intro i h2 h3
    simp [madeCells, Nat.mod_one]
/-- a new slice of n zero elements -/
theorem mks {t e bytes n : Nat} {kl kc : IntKind} {zv : Value} (ht : sliceOk P t e 1 bytes = true) (hz0 : zeroOf P e = some (some [zv])) (h1 : zv.oneCell' = true) (hx : ev N σ x = .int kl n) (hy : ev N σ y = .int kc n) (hb : bytes * n ≤ 281474976710656) (h63 : n ≤ maxLen)
    (k : ∀ b w', b = w.heap.size → Nw w w' → (∀ B, B ≤ b → w'.ownsRow B e 1 (.slice (some ⟨b, 0, none⟩) n n) n (List.replicate n zv)) → K (updo σ dst (.slice (some ⟨b, 0, none⟩) n n)) w') : wpo P N ⟨dst, .makeSlice t x y, ty, pos, af, g⟩ σ w K := by
  obtain ⟨hu, i, zv', hi, hz, hs, hby, hzs, hpos⟩ := sliceOk_spec ht
  have hzz : zv'.cells = #[zv] := by
    unfold zeroOf at hz0
    simp only [hi, hz, Option.map_some, Option.some.injEq] at hz0
    exact Array.toList_inj.1 (by simpa using hz0)
  refine wpo_new (v := fun b => .slice (some ⟨b, 0, none⟩) n n) (ob := .cells (List.replicate n zv).toArray e (0, 0)) ?_ (fun b w' h2 h3 h4 => k b w' h2 h3 fun B hB => ⟨by simp, .inr ⟨b, n, _, rfl, hB, h4, Nat.le_refl _, h63, by simp, by simp⟩⟩)
  have hr := run_make (P := P) w t e i zv' hu hi hz kl kc n n (by omega) (Int.le_refl _) (by rw [hby, ← Int.natCast_mul]; omega) (by unfold maxLen at h63; omega)
  rw [hzz, hs, Nat.mul_one, Int.toNat_natCast, show madeCells #[zv] n = (List.replicate n zv).toArray by rw [← madeCells_one h1, one_cells h1]] at hr
  simp [execOp, hx, hy, hr]
end
end Go.Hb
