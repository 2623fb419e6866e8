/-
  A slice cut to its length and capacity: s[:n:n]. Over any program. No conditions but those that the lemma names.
-/
import Derived.Test.YtbfcjgfnlcbojaaEff
namespace Go.Hb
section
variable {P : Program} {N : Nat} {σ : Nat → Value} {w : World} {dst : Option Nat} {ty : TypeId} {pos : String} {af : Array Edge} {g : Option (Nat × Bool)} {x y z : Operand}
theorem clp {t n len cap : Nat} {a : Option Addr} {k k' : IntKind} (he : elemSize P t = some n) (hx : ev N σ x = .slice a len cap) (hy : ev N σ y = .int k (len : Nat)) (hz : ev N σ z = .int k' (len : Nat)) (h : len ≤ cap) :
    (execOp (ev N σ) ⟨dst, .slice t x none (some y) (some z), ty, pos, af, g⟩).run P w = .ok (.value (.slice a len len)) w := by
  have h0 : (0 : Int) ≤ (len : Int) := by omega
  unfold elemSize at he
  cases hd : P.underlying t with
  | none => rw [hd] at he; cases he
  | some d =>
    rw [hd] at he
    cases d <;> first | (cases he; done) | skip
    rename_i e
    cases hi' : P.info? e with
    | none => simp [hi'] at he
    | some j =>
      have ha : (if len = 0 then a else a.map (·.add 0)) = a := by
        split
        · rfl
        · cases a <;> simp [Addr.add]
      simp only [execOp, Instr.sliceAt, Instr.slice, hx, hy, hz, Option.map_some, Option.map_none, Instr.sliceBounds, Instr.sliceBound, asIntOf]
      simp [run_under hd, run_info hi', sizeOf, h0, ha]
      intro hlt; omega
end
end Go.Hb
