/-
  Walks of hornbooklaw18.same and its like. No conditions but those that each theorem names.
-/
import Derived.Test.YtbfcjgfnlcbojaaChecked
import Derived.Test.YtbfcjgfnlcbojaaCore
import Derived.Test.YtbfcjgfnlcbojaaVisit
import Derived.Test.YtbfcjgfnlcbojaaReg
import Derived.Test.YtbfcjgfnlcbojaaCut
import Derived.Test.YtbfcjgfnlcbojaaNumb
import Derived.Test.YtbfcjgfnlcbojaaFin
import Derived.Test.YtbfcjgfnlcbojaaBuild
import Derived.Test.YtbfcjgfnlcbojaaAdd
import Derived.Test.YtbfcjgfnlcbojaaAdds
import Derived.Test.YtbfcjgfnlcbojaaPlan
set_option maxRecDepth 20000
set_option linter.unusedVariables false
namespace Go.Hb.Same
open Go.Proofs
open Go.Hb.Visit Go.Hb.Reg Go.Hb.Cut Go.Hb.Numb Go.Hb.Fin Go.Hb.Build Go.Hb.Add Go.Hb.Adds

/-- states that can be read in memory -/
structure SR (w : World) (aa : Option Addr) (svs : List (Bool × Value)) (sts : List Ent) : Prop where
  len : sts.length = svs.length
  cells : Cells w.heap aa (sflat svs)
  st : ∀ (i : Nat) p q, sts[i]? = some p → svs[i]? = some q → p.1 = q.1 ∧ ∃ ea ec, q.2 = .slice ea p.2.length ec ∧ Cells w.heap ea (eflat p.2)
theorem SR.md {F : Nat → Prop} {w w' : World} {aa : Option Addr} {svs : List (Bool × Value)} {sts : List Ent} (h : SR w aa svs sts) (hm : Md F w w') (h1 : svs ≠ [] → ¬ F (bk aa)) (h2 : ∀ q ∈ svs, ∀ ea n ec, q.2 = .slice ea n ec → n ≠ 0 → ¬ F (bk ea)) : SR w' aa svs sts :=
  ⟨h.len, h.cells.md hm (fun hne => h1 (by rintro rfl; exact hne rfl)), fun i p q hp hq => by
    obtain ⟨g1, ea, ec, g2, g3⟩ := h.st i p q hp hq
    exact ⟨g1, ea, ec, g2, g3.md hm (fun hne => h2 q (List.mem_of_getElem? hq) ea _ ec g2 (by intro h0; exact hne (by rw [List.eq_nil_of_length_eq_zero h0]; rfl)))⟩⟩
theorem SR.wk {w w' : World} {aa : Option Addr} {svs : List (Bool × Value)} {sts : List Ent} (h : SR w aa svs sts) (hm : Wk w w') : SR w' aa svs sts := h.md hm (fun _ x => x) (fun _ _ _ _ _ _ _ x => x)
theorem SR.of {E B size t : Nat} {w : World} {v : Value} {svs : List (Bool × Value)} {sts : List Ent} (h : w.ownsRow B t size v svs.length (sflat svs)) (hs : StsT E w B sts svs) : ∃ aa c, v = .slice aa svs.length c ∧ SR w aa svs sts := by
  obtain ⟨aa, c, hv, hc, _⟩ := own_cells h
  refine ⟨aa, c, hv, hs.1, hc, fun i p q hp hq => ?_⟩
  obtain ⟨g1, g2⟩ := hs.2 i p q hp hq
  obtain ⟨ea, ec, g3, g4, _⟩ := own_cells g2
  exact ⟨g1, ea, ec, g3, g4⟩
theorem sflat_get {l : List (Bool × Value)} {i c : Nat} {q : Bool × Value} (h : l[i]? = some q) (hc : c < 2) : (sflat l)[i * 2 + c]? = [Value.bool q.1, q.2][c]? := flat_get (f := fun q : Bool × Value => [.bool q.1, q.2]) (m := 2) (fun _ => rfl) h hc
theorem eflat_get {l : List (UInt8 × Nat)} {i c : Nat} {q : UInt8 × Nat} (h : l[i]? = some q) (hc : c < 2) : (eflat l)[i * 2 + c]? = [Value.int .u8 q.1.toNat, .int .i64 q.2][c]? := flat_get (f := fun e : UInt8 × Nat => [Value.int .u8 e.1.toNat, .int .i64 e.2]) (m := 2) (fun _ => rfl) h hc
theorem SR.get {w : World} {aa : Option Addr} {svs : List (Bool × Value)} {sts : List Ent} (h : SR w aa svs sts) {i : Nat} (hi : i < svs.length) : ∃ f ea ec, svs[i]? = some (f, .slice ea (sts.getD i dE).2.length ec) ∧ (sts.getD i dE).1 = f ∧ Cells w.heap ea (eflat (sts.getD i dE).2) := by
  have h1 : sts[i]? = some (sts.getD i dE) := by rw [getD_get dE (by rw [h.len]; exact hi), List.getElem?_eq_getElem (by rw [h.len]; exact hi)]
  obtain ⟨g1, ea, ec, g2, g3⟩ := h.st i _ svs[i] h1 (List.getElem?_eq_getElem hi)
  refine ⟨_, ea, ec, ?_, g1, g3⟩
  rw [List.getElem?_eq_getElem hi, ← g2]
theorem sflat_ne {l : List (Bool × Value)} (h : 0 < l.length) : sflat l ≠ [] := flat_ne (f := fun q : Bool × Value => [.bool q.1, q.2]) (m := 2) (fun _ => rfl) (by decide) h
theorem eflat_ne {l : List (UInt8 × Nat)} (h : 0 < l.length) : eflat l ≠ [] := flat_ne (f := fun e : UInt8 × Nat => [Value.int .u8 e.1.toNat, .int .i64 e.2]) (m := 2) (fun _ => rfl) (by decide) h
theorem cel2 {h : Array Obj} {a : Option Addr} {xs : List Value} (hc : Cells h a xs) {i c : Nat} {v : Value} (hx : xs[i * 2 + c]? = some v) : cel h (bk a) (fo a + i * 2 + c) = some v := by
  rw [Nat.add_assoc]; exact hc.cel _ _ hx
theorem take_snoc_eq {α : Type} {l l' : List α} {i : Nat} {d : α} (h1 : i < l.length) (h2 : i < l'.length) (h : l.take i = l'.take i) (he : l.getD i d = l'.getD i d) : l.take (i + 1) = l'.take (i + 1) := by
  rw [take_succ_getD l i d h1, take_succ_getD l' i d h2, h, he]
theorem edge_ext {e e' : UInt8 × Nat} (h1 : (e.1.toNat : Int) = e'.1.toNat) (h2 : (e.2 : Int) = e'.2) : e = e' := Prod.ext (u8eq h1) (by omega)

end Go.Hb.Same
