/-
  Automata in memory: states and edges that can be read, wherever they lead. Over any program. No conditions but those that each lemma names.
-/
import Derived.Test.YtbfcjgfnlcbojaaRow
import Derived.Test.YtbfcjgfnlcbojaaNum
import Derived.Test.YtbfcjgfnlcbojaaWalk
namespace Go.Hb
open Go.RowKit

/-- edges that can be read -/
structure EdI (h : Array Obj) (ea : Option Addr) (es : List (UInt8 × Int)) : Prop where
  ok : 0 < es.length → ea = some ⟨bk ea, fo ea, none⟩
  b : ∀ k e, es[k]? = some e → cel h (bk ea) (fo ea + k * 2 + 0) = some (.int .u8 e.1.toNat)
  to : ∀ k e, es[k]? = some e → cel h (bk ea) (fo ea + k * 2 + 1) = some (.int .i64 e.2)
theorem EdI.wk {w w' : World} {ea : Option Addr} {es : List (UInt8 × Int)} (h : EdI w.heap ea es) (hm : Wk w w') : EdI w'.heap ea es := ⟨h.ok, fun k e he => hm.cel (h.b k e he), fun k e he => hm.cel (h.to k e he)⟩
theorem two_cel {h : Array Obj} {b o : Nat} {u v : Value} (h0 : cel h b (o + 0) = some u) (h1 : cel h b (o + 1) = some v) : ∀ j, j < 2 → cel h b (o + j) = [u, v][j]? := fun j hj => by
  rcases j with _ | _ | j
  · exact h0
  · exact h1
  · omega
theorem EdI.two {h : Array Obj} {ea : Option Addr} {es : List (UInt8 × Int)} (hE : EdI h ea es) {k : Nat} {e : UInt8 × Int} (he : es[k]? = some e) : ∀ j, j < 2 → cel h (bk ea) (fo ea + k * 2 + j) = [Value.int .u8 e.1.toNat, .int .i64 e.2][j]? := two_cel (hE.b k e he) (hE.to k e he)
/-- states that can be read -/
structure StI (h : Array Obj) (aa : Option Addr) (a : List EnI) : Prop where
  ok : 0 < a.length → aa = some ⟨bk aa, fo aa, none⟩
  st : ∀ i, i < a.length → ∃ ea ec, cel h (bk aa) (fo aa + i * 2 + 0) = some (.bool (stOf a i).1) ∧ cel h (bk aa) (fo aa + i * 2 + 1) = some (.slice ea (stOf a i).2.length ec) ∧ EdI h ea (stOf a i).2
theorem StI.wk {w w' : World} {aa : Option Addr} {a : List EnI} (h : StI w.heap aa a) (hm : Wk w w') : StI w'.heap aa a :=
  ⟨h.ok, fun i hi => by
    obtain ⟨ea, ec, h1, h2, h3⟩ := h.st i hi
    exact ⟨ea, ec, hm.cel h1, hm.cel h2, h3.wk hm⟩⟩
theorem StI.two {h : Array Obj} {aa : Option Addr} {a : List EnI} (hA : StI h aa a) {i : Nat} (hi : i < a.length) : ∃ ea ec, (∀ j, j < 2 → cel h (bk aa) (fo aa + i * 2 + j) = [Value.bool (stOf a i).1, .slice ea (stOf a i).2.length ec][j]?) ∧ EdI h ea (stOf a i).2 := by
  obtain ⟨ea, ec, h1, h2, h3⟩ := hA.st i hi
  exact ⟨ea, ec, two_cel h1 h2, h3⟩
/-- a slice of the call's own that begins at its block and fills it is that block -/
theorem own_blk {w : World} {B e size n b : Nat} {xs : List Value} (h : w.ownsRow B e size (.slice (some ⟨b, 0, none⟩) n n) n xs) : Blk w.heap b xs := by
  rcases h.2 with ⟨hn, _⟩ | ⟨g, cap, cur, hv, _, hg, _, _, hs, ht⟩
  · cases hn
  · simp only [Value.slice.injEq, Option.some.injEq, Addr.mk.injEq, and_true, true_and] at hv
    obtain ⟨rfl, rfl⟩ := hv
    rw [List.take_of_length_le (by rw [Array.length_toList, hs]; exact Nat.le_refl _)] at ht
    exact ⟨_, by rw [← ht]; simpa using hg⟩
theorem two_wk {w w' : World} {b o : Nat} {u v : Value} (hm : Wk w w') (h : ∀ j, j < 2 → cel w.heap b (o + j) = [u, v][j]?) : ∀ j, j < 2 → cel w'.heap b (o + j) = [u, v][j]? := two_cel (hm.cel (h 0 (by omega))) (hm.cel (h 1 (by omega)))
theorem Md.drewL {F : Nat → Prop} {w w' : World} (h : Md F w.drew w') : Md F w w' := ⟨h.os, h.output, h.size, h.keep⟩
/-- a byte that is a number's -/
def bv8 (n : Nat) : Value := .int .u8 n
theorem blk_nv {h : Array Obj} {b : Nat} {f : Nat → Value} {mk : List Nat} {i : Nat} (hb : Blk h b (mk.map f)) (hi : i < mk.length) : cel h b (0 + i * 1) = some (f (mk.getD i 0)) := by
  rw [Nat.mul_one, Nat.zero_add, hb.cel, List.getElem?_map, List.getD_eq_getElem?_getD, List.getElem?_eq_getElem hi]; rfl
end Go.Hb
