/-
  From a walk to a law's statement: arguments opened, arguments read again behind the call. Over any program. No conditions but those that each lemma names.
-/
import Derived.Test.YtbfcjgfnlcbojaaEff
import Derived.Test.YtbfcjgfnlcbojaaVis
import Derived.SliceStrings
import Derived.Carry
import Derived.JoinedCond
import Derived.ProofKit
import Derived.OpenShut
namespace Go.Hb
open Go.RowKit Go.ChangeShapes Go.WideShapes Go.ChangeAt

theorem Wk.frame {w w' : World} (h : Wk w w') (may : MemPlace → Prop) : w.keptBut w' may := by
  refine ⟨h.os, h.output, fun i hi => ?_⟩
  rw [h.keep i hi id]
  split <;> simp_all
theorem Wk.same {w w' : World} (h : Wk w w') {p : MemPlace} (hp : p.block < w.heap.size) : w.sameAt w' p := by
  cases p with
  | cell b o => exact World.cell?_of_block (w := w) (h.keep b hp id)
  | map b => exact h.keep b hp id
section
variable {H : Type} {enc : TypeId × Value → H} {P : Program} {W W' : World}
theorem trodAll_wk (hl : laidOutB P = true) (hk : Wk W W') : ∀ (ts : List TypeId) (vs : List Value) (ds : List (DataW H)) (ps : List MemPlace), ts.all (fun t => P.readableRec t && decide (t < P.types.size)) = true → (∀ x ∈ ps, x.block < W.heap.size) →
    DataW.TrodAll enc P W 0 (fun _ => true) true ts vs ds ps → DataW.TrodAll enc P W' 0 (fun b => decide (b < W.heap.size)) true ts vs ds ps
  | [], [], [], _, _, _, h => h
  | t :: ts, v :: vs, d :: ds, _, hp, hlt, ⟨p, q, h1, h2, he⟩ => by
    subst he
    rw [List.all_cons, Bool.and_eq_true, Bool.and_eq_true] at hp
    exact ⟨p, q, WideElems.Trod_stays hl hp.1.1 (of_decide_eq_true hp.1.2) h1 (fun x hx => hk.same (hlt x (List.mem_append_left _ hx))) (fun x hx => decide_eq_true (hlt x (List.mem_append_left _ hx))),
      trodAll_wk hl hk ts vs ds q hp.2 (fun x hx => hlt x (List.mem_append_right _ hx)) h2, rfl⟩
  | [], _ :: _, _, _, _, _, h => h.elim
  | [], [], _ :: _, _, _, _, h => h.elim
  | _ :: _, [], _, _, _, _, h => h.elim
  | _ :: _, _ :: _, [], _, _, _, h => h.elim
/-- a law's step: it answers true and leaves the memory -/
theorem ret_true {f : FuncId} {fn : Func} {s : ChangeSpec} {args : Array Value} {ds gs : List (DataW H)} {before : List MemPlace} {tb : TypeId} (hW : DataW.Whole enc P fn.params.toList s.vars false W args.toList ds gs before) (hv : s.vars = [])
    (hs : s.fn H (ds ++ gs) = { results := [.lit (.bool true)], args := ds }) (hr : fn.resultTypes = #[tb]) (hb : P.underlying tb = some .bool) (hl : laidOutB P = true) (hp : fn.params.toList.all (fun t => P.readableRec t && decide (t < P.types.size)) = true)
    (h : Ret P f args W (fun v w' => v = .bool true ∧ Wk W w')) : Calls P f args W fun e W' => ∃ v, e = .returned v ∧ s.post enc P fn false true false false W args v W' := by
  refine Calls.mono h fun e W' ⟨v, he, hv1, hk⟩ => ⟨v, he, ?_⟩
  subst hv1
  have hW' := hW
  obtain ⟨p, q, hA, hV, rfl, _, _⟩ := hW
  rw [hv] at hV
  obtain ⟨rfl, rfl⟩ := trodVars_none hV
  have hlt : ∀ x ∈ p, x.block < W.heap.size := fun x hx => hW'.lt x (by simpa using hx)
  refine ⟨_, _, _, [], p, [], hW', ?_, ?_, ?_, hk.frame _, fun h => by cases h⟩
  · rw [hs, hr]
    exact trodAll_cons_mk (shut_bool hb _) trodAll_mk0
  · rw [hs]
    exact trodAll_wk hl hk _ _ _ _ hp hlt hA
  · rw [hs, hv]; rfl

/-! arguments opened -/
theorem cell_spot {w : World} {a : Addr} {v : Value} (h : w.cell? a = some v) : a = ⟨a.block, a.off, none⟩ ∧ cel w.heap a.block a.off = some v := by
  obtain ⟨b, o, sp⟩ := a
  unfold World.cell? at h
  simp only at h
  split at h
  · rename_i c t z hb
    split at h
    · cases h
    · rename_i hs
      cases sp with
      | none => exact ⟨rfl, by rw [cel_of hb]; exact h⟩
      | some x => simp at hs
  · cases h
/-- cells from an address on, read one by one -/
theorem cells_of {w : World} {a : Addr} {xs : List Value} (h : ∀ j u, xs[j]? = some u → w.cell? (a.add j) = some u) : Cells w.heap (some a) xs := by
  cases xs with
  | nil => exact Cells.nil _ _
  | cons x xs =>
    have h0 := (cell_spot (h 0 x rfl)).1
    have ha : a = ⟨a.block, a.off, none⟩ := h0
    refine ⟨fun _ => congrArg some ha, fun j u hu => ?_⟩
    have h1 := h j u hu
    rw [ha, addr_add, cell_cel] at h1
    exact h1
theorem open_strs {t e : TypeId} {base : Nat} {v : Value} {d : DataW H} {p : List MemPlace} (ht : P.underlying t = some (.slice e)) (he : P.underlying e = some .string) (hc : P.cellsOf e = 1) (hok : Value.okWide P W .any base t v)
    (h : DataW.Trod enc P W 0 (fun _ => true) true t v d p) : ∃ (ws : Tl) (a : Option Addr) (c : Nat), v = .slice a ws.length c ∧ Strs W.heap a ws ∧ (d = .nil ∧ ws = [] ∨ ∃ sp, d = .slice (ws.map fun s => .lit (.string s)) sp) := by
  obtain ⟨a0, len, cap, rfl⟩ := okWide_slice ht hok
  obtain ⟨fuel, hf⟩ := h
  rcases open_strings ht he hc hf with ⟨hcs, hx⟩ | ⟨a, len', cap', ss, hcs, _, hl, hm, hz, hx, hcell, hsz⟩
  · simp only [Value.cells, List.cons.injEq, Value.slice.injEq, and_true] at hcs
    obtain ⟨rfl, rfl, rfl⟩ := hcs
    cases hx
    exact ⟨[], none, 0, rfl, Cells.nil _ _, .inl ⟨rfl, rfl⟩⟩
  · simp only [Value.cells, List.cons.injEq, Value.slice.injEq, and_true] at hcs
    obtain ⟨rfl, rfl, rfl⟩ := hcs
    simp only [if_true] at hz
    cases hx
    refine ⟨(ss.take len).map (fun s => s.data.toList), some a, cap, ?_, cells_of fun j u hu => ?_, .inr ⟨strs (ss.drop len), ?_⟩⟩
    · rw [List.length_map, List.length_take, hz, Nat.min_eq_left hl]
    · rw [List.getElem?_map, List.getElem?_map, Option.map_map, Option.map_eq_some_iff] at hu
      obtain ⟨s, hs, rfl⟩ := hu
      rw [List.getElem?_take] at hs
      split at hs
      · have hj := (List.getElem?_eq_some_iff.1 hs)
        have := hcell j hj.1
        rw [this, List.getD_eq_getElem?_getD, hs]; rfl
      · cases hs
    · simp only [strs, List.map_take, List.map_map]; rfl
end
end Go.Hb
