/-
  Laws on plain lists and on memory, laid together: Post, Bulk, Opens. No conditions but those that each lemma names.
-/
import Derived.Test.YtbfcjgfnlcbojaaCore
import Derived.Test.YtbfcjgfnlcbojaaPlan
import Derived.SliceStrings
import Derived.Carry
import Derived.JoinedCond
import Derived.ProofKit
import Derived.OpenShut
import Derived.Test.YtbfcjgfnlcbojaaRows
/-
  From a walk to a law's statement: arguments opened, arguments read again behind the call. Over any program. No conditions but those that each lemma names.
-/
namespace Go.Hb
open Go.RowKit Go.ChangeShapes Go.WideShapes Go.ChangeAt

theorem Wk.frame {w w' : World} (h : Wk w w') (may : MemPlace → Prop) : w.keptBut w' may := by
  refine ⟨h.os, h.output, fun i hi => ?_⟩
  rw [h.keep i hi id]
  split <;> simp_all
theorem Wk.same {w w' : World} (h : Wk w w') {p : MemPlace} (hp : p.block < w.heap.size) : w.sameAt w' p := by
  cases p with
  | cell b o => exact World.cell?_of_block (w := w) (h.keep b hp id)
  | map b => exact h.keep b hp id
section
variable {H : Type} {enc : TypeId × Value → H} {P : Program} {W W' : World}
theorem trodAll_wk (hl : laidOutB P = true) (hk : Wk W W') : ∀ (ts : List TypeId) (vs : List Value) (ds : List (DataW H)) (ps : List MemPlace), ts.all (fun t => P.readableRec t && decide (t < P.types.size)) = true → (∀ x ∈ ps, x.block < W.heap.size) →
    DataW.TrodAll enc P W 0 (fun _ => true) true ts vs ds ps → DataW.TrodAll enc P W' 0 (fun b => decide (b < W.heap.size)) true ts vs ds ps
  | [], [], [], _, _, _, h => h
  | t :: ts, v :: vs, d :: ds, _, hp, hlt, ⟨p, q, h1, h2, he⟩ => by
    subst he
    rw [List.all_cons, Bool.and_eq_true, Bool.and_eq_true] at hp
    exact ⟨p, q, WideElems.Trod_stays hl hp.1.1 (of_decide_eq_true hp.1.2) h1 (fun x hx => hk.same (hlt x (List.mem_append_left _ hx))) (fun x hx => decide_eq_true (hlt x (List.mem_append_left _ hx))),
      trodAll_wk hl hk ts vs ds q hp.2 (fun x hx => hlt x (List.mem_append_right _ hx)) h2, rfl⟩
  | [], _ :: _, _, _, _, _, h => h.elim
  | [], [], _ :: _, _, _, _, h => h.elim
  | _ :: _, [], _, _, _, _, h => h.elim
  | _ :: _, _ :: _, [], _, _, _, h => h.elim
/-- a law's step: it answers true and leaves the memory -/
theorem ret_true {f : FuncId} {fn : Func} {s : ChangeSpec} {args : Array Value} {ds gs : List (DataW H)} {before : List MemPlace} {tb : TypeId} (hW : DataW.Whole enc P fn.params.toList s.vars false W args.toList ds gs before) (hv : s.vars = [])
    (hs : s.fn H (ds ++ gs) = { results := [.lit (.bool true)], args := ds }) (hr : fn.resultTypes = #[tb]) (hb : P.underlying tb = some .bool) (hl : laidOutB P = true) (hp : fn.params.toList.all (fun t => P.readableRec t && decide (t < P.types.size)) = true)
    (h : Ret P f args W (fun v w' => v = .bool true ∧ Wk W w')) : Calls P f args W fun e W' => ∃ v, e = .returned v ∧ s.post enc P fn false true false false W args v W' := by
  refine Calls.mono h fun e W' ⟨v, he, hv1, hk⟩ => ⟨v, he, ?_⟩
  subst hv1
  have hW' := hW
  obtain ⟨p, q, hA, hV, rfl, _, _⟩ := hW
  rw [hv] at hV
  obtain ⟨rfl, rfl⟩ := trodVars_none hV
  have hlt : ∀ x ∈ p, x.block < W.heap.size := fun x hx => hW'.lt x (by simpa using hx)
  refine ⟨_, _, _, [], p, [], hW', ?_, ?_, ?_, hk.frame _, fun h => by cases h⟩
  · rw [hs, hr]
    exact trodAll_cons_mk (shut_bool hb _) trodAll_mk0
  · rw [hs]
    exact trodAll_wk hl hk _ _ _ _ hp hlt hA
  · rw [hs, hv]; rfl

/-! arguments opened -/
theorem cell_spot {w : World} {a : Addr} {v : Value} (h : w.cell? a = some v) : a = ⟨a.block, a.off, none⟩ ∧ cel w.heap a.block a.off = some v := by
  obtain ⟨b, o, sp⟩ := a
  unfold World.cell? at h
  simp only at h
  split at h
  · rename_i c t z hb
    split at h
    · cases h
    · rename_i hs
      cases sp with
      | none => exact ⟨rfl, by rw [cel_of hb]; exact h⟩
      | some x => simp at hs
  · cases h
/-- cells from an address on, read one by one -/
theorem cells_of {w : World} {a : Addr} {xs : List Value} (h : ∀ j u, xs[j]? = some u → w.cell? (a.add j) = some u) : Cells w.heap (some a) xs := by
  cases xs with
  | nil => exact Cells.nil _ _
  | cons x xs =>
    have h0 := (cell_spot (h 0 x rfl)).1
    have ha : a = ⟨a.block, a.off, none⟩ := h0
    refine ⟨fun _ => congrArg some ha, fun j u hu => ?_⟩
    have h1 := h j u hu
    rw [ha, addr_add, cell_cel] at h1
    exact h1
theorem open_strs {t e : TypeId} {base : Nat} {v : Value} {d : DataW H} {p : List MemPlace} (ht : P.underlying t = some (.slice e)) (he : P.underlying e = some .string) (hc : P.cellsOf e = 1) (hok : Value.okWide P W .any base t v)
    (h : DataW.Trod enc P W 0 (fun _ => true) true t v d p) : ∃ (ws : Tl) (a : Option Addr) (c : Nat), v = .slice a ws.length c ∧ Strs W.heap a ws ∧ (d = .nil ∧ ws = [] ∨ ∃ sp, d = .slice (ws.map fun s => .lit (.string s)) sp) := by
  obtain ⟨a0, len, cap, rfl⟩ := okWide_slice ht hok
  obtain ⟨fuel, hf⟩ := h
  rcases open_strings ht he hc hf with ⟨hcs, hx⟩ | ⟨a, len', cap', ss, hcs, _, hl, hm, hz, hx, hcell, hsz⟩
  · simp only [Value.cells, List.cons.injEq, Value.slice.injEq, and_true] at hcs
    obtain ⟨rfl, rfl, rfl⟩ := hcs
    cases hx
    exact ⟨[], none, 0, rfl, Cells.nil _ _, .inl ⟨rfl, rfl⟩⟩
  · simp only [Value.cells, List.cons.injEq, Value.slice.injEq, and_true] at hcs
    obtain ⟨rfl, rfl, rfl⟩ := hcs
    simp only [if_true] at hz
    cases hx
    refine ⟨(ss.take len).map (fun s => s.data.toList), some a, cap, ?_, cells_of fun j u hu => ?_, .inr ⟨strs (ss.drop len), ?_⟩⟩
    · rw [List.length_map, List.length_take, hz, Nat.min_eq_left hl]
    · rw [List.getElem?_map, List.getElem?_map, Option.map_map, Option.map_eq_some_iff] at hu
      obtain ⟨s, hs, rfl⟩ := hu
      rw [List.getElem?_take] at hs
      split at hs
      · have hj := (List.getElem?_eq_some_iff.1 hs)
        have := hcell j hj.1
        rw [this, List.getD_eq_getElem?_getD, hs]; rfl
      · cases hs
    · simp only [strs, List.map_take, List.map_map]; rfl
end
end Go.Hb

/-
  What the bound on the arguments gives. No conditions but those that each lemma names.
-/
namespace Go.Hb
open Go.Proofs.Ytbfcjgfnlcbojaa
theorem bulk_all {H : Type} {l : List (DataW H)} (hk : Rows.uptoSmall H l = true) : Rows.uptoBulkAll l ≤ 1048576 := of_decide_eq_true hk
theorem bulk_strs {H : Type} {ws : Tl} {d : DataW H} (h : d = .nil ∧ ws = [] ∨ ∃ sp, d = .slice (ws.map fun s => .lit (.string s)) sp) : ws.length + vol ws ≤ Rows.uptoBulk d := by
  rcases h with ⟨rfl, rfl⟩ | ⟨sp, rfl⟩
  · simp [vol]
  · have key : ∀ ws : Tl, Rows.uptoBulkAll (ws.map fun s => (DataW.lit (.string s) : DataW H)) = ws.length + vol ws := by
      intro ws
      induction ws with
      | nil => simp [Rows.uptoBulkAll, vol]
      | cons a l ih => simp only [List.map_cons, Rows.uptoBulkAll, Rows.uptoBulk, ih, vol, List.length_cons, List.sum_cons]; omega
    simp only [Rows.uptoBulk, key]; omega
end Go.Hb

/-
  Plain data read out of memory, by its type; and its bulk. Over any program. No conditions but those that each lemma names.
-/
namespace Go.Hb
open Go.Proofs.Ytbfcjgfnlcbojaa Go.RowKit Go.ChangeShapes Go.WideShapes Go.ChangeAt
/-- values of the type t take m cells; what they say is R, and B is at most their bulk -/
structure Opens (P : Program) (t : TypeId) (m : Nat) {X : Type} (R : World → List Value → X → Prop) (B : X → Nat) : Prop where
  cells : P.cellsOf t = m
  op : ∀ {H : Type} (enc : TypeId × Value → H) (W : World) (fuel : Nat) (cs : List Value) (d : DataW H) (p : List MemPlace), DataW.trod enc P W 0 (fun _ => true) true fuel t cs = some (d, p) → cs.length = m ∧ ∃ x, R W cs x ∧ B x ≤ Rows.uptoBulk d
section
variable {P : Program} {t t0 t1 e : TypeId} {m m0 m1 : Nat} {X X0 X1 : Type} {R : World → List Value → X → Prop} {B : X → Nat} {R0 : World → List Value → X0 → Prop} {B0 : X0 → Nat} {R1 : World → List Value → X1 → Prop} {B1 : X1 → Nat}
theorem opens_int {k : IntKind} (ht : P.underlying t = some (.int k)) (hc : P.cellsOf t = 1) : Opens P t 1 (fun _ cs (x : Int) => cs = [.int k x] ∧ (Lit.int k x).wf = true) (fun _ => 1) where
  cells := hc
  op enc W fuel cs d p h := by
    obtain ⟨n, rfl, hx, hw⟩ := DataW.trod_int ht h
    cases hx
    exact ⟨rfl, n, ⟨rfl, hw⟩, by simp [Rows.uptoBulk]⟩
theorem opens_str (ht : P.underlying t = some .string) (hc : P.cellsOf t = 1) : Opens P t 1 (fun _ cs (x : List UInt8) => cs = [str x]) (fun x => x.length + 1) where
  cells := hc
  op enc W fuel cs d p h := by
    obtain ⟨s, rfl, hx, hw⟩ := DataW.trod_string ht h
    cases hx
    exact ⟨rfl, s.data.toList, rfl, by simp [Rows.uptoBulk]⟩
/-- elements of m cells each, one behind the other -/
def RS (m : Nat) (R : World → List Value → X → Prop) (W : World) (cs : List Value) (xs : List X) : Prop :=
  ∃ (a : Option Addr) (c : Nat) (L : List (List Value)), cs = [.slice a xs.length c] ∧ L.length = xs.length ∧ Cells W.heap a L.flatten ∧ xs.length ≤ c ∧ ∀ (i : Nat) l x, L[i]? = some l → xs[i]? = some x → l.length = m ∧ R W l x
theorem flatten_len {L : List (List Value)} {m : Nat} (h : ∀ l ∈ L, l.length = m) : L.flatten.length = L.length * m := by
  induction L with
  | nil => simp
  | cons a L ih =>
    rw [List.flatten_cons, List.length_append, ih (fun l hl => h l (by simp [hl])), h a (by simp), List.length_cons, Nat.succ_mul]; omega
theorem flatten_get {L : List (List Value)} {m : Nat} (h : ∀ l ∈ L, l.length = m) {i c : Nat} {l : List Value} (hl : L[i]? = some l) (hc : c < m) : L.flatten[i * m + c]? = l[c]? := by
  induction L generalizing i with
  | nil => simp at hl
  | cons a L ih =>
    have ha := h a (by simp)
    cases i with
    | zero =>
      simp only [List.getElem?_cons_zero, Option.some.injEq] at hl
      subst hl
      rw [List.flatten_cons, Nat.zero_mul, Nat.zero_add, List.getElem?_append_left (by omega)]
    | succ i =>
      simp only [List.getElem?_cons_succ] at hl
      rw [List.flatten_cons, List.getElem?_append_right (by rw [ha, Nat.succ_mul]; omega), ha, show (i + 1) * m + c - m = i * m + c from by rw [Nat.succ_mul]; omega]
      exact ih (fun l hl => h l (by simp [hl])) hl
theorem flatten_ix {L : List (List Value)} {m : Nat} (hm : 0 < m) (h : ∀ l ∈ L, l.length = m) {j : Nat} {u : Value} (hu : L.flatten[j]? = some u) : ∃ l, L[j / m]? = some l ∧ l[j % m]? = some u := by
  have hj := (List.getElem?_eq_some_iff.1 hu).1
  rw [flatten_len h] at hj
  have h1 : j / m < L.length := (Nat.div_lt_iff_lt_mul hm).2 hj
  refine ⟨L[j / m], List.getElem?_eq_getElem h1, ?_⟩
  have := flatten_get h (List.getElem?_eq_getElem h1) (Nat.mod_lt j hm)
  rw [Nat.mul_comm, Nat.div_add_mod] at this
  rw [← this]; exact hu
theorem bulks_le {H : Type} {f : X → Nat} : ∀ (xs : List X) (ds : List (DataW H)), xs.length = ds.length → (∀ (i : Nat) x d, xs[i]? = some x → ds[i]? = some d → f x ≤ Rows.uptoBulk d) → (xs.map f).sum ≤ Rows.uptoBulkAll ds
  | [], _, _, _ => by simp
  | x :: xs, [], h, _ => by simp at h
  | x :: xs, d :: ds, h, hf => by
    have h1 := hf 0 x d rfl rfl
    have h2 := bulks_le xs ds (by simpa using h) (fun i y e hy he => hf (i + 1) y e (by simpa using hy) (by simpa using he))
    simp only [List.map_cons, List.sum_cons, Rows.uptoBulkAll]; omega
theorem opens_sl (he : Opens P e m R B) (ht : P.underlying t = some (.slice e)) (hc : P.cellsOf t = 1) (hm : 0 < m) : Opens P t 1 (RS m R) (fun xs => (xs.map B).sum + 1) where
  cells := hc
  op enc W fuel cs d p h := by
    rcases DataW.trod_slice ht h with ⟨rfl, hx⟩ | ⟨a, len, cap, elems, rest, n, _, rfl, hx, _, hl, _, hel, hat, _, _⟩
    · cases hx
      exact ⟨rfl, [], ⟨none, 0, [], rfl, rfl, Cells.nil _ _, Nat.le_refl _, fun i l x hl => by simp at hl⟩, by simp [Rows.uptoBulk]⟩
    · cases hx
      rw [he.cells] at hat
      have hex : ∀ i, i < len → ∃ (l : List Value) (x : X) (y : DataW _ × List MemPlace), elems[i]? = some y ∧ W.cells? 0 (a.add (i * m)) m = some l ∧ l.length = m ∧ R W l x ∧ B x ≤ Rows.uptoBulk y.1 := by
        intro i hi
        have h1 := hat i hi
        rw [List.getElem?_eq_getElem (by omega), Option.bind_eq_some_iff] at h1
        obtain ⟨l, h2, h3⟩ := h1
        obtain ⟨h4, x, h5, h6⟩ := he.op enc W n l elems[i].1 elems[i].2 h3
        exact ⟨l, x, elems[i], List.getElem?_eq_getElem (by omega), h2, h4, h5, h6⟩
      let gl : Nat → List Value := fun i => if hi : i < len then (hex i hi).choose else []
      let gx : (i : Nat) → i < len → X := fun i hi => (hex i hi).choose_spec.choose
      have hgl : ∀ i (hi : i < len), ∃ (y : DataW _ × List MemPlace), elems[i]? = some y ∧ W.cells? 0 (a.add (i * m)) m = some (gl i) ∧ (gl i).length = m ∧ R W (gl i) (gx i hi) ∧ B (gx i hi) ≤ Rows.uptoBulk y.1 := fun i hi => by
        have := (hex i hi).choose_spec.choose_spec
        simp only [gl, dif_pos hi]
        exact this
      let xs : List X := (List.range len).attach.map fun q => gx q.1 (List.mem_range.1 q.2)
      have hxl : xs.length = len := by simp [xs]
      have hxi : ∀ (i : Nat) x, xs[i]? = some x → ∃ hi : i < len, x = gx i hi := fun i x hx => by
        simp only [xs, List.getElem?_map, Option.map_eq_some_iff] at hx
        obtain ⟨q, hq, rfl⟩ := hx
        have h1 := (List.getElem?_eq_some_iff.1 hq)
        obtain ⟨hi, h2⟩ := h1
        simp only [List.length_attach, List.length_range] at hi
        have h3 : q.1 = i := by rw [← h2]; simp
        subst h3
        exact ⟨hi, rfl⟩
      let L : List (List Value) := (List.range len).map gl
      have hLl : L.length = len := by simp [L]
      have hLi : ∀ (i : Nat) l, L[i]? = some l → i < len ∧ l = gl i := fun i l hl => by
        simp only [L, List.getElem?_map, Option.map_eq_some_iff] at hl
        obtain ⟨q, hq, rfl⟩ := hl
        have hi := (List.getElem?_eq_some_iff.1 hq).1
        rw [List.length_range] at hi
        rw [List.getElem?_range hi] at hq
        cases hq
        exact ⟨hi, rfl⟩
      have hLm : ∀ l ∈ L, l.length = m := fun l hl => by
        obtain ⟨i, hi⟩ := List.mem_iff_getElem?.1 hl
        obtain ⟨h1, rfl⟩ := hLi i l hi
        obtain ⟨_, _, _, h2, _⟩ := hgl i h1
        exact h2
      refine ⟨rfl, xs, ⟨some a, cap, L, by rw [hxl], by rw [hLl, hxl], cells_of fun j u hu => ?_, by omega, fun i l x hl hx => ?_⟩, ?_⟩
      · obtain ⟨l, h1, h2⟩ := flatten_ix hm hLm hu
        obtain ⟨h3, rfl⟩ := hLi _ l h1
        obtain ⟨y, _, h4, h5, _⟩ := hgl _ h3
        obtain ⟨_, _, h6⟩ := World.cells?_some h4
        have h7 := h6 (j % m) (Nat.mod_lt j hm)
        have ha : (a.add (j / m * m)).add (j % m) = a.add j := by
          have hadd : ∀ (a : Addr) (x y : Nat), a.spot = none → (a.add x).add y = a.add (x + y) := by
            intro a x y hs
            obtain ⟨b, o, s⟩ := a
            simp only at hs; subst hs
            rw [addr_add, addr_add, addr_add, Nat.add_assoc]
          have hsp : a.spot = none := by
            have h0 := hgl 0 (Nat.lt_of_le_of_lt (Nat.zero_le _) h3)
            obtain ⟨_, _, h8, _⟩ := h0
            obtain ⟨_, _, h9⟩ := World.cells?_some h8
            have h10 := h9 0 hm
            obtain ⟨y0, _, _, h11, _⟩ := hgl 0 (Nat.lt_of_le_of_lt (Nat.zero_le _) h3)
            rw [List.getElem?_eq_getElem (by omega)] at h10
            simp only [Nat.zero_mul] at h10
            have h12 := (cell_spot h10).1
            have h13 : (a.add 0).add 0 = a := rfl
            rw [h13] at h12
            rw [h12]
          rw [hadd a _ _ hsp, Nat.mul_comm, Nat.div_add_mod]
        rw [← ha, h7]; exact h2
      · obtain ⟨hi, rfl⟩ := hxi i x hx
        obtain ⟨_, rfl⟩ := hLi i l hl
        obtain ⟨_, _, _, h2, h3, _⟩ := hgl i hi
        exact ⟨h2, h3⟩
      · have h1 : (xs.map B).sum ≤ Rows.uptoBulkAll (elems.map (·.1)) := bulks_le xs _ (by rw [hxl, List.length_map]; omega) fun i x d hx hd => by
          obtain ⟨hi, rfl⟩ := hxi i x hx
          obtain ⟨y, h2, _, _, _, h3⟩ := hgl i hi
          rw [List.getElem?_map, h2] at hd
          cases hd
          exact h3
        simp only [Rows.uptoBulk]; omega
theorem opens_st2 (h0 : Opens P t0 m0 R0 B0) (h1 : Opens P t1 m1 R1 B1) {f0 f1 : Field} (ht : P.underlying t = some (.struct #[f0, f1])) (e0 : f0.type = t0) (e1 : f1.type = t1) (o0 : f0.offset = 0) (o1 : f1.offset = m0) (hc : P.cellsOf t = m0 + m1) :
    Opens P t (m0 + m1) (fun W cs (x : X0 × X1) => ∃ c0 c1, cs = c0 ++ c1 ∧ c0.length = m0 ∧ R0 W c0 x.1 ∧ R1 W c1 x.2) (fun x => B0 x.1 + B1 x.2 + 1) where
  cells := hc
  op enc W fuel cs d p h := by
    obtain ⟨y0, y1, n, hx, hl, g0, g1⟩ := trod_struct2 ht h
    cases hx
    rw [e0, o0, h0.cells, List.drop_zero] at g0
    rw [e1, o1, h1.cells] at g1
    obtain ⟨_, x0, k0, b0⟩ := h0.op enc W n _ _ _ g0
    obtain ⟨_, x1, k1, b1⟩ := h1.op enc W n _ _ _ g1
    rw [hc] at hl
    have hd : (cs.drop m0).take m1 = cs.drop m0 := List.take_of_length_le (by rw [List.length_drop]; omega)
    rw [hd] at k1
    refine ⟨hl, (x0, x1), ⟨_, _, (List.take_append_drop m0 cs).symm, by rw [List.length_take]; omega, k0, k1⟩, ?_⟩
    simp only [Rows.uptoBulk, Rows.uptoBulkAll]; omega
theorem trod_struct4 {H : Type} {enc : TypeId × Value → H} {W : World} {f0 f1 f2 f3 : Field} {fuel : Nat} {cs : List Value} {x : DataW H × List MemPlace} (ht : P.underlying t = some (.struct #[f0, f1, f2, f3])) (h : DataW.trod enc P W 0 (fun _ => true) true fuel t cs = some x) :
    ∃ y0 y1 y2 y3 n, x = (.agg [y0.1, y1.1, y2.1, y3.1], y0.2 ++ (y1.2 ++ (y2.2 ++ y3.2))) ∧ cs.length = P.cellsOf t ∧ DataW.trod enc P W 0 (fun _ => true) true n f0.type ((cs.drop f0.offset).take (P.cellsOf f0.type)) = some y0 ∧ DataW.trod enc P W 0 (fun _ => true) true n f1.type ((cs.drop f1.offset).take (P.cellsOf f1.type)) = some y1 ∧
      DataW.trod enc P W 0 (fun _ => true) true n f2.type ((cs.drop f2.offset).take (P.cellsOf f2.type)) = some y2 ∧ DataW.trod enc P W 0 (fun _ => true) true n f3.type ((cs.drop f3.offset).take (P.cellsOf f3.type)) = some y3 := by
  obtain ⟨xs, n, _, rfl, hl, hlen, hf⟩ := DataW.trod_struct ht h
  match xs, hlen with
  | [y0, y1, y2, y3], _ => exact ⟨y0, y1, y2, y3, n, by simp, hl, by simpa using hf 0 f0 rfl, by simpa using hf 1 f1 rfl, by simpa using hf 2 f2 rfl, by simpa using hf 3 f3 rfl⟩
theorem opens_bool (ht : P.underlying t = some .bool) (hc : P.cellsOf t = 1) : Opens P t 1 (fun _ cs (x : Bool) => cs = [.bool x]) (fun _ => 1) where
  cells := hc
  op enc W fuel cs d p h := by
    obtain ⟨b, rfl, hx⟩ := DataW.trod_bool ht h
    cases hx
    exact ⟨rfl, b, rfl, by simp [Rows.uptoBulk]⟩
theorem u8_of {n : Int} (h : (Lit.int .u8 n).wf = true) : ∃ x : UInt8, n = (x.toNat : Int) := by
  unfold Lit.wf at h
  simp only [Bool.and_eq_true, decide_eq_true_eq] at h
  have h1 : (0 : Int) ≤ n := h.1
  have h2 : n ≤ (255 : Int) := h.2
  refine ⟨UInt8.ofNat n.toNat, ?_⟩
  simp; omega
theorem i64_of {n : Int} (h : (Lit.int .i64 n).wf = true) : -9223372036854775808 ≤ n ∧ n ≤ 9223372036854775807 := by
  unfold Lit.wf at h
  simp only [Bool.and_eq_true, decide_eq_true_eq] at h
  have h1 : (-9223372036854775808 : Int) ≤ n := h.1
  have h2 : n ≤ (9223372036854775807 : Int) := h.2
  exact ⟨h1, h2⟩
/-- four fields of one cell each -/
theorem opens_st4 {t2 t3 : TypeId} {X2 X3 : Type} {R2 : World → List Value → X2 → Prop} {B2 : X2 → Nat} {R3 : World → List Value → X3 → Prop} {B3 : X3 → Nat} (h0 : Opens P t0 1 R0 B0) (h1 : Opens P t1 1 R1 B1) (h2 : Opens P t2 1 R2 B2) (h3 : Opens P t3 1 R3 B3) {f0 f1 f2 f3 : Field}
    (ht : P.underlying t = some (.struct #[f0, f1, f2, f3])) (e0 : f0.type = t0) (e1 : f1.type = t1) (e2 : f2.type = t2) (e3 : f3.type = t3) (o0 : f0.offset = 0) (o1 : f1.offset = 1) (o2 : f2.offset = 2) (o3 : f3.offset = 3) (hc : P.cellsOf t = 4) :
    Opens P t 4 (fun W cs (x : X0 × X1 × X2 × X3) => ∃ u0 u1 u2 u3, cs = [u0, u1, u2, u3] ∧ R0 W [u0] x.1 ∧ R1 W [u1] x.2.1 ∧ R2 W [u2] x.2.2.1 ∧ R3 W [u3] x.2.2.2) (fun x => B0 x.1 + B1 x.2.1 + B2 x.2.2.1 + B3 x.2.2.2 + 1) where
  cells := hc
  op enc W fuel cs d p h := by
    obtain ⟨y0, y1, y2, y3, n, hx, hl, g0, g1, g2, g3⟩ := trod_struct4 ht h
    cases hx
    rw [hc] at hl
    match cs, hl with
    | [u0, u1, u2, u3], _ =>
      rw [e0, o0, h0.cells] at g0
      rw [e1, o1, h1.cells] at g1
      rw [e2, o2, h2.cells] at g2
      rw [e3, o3, h3.cells] at g3
      obtain ⟨_, x0, k0, b0⟩ := h0.op enc W n _ _ _ g0
      obtain ⟨_, x1, k1, b1⟩ := h1.op enc W n _ _ _ g1
      obtain ⟨_, x2, k2, b2⟩ := h2.op enc W n _ _ _ g2
      obtain ⟨_, x3, k3, b3⟩ := h3.op enc W n _ _ _ g3
      refine ⟨rfl, (x0, x1, x2, x3), ⟨u0, u1, u2, u3, rfl, k0, k1, k2, k3⟩, ?_⟩
      simp only [Rows.uptoBulk, Rows.uptoBulkAll]; omega
end
/-- texts -/
theorem strs_of {W : World} {v : Value} {ws : Tl} (h : RS 1 (fun _ cs (x : List UInt8) => cs = [str x]) W [v] ws) : ∃ a c, v = .slice a ws.length c ∧ Strs W.heap a ws ∧ ws.length ≤ c := by
  obtain ⟨a, c, L, hv, hl, hc, hcap, hx⟩ := h
  simp only [List.cons.injEq, and_true] at hv
  refine ⟨a, c, hv, ?_, hcap⟩
  have e : L.flatten = ws.map str := by
    have key : ∀ (L : List (List Value)) (ws : Tl), L.length = ws.length → (∀ (i : Nat) l x, L[i]? = some l → ws[i]? = some x → l = [str x]) → L.flatten = ws.map str := by
      intro L
      induction L with
      | nil => intro ws h _; rw [List.eq_nil_of_length_eq_zero h.symm]; rfl
      | cons a L ih =>
        intro ws h hx
        cases ws with
        | nil => simp at h
        | cons w ws =>
          rw [List.flatten_cons, List.map_cons, hx 0 a w rfl rfl, ih ws (by simpa using h) (fun i l x h1 h2 => hx (i + 1) l x (by simpa using h1) (by simpa using h2))]; rfl
    exact key L ws hl (fun i l x h1 h2 => (hx i l x h1 h2).2)
  unfold Strs
  rw [← e]; exact hc
theorem bulk_sum (ws : Tl) : (ws.map fun x => x.length + 1).sum = ws.length + vol ws := by
  induction ws with
  | nil => rfl
  | cons a l ih => simp only [List.map_cons, List.sum_cons, ih, vol, List.length_cons]; omega
end Go.Hb
