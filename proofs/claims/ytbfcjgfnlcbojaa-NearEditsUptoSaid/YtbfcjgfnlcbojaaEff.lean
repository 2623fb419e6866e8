/-
  Operations that turn the world: calls, new blocks, stores, append; and what a slice's cells hold. Over any program. No conditions but those that each lemma names.
-/
import Derived.Test.YtbfcjgfnlcbojaaOps
namespace Go.Hb
open Go.RowKit

/-- a block of cells, none of them frozen -/
def Blk (h : Array Obj) (b : Nat) (L : List Value) : Prop := ∃ e, h[b]? = some (.cells L.toArray e (0, 0))
theorem Blk.cel {h : Array Obj} {b : Nat} {L : List Value} (hb : Blk h b L) (j : Nat) : Hb.cel h b j = L[j]? := by
  obtain ⟨e, hb⟩ := hb
  rw [cel_of hb]; simp
theorem Blk.cel0 {h : Array Obj} {b : Nat} {L : List Value} (hb : Blk h b L) (j : Nat) : Hb.cel h b (0 + j) = L[j]? := by
  rw [Nat.zero_add, hb.cel]
theorem Md.B {F : Nat → Prop} {w w' : World} (h : Md F w w') {b : Nat} {L : List Value} (hb : Blk w.heap b L) (hf : ¬ F b) : Blk w'.heap b L :=
  let ⟨e, hb⟩ := hb; ⟨e, h.blk hb hf⟩
theorem Wk.B {w w' : World} (h : Wk w w') {b : Nat} {L : List Value} (hb : Blk w.heap b L) : Blk w'.heap b L := Md.B h hb id
theorem Blk.lt {h : Array Obj} {b : Nat} {L : List Value} (hb : Blk h b L) : b < h.size := let ⟨_, hb⟩ := hb; (Array.getElem?_eq_some_iff.1 hb).1

def bk (a : Option Addr) : Nat := match a with | some ad => ad.block | none => 0
def fo (a : Option Addr) : Nat := match a with | some ad => ad.off | none => 0
/-- the cells from an address on -/
structure Cells (h : Array Obj) (a : Option Addr) (xs : List Value) : Prop where
  ok : xs ≠ [] → a = some ⟨bk a, fo a, none⟩
  cel : ∀ j u, xs[j]? = some u → Hb.cel h (bk a) (fo a + j) = some u
theorem Cells.nil (h : Array Obj) (a : Option Addr) : Cells h a [] := ⟨fun h => absurd rfl h, fun _ _ hu => by simp at hu⟩
theorem Cells.md {F : Nat → Prop} {w w' : World} {a : Option Addr} {xs : List Value} (hc : Cells w.heap a xs) (h : Md F w w') (hf : xs ≠ [] → ¬ F (bk a)) : Cells w'.heap a xs :=
  ⟨hc.ok, fun j u hu => h.cel (hc.cel j u hu) (hf (by rintro rfl; simp at hu))⟩
theorem Cells.wk {w w' : World} {a : Option Addr} {xs : List Value} (hc : Cells w.heap a xs) (h : Wk w w') : Cells w'.heap a xs := hc.md h (fun _ x => x)
theorem Cells.take {h : Array Obj} {a : Option Addr} {xs : List Value} (hc : Cells h a xs) (n : Nat) : Cells h a (xs.take n) :=
  ⟨fun hne => hc.ok (by rintro rfl; simp at hne), fun j u hu => hc.cel j u (by rw [List.getElem?_take] at hu; split at hu; exact hu; cases hu)⟩
theorem Cells.lt {h : Array Obj} {a : Option Addr} {xs : List Value} (hc : Cells h a xs) (hne : xs ≠ []) : bk a < h.size := by
  cases xs with
  | nil => exact absurd rfl hne
  | cons x xs => exact cel_lt (hc.cel 0 x rfl)
theorem Cells.of_blk {h : Array Obj} {b : Nat} {L : List Value} (hb : Blk h b L) : Cells h (some ⟨b, 0, none⟩) L :=
  ⟨fun _ => rfl, fun j u hu => by show Hb.cel h b (0 + j) = _; rw [Nat.zero_add, hb.cel]; exact hu⟩
theorem Cells.at1 {h : Array Obj} {a : Option Addr} {xs : List Value} (hc : Cells h a xs) {i : Nat} {u : Value} (hu : xs[i]? = some u) : Hb.cel h (bk a) (fo a + i * 1) = some u := by
  rw [Nat.mul_one]; exact hc.cel i u hu
/-- the texts of a slice -/
def Strs (h : Array Obj) (a : Option Addr) (l : List (List UInt8)) : Prop := Cells h a (l.map str)
theorem Strs.get {h : Array Obj} {a : Option Addr} {l : List (List UInt8)} (hs : Strs h a l) {i : Nat} (hi : i < l.length) : Hb.cel h (bk a) (fo a + i * 1) = some (str (l.getD i [])) :=
  Cells.at1 hs (by simp [List.getD_eq_getElem?_getD, hi])
theorem Strs.wk {w w' : World} {a : Option Addr} {l : List (List UInt8)} (hs : Strs w.heap a l) (h : Wk w w') : Strs w'.heap a l := Cells.wk hs h
theorem ne_map {α : Type} {f : α → Value} {l : List α} (h : 0 < l.length) : l.map f ≠ [] := by
  cases l with
  | nil => simp at h
  | cons x l => simp
/-- the numbers of a slice -/
def Nums (k : IntKind) (h : Array Obj) (a : Option Addr) (l : List Int) : Prop := Cells h a (l.map (Value.int k))
theorem Nums.get {k : IntKind} {h : Array Obj} {a : Option Addr} {l : List Int} (hs : Nums k h a l) {i : Nat} (hi : i < l.length) : Hb.cel h (bk a) (fo a + i * 1) = some (.int k (l.getD i 0)) :=
  Cells.at1 hs (by simp [List.getD_eq_getElem?_getD, hi])

/-! closed facts -/
def sliceOk (P : Program) (t e size bytes : Nat) : Bool :=
  match P.underlying t with
  | some (.slice e') => e' == e && match P.info? e with
    | some i => i.size == size && i.bytes == bytes && Nat.blt 0 size && match i.zero with
      | some z => z.cells.size == size
      | none => false
    | none => false
  | _ => false
theorem sliceOk_spec {P : Program} {t e size bytes : Nat} (h : sliceOk P t e size bytes = true) :
    P.underlying t = some (.slice e) ∧ ∃ i z, P.info? e = some i ∧ i.zero = some z ∧ i.size = size ∧ i.bytes = bytes ∧ z.cells.size = size ∧ 0 < size := by
  unfold sliceOk at h
  split at h
  · rename_i e' hu
    simp only [Bool.and_eq_true, beq_iff_eq] at h
    obtain ⟨rfl, h⟩ := h
    split at h
    · rename_i i hi
      simp only [Bool.and_eq_true, beq_iff_eq] at h
      obtain ⟨⟨⟨h1, h2⟩, h3⟩, h4⟩ := h
      split at h4
      · rename_i z hz
        exact ⟨hu, i, z, hi, hz, h1, h2, by simpa using h4, Nat.lt_of_lt_of_le (Nat.lt_succ_self 0) (Nat.le_of_ble_eq_true h3)⟩
      · cases h4
    · cases h
  · cases h
/-- the number of a variable's cells -/
def cellsN (P : Program) (t : TypeId) : Option Nat := (P.info? t).map (·.size)
def zeroOf (P : Program) (t : TypeId) : Option (Option (List Value)) := (P.info? t).map fun i => i.zero.map fun z => z.cells.toList

/-- a function with a body -/
def Callable (P : Program) (f : FuncId) : Prop := ∀ args w, (callFunc f args).run P w = .ok (.enter f args) w
theorem callable {P : Program} {f : FuncId} {fn : Func} (hf : P.funcs[f]? = some fn) (hn : (fn.name == "runtime.NumGoroutine") = false) (hb : fn.body.isNone = false) : Callable P f := by
  intro args w
  have h1 : ¬ ((fn.name == "runtime.NumGoroutine") = true) := by rw [hn]; simp
  have h2 : ¬ (fn.body.isNone = true) := by rw [hb]; simp
  simp only [callFunc, Sem.run_bind, run_program, Result.andThen_ok, hf]
  rw [if_neg h1, if_neg h2]
  rfl

section
variable {P : Program} {N : Nat} {σ : Nat → Value} {w : World} {dst : Option Nat} {ty : TypeId} {pos : String} {af : Array Edge} {g : Option (Nat × Bool)} {x y z : Operand} {K : (Nat → Value) → World → Prop}

theorem wpo_call {o : Oper} {f : FuncId} {L : List Value} {R : Value → World → Prop} (hrun : (execOp (ev N σ) o).run P w = .ok (.enter f L.toArray) w) (hr : Ret P f L.toArray w R)
    (k : ∀ v w', R v w' → K (updo σ o.dst v) w') : wpo P N o σ w K := by
  unfold wpo Oper.wp
  rw [act_eval, hrun]
  refine Calls.mono hr fun e w' ⟨v, he, hR⟩ => ?_
  subst he
  exact ⟨_, act_put .., k v w' hR⟩
/-- a call of a function by its name -/
theorem cl {f : FuncId} {args : Array Operand} {ats : Array TypeId} {L : List Value} {R : Value → World → Prop} (hc : Callable P f) (hr : Ret P f L.toArray w R) (hL : args.toList.map (ev N σ) = L)
    (k : ∀ v w', R v w' → K (updo σ dst v) w') : wpo P N ⟨dst, .call ⟨.value (.func f), args, ats⟩, ty, pos, af, g⟩ σ w K := by
  refine wpo_call (f := f) ?_ hr k
  have : args.map (ev N σ) = L.toArray := by rw [← hL, ← Array.toList_map]
  simp [execOp, resolve, ev, Deferred.ofValue, invoke, this, hc L.toArray w]
/-- a call of a function value -/
theorem clv {f : FuncId} {fo : Operand} {first cap : Array Value} {args : Array Operand} {ats : Array TypeId} {L : List Value} {R : Value → World → Prop} (hc : Callable P f) (hv : ev N σ fo = .func (.func f) first cap)
    (hr : Ret P f L.toArray w R) (hL : first.toList ++ args.toList.map (ev N σ) ++ cap.toList = L)
    (k : ∀ v w', R v w' → K (updo σ dst v) w') : wpo P N ⟨dst, .call ⟨.value fo, args, ats⟩, ty, pos, af, g⟩ σ w K := by
  refine wpo_call (f := f) ?_ hr k
  have : first ++ args.map (ev N σ) ++ cap = L.toArray := by rw [← hL, ← Array.toList_map, ← Array.toList_append, ← Array.toList_append]
  simp [execOp, resolve, hv, Deferred.ofValue, invoke, this, hc L.toArray w]

theorem wpo_new {o : Oper} {ob : Obj} {v : Nat → Value} (hrun : (execOp (ev N σ) o).run P w = .ok (.value (v w.heap.size)) { w with heap := w.heap.push ob })
    (k : ∀ b w', b = w.heap.size → Nw w w' → w'.heap[b]? = some ob → K (updo σ o.dst (v b)) w') : wpo P N o σ w K :=
  wpo_run hrun (k _ _ rfl (nw_alloc w ob) (by simp))
/-- a variable, as if by new(T) -/
theorem al {e : TypeId} {zs : List Value} (hz : zeroOf P e = some (some zs)) (k : ∀ b w', b = w.heap.size → Nw w w' → Blk w'.heap b zs → K (updo σ dst (.pointer (some ⟨b, 0, none⟩))) w') :
    wpo P N ⟨dst, .alloc e, ty, pos, af, g⟩ σ w K := by
  refine wpo_new (v := fun b => .pointer (some ⟨b, 0, none⟩)) (ob := .cells zs.toArray e (0, 0)) ?_ (fun b w' h1 h2 h3 => k b w' h1 h2 ⟨e, h3⟩)
  unfold zeroOf at hz
  simp only [Option.map_eq_some_iff] at hz
  obtain ⟨i, hi, zv, hzv, rfl⟩ := hz
  simp [execOp, Instr.alloc, zeroValue, run_info hi, hzv, newVar, newRow]
theorem alT {e : TypeId} {zs : List Value} (hz : zeroOf P e = some (some zs)) (k : ∀ b w', b = w.heap.size → Nw w w' → w'.heap[b]? = some (.cells zs.toArray e (0, 0)) → K (updo σ dst (.pointer (some ⟨b, 0, none⟩))) w') :
    wpo P N ⟨dst, .alloc e, ty, pos, af, g⟩ σ w K := by
  refine wpo_new (v := fun b => .pointer (some ⟨b, 0, none⟩)) (ob := .cells zs.toArray e (0, 0)) ?_ k
  unfold zeroOf at hz
  simp only [Option.map_eq_some_iff] at hz
  obtain ⟨i, hi, zv, hzv, rfl⟩ := hz
  simp [execOp, Instr.alloc, zeroValue, run_info hi, hzv, newVar, newRow]
/-- a new variable that holds v -/
theorem bx {e : TypeId} {v : Value} {L : List Value} (hx : ev N σ x = v) (hL : v.cells.toList = L) (k : ∀ b w', b = w.heap.size → Nw w w' → Blk w'.heap b L → K (updo σ dst (.pointer (some ⟨b, 0, none⟩))) w') :
    wpo P N ⟨dst, .box e x, ty, pos, af, g⟩ σ w K := by
  subst hL
  refine wpo_new (v := fun b => .pointer (some ⟨b, 0, none⟩)) (ob := .cells v.cells e (0, 0)) ?_ (fun b w' h1 h2 h3 => k b w' h1 h2 ⟨e, h3⟩)
  simp [execOp, Instr.box, hx, newVar, newRow]
theorem mkm {t : TypeId} (k : ∀ b w', b = w.heap.size → Nw w w' → w'.heap[b]? = some (.map #[] 0) → K (updo σ dst (.map (some b))) w') : wpo P N ⟨dst, .makeMap t none, ty, pos, af, g⟩ σ w K := by
  refine wpo_new (v := fun b => .map (some b)) ?_ k
  simp [execOp, Instr.makeMap]
/-- a slice of no element -/
theorem bs0 {t e : TypeId} {size bytes : Nat} (ht : sliceOk P t e size bytes = true)
    (k : ∀ b w', b = w.heap.size → Nw w w' → (∀ B, B ≤ b → w'.ownsRow B e size (.slice (some ⟨b, 0, none⟩) 0 0) 0 []) → K (updo σ dst (.slice (some ⟨b, 0, none⟩) 0 0)) w') : wpo P N ⟨dst, .buildSlice t 0 #[], ty, pos, af, g⟩ σ w K := by
  refine wpo_new (v := fun b => .slice (some ⟨b, 0, none⟩) 0 0) (ob := .cells #[] e (0, 0)) ?_ (fun b w' h1 h2 h3 => k b w' h1 h2 fun B hB => ⟨by simp, .inr ⟨b, 0, #[], rfl, hB, h3, Nat.le_refl _, by simp [maxLen], by simp, by simp⟩⟩)
  obtain ⟨hu, i, zv, hi, hz, h1, h2, h3, h4⟩ := sliceOk_spec ht
  simp [execOp, Instr.buildSlice, run_under hu, sizeOf, run_info hi, Instr.fill, newRow]
  congr 2
  exact Array.eq_empty_of_size_eq_zero (by simp)
/-- a slice of one element -/
theorem bs1T {t e : TypeId} {size bytes : Nat} {v : Value} {L : List Value} (ht : sliceOk P t e size bytes = true) (hs : Nat.ble size 1000 = true) (hx : ev N σ x = v) (hv : v.cells.size = size)
    (hL : v.cells.toList = L) (k : ∀ b w', b = w.heap.size → Nw w w' → w'.heap[b]? = some (.cells L.toArray e (0, 0)) → K (updo σ dst (.slice (some ⟨b, 0, none⟩) 1 1)) w') : wpo P N ⟨dst, .buildSlice t 1 #[(0, x)], ty, pos, af, g⟩ σ w K := by
  subst hL
  refine wpo_new (v := fun b => .slice (some ⟨b, 0, none⟩) 1 1) (ob := .cells v.cells e (0, 0)) ?_ (fun b w' h1 h2 h3 => k b w' h1 h2 (by simpa using h3))
  obtain ⟨hu, i, zv, hi, hz, h1, h2, h3, h4⟩ := sliceOk_spec ht
  have hs' : size ≤ 1000 := by simpa using hs
  have hfill : Instr.fill (fun i => some (i * size, size)) ((Array.range size).map (zv.cells[· % zv.cells.size]!)) [(0, v)] = some v.cells := by
    have hsz : ((Array.range size).map (zv.cells[· % zv.cells.size]!)).size = size := by simp
    generalize (Array.range size).map (zv.cells[· % zv.cells.size]!) = cs at hsz
    simp only [Instr.fill, hv]
    rw [if_neg (by rw [hsz]; simp)]
    congr 1
    have key : ∀ (l : List Value) (m : Nat) (cs : Array Value), m + l.length ≤ cs.size → ∀ j, ((l.zipIdx m).foldl (fun (cs : Array Value) (c, j) => cs.setIfInBounds (0 * size + j) c) cs)[j]? = if j < m then cs[j]? else if j < m + l.length then l[j - m]? else cs[j]? := by
      intro l
      induction l with
      | nil => intro m cs hm j; simp; intro h1 h2; omega
      | cons c l ih =>
        intro m cs hm j
        simp only [List.zipIdx_cons, List.foldl_cons, List.length_cons] at hm ⊢
        rw [ih (m + 1) _ (by simp; omega)]
        simp only [Nat.zero_mul, Nat.zero_add, Array.getElem?_setIfInBounds]
        by_cases h1 : j < m
        · rw [if_pos (by omega), if_pos h1, if_neg (by omega)]
        · rw [if_neg h1]
          by_cases h2 : j = m
          · subst h2
            rw [if_pos (by omega), if_pos rfl, if_pos (by omega), if_pos (by omega)]
            simp
          · rw [if_neg (by omega)]
            by_cases h3 : j < m + 1 + l.length
            · rw [if_pos h3, if_pos (by omega)]
              obtain ⟨q, hq⟩ : ∃ q, j - m = q + 1 := ⟨j - m - 1, by omega⟩
              rw [hq, List.getElem?_cons_succ, show j - (m + 1) = q from by omega]
            · rw [if_neg h3, if_neg (by omega), if_neg (by omega)]
    apply Array.ext_getElem?
    intro j
    have := key v.cells.toList 0 cs (by simp; omega) j
    rw [show (v.cells.zipIdx.foldl (fun (cs : Array Value) (c, j) => cs.setIfInBounds (0 * size + j) c) cs) = ((v.cells.toList.zipIdx 0).foldl (fun (cs : Array Value) (c, j) => cs.setIfInBounds (0 * size + j) c) cs) from by
      rw [← Array.foldl_toList]; simp [Array.toList_zipIdx]]
    rw [this]
    simp only [Nat.not_lt_zero, if_false, Nat.zero_add, Nat.sub_zero, Array.length_toList, Array.getElem?_toList]
    split
    · rfl
    · rw [Array.getElem?_eq_none (by omega), Array.getElem?_eq_none (by omega)]
  simp only [execOp, Instr.buildSlice, Sem.run_bind, run_under hu, Result.andThen_ok, sizeOf, run_info hi, Sem.run_pure, h1, Nat.one_mul, Sem.run_ite, zeroValue, hz, List.map_toArray, List.map_cons, List.map_nil, hx, hfill]
  rw [if_neg (by rw [show (2:Nat) ^ 24 = 16777216 from rfl]; omega), if_neg (by omega)]
  simp [newRow]

theorem bs1v {t e : TypeId} {size bytes : Nat} {v : Value} {L : List Value} (ht : sliceOk P t e size bytes = true) (hs : Nat.ble size 1000 = true) (hx : ev N σ x = v) (hv : v.cells.size = size)
    (hL : v.cells.toList = L) (k : ∀ b w', b = w.heap.size → Nw w w' → Blk w'.heap b L → K (updo σ dst (.slice (some ⟨b, 0, none⟩) 1 1)) w') : wpo P N ⟨dst, .buildSlice t 1 #[(0, x)], ty, pos, af, g⟩ σ w K :=
  bs1T ht hs hx hv hL fun b w' h1 h2 h3 => k b w' h1 h2 ⟨_, h3⟩
theorem one_cells {v : Value} (h : v.oneCell' = true) : v.cells = #[v] := by cases v <;> first | rfl | (cases h; done)
/-- a slice of elements of one cell -/
theorem fill_list {loc : Nat → Option (Nat × Nat)} (hloc : ∀ i, loc i = some (i * 1, 1)) : ∀ (rest pre zs : List Value), zs.length = rest.length → rest.all Value.oneCell' = true →
    Instr.fill loc (pre ++ zs).toArray ((rest.zipIdx pre.length).map fun q => (q.2, q.1)) = some (pre ++ rest).toArray
  | [], pre, zs, hl, _ => by
    rw [List.eq_nil_of_length_eq_zero hl]; rfl
  | v :: r, pre, zs, hl, h1 => by
    cases zs with
    | nil => simp at hl
    | cons z zs =>
      rw [List.all_cons, Bool.and_eq_true] at h1
      have hv := one_cells h1.1
      have ih := fill_list hloc r (pre ++ [v]) zs (by simpa using hl) h1.2
      simp only [List.zipIdx_cons, List.map_cons, Instr.fill, hloc, hv]
      rw [if_neg (by simp)]
      simp only [List.length_append, List.length_singleton, List.append_assoc, List.singleton_append] at ih
      rw [← ih]
      simp
theorem bsL {t e bytes n : Nat} {ps : Array (Nat × Operand)} {L : List Value} (ht : sliceOk P t e 1 bytes = true) (hp : ps.toList.map (fun p => (p.1, ev N σ p.2)) = (L.zipIdx 0).map fun q => (q.2, q.1)) (h1 : L.all Value.oneCell' = true) (hn : L.length = n) (hs : (Nat.ble n 1000 && Nat.blt 0 n) = true)
    (k : ∀ b w', b = w.heap.size → Nw w w' → w'.heap[b]? = some (.cells L.toArray e (0, 0)) → K (updo σ dst (.slice (some ⟨b, 0, none⟩) n n)) w') : wpo P N ⟨dst, .buildSlice t n ps, ty, pos, af, g⟩ σ w K := by
  subst hn
  refine wpo_new (v := fun b => .slice (some ⟨b, 0, none⟩) L.length L.length) (ob := .cells L.toArray e (0, 0)) ?_ k
  obtain ⟨hu, i, zv, hi, hz, h1', h2, h3, h4⟩ := sliceOk_spec ht
  simp only [Bool.and_eq_true] at hs
  have hs' : L.length ≤ 1000 := by simpa using hs.1
  have hs2 : 0 < L.length := by have := Nat.le_of_ble_eq_true hs.2; omega
  have hfill : Instr.fill (fun i => some (i * 1, 1)) ((Array.range (L.length * 1)).map (zv.cells[· % zv.cells.size]!)) (ps.toList.map (fun p => (p.1, ev N σ p.2))) = some L.toArray := by
    rw [hp]
    have hzl : ((Array.range (L.length * 1)).map (zv.cells[· % zv.cells.size]!)).toList.length = L.length := by simp
    have := fill_list (loc := fun i => some (i * 1, 1)) (fun _ => rfl) L [] ((Array.range (L.length * 1)).map (zv.cells[· % zv.cells.size]!)).toList hzl h1
    rw [List.nil_append, List.nil_append, Array.toArray_toList] at this
    exact this
  simp only [execOp, Instr.buildSlice, Sem.run_bind, run_under hu, Result.andThen_ok, sizeOf, run_info hi, Sem.run_pure, h1', Sem.run_ite, zeroValue, hz, Array.toList_map, hfill]
  rw [if_neg (by rw [show (2:Nat) ^ 24 = 16777216 from rfl]; omega), if_neg (by omega)]
  simp [newRow]
/-- a slice of one element of one cell -/
theorem bs1 {t e : TypeId} {bytes : Nat} {v : Value} (ht : sliceOk P t e 1 bytes = true) (hx : ev N σ x = v) (h1 : v.oneCell' = true)
    (k : ∀ b w', b = w.heap.size → Nw w w' → Blk w'.heap b [v] → K (updo σ dst (.slice (some ⟨b, 0, none⟩) 1 1)) w') : wpo P N ⟨dst, .buildSlice t 1 #[(0, x)], ty, pos, af, g⟩ σ w K :=
  bs1v ht rfl hx (by rw [one_cells h1]; rfl) (by rw [one_cells h1]) k
/-- a slice of one struct -/
theorem bsa {t e : TypeId} {size bytes : Nat} {L : List Value} (ht : sliceOk P t e size bytes = true) (hs : Nat.ble size 1000 = true) (hx : ev N σ x = .agg L.toArray) (hl : L.length = size)
    (k : ∀ b w', b = w.heap.size → Nw w w' → Blk w'.heap b L → K (updo σ dst (.slice (some ⟨b, 0, none⟩) 1 1)) w') : wpo P N ⟨dst, .buildSlice t 1 #[(0, x)], ty, pos, af, g⟩ σ w K :=
  bs1v ht hs hx (by simpa [Value.cells] using hl) (by simp [Value.cells]) k
/-- a new variable of one cell -/
theorem bx1 {e : TypeId} {v : Value} (hx : ev N σ x = v) (h1 : v.oneCell' = true) (k : ∀ b w', b = w.heap.size → Nw w w' → Blk w'.heap b [v] → K (updo σ dst (.pointer (some ⟨b, 0, none⟩))) w') :
    wpo P N ⟨dst, .box e x, ty, pos, af, g⟩ σ w K := bx hx (by rw [one_cells h1]) k
/-- a new struct -/
theorem bxa {e : TypeId} {L : List Value} (hx : ev N σ x = .agg L.toArray) (k : ∀ b w', b = w.heap.size → Nw w w' → Blk w'.heap b L → K (updo σ dst (.pointer (some ⟨b, 0, none⟩))) w') :
    wpo P N ⟨dst, .box e x, ty, pos, af, g⟩ σ w K := bx hx (by simp [Value.cells]) k
/-- a new struct, its type told -/
theorem bxaT {e : TypeId} {L : List Value} (hx : ev N σ x = .agg L.toArray) (k : ∀ b w', b = w.heap.size → Nw w w' → w'.heap[b]? = some (.cells L.toArray e (0, 0)) → K (updo σ dst (.pointer (some ⟨b, 0, none⟩))) w') :
    wpo P N ⟨dst, .box e x, ty, pos, af, g⟩ σ w K := by
  refine wpo_new (v := fun b => .pointer (some ⟨b, 0, none⟩)) (ob := .cells L.toArray e (0, 0)) ?_ (fun b w' h1 h2 h3 => k b w' h1 h2 h3)
  simp [execOp, Instr.box, hx, newVar, newRow, Value.cells]
/-- a slice of one element of one cell, as the call's own -/
theorem bs1o {t e : TypeId} {bytes : Nat} {v : Value} (ht : sliceOk P t e 1 bytes = true) (hx : ev N σ x = v) (h1 : v.oneCell' = true)
    (k : ∀ b w', b = w.heap.size → Nw w w' → (∀ B, B ≤ b → w'.ownsRow B e 1 (.slice (some ⟨b, 0, none⟩) 1 1) 1 [v]) → K (updo σ dst (.slice (some ⟨b, 0, none⟩) 1 1)) w') : wpo P N ⟨dst, .buildSlice t 1 #[(0, x)], ty, pos, af, g⟩ σ w K :=
  bs1T (L := [v]) ht rfl hx (by rw [one_cells h1]; rfl) (by rw [one_cells h1]) fun b w' hb hN hB => k b w' hb hN fun B hBb => ⟨rfl, .inr ⟨b, 1, #[v], rfl, hBb, hB, Nat.le_refl _, by simp [maxLen], rfl, rfl⟩⟩
theorem all_one {l : List Value} (h : l.all Value.oneCell' = true) : ∀ u ∈ l, u.oneCell' = true := List.all_eq_true.1 h

/-- a store into a block, its type told -/
theorem stT {t b off : Nat} {e : TypeId} {L : List Value} {v : Value} (hz : cellsN P t = some 1) (hx : ev N σ x = .pointer (some ⟨b, off, none⟩)) (hy : ev N σ y = v) (h1 : v.oneCell' = true) (hb : w.heap[b]? = some (.cells L.toArray e (0, 0))) (ho : off < L.length)
    (k : ∀ w', Md (fun k => k = b) w w' → w'.heap[b]? = some (.cells (L.set off v).toArray e (0, 0)) → K σ w') : wpo P N ⟨none, .store t x y, ty, pos, af, g⟩ σ w K := by
  have hc : v.cells = #[v] := by cases v <;> first | rfl | (cases h1; done)
  have hcell : w.cell? ⟨b, off, none⟩ = some L[off] := by rw [cell_cel, cel_of hb]; simp [ho]
  have hfr : w.frozen? ⟨b, off, none⟩ = false := by simp only [World.frozen?, show w.heap[b]? = _ from hb]; simp
  unfold cellsN at hz
  simp only [Option.map_eq_some_iff] at hz
  obtain ⟨i, hi, hs⟩ := hz
  have hadd : (⟨b, off, none⟩ : Addr).add 0 = ⟨b, off, none⟩ := rfl
  have hrun : (execOp (ev N σ) ⟨none, .store t x y, ty, pos, af, g⟩).run P w = .ok .skip (w.setCell ⟨b, off, none⟩ v) := by
    simp [execOp, Instr.storeAt, hx, hy, Instr.sureAddr, storeVar, hc, sizeOf, run_info hi, hs, storeCells, hadd, run_store P w _ v _ h1, hcell, hfr]
  unfold wpo Oper.wp
  rw [act_eval, hrun]
  refine ⟨σ, rfl, k _ ⟨rfl, rfl, by simp [World.setCell], fun k _ hk => ?_⟩ ?_⟩
  · exact Below.heap_setCell w _ v k hk
  · have hlt := (Array.getElem?_eq_some_iff.1 hb).1
    have hv : w.heap[b] = .cells L.toArray e (0, 0) := (Array.getElem?_eq_some_iff.1 hb).2
    simp only [World.setCell]
    rw [Array.getElem?_eq_getElem (by simpa using hlt), Array.getElem_modify]
    simp [hv, List.setIfInBounds_toArray]
/-- a store into a block -/
theorem st {t b off : Nat} {L : List Value} {v : Value} (hz : cellsN P t = some 1) (hx : ev N σ x = .pointer (some ⟨b, off, none⟩)) (hy : ev N σ y = v) (h1 : v.oneCell' = true) (hb : Blk w.heap b L) (ho : off < L.length)
    (k : ∀ w', Md (fun k => k = b) w w' → Blk w'.heap b (L.set off v) → K σ w') : wpo P N ⟨none, .store t x y, ty, pos, af, g⟩ σ w K :=
  let ⟨_, hb⟩ := hb
  stT hz hx hy h1 hb ho fun w' h1 h2 => k w' h1 ⟨_, h2⟩
/-- a store of a struct or an array into a block, its type told -/
theorem staT {t b off n : Nat} {e : TypeId} {L vs : List Value} (hz : cellsN P t = some n) (hx : ev N σ x = .pointer (some ⟨b, off, none⟩)) (hy : ev N σ y = .agg vs.toArray) (hn : vs.length = n) (h1 : vs.all Value.oneCell' = true) (hb : w.heap[b]? = some (.cells L.toArray e (0, 0))) (ho : off + n ≤ L.length)
    (k : ∀ w', Md (fun k => k = b) w w' → w'.heap[b]? = some (.cells (L.take off ++ vs ++ L.drop (off + n)).toArray e (0, 0)) → K σ w') : wpo P N ⟨none, .store t x y, ty, pos, af, g⟩ σ w K := by
  unfold cellsN at hz
  simp only [Option.map_eq_some_iff] at hz
  obtain ⟨i, hi, hs⟩ := hz
  have hst := run_storeCells_at P b off e vs 0 L.toArray w hb (by simp; omega) (all_one h1)
  have hrun : (execOp (ev N σ) ⟨none, .store t x y, ty, pos, af, g⟩).run P w = .ok .skip (w.setRow b (L.take off ++ vs ++ L.drop (off + n)).toArray) := by
    simp [execOp, Instr.storeAt, hx, hy, Instr.sureAddr, storeVar, Value.cells, sizeOf, run_info hi, hs, hn, hst]
  unfold wpo Oper.wp
  rw [act_eval, hrun]
  exact ⟨σ, rfl, k _ ⟨rfl, rfl, by simp, fun k _ hk => setRow_other w b k _ hk⟩ (setRow_heap w b _ _ e _ hb)⟩
/-- a store of a struct or an array into a block -/
theorem sta {t b off n : Nat} {L vs : List Value} (hz : cellsN P t = some n) (hx : ev N σ x = .pointer (some ⟨b, off, none⟩)) (hy : ev N σ y = .agg vs.toArray) (hn : vs.length = n) (h1 : vs.all Value.oneCell' = true) (hb : Blk w.heap b L) (ho : off + n ≤ L.length)
    (k : ∀ w', Md (fun k => k = b) w w' → Blk w'.heap b (L.take off ++ vs ++ L.drop (off + n)) → K σ w') : wpo P N ⟨none, .store t x y, ty, pos, af, g⟩ σ w K := by
  obtain ⟨e, hb⟩ := hb
  unfold cellsN at hz
  simp only [Option.map_eq_some_iff] at hz
  obtain ⟨i, hi, hs⟩ := hz
  have hst := run_storeCells_at P b off e vs 0 L.toArray w hb (by simp; omega) (all_one h1)
  have hrun : (execOp (ev N σ) ⟨none, .store t x y, ty, pos, af, g⟩).run P w = .ok .skip (w.setRow b (L.take off ++ vs ++ L.drop (off + n)).toArray) := by
    simp [execOp, Instr.storeAt, hx, hy, Instr.sureAddr, storeVar, Value.cells, sizeOf, run_info hi, hs, hn, hst]
  unfold wpo Oper.wp
  rw [act_eval, hrun]
  exact ⟨σ, rfl, k _ ⟨rfl, rfl, by simp, fun k _ hk => setRow_other w b k _ hk⟩ ⟨e, setRow_heap w b _ _ e _ hb⟩⟩

theorem ap_fresh {t ty e : TypeId} {i : TypeInfo} {zv : Value} {B n m c : Nat} {v v' : Value} {xs news : List Value} {ad : Addr} {w' : World} (hu : P.underlying t = some (.slice e)) (hi : P.info? e = some i) (hz : i.zero = some zv) (hzs : zv.cells.size = i.size) (hpos : 0 < i.size)
    (hown : w.ownsRow B e i.size v n xs) (hl : news.length = m * i.size) (hnews : ∀ j u, news[j]? = some u → w.cell? (ad.add j) = some u) (h1 : ∀ u ∈ news, u.oneCell' = true) (hmx : n + m ≤ maxLen) (hb : (n + m) * i.bytes ≤ 140737488355328)
    (hr : (Builtin.append_ #[t, t] ty #[v, .slice (some ad) m c]).run P w = .ok v' w') : ∀ k, v'.ownBlock = some k → v.ownBlock = some k ∨ w.heap.size ≤ k := by
  intro k hk
  have h63 : n + m ≤ 9223372036854775807 := by unfold maxLen at hmx; omega
  rcases hown.2 with ⟨rfl, rfl⟩ | ⟨gg, cap, cur, rfl, hbg, hg, hnc, hcm, hcs, htake⟩
  · have hx : xs = [] := List.eq_nil_of_length_eq_zero (by simpa using hown.1)
    subst hx
    obtain ⟨v2, w2, hr2, h2, _, _⟩ := run_append_own (P := P) w w.heap.size t ty e i zv i.size i.bytes hu hi hz rfl rfl hzs hpos _ 0 [] (World.ownsRow_nil w w.heap.size e i.size) ad m c news hl hnews h1 hmx hb (Nat.le_refl _)
    rw [hr] at hr2
    cases hr2
    exact .inr (by
      rcases h2.2 with ⟨h, _⟩ | ⟨g2, _, _, h, hb2, _⟩
      · rw [h] at hk; simp [Value.ownBlock] at hk
      · rw [h] at hk; simp only [Value.ownBlock, Option.some.injEq] at hk; omega)
  · by_cases hroom : n + m ≤ cap
    · have hfit : n * i.size + news.length ≤ cur.size := by rw [hl, hcs, ← Nat.add_mul]; exact Nat.mul_le_mul_right _ hroom
      rw [run_append_room (P := P) w t ty e i hu hi gg n cap cur hg ad m c news hl hnews h1 hroom hfit] at hr
      cases hr
      exact .inl hk
    · have holds : ∀ j u, xs[j]? = some u → w.cell? ((⟨gg, 0, none⟩ : Addr).add j) = some u := hown.cells (g := gg) rfl
      rw [run_append_grow (P := P) w t ty e i zv hu hi hz ⟨gg, 0, none⟩ n cap xs hown.1 holds ad m c news hl hnews (by omega) (by omega) (growslice_fits (by omega) hb)] at hr
      cases hr
      simp only [Value.ownBlock, Option.some.injEq] at hk
      exact .inr (by omega)
/-- append to a slice that is nil or of the call's own -/
theorem ap {t e size bytes B n m c : Nat} {v : Value} {xs news : List Value} {a : Option Addr} (ht : sliceOk P t e size bytes = true) (hown : w.ownsRow B e size v n xs) (hx : ev N σ x = v) (hB : B ≤ w.heap.size)
    (hy : ev N σ y = .slice a m c) (hc : Cells w.heap a news) (hl : news.length = m * size) (h1 : news.all Value.oneCell' = true) (hb : (n + m) * bytes ≤ 140737488355328) (h63 : n + m ≤ 9223372036854775807)
    (k : ∀ v' w', w'.ownsRow B e size v' (n + m) (xs ++ news) → Md (fun k => v.ownBlock = some k) w w' → (v' = .slice none 0 0 ↔ v = .slice none 0 0 ∧ m = 0) → (∀ k, v'.ownBlock = some k → v.ownBlock = some k ∨ w.heap.size ≤ k) → K (updo σ dst v') w') :
    wpo P N ⟨dst, .call ⟨.builtin .append, #[x, y], #[t, t]⟩, ty, pos, af, g⟩ σ w K := by
  obtain ⟨hu, i, zv, hi, hz, hs, hby, hzs, hpos⟩ := sliceOk_spec ht
  have hmx : n + m ≤ maxLen := by unfold maxLen; omega
  by_cases hm : news = []
  · subst hm
    have hm0 : m = 0 := by
      rcases Nat.mul_eq_zero.1 (hl.symm.trans rfl) with h | h
      · exact h
      · omega
    subst hm0
    have hrun : (Builtin.append_ #[t, t] ty #[v, .slice a 0 c]).run P w = .ok v w := by
      rcases hown.2 with ⟨rfl, rfl⟩ | ⟨gg, cap, cur, rfl, _, _, hle, _⟩
      · cases a <;> simp [Builtin.append_, run_under hu, sizeOf, run_info hi, Builtin.lenOf, Builtin.firstCells, loadCells, loadCellsFrom]
      · cases a <;> simp [Builtin.append_, run_under hu, sizeOf, run_info hi, Builtin.lenOf, Builtin.firstCells, loadCells, loadCellsFrom, hle, storeCells]
    refine wpo_run (w' := w) (v := v) ?_ (k v w (by simpa using hown) (Md.refl _ _) (by simp) (fun _ h => .inl h))
    simp [execOp, resolve, invoke, builtin, hx, hy, hrun]
  · have ha := hc.ok hm
    have hnews : ∀ j u, news[j]? = some u → w.cell? ((⟨bk a, fo a, none⟩ : Addr).add j) = some u := fun j u hu => by rw [addr_add, cell_cel]; exact hc.cel j u hu
    obtain ⟨v', w', hr, h2, h3, h4⟩ := run_append_own (P := P) w B t ty e i zv size bytes hu hi hz hs hby hzs hpos v n xs hown ⟨bk a, fo a, none⟩ m c news hl hnews (all_one h1) hmx hb hB
    subst hs hby
    have hfr := ap_fresh hu hi hz hzs hpos hown hl hnews (all_one h1) hmx hb hr
    refine wpo_run (w' := w') (v := v') ?_ (k v' w' h2 ⟨h3.os, h3.output, h3.size, fun k hk hne => h3.block k hk (fun e => hne e.symm)⟩ h4 hfr)
    have hy' : ev N σ y = .slice (some ⟨bk a, fo a, none⟩) m c := hy.trans (congrArg (fun a => Value.slice a m c) ha)
    simp [execOp, resolve, invoke, builtin, hx, hy', hr]
theorem ia' {t n len cap : Nat} {k : IntKind} {i : Int} {a : Option Addr} (he : elemSize P t = some n) (hx : ev N σ x = .slice a len cap) (hy : ev N σ y = .int k i) (h0 : 0 ≤ i ∧ i < len) (ha : a = some ⟨bk a, fo a, none⟩) :
    (execOp (ev N σ) ⟨dst, .indexAddr t x y, ty, pos, af, g⟩).run P w = .ok (.value (.pointer (some ⟨bk a, fo a + i.toNat * n, none⟩))) w :=
  ia he (by rw [hx]; congr 1) hy h0
end
theorem own_md {F : Nat → Prop} {w w' : World} {B e size n : Nat} {v : Value} {xs : List Value} (h : w.ownsRow B e size v n xs) (hm : Md F w w') (hf : ∀ k, v.ownBlock = some k → ¬ F k) : w'.ownsRow B e size v n xs := by
  refine ⟨h.1, ?_⟩
  rcases h.2 with hn | ⟨g, cap, cur, rfl, hb, hgg, rest⟩
  · exact .inl hn
  · exact .inr ⟨g, cap, cur, rfl, hb, hm.blk hgg (hf g rfl), rest⟩
section
variable {P : Program} {N : Nat} {σ : Nat → Value} {w : World} {dst : Option Nat} {ty : TypeId} {pos : String} {af : Array Edge} {g : Option (Nat × Bool)} {x y z : Operand} {K : (Nat → Value) → World → Prop}
/-- a store into a slice of the call's own -/
theorem sto {t B e size n cap off j : Nat} {a : Option Addr} {xs : List Value} {u : Value} (hown : w.ownsRow B e size (.slice a n cap) n xs) (hz : cellsN P t = some 1) (hx : ev N σ x = .pointer (some ⟨bk a, off, none⟩)) (hy : ev N σ y = u) (h1 : u.oneCell' = true)
    (hj : off = fo a + j) (hl : j < n * size)
    (k : ∀ w', Md (fun k => (Value.slice a n cap).ownBlock = some k) w w' → w'.ownsRow B e size (.slice a n cap) n (xs.set j u) → K σ w') : wpo P N ⟨none, .store t x y, ty, pos, af, g⟩ σ w K := by
  obtain ⟨h0, h⟩ := hown
  rcases h with ⟨h, rfl⟩ | ⟨gg, cp, cur, h, hB, hg, hle, hcm, hsz, ht⟩
  · simp at hl
  · simp only [Value.slice.injEq, true_and] at h
    obtain ⟨rfl, rfl⟩ := h
    have hj' : off = j := by rw [hj]; simp [fo]
    subst hj'
    have hlen : off < cur.toList.length := by
      have := Nat.mul_le_mul_right size hle
      rw [Array.length_toList, hsz]; omega
    refine stT (L := cur.toList) hz hx hy h1 (show w.heap[gg]? = _ by simpa using hg) hlen fun w' hM hB' => k w' (hM.mono (fun k _ hk => by subst hk; rfl)) ⟨by simpa using h0, .inr ⟨gg, cap, _, rfl, hB, hB', hle, hcm, by simpa using hsz, ?_⟩⟩
    rw [← ht]
    simp only
    rw [List.take_set]
end
theorem own_one {w : World} {B e size n : Nat} {v : Value} {xs : List Value} (h : w.ownsRow B e size v n xs) : v.oneCell' = true := by
  rcases h.2 with ⟨rfl, _⟩ | ⟨g, cap, cur, rfl, _⟩ <;> rfl
theorem own_slice {w : World} {B e size n : Nat} {v : Value} {xs : List Value} (h : w.ownsRow B e size v n xs) : ∃ a cap, v = .slice a n cap := by
  rcases h.2 with ⟨rfl, rfl⟩ | ⟨g, cap, cur, rfl, _⟩
  · exact ⟨_, _, rfl⟩
  · exact ⟨_, _, rfl⟩
/-- two slices of the call's own, of different element types, lie in different blocks -/
theorem own_ne {w : World} {B B' e e' size size' n n' : Nat} {v v' : Value} {xs xs' : List Value} (h : w.ownsRow B e size v n xs) (h' : w.ownsRow B' e' size' v' n' xs') (hne : e ≠ e') {k : Nat} (hk : v.ownBlock = some k) : v'.ownBlock ≠ some k := by
  intro hk'
  rcases h.2 with ⟨rfl, _⟩ | ⟨g, cap, cur, rfl, _, hg, _⟩
  · simp [Value.ownBlock] at hk
  · rcases h'.2 with ⟨rfl, _⟩ | ⟨g', cap', cur', rfl, _, hg', _⟩
    · simp [Value.ownBlock] at hk'
    · simp only [Value.ownBlock, Option.some.injEq] at hk hk'
      subst hk hk'
      rw [hg] at hg'
      simp only [Option.some.injEq, Obj.cells.injEq] at hg'
      exact hne hg'.2.1
theorem own_nw {w w' : World} {B e size n : Nat} {v : Value} {xs : List Value} (h : w.ownsRow B e size v n xs) (hm : Wk w w') : w'.ownsRow B e size v n xs := own_md h hm (fun _ _ x => x)
theorem own_lt {w : World} {B e size n : Nat} {v : Value} {xs : List Value} (h : w.ownsRow B e size v n xs) {k : Nat} (hk : v.ownBlock = some k) : B ≤ k ∧ k < w.heap.size := h.lt k hk
/-- a step that writes an owned block alone, seen from a world whose blocks all lie below -/
theorem Wk.own {w0 w w' : World} {B e size n : Nat} {v : Value} {xs : List Value} (h : Wk w0 w) (ho : w.ownsRow B e size v n xs) (hm : Md (fun k => v.ownBlock = some k) w w') (hB : w0.heap.size ≤ B) : Wk w0 w' :=
  Md.trans' h hm (fun k hk hv => by have := (own_lt ho hv).1; omega)
theorem own_cells {w : World} {B e size n : Nat} {v : Value} {xs : List Value} (h : w.ownsRow B e size v n xs) : ∃ a cap, v = .slice a n cap ∧ Cells w.heap a xs ∧ n ≤ cap ∧ (∀ k, v.ownBlock = some k → a = some ⟨k, 0, none⟩ ∧ B ≤ k ∧ k < w.heap.size) ∧ (v.ownBlock = none → xs = []) := by
  rcases h.2 with ⟨rfl, rfl⟩ | ⟨g, cap, cur, rfl, hb, hgg, hle, _, _, ht⟩
  · have : xs = [] := List.eq_nil_of_length_eq_zero (by simpa using h.1)
    subst this
    exact ⟨none, 0, rfl, Cells.nil _ _, Nat.le_refl _, fun k hk => by simp [Value.ownBlock] at hk, fun _ => rfl⟩
  · refine ⟨_, cap, rfl, ⟨fun _ => rfl, fun j u hu => ?_⟩, hle, fun k hk => ?_, fun hk => by simp [Value.ownBlock] at hk⟩
    · show cel w.heap g (0 + j) = _
      rw [Nat.zero_add, cel_of hgg]
      rw [← ht, List.getElem?_take] at hu
      split at hu
      · simpa using hu
      · cases hu
    · simp only [Value.ownBlock, Option.some.injEq] at hk; subst hk
      exact ⟨rfl, hb, (Array.getElem?_eq_some_iff.1 hgg).1⟩
theorem own_cellsS {w : World} {B e size n cap : Nat} {a : Option Addr} {xs : List Value} (h : w.ownsRow B e size (.slice a n cap) n xs) : n ≤ cap ∧ Cells w.heap a xs := by
  obtain ⟨a', c', hv, hc, hle, _⟩ := own_cells h
  simp only [Value.slice.injEq, true_and] at hv
  obtain ⟨rfl, rfl⟩ := hv
  exact ⟨hle, hc⟩
theorem own_mono {w : World} {B B' e size n : Nat} {v : Value} {xs : List Value} (h : w.ownsRow B e size v n xs) (hB : B' ≤ B) : w.ownsRow B' e size v n xs := by
  refine ⟨h.1, ?_⟩
  rcases h.2 with h | ⟨g, cap, cur, h1, h2, r⟩
  · exact .inl h
  · exact .inr ⟨g, cap, cur, h1, Nat.le_trans hB h2, r⟩
/-- the cells from a later place on -/
theorem Cells.drop {h : Array Obj} {a : Option Addr} {xs : List Value} (hc : Cells h a xs) {cap k size : Nat} (hcap : xs.length ≤ cap * size) : Cells h (shf a cap k size) (xs.drop (k * size)) := by
  unfold shf
  by_cases hk : cap = k
  · rw [if_pos hk, List.drop_eq_nil_of_le (by rw [← hk]; exact hcap)]; exact Cells.nil _ _
  · rw [if_neg hk]
    by_cases hne : xs = []
    · subst hne; rw [List.drop_nil]; exact Cells.nil _ _
    · have ha := hc.ok hne
      rw [ha]
      simp only [Option.map_some, addr_add]
      refine ⟨fun _ => rfl, fun j u hu => ?_⟩
      rw [List.getElem?_drop] at hu
      have := hc.cel _ _ hu
      show Hb.cel h (bk a) (fo a + k * size + j) = _
      rw [Nat.add_assoc]; exact this
theorem Strs.drop {h : Array Obj} {a : Option Addr} {l : List (List UInt8)} (hs : Strs h a l) {cap k : Nat} (hcap : l.length ≤ cap) : Strs h (shf a cap k 1) (l.drop k) := by
  have := Cells.drop (k := k) (size := 1) hs (cap := cap) (by rw [List.length_map]; omega)
  rw [Nat.mul_one, ← List.map_drop] at this; exact this
theorem Strs.take {h : Array Obj} {a : Option Addr} {l : List (List UInt8)} (hs : Strs h a l) (k : Nat) : Strs h a (l.take k) := by
  have := Cells.take hs k
  rw [← List.map_take] at this; exact this
theorem own_new {w : World} {B e size n cap : Nat} {a : Option Addr} {xs : List Value} (h : w.ownsRow B e size (.slice a n cap) n xs) (hne : xs ≠ []) : B ≤ bk a ∧ bk a < w.heap.size := by
  obtain ⟨a', c', hv, _, _, h1, h2⟩ := own_cells h
  simp only [Value.slice.injEq, true_and] at hv
  obtain ⟨rfl, rfl⟩ := hv
  cases hk : (Value.slice a n cap).ownBlock with
  | none => exact absurd (h2 hk) hne
  | some k =>
    obtain ⟨rfl, h3, h4⟩ := h1 k hk
    exact ⟨h3, h4⟩
/-- rows that were there stay behind an append, where they are no longer than what is appended to -/
theorem ap_keep {P : Program} {w : World} {t ty e : TypeId} {i : TypeInfo} {zv : Value} {B n m c : Nat} {v v' : Value} {xs news : List Value} {ad : Addr} {w' : World} (hu : P.underlying t = some (.slice e)) (hi : P.info? e = some i) (hz : i.zero = some zv) (hzs : zv.cells.size = i.size) (hpos : 0 < i.size) (hBw : B ≤ w.heap.size)
    (hown : w.ownsRow B e i.size v n xs) (hl : news.length = m * i.size) (hnews : ∀ j u, news[j]? = some u → w.cell? (ad.add j) = some u) (h1 : ∀ u ∈ news, u.oneCell' = true) (hmx : n + m ≤ maxLen) (hb : (n + m) * i.bytes ≤ 140737488355328)
    (hr : (Builtin.append_ #[t, t] ty #[v, .slice (some ad) m c]).run P w = .ok v' w') {B0 n0 : Nat} {v0 : Value} {xs0 : List Value} (h0 : w.ownsRow B0 e i.size v0 n0 xs0) (hle : v0.ownBlock = v.ownBlock → n0 ≤ n) : w'.ownsRow B0 e i.size v0 n0 xs0 := by
  have h63 : n + m ≤ 9223372036854775807 := by unfold maxLen at hmx; omega
  refine ⟨h0.1, ?_⟩
  rcases h0.2 with hn0 | ⟨g0, cap0, cur0, rfl, hb0, hg0, hnc0, hcm0, hcs0, ht0⟩
  · exact .inl hn0
  · rcases hown.2 with ⟨rfl, rfl⟩ | ⟨gg, cap, cur, rfl, hbg, hg, hnc, hcm, hcs, htake⟩
    · obtain ⟨v2, w2, hr2, _, h3, _⟩ := run_append_own (P := P) w B t ty e i zv i.size i.bytes hu hi hz rfl rfl hzs hpos _ 0 xs hown ad m c news hl hnews h1 hmx hb hBw
      rw [hr] at hr2
      cases hr2
      have hlt := (Array.getElem?_eq_some_iff.1 hg0).1
      exact .inr ⟨g0, cap0, cur0, rfl, hb0, (h3.block g0 hlt (by simp [Value.ownBlock])).trans hg0, hnc0, hcm0, hcs0, ht0⟩
    · by_cases hroom : n + m ≤ cap
      · have hfit : n * i.size + news.length ≤ cur.size := by rw [hl, hcs, ← Nat.add_mul]; exact Nat.mul_le_mul_right _ hroom
        rw [run_append_room (P := P) w t ty e i hu hi gg n cap cur hg ad m c news hl hnews h1 hroom hfit] at hr
        cases hr
        by_cases hgg : g0 = gg
        · subst hgg
          rw [hg] at hg0
          cases hg0
          have hn0 := Nat.mul_le_mul_right i.size (hle (by simp [Value.ownBlock]))
          have hnl : n * i.size ≤ cur0.size := by rw [hcs]; exact Nat.mul_le_mul_right _ hnc
          refine .inr ⟨g0, cap0, _, rfl, hb0, setRow_heap w g0 _ _ e _ hg, hnc0, hcm0, ?_, ?_⟩
          · rw [← hcs0]
            simp only [List.size_toArray, List.length_append, List.length_take, List.length_drop, Array.length_toList]; omega
          · rw [← ht0]
            simp only
            rw [List.append_assoc, List.take_append_of_le_length (by rw [List.length_take, Array.length_toList]; omega), List.take_take, Nat.min_eq_left hn0]
        · exact .inr ⟨g0, cap0, cur0, rfl, hb0, (setRow_other w gg g0 _ hgg).trans hg0, hnc0, hcm0, hcs0, ht0⟩
      · have holds : ∀ j u, xs[j]? = some u → w.cell? ((⟨gg, 0, none⟩ : Addr).add j) = some u := hown.cells (g := gg) rfl
        rw [run_append_grow (P := P) w t ty e i zv hu hi hz ⟨gg, 0, none⟩ n cap xs hown.1 holds ad m c news hl hnews (by omega) (by omega) (growslice_fits (by omega) hb)] at hr
        cases hr
        refine .inr ⟨g0, cap0, cur0, rfl, hb0, ?_, hnc0, hcm0, hcs0, ht0⟩
        have hlt := (Array.getElem?_eq_some_iff.1 hg0).1
        show (w.heap.push _)[g0]? = _
        rw [Array.getElem?_push, if_neg (by omega)]; exact hg0
section
variable {P : Program} {N : Nat} {σ : Nat → Value} {w : World} {dst : Option Nat} {ty : TypeId} {pos : String} {af : Array Edge} {g : Option (Nat × Bool)} {x y z : Operand} {K : (Nat → Value) → World → Prop}
/-- append, the row that was there kept -/
theorem apk {t e size bytes B n m c : Nat} {v : Value} {xs news : List Value} {a : Option Addr} (ht : sliceOk P t e size bytes = true) (hown : w.ownsRow B e size v n xs) (hx : ev N σ x = v) (hB : B ≤ w.heap.size)
    (hy : ev N σ y = .slice a m c) (hc : Cells w.heap a news) (hl : news.length = m * size) (h1 : news.all Value.oneCell' = true) (hb : (n + m) * bytes ≤ 140737488355328) (h63 : n + m ≤ 9223372036854775807)
    (k : ∀ v' w', w'.ownsRow B e size v' (n + m) (xs ++ news) → (∀ B0 v0 n0 xs0, w.ownsRow B0 e size v0 n0 xs0 → (v0.ownBlock = v.ownBlock → n0 ≤ n) → w'.ownsRow B0 e size v0 n0 xs0) → Md (fun k => v.ownBlock = some k) w w' → (∀ k, v'.ownBlock = some k → v.ownBlock = some k ∨ w.heap.size ≤ k) → K (updo σ dst v') w') :
    wpo P N ⟨dst, .call ⟨.builtin .append, #[x, y], #[t, t]⟩, ty, pos, af, g⟩ σ w K := by
  obtain ⟨hu, i, zv, hi, hz, hs, hby, hzs, hpos⟩ := sliceOk_spec ht
  have hmx : n + m ≤ maxLen := by unfold maxLen; omega
  by_cases hm : news = []
  · subst hm
    have hm0 : m = 0 := by
      rcases Nat.mul_eq_zero.1 (hl.symm.trans rfl) with h | h
      · exact h
      · omega
    subst hm0
    have hrun : (Builtin.append_ #[t, t] ty #[v, .slice a 0 c]).run P w = .ok v w := by
      rcases hown.2 with ⟨rfl, rfl⟩ | ⟨gg, cap, cur, rfl, _, _, hle, _⟩
      · cases a <;> simp [Builtin.append_, run_under hu, sizeOf, run_info hi, Builtin.lenOf, Builtin.firstCells, loadCells, loadCellsFrom]
      · cases a <;> simp [Builtin.append_, run_under hu, sizeOf, run_info hi, Builtin.lenOf, Builtin.firstCells, loadCells, loadCellsFrom, hle, storeCells]
    refine wpo_run (w' := w) (v := v) ?_ (k v w (by simpa using hown) (fun _ _ _ _ h _ => h) (Md.refl _ _) (fun _ h => .inl h))
    simp [execOp, resolve, invoke, builtin, hx, hy, hrun]
  · have ha := hc.ok hm
    have hnews : ∀ j u, news[j]? = some u → w.cell? ((⟨bk a, fo a, none⟩ : Addr).add j) = some u := fun j u hu => by rw [addr_add, cell_cel]; exact hc.cel j u hu
    obtain ⟨v', w', hr, h2, h3, h4⟩ := run_append_own (P := P) w B t ty e i zv size bytes hu hi hz hs hby hzs hpos v n xs hown ⟨bk a, fo a, none⟩ m c news hl hnews (all_one h1) hmx hb hB
    subst hs hby
    have hfr := ap_fresh hu hi hz hzs hpos hown hl hnews (all_one h1) hmx hb hr
    have hkp : ∀ B0 v0 n0 xs0, w.ownsRow B0 e i.size v0 n0 xs0 → (v0.ownBlock = v.ownBlock → n0 ≤ n) → w'.ownsRow B0 e i.size v0 n0 xs0 := fun _ _ _ _ h0 hle => ap_keep hu hi hz hzs hpos hB hown hl hnews (all_one h1) hmx hb hr h0 hle
    refine wpo_run (w' := w') (v := v') ?_ (k v' w' h2 hkp ⟨h3.os, h3.output, h3.size, fun k hk hne => h3.block k hk (fun e => hne e.symm)⟩ hfr)
    have hy' : ev N σ y = .slice (some ⟨bk a, fo a, none⟩) m c := hy.trans (congrArg (fun a => Value.slice a m c) ha)
    simp [execOp, resolve, invoke, builtin, hx, hy', hr]
end
end Go.Hb
