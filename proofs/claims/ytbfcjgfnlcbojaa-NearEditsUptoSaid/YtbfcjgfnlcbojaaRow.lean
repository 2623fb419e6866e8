/-
  Structs: built, laid into slices; rows of structs as lists of cells. Over any program. No conditions but those that each lemma names.
-/
import Derived.Test.YtbfcjgfnlcbojaaEff
namespace Go.Hb
open Go.RowKit

/-- where a struct's fields lie, and its zero value -/
def structOk (P : Program) (t : TypeId) : Option (List (Nat × Nat) × List Value) :=
  match P.info? t, P.underlying t with
  | some it, some (.struct fields) =>
    match it.zero, fields.toList.mapM (fun f => (P.info? f.type).map fun i => (f.offset, i.size)) with
    | some z, some pl => some (pl, z.cells.toList)
    | _, _ => none
  | _, _ => none
def putAll (pl : List (Nat × Nat)) : List Value → List (Nat × Value) → Option (List Value)
  | zs, [] => some zs
  | zs, (i, v) :: r => match pl[i]? with
    | some (off, s) => if (s == 1 && v.oneCell' && Nat.blt off zs.length) = true then putAll pl (zs.set off v) r else none
    | none => none
theorem putAll_fill {pl : List (Nat × Nat)} {zs L : List Value} {ps : List (Nat × Value)} (h : putAll pl zs ps = some L) : Instr.fill (pl.toArray[·]?) zs.toArray ps = some L.toArray := by
  induction ps generalizing zs with
  | nil => simp only [putAll, Option.some.injEq] at h; subst h; rfl
  | cons p ps ih =>
    obtain ⟨i, v⟩ := p
    simp only [putAll] at h
    split at h
    · rename_i off s hs
      split at h
      · rename_i hc
        simp only [Bool.and_eq_true, beq_iff_eq] at hc
        obtain ⟨⟨rfl, h1⟩, ho⟩ := hc
        have ho' : off < zs.length := Nat.le_of_ble_eq_true ho
        have hv : v.cells = #[v] := one_cells h1
        have hpl : pl.toArray[i]? = some (off, 1) := by simpa using hs
        simp only [Instr.fill, hpl, hv]
        rw [if_neg (by simp; omega), ← ih h]
        simp
      · cases h
    · cases h

theorem take_mid {α : Type} {C vs : List α} {a s m : Nat} (h1 : a + s ≤ m) (hv : vs.length = s) (h2 : m ≤ C.length) : (C.take a ++ vs ++ C.drop (a + s)).take m = (C.take m).take a ++ vs ++ (C.take m).drop (a + s) := by
  rw [List.take_append, List.take_of_length_le (by simp only [List.length_append, List.length_take]; omega), List.take_take, List.drop_take]
  congr 2
  · rw [show min a m = a from by omega]
  · simp only [List.length_append, List.length_take]; omega
/-! rows: each element of a list laid out in as many cells -/
theorem flat_len {α : Type} {f : α → List Value} {m : Nat} (hf : ∀ a, (f a).length = m) (l : List α) : (l.flatMap f).length = l.length * m := by
  induction l with
  | nil => simp
  | cons x l ih => simp [ih, hf, Nat.succ_mul, Nat.add_comm]
theorem flat_get {α : Type} {f : α → List Value} {m : Nat} (hf : ∀ a, (f a).length = m) {l : List α} {j c : Nat} {a : α} (h : l[j]? = some a) (hc : c < m) : (l.flatMap f)[j * m + c]? = (f a)[c]? := by
  induction l generalizing j with
  | nil => simp at h
  | cons x l ih =>
    cases j with
    | zero =>
      simp only [List.getElem?_cons_zero, Option.some.injEq] at h; subst h
      rw [Nat.zero_mul, Nat.zero_add, List.flatMap_cons, List.getElem?_append_left (by rw [hf]; exact hc)]
    | succ j =>
      simp only [List.getElem?_cons_succ] at h
      rw [List.flatMap_cons, List.getElem?_append_right (by rw [hf, Nat.succ_mul]; omega), hf, show (j + 1) * m + c - m = j * m + c from by rw [Nat.succ_mul]; omega]
      exact ih h
theorem flat_cells {α : Type} {f : α → List Value} {m : Nat} (hf : ∀ a, (f a).length = m) {h : Array Obj} {a : Option Addr} {l : List α} {i : Nat} {e : α} (hc : Cells h a (l.flatMap f)) (hl : l[i]? = some e) : ∀ j, j < m → Hb.cel h (bk a) (fo a + i * m + j) = (f e)[j]? := by
  intro j hj
  have h1 := flat_get hf hl hj
  have h2 : j < (f e).length := by rw [hf]; exact hj
  rw [List.getElem?_eq_getElem h2] at h1 ⊢
  rw [Nat.add_assoc]; exact hc.cel _ _ h1
theorem flat_ne {α : Type} {f : α → List Value} {m : Nat} (hf : ∀ a, (f a).length = m) (hm : 0 < m) {l : List α} (h : 0 < l.length) : l.flatMap f ≠ [] := by
  intro e
  have := flat_len hf l
  rw [e] at this
  have : 0 < l.length * m := Nat.mul_pos h hm
  simp at *; omega
theorem flat_set {α : Type} {f : α → List Value} {m : Nat} (hf : ∀ a, (f a).length = m) {l : List α} {j : Nat} (x : α) (h : j < l.length) : (l.set j x).flatMap f = (l.flatMap f).take (j * m) ++ f x ++ (l.flatMap f).drop (j * m + m) := by
  induction l generalizing j with
  | nil => simp at h
  | cons y l ih =>
    cases j with
    | zero =>
      simp only [List.set_cons_zero, List.flatMap_cons, Nat.zero_mul, List.take_zero, List.nil_append, Nat.zero_add]
      rw [List.drop_append, List.drop_of_length_le (by rw [hf]; exact Nat.le_refl _), hf]; simp
    | succ j =>
      simp only [List.length_cons] at h
      rw [List.set_cons_succ, List.flatMap_cons, ih (by omega), List.flatMap_cons, List.take_append, List.drop_append, hf, List.take_of_length_le (l := f y) (by rw [hf, Nat.succ_mul]; omega), List.drop_of_length_le (l := f y) (by rw [hf, Nat.succ_mul]; omega),
        show (j + 1) * m - m = j * m from by rw [Nat.succ_mul]; omega, show (j + 1) * m + m - m = j * m + m from by rw [Nat.succ_mul]; omega]
      simp
theorem flat_one {α : Type} {f : α → List Value} (hf : ∀ a, (f a).all Value.oneCell' = true) (l : List α) : (l.flatMap f).all Value.oneCell' = true := by
  simp only [List.all_flatMap, List.all_eq_true]; intro x _; exact List.all_eq_true.1 (hf x)

theorem putAll_c {pl : List (Nat × Nat)} {zs : List Value} {i off : Nat} {v : Value} {r : List (Nat × Value)} (h : pl[i]? = some (off, 1)) (h1 : v.oneCell' = true) (ho : Nat.blt off zs.length = true) : putAll pl zs ((i, v) :: r) = putAll pl (zs.set off v) r := by
  simp only [putAll, h, h1, ho]; rfl
theorem put2 {a b u v : Value} (h1 : u.oneCell' = true) (h2 : v.oneCell' = true) : putAll [(0, 1), (1, 1)] [a, b] [(0, u), (1, v)] = some [u, v] := by
  rw [putAll_c rfl h1 rfl, putAll_c rfl h2 rfl]; rfl

section
variable {P : Program} {N : Nat} {σ : Nat → Value} {w : World} {dst : Option Nat} {ty : TypeId} {pos : String} {af : Array Edge} {g : Option (Nat × Bool)} {x y z : Operand} {K : (Nat → Value) → World → Prop}
theorem bld {t : TypeId} {parts : Array (Nat × Operand)} {pl : List (Nat × Nat)} {zs L : List Value} {ps : List (Nat × Value)} (h : structOk P t = some (pl, zs)) (hp : parts.toList.map (fun p => (p.1, ev N σ p.2)) = ps) (hL : putAll pl zs ps = some L) :
    (execOp (ev N σ) ⟨dst, .build t parts, ty, pos, af, g⟩).run P w = .ok (.value (.agg L.toArray)) w := by
  unfold structOk at h
  split at h
  · rename_i it fields hi hu
    split at h
    · rename_i z pl' hz hm
      simp only [Option.some.injEq, Prod.mk.injEq] at h
      obtain ⟨rfl, rfl⟩ := h
      have hb : P.built t (parts.map (fun p => (p.1, ev N σ p.2))).toList = some L.toArray := by
        have := putAll_fill hL
        simp only [Array.toArray_toList] at this
        simp only [Program.built, hi, hu, hz, hm, Array.toList_map, hp]; exact this
      simp [execOp, run_build w t _ _ hb]
    · cases h
  · cases h
/-- a store of a struct into a slice of the call's own -/
theorem stoa {t B e size n cap off j : Nat} {a : Option Addr} {xs vs : List Value} (hown : w.ownsRow B e size (.slice a n cap) n xs) (hz : cellsN P t = some size) (hx : ev N σ x = .pointer (some ⟨bk a, off, none⟩)) (hy : ev N σ y = .agg vs.toArray) (hv : vs.length = size) (h1 : vs.all Value.oneCell' = true)
    (hj : off = fo a + j * size) (hl : j < n) (hs : 0 < size)
    (k : ∀ w', Md (fun k => (Value.slice a n cap).ownBlock = some k) w w' → w'.ownsRow B e size (.slice a n cap) n (xs.take (j * size) ++ vs ++ xs.drop (j * size + size)) → K σ w') : wpo P N ⟨none, .store t x y, ty, pos, af, g⟩ σ w K := by
  obtain ⟨h0, h⟩ := hown
  have hjs : j * size + size ≤ n * size := by rw [← Nat.succ_mul]; exact Nat.mul_le_mul_right _ hl
  rcases h with ⟨h, rfl⟩ | ⟨gg, cp, cur, h, hB, hg, hle, hcm, hsz, ht⟩
  · simp at hl
  · simp only [Value.slice.injEq, true_and] at h
    obtain ⟨rfl, rfl⟩ := h
    have hj' : off = j * size := by rw [hj]; simp [fo]
    subst hj'
    have hcur : n * size ≤ cur.toList.length := by
      have := Nat.mul_le_mul_right size hle
      rw [Array.length_toList, hsz]; omega
    unfold cellsN at hz
    simp only [Option.map_eq_some_iff] at hz
    obtain ⟨i, hi, hs'⟩ := hz
    have hcs : cur.toList.length = cur.size := Array.length_toList
    have hst := run_storeCells_at P gg (j * size) e vs 0 cur w hg (by omega) (all_one h1)
    have hrun : (execOp (ev N σ) ⟨none, .store t x y, ty, pos, af, g⟩).run P w = .ok .skip (w.setRow gg (cur.toList.take (j * size) ++ vs ++ cur.toList.drop (j * size + size)).toArray) := by
      simp [execOp, Instr.storeAt, hx, hy, Instr.sureAddr, storeVar, Value.cells, sizeOf, run_info hi, hs', hv, hst, bk]
    unfold wpo Oper.wp
    rw [act_eval, hrun]
    refine ⟨σ, rfl, k _ ⟨rfl, rfl, by simp, fun k _ hk => setRow_other w gg k _ (fun e => hk (by subst e; rfl))⟩ ⟨?_, .inr ⟨gg, cap, _, rfl, hB, setRow_heap w gg _ _ e _ hg, hle, hcm, ?_, ?_⟩⟩⟩
    · rw [List.length_append, List.length_append, List.length_take, List.length_drop, hv, h0]; omega
    · rw [List.size_toArray, List.length_append, List.length_append, List.length_take, List.length_drop, hv]; omega
    · rw [← ht]
      exact take_mid (by omega) hv (by omega)
end
end Go.Hb
