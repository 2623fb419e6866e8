/-
  Operations on bytes and texts that read or turn the world. Over any program. No conditions but those that each lemma names.
-/
import Derived.Test.YtbfcjgfnlcbojaaEff
import Derived.Lib.UnsafeStr
namespace Go.Hb
open Go.RowKit

/-- bytes as cells -/
def U8 (l : List UInt8) : List Value := l.map fun b => Value.int .u8 b.toNat
theorem U8_len (l : List UInt8) : (U8 l).length = l.length := by simp [U8]
theorem U8_app (a b : List UInt8) : U8 (a ++ b) = U8 a ++ U8 b := by simp [U8]
theorem U8_one (l : List UInt8) : (U8 l).all Value.oneCell' = true := by
  rw [List.all_eq_true]
  intro u hu
  simp only [U8, List.mem_map] at hu
  obtain ⟨b, _, rfl⟩ := hu
  rfl
def byteOk (P : Program) (t e u : TypeId) : Bool :=
  sliceOk P t e 1 1 && (match P.underlying e with | some (.int .u8) => true | _ => false) && (match P.underlying u with | some .string => true | _ => false) &&
    (match P.info? e with | some i => (match i.zero with | some (.int .u8 0) => true | _ => false) | none => false)
theorem byteOk_spec {P : Program} {t e u : TypeId} (h : byteOk P t e u = true) :
    sliceOk P t e 1 1 = true ∧ P.underlying e = some (.int .u8) ∧ P.underlying u = some .string ∧ ∃ i, P.info? e = some i ∧ i.zero = some (.int .u8 0) := by
  simp only [byteOk, Bool.and_eq_true] at h
  obtain ⟨⟨⟨h1, h2⟩, h3⟩, h4⟩ := h
  refine ⟨h1, ?_, ?_, ?_⟩
  · split at h2
    · rename_i h; exact h
    · cases h2
  · split at h3
    · rename_i h; exact h
    · cases h3
  · split at h4
    · rename_i i hi
      split at h4
      · rename_i h; exact ⟨i, hi, h⟩
      · cases h4
    · cases h4

section
variable {P : Program} {N : Nat} {σ : Nat → Value} {w : World} {dst : Option Nat} {ty : TypeId} {pos : String} {af : Array Edge} {g : Option (Nat × Bool)} {x y z : Operand} {K : (Nat → Value) → World → Prop}

theorem foldl_push (l : List UInt8) (r : ByteArray) : (l.map fun b => (b.toNat : Int)).foldl (fun r n => r.push (UInt8.ofNat n.toNat)) r = ⟨r.data ++ l.toArray⟩ := by
  induction l generalizing r with
  | nil => simp
  | cons b l ih =>
    simp only [List.map_cons, List.foldl_cons]
    rw [ih]
    apply ByteArray.ext
    simp [ByteArray.push]
/-- string(bytes) -/
theorem cvbs {t e u n c : Nat} {a : Option Addr} {l : List UInt8} (h : byteOk P t e u = true) (hx : ev N σ x = .slice a n c) (hc : Cells w.heap a (U8 l)) (hl : l.length = n) :
    (execOp (ev N σ) ⟨dst, .convert t u x, ty, pos, af, g⟩).run P w = .ok (.value (str l)) w := by
  obtain ⟨h1, h2, h3, _⟩ := byteOk_spec h
  obtain ⟨hu, _⟩ := sliceOk_spec h1
  have hconv : (Conv.bytesToString (.slice a n c)).run P w = .ok (str l) w := by
    by_cases he : l = []
    · subst he
      cases a with
      | none => simp [Conv.bytesToString, str]; rfl
      | some a =>
        subst hl
        have := run_bytesToString (P := P) w a 0 c [] (by simp [loadCells, loadCellsFrom])
        exact this.trans rfl
    · have ha := hc.ok (by simpa [U8] using he)
      have hload : (loadCells ⟨bk a, fo a, none⟩ n).run P w = .ok ((l.map fun b => (b.toNat : Int)).map (Value.int .u8)).toArray w := by
        subst hl
        have := run_loadCells_list (P := P) w ⟨bk a, fo a, none⟩ (U8 l) fun j v hj => by
          rw [addr_add, cell_cel]
          exact hc.cel j v hj
        rw [U8_len] at this
        rw [this]
        simp [U8]
      rw [ha, run_bytesToString w _ n c _ hload, foldl_push]
      simp [str, ByteArray.empty, ByteArray.emptyWithCapacity]
      rfl
  simp [execOp, hx, run_convert_bytes_string w t u e a n c hu h2 h3, hconv]
/-- append(bytes, text...) -/
theorem apS {t e u B n : Nat} {v : Value} {xs : List Value} {l : List UInt8} (h : byteOk P t e u = true) (hown : w.ownsRow B e 1 v n xs) (hx : ev N σ x = v) (hB : B ≤ w.heap.size) (hy : ev N σ y = str l)
    (hb : n + l.length ≤ 140737488355328)
    (k : ∀ v' w', w'.ownsRow B e 1 v' (n + l.length) (xs ++ U8 l) → Md (fun k => v.ownBlock = some k) w w' → (v' = .slice none 0 0 ↔ v = .slice none 0 0 ∧ l = []) → (∀ k, v'.ownBlock = some k → v.ownBlock = some k ∨ w.heap.size ≤ k) → K (updo σ dst v') w') :
    wpo P N ⟨dst, .call ⟨.builtin .append, #[x, y], #[t, u]⟩, ty, pos, af, g⟩ σ w K := by
  obtain ⟨h1, h2, h3, i, hi, hz⟩ := byteOk_spec h
  obtain ⟨hu, j, zv, hj, _, hs, hby, _, _⟩ := sliceOk_spec h1
  obtain rfl : j = i := Option.some.inj (hj.symm.trans hi)
  obtain ⟨v', w', hr, h4, h5, h6⟩ := Lib.run_append_own_string (P := P) w B t u ty e j hu h3 hi hz hs hby v n xs hown ⟨⟨l⟩⟩ (by show n + l.length ≤ maxLen; unfold maxLen; omega) hb hB
  refine wpo_run (w' := w') (v := v') ?_ (k v' w' h4 ⟨h5.os, h5.output, h5.size, fun k hk hne => h5.block k hk (fun e => hne e.symm)⟩ ?_ ?_)
  · have hy' : ev N σ y = .string ⟨⟨l⟩⟩ := hy
    simp [execOp, resolve, invoke, builtin, hx, hy', hr]
  · rw [h6]
    show (_ ∧ l.length = 0) ↔ _
    simp
  · intro k hk
    rcases hown.2 with ⟨rfl, rfl⟩ | ⟨gg, cap, cur, rfl, hbg, hg, hnc, hcm, hcs, htake⟩
    · have hx : xs = [] := List.eq_nil_of_length_eq_zero (by simpa using hown.1)
      subst hx
      obtain ⟨v2, w2, hr2, h2', _, _⟩ := Lib.run_append_own_string (P := P) w w.heap.size t u ty e j hu h3 hi hz hs hby _ 0 [] (World.ownsRow_nil w w.heap.size e 1) ⟨⟨l⟩⟩ (by show 0 + l.length ≤ maxLen; unfold maxLen; omega) (by show 0 + l.length ≤ _; omega) (Nat.le_refl _)
      rw [hr] at hr2
      cases hr2
      rcases h2'.2 with ⟨h, _⟩ | ⟨g2, _, _, h, hb2, _⟩
      · rw [h] at hk; simp [Value.ownBlock] at hk
      · rw [h] at hk; simp only [Value.ownBlock, Option.some.injEq] at hk; exact .inr (by omega)
    · by_cases hroom : n + l.length ≤ cap
      · rw [Lib.run_append_room_string (P := P) w t u ty e j hu h3 hi hs gg n cap cur hg ⟨⟨l⟩⟩ hroom (by show n + l.length ≤ _; omega)] at hr
        cases hr
        exact .inl hk
      · have holds : ∀ j u, xs[j]? = some u → w.cell? ((⟨gg, 0, none⟩ : Addr).add j) = some u := hown.cells (g := gg) rfl
        rw [Lib.run_append_grow_string (P := P) w t u ty e j _ hu h3 hi hz ⟨gg, 0, none⟩ n cap xs (by rw [hs]; exact hown.1) holds ⟨⟨l⟩⟩ (by show cap < n + l.length; omega) (by show ((n + l.length : Nat) : Int) ≤ _; omega) (growslice_fits (by show cap < n + l.length; omega) (by rw [hby]; show (n + l.length) * 1 ≤ _; omega))] at hr
        cases hr
        simp only [Value.ownBlock, Option.some.injEq] at hk
        exact .inr (by omega)
/-- unsafe.SliceData of a slice of the call's own -/
theorem usd {at_ : Array TypeId} {v : Value} {a : Option Addr} {n c : Nat} (hx : ev N σ x = .slice a n c) (h : a = none ∨ c ≠ 0) :
    (execOp (ev N σ) ⟨dst, .call ⟨.builtin .unsafeSliceData, #[x], at_⟩, ty, pos, af, g⟩).run P w = .ok (.value (.pointer a)) w := by
  have _ := v
  have : (Builtin.unsafeSliceData_ at_ ty #[.slice a n c]).run P w = .ok (.pointer a) w := by
    cases a with
    | none => exact Lib.run_unsafeSliceData_nil w at_ ty n c
    | some a => exact Lib.run_unsafeSliceData_row w at_ ty a n c (h.resolve_left (by simp))
  simp [execOp, resolve, invoke, builtin, hx, this]
def ptrTo (P : Program) (pt e : TypeId) : Bool := match P.underlying pt with | some (.pointer e') => e' == e && P.cellsOf e == 1 | _ => false
/-- unsafe.String of a row of the call's own: the bytes; the row can't be written any more -/
theorem usg {pt it e B n c : Nat} {a : Option Addr} {l : List UInt8} {xs : List Value} (hp : ptrTo P pt e = true) (hx : ev N σ x = .pointer a) (hy : ev N σ y = .int .i64 n) (hown : w.ownsRow B e 1 (.slice a n c) n xs)
    (hxs : xs = U8 l) (h63 : n ≤ 9223372036854775807)
    (k : ∀ w', Md (fun k => (Value.slice a n c).ownBlock = some k) w w' → w'.heap.size = w.heap.size → K (updo σ dst (str l)) w') :
    wpo P N ⟨dst, .call ⟨.builtin .unsafeString, #[x, y], #[pt, it]⟩, ty, pos, af, g⟩ σ w K := by
  subst hxs
  have hln : l.length = n := by have := hown.1; simpa [U8] using this
  unfold ptrTo at hp
  split at hp
  case h_2 => cases hp
  rename_i e' hu
  simp only [Bool.and_eq_true, beq_iff_eq] at hp
  obtain ⟨rfl, hcell⟩ := hp
  by_cases he : l = []
  · subst he
    obtain rfl : n = 0 := hln.symm
    refine wpo_run (w' := w) (v := str []) ?_ (k w (Md.refl _ _) rfl)
    simp [execOp, resolve, invoke, builtin, hx, hy, Lib.run_unsafeString_none]
    rfl
  · rcases hown.2 with ⟨h, h0⟩ | ⟨gg, cap, cur, h, _, hgg, hle, _, hsz, ht⟩
    · subst h0; simp only [List.length_eq_zero_iff] at hln; exact absurd hln he
    · simp only [Value.slice.injEq, true_and] at h
      obtain ⟨rfl, rfl⟩ := h
      have hsh : w.shape? gg = some (e', cur.size) := by simp [World.shape?, hgg]
      have hr := Lib.run_unsafeString_row (P := P) w pt it ty e' hu hcell gg cur.size hsh l he (by rw [hln, hsz]; omega) (by omega) (fun j u hu => by
        obtain ⟨ad, cp, hv, hcs, _, hk, _⟩ := own_cells hown
        simp only [Value.slice.injEq, true_and] at hv
        obtain ⟨rfl, rfl⟩ := hv
        rw [addr_add, cell_cel]
        exact hcs.cel j _ (by simp [U8, hu]))
      refine wpo_run (w' := w.freeze ⟨gg, 0, none⟩ l.length) (v := str l) ?_ (k _ ⟨?_, ?_, ?_, ?_⟩ ?_)
      · simp [execOp, resolve, invoke, builtin, hx, hy, ← hln, hr, str]
      · unfold World.freeze; split <;> rfl
      · unfold World.freeze; split <;> rfl
      · unfold World.freeze; split <;> simp
      · intro k hk hne
        have hne' : k ≠ gg := fun e => hne (by simp [Value.ownBlock, e])
        unfold World.freeze
        split
        · rfl
        · simp only [Array.getElem?_modify]; rw [if_neg (fun e => hne' e.symm)]
      · unfold World.freeze; split <;> simp
/-- a pointer to a struct, as an unsafe.Pointer and back -/
def unsOk (P : Program) (pt up e n : Nat) : Bool :=
  (match P.underlying pt with | some (.pointer e') => e' == e | _ => false) && (match P.underlying up with | some .unsafePointer => true | _ => false) && P.cellsOf e == n && Nat.blt 0 n && (match P.info? e with | some i => i.size == n | _ => false)
theorem unsOk_spec {P : Program} {pt up e n : Nat} (h : unsOk P pt up e n = true) : P.underlying pt = some (.pointer e) ∧ P.underlying up = some .unsafePointer ∧ P.cellsOf e = n ∧ 0 < n ∧ ∃ i, P.info? e = some i ∧ i.size = n := by
  simp only [unsOk, Bool.and_eq_true] at h
  obtain ⟨⟨⟨⟨h1, h2⟩, h3⟩, h4⟩, h5⟩ := h
  refine ⟨?_, ?_, by simpa using h3, Nat.lt_of_lt_of_le (Nat.lt_succ_self 0) (Nat.le_of_ble_eq_true h4), ?_⟩
  · split at h1
    · rename_i h; simp only [beq_iff_eq] at h1; rw [h, h1]
    · cases h1
  · split at h2
    · rename_i h; exact h
    · cases h2
  · split at h5
    · rename_i i hi; exact ⟨i, hi, by simpa using h5⟩
    · cases h5
theorem toU {pt up e n b : Nat} {L : List Value} (h : unsOk P pt up e n = true) (hx : ev N σ x = .pointer (some ⟨b, 0, none⟩)) (hb : w.heap[b]? = some (.cells L.toArray e (0, 0))) (hl : L.length = n) :
    (execOp (ev N σ) ⟨dst, .convert pt up x, ty, pos, af, g⟩).run P w = .ok (.value (.pointer (some ⟨b, 0, none⟩))) w := by
  obtain ⟨h1, h2, h3, h4, i, hi, hs⟩ := unsOk_spec h
  have hsh : w.shape? b = some (e, L.length) := by simp [World.shape?, hb]
  have hne : ¬ n = 0 := by omega
  simp [execOp, hx, convert, run_under h1, run_under h2, Conv.unsafePointer, Conv.seenAt, viewAt, hsh, cellsIn, hl, sizeOf, run_info hi, hs, hne]
theorem fromU {pt up e n b : Nat} {L : List Value} (h : unsOk P pt up e n = true) (hx : ev N σ x = .pointer (some ⟨b, 0, none⟩)) (hb : w.heap[b]? = some (.cells L.toArray e (0, 0))) (hl : L.length = n) :
    (execOp (ev N σ) ⟨dst, .convert up pt x, ty, pos, af, g⟩).run P w = .ok (.value (.pointer (some ⟨b, 0, none⟩))) w := by
  obtain ⟨h1, h2, h3, h4, i, hi, hs⟩ := unsOk_spec h
  have hsh : w.shape? b = some (e, L.length) := by simp [World.shape?, hb]
  have hne : ¬ n = 0 := by omega
  have hlies : liesAt P P.depth e (L.length / P.cellsOf e) 0 e 1 = true := by
    have hd : P.depth = (2 * (P.types.size + Made.depth) + 1) + 1 := rfl
    rw [hd]
    simp only [liesAt, Bool.or_eq_true]
    left
    rw [hd]
    simp [rowAt, h3, hne, hl, sameLayout, Nat.div_self h4]
  simp [execOp, hx, convert, run_under h1, run_under h2, Conv.unsafePointer, Conv.seenAt, viewAt, hsh, variablesAt, sizeOf, run_info hi, hs, hne, hlies]
/-- a pointer against itself -/
theorem nepp {t t' e : TypeId} {a : Addr} (hu : P.underlying t = some (.pointer e)) (hs : (P.info? e).isSome = true) (hx : ev N σ x = .pointer (some a)) (hy : ev N σ y = .pointer (some a)) :
    (execOp (ev N σ) ⟨dst, .binOp .neq t x y t', ty, pos, af, g⟩).run P w = .ok (.value (.bool false)) w := by
  obtain ⟨i, hi⟩ := Option.isSome_iff_exists.1 hs
  have he : ∀ d, (Op.equalIn (d + 1) t (.pointer (some a)) (.pointer (some a))).run P w = .ok true w := by
    intro d
    simp [Op.equalIn, run_under hu, sizeOf, run_info hi, sameAddr]
  have h : (binOp .neq t (.pointer (some a)) (.pointer (some a))).run P w = .ok (.bool false) w := by
    have := he 9999
    simp only [binOp]
    have h2 : (Op.equal t (.pointer (some a)) (.pointer (some a))).run P w = .ok true w := this
    simp [h2]
  simp [execOp, hx, hy, eqGuard, h]
/-- a function without a body, whose value is its argument -/
theorem clx {f : FuncId} {args : Array Operand} {ats : Array TypeId} {v : Value} (hc : ∀ v w, (callFunc f #[v]).run P w = .ok (.value v) w) (hL : args.toList.map (ev N σ) = [v]) :
    (execOp (ev N σ) ⟨dst, .call ⟨.value (.func f), args, ats⟩, ty, pos, af, g⟩).run P w = .ok (.value v) w := by
  have : args.map (ev N σ) = #[v] := by rw [← Array.toList_inj, Array.toList_map, hL]
  simp [execOp, resolve, ev, Deferred.ofValue, invoke, this, hc]

/-- a strings.Builder at block b -/
structure Bd (T e : TypeId) (w : World) (b : Nat) (buf : Value) (l : List UInt8) : Prop where
  blk : ∃ pa, w.heap[b]? = some (.cells [Value.pointer pa, buf].toArray T (0, 0)) ∧ (pa = none ∨ pa = some ⟨b, 0, none⟩)
  own : w.ownsRow (b + 1) e 1 buf l.length (U8 l)
  nil : buf = .slice none 0 0 ↔ l = []
/-- what it may write -/
def BF (b : Nat) (buf : Value) (k : Nat) : Prop := k = b ∨ buf.ownBlock = some k
end
theorem Bd.lt {T e b : Nat} {w : World} {buf : Value} {l : List UInt8} (h : Bd T e w b buf l) : b < w.heap.size := let ⟨_, h, _⟩ := h.blk; (Array.getElem?_eq_some_iff.1 h).1
theorem Bd.flt {T e b : Nat} {w : World} {buf : Value} {l : List UInt8} (h : Bd T e w b buf l) {k : Nat} (hk : BF b buf k) : b ≤ k ∧ k < w.heap.size := by
  rcases hk with rfl | hk
  · exact ⟨Nat.le_refl _, h.lt⟩
  · have := h.own.lt k hk; omega
theorem Bd.md {T e b : Nat} {F : Nat → Prop} {w w' : World} {buf : Value} {l : List UInt8} (h : Bd T e w b buf l) (hm : Md F w w') (hf : ∀ k, BF b buf k → ¬ F k) : Bd T e w' b buf l := by
  obtain ⟨⟨pa, h1, h2⟩, h3, h4⟩ := h
  exact ⟨⟨pa, hm.blk h1 (hf b (.inl rfl)), h2⟩, own_md h3 hm (fun k hk => hf k (.inr hk)), h4⟩
end Go.Hb
