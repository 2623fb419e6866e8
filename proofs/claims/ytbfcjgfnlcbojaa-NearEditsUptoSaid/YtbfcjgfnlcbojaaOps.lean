/-
  One lemma for each kind of operation, over any program: what it gives in a world. No conditions but those that each lemma names.
-/
import Derived.Test.YtbfcjgfnlcbojaaBase
import Derived.Lib.Strings
namespace Go.Hb
open Go.RowKit

/-! heaps -/
def cel (h : Array Obj) (b off : Nat) : Option Value :=
  match h[b]? with
  | some (.cells c _ _) => c[off]?
  | _ => none
theorem cell_cel (w : World) (b off : Nat) : w.cell? ⟨b, off, none⟩ = cel w.heap b off := by
  unfold World.cell? cel
  simp only
  split <;> simp_all
theorem cel_of {h : Array Obj} {b off : Nat} {c : Array Value} {t : TypeId} {f : Nat × Nat} (hb : h[b]? = some (.cells c t f)) : cel h b off = c[off]? := by
  simp only [cel, hb]
theorem cel_lt {h : Array Obj} {b off : Nat} {v : Value} (hc : cel h b off = some v) : b < h.size := by
  unfold cel at hc
  rcases Nat.lt_or_ge b h.size with hlt | hge
  · exact hlt
  · simp [Array.getElem?_eq_none hge] at hc

/-- the world behind is as before but for new blocks and the blocks of F -/
structure Md (F : Nat → Prop) (w w' : World) : Prop where
  os : w'.os = w.os
  output : w'.output = w.output
  size : w.heap.size ≤ w'.heap.size
  keep : ∀ k, k < w.heap.size → ¬ F k → w'.heap[k]? = w.heap[k]?
/-- nothing that was there has turned -/
abbrev Wk (w w' : World) : Prop := Md (fun _ => False) w w'
theorem Md.refl (F : Nat → Prop) (w : World) : Md F w w := ⟨rfl, rfl, Nat.le_refl _, fun _ _ _ => rfl⟩
theorem Md.drew {F : Nat → Prop} {w w' : World} (h : Md F w w') : Md F w w'.drew := ⟨h.os, h.output, h.size, h.keep⟩
theorem Md.mono {F G : Nat → Prop} {w w' : World} (h : Md F w w') (hfg : ∀ k, k < w.heap.size → F k → G k) : Md G w w' :=
  ⟨h.os, h.output, h.size, fun k hk hg => h.keep k hk (fun hf => hg (hfg k hk hf))⟩
theorem Md.trans {F : Nat → Prop} {a b c : World} (h : Md F a b) (h' : Md F b c) : Md F a c :=
  ⟨h'.os.trans h.os, h'.output.trans h.output, Nat.le_trans h.size h'.size, fun k hk hf => (h'.keep k (Nat.lt_of_lt_of_le hk h.size) hf).trans (h.keep k hk hf)⟩
/-- two steps of which the second may write blocks that are new, or F's -/
theorem Md.trans' {F G : Nat → Prop} {a b c : World} (h : Md F a b) (h' : Md G b c) (hg : ∀ k, k < a.heap.size → G k → F k) : Md F a c :=
  ⟨h'.os.trans h.os, h'.output.trans h.output, Nat.le_trans h.size h'.size,
    fun k hk hf => (h'.keep k (Nat.lt_of_lt_of_le hk h.size) (fun x => hf (hg k hk x))).trans (h.keep k hk hf)⟩
theorem Md.blk {F : Nat → Prop} {w w' : World} (h : Md F w w') {k : Nat} {o : Obj} (hk : w.heap[k]? = some o) (hf : ¬ F k) : w'.heap[k]? = some o :=
  (h.keep k (Array.getElem?_eq_some_iff.1 hk).1 hf).trans hk
theorem Md.cel {F : Nat → Prop} {w w' : World} (h : Md F w w') {b off : Nat} {v : Value} (hc : Hb.cel w.heap b off = some v) (hf : ¬ F b) : Hb.cel w'.heap b off = some v := by
  have := h.keep b (cel_lt hc) hf
  unfold Hb.cel at *
  rw [this]; exact hc
theorem Wk.cel {w w' : World} (h : Wk w w') {b off : Nat} {v : Value} (hc : Hb.cel w.heap b off = some v) : Hb.cel w'.heap b off = some v := Md.cel h hc id
theorem Wk.blk {w w' : World} (h : Wk w w') {k : Nat} {o : Obj} (hk : w.heap[k]? = some o) : w'.heap[k]? = some o := Md.blk h hk id
theorem Md.lt {F : Nat → Prop} {w w' : World} (h : Md F w w') {k : Nat} (hk : k < w.heap.size) : k < w'.heap.size := Nat.lt_of_lt_of_le hk h.size
/-- a new block: the next number -/
structure Nw (w w' : World) : Prop where
  md : Wk w w'
  size : w'.heap.size = w.heap.size + 1
theorem nw_alloc (w : World) (o : Obj) : Nw w { w with heap := w.heap.push o } :=
  ⟨⟨rfl, rfl, by simp, fun k hk _ => by show (w.heap.push o)[k]? = _; rw [Array.getElem?_push, if_neg (by omega)]⟩, by simp⟩

/-! closed facts on a program's types, each one Bool or number -/
/-- the number of cells of a struct's or an array's type -/
def aggN (P : Program) (t : TypeId) : Option (Option Nat) :=
  match P.underlying t with
  | some (.struct _) | some (.array _ _) => ((P.info? t).map (·.size)).map some
  | some _ => some none
  | none => none
def fieldOff (P : Program) (s f : Nat) : Option Nat :=
  match P.underlying s with
  | some (.struct fs) => match fs[f]? with
    | some fd => match P.info? fd.type with
      | some i => if i.size = 0 then none else some fd.offset
      | none => none
    | none => none
  | _ => none
def elemSize (P : Program) (t : TypeId) : Option Nat :=
  match P.underlying t with
  | some (.slice e) => (P.info? e).map (·.size)
  | _ => none

section
variable {P : Program} {N : Nat} {σ : Nat → Value} {w : World} {dst : Option Nat} {ty : TypeId} {pos : String} {af : Array Edge} {g : Option (Nat × Bool)} {x y z : Operand}

theorem run_under {t : TypeId} {d : TypeDesc} (h : P.underlying t = some d) (w : World) : (underlying t).run P w = .ok d w := by
  simp [underlying, h]
theorem run_info {t : TypeId} {i : TypeInfo} (h : P.info? t = some i) (w : World) : (typeInfo t).run P w = .ok i w := by
  simp [typeInfo, h]

theorem mv : (execOp (ev N σ) ⟨dst, .move x, ty, pos, af, g⟩).run P w = .ok (.value (ev N σ x)) w := rfl
theorem asg : (execOp (ev N σ) ⟨dst, .assign x, ty, pos, af, g⟩).run P w = .ok (.value (ev N σ x)) w := rfl
theorem mvt (v : Value) (h : ev N σ x = v) : (execOp (ev N σ) ⟨dst, .move x, ty, pos, af, g⟩).run P w = .ok (.value v) w := by rw [← h]; rfl
theorem ast (v : Value) (h : ev N σ x = v) : (execOp (ev N σ) ⟨dst, .assign x, ty, pos, af, g⟩).run P w = .ok (.value v) w := by rw [← h]; rfl
theorem pkt {c : Operand} (hc : ev N σ c = .bool true) : (execOp (ev N σ) ⟨dst, .pick c x y, ty, pos, af, g⟩).run P w = .ok (.value (ev N σ x)) w := by
  simp [execOp, hc, asBool]
theorem pkf {c : Operand} (hc : ev N σ c = .bool false) : (execOp (ev N σ) ⟨dst, .pick c x y, ty, pos, af, g⟩).run P w = .ok (.value (ev N σ y)) w := by
  simp [execOp, hc, asBool]
theorem nc {a : Addr} (hx : ev N σ x = .pointer (some a)) : (execOp (ev N σ) ⟨dst, .nilCheck x, ty, pos, af, g⟩).run P w = .ok (.value (.pointer (some a))) w := by
  simp [execOp, hx]
theorem xt {i : Nat} {vs : Array Value} {v : Value} (hx : ev N σ x = .tuple vs) (hv : vs[i]? = some v) : (execOp (ev N σ) ⟨dst, .extract x i, ty, pos, af, g⟩).run P w = .ok (.value v) w := by
  simp [execOp, hx, Instr.extract, hv]
theorem fa {s f n b off : Nat} (hf : fieldOff P s f = some n) (hx : ev N σ x = .pointer (some ⟨b, off, none⟩)) :
    (execOp (ev N σ) ⟨dst, .fieldAddr s x f, ty, pos, af, g⟩).run P w = .ok (.value (.pointer (some ⟨b, off + n, none⟩))) w := by
  unfold fieldOff at hf
  split at hf
  · rename_i fs hu
    split at hf
    · rename_i fd hfd
      split at hf
      · rename_i i hi
        split at hf
        · cases hf
        · rename_i hz
          cases hf
          have hadd : (⟨b, off, none⟩ : Addr).add fd.offset = ⟨b, off + fd.offset, none⟩ := by unfold Addr.add; split <;> simp_all
          simp [execOp, Instr.fieldAt, run_under hu, hfd, hx, Instr.sureAddr, fieldPlace, sizeOf, run_info hi, hz, hadd]
      · cases hf
    · cases hf
  · cases hf
/-- a load of one cell -/
theorem ld {t b off : Nat} {v : Value} (hu : aggN P t = some none) (hx : ev N σ x = .pointer (some ⟨b, off, none⟩)) (hc : cel w.heap b off = some v) :
    (execOp (ev N σ) ⟨dst, .load t x, ty, pos, af, g⟩).run P w = .ok (.value v) w := by
  have hc' : w.cell? ⟨b, off, none⟩ = some v := by rw [cell_cel]; exact hc
  unfold aggN at hu
  cases hd : P.underlying t with
  | none => rw [hd] at hu; cases hu
  | some d =>
    rw [hd] at hu
    cases d <;> first
      | (simp only [Option.map_eq_some_iff] at hu; obtain ⟨_, _, h⟩ := hu; cases h; done)
      | simp [execOp, Instr.loadAt, hx, Instr.sureAddr, loadVar, isAgg, run_under hd, run_load, hc']
theorem addr_add (b off j : Nat) : (⟨b, off, none⟩ : Addr).add j = ⟨b, off + j, none⟩ := by
  unfold Addr.add; split <;> simp_all
/-- a load of a struct or an array -/
theorem lda {t n b off : Nat} {cs : List Value} (hu : aggN P t = some (some n)) (hx : ev N σ x = .pointer (some ⟨b, off, none⟩)) (hl : cs.length = n)
    (hc : ∀ j, j < n → cel w.heap b (off + j) = cs[j]?) :
    (execOp (ev N σ) ⟨dst, .load t x, ty, pos, af, g⟩).run P w = .ok (.value (.agg cs.toArray)) w := by
  have hcells : (loadCells ⟨b, off, none⟩ n).run P w = .ok cs.toArray w := by
    subst hl
    refine run_loadCells_list (P := P) w ⟨b, off, none⟩ cs fun j v hj => ?_
    rw [addr_add, cell_cel]
    exact (hc j (List.getElem?_eq_some_iff.1 hj).1).trans hj
  unfold aggN at hu
  cases hd : P.underlying t with
  | none => rw [hd] at hu; cases hu
  | some d =>
    rw [hd] at hu
    cases hi : P.info? t with
    | none => simp [Program.underlying, hi] at hd
    | some i =>
      rw [hi] at hu
      cases d <;> first
        | (cases hu; done)
        | (simp only [Option.map_some, Option.some.injEq] at hu; subst hu
           simp [execOp, Instr.loadAt, hx, Instr.sureAddr, loadVar, isAgg, run_under hd, sizeOf, run_info hi, hcells])
/-- the address of a slice's element -/
theorem ia {t n b off len cap : Nat} {k : IntKind} {i : Int} (he : elemSize P t = some n) (hx : ev N σ x = .slice (some ⟨b, off, none⟩) len cap) (hy : ev N σ y = .int k i) (h0 : 0 ≤ i ∧ i < len) :
    (execOp (ev N σ) ⟨dst, .indexAddr t x y, ty, pos, af, g⟩).run P w = .ok (.value (.pointer (some ⟨b, off + i.toNat * n, none⟩))) w := by
  unfold elemSize at he
  cases hd : P.underlying t with
  | none => rw [hd] at he; cases he
  | some d =>
    rw [hd] at he
    cases d <;> first | (cases he; done) | skip
    rename_i e
    cases hi : P.info? e with
    | none => simp [hi] at he
    | some j =>
      simp only [hi, Option.map_some, Option.some.injEq] at he
      subst he
      simp [execOp, Instr.indexAt, hx, hy, asIntOf, run_under hd, h0.1, h0.2, sizeOf, run_info hi, addr_add]

/-- where a slice of a slice begins -/
def shf (a : Option Addr) (cap l n : Nat) : Option Addr := if cap = l then a else a.map (·.add (l * n))
theorem sll_run {t n len cap : Nat} {a : Option Addr} {lo hi : Option Value} {l h : Nat} (he : elemSize P t = some n) (hx : ev N σ x = .slice a len cap)
    (hb : (Instr.sliceBounds true len cap lo hi none).run P w = .ok (l, h, cap) w) (y' z' : Option Operand) (hy : y'.map (ev N σ) = lo) (hz : z'.map (ev N σ) = hi) :
    (execOp (ev N σ) ⟨dst, .slice t x y' z' none, ty, pos, af, g⟩).run P w = .ok (.value (.slice (shf a cap l n) (h - l) (cap - l))) w := by
  unfold elemSize at he
  cases hd : P.underlying t with
  | none => rw [hd] at he; cases he
  | some d =>
    rw [hd] at he
    cases d <;> first | (cases he; done) | skip
    rename_i e
    cases hi' : P.info? e with
    | none => simp [hi'] at he
    | some j =>
      simp only [hi', Option.map_some, Option.some.injEq] at he
      subst he
      simp [execOp, Instr.sliceAt, Instr.slice, hx, hy, hz, run_under hd, hb, sizeOf, run_info hi', shf]
theorem sllh {t n len cap : Nat} {a : Option Addr} {k : IntKind} {i : Int} (he : elemSize P t = some n) (hx : ev N σ x = .slice a len cap) (hz : ev N σ z = .int k i) (h0 : 0 ≤ i ∧ i ≤ cap) :
    (execOp (ev N σ) ⟨dst, .slice t x none (some z) none, ty, pos, af, g⟩).run P w = .ok (.value (.slice a i.toNat cap)) w := by
  have := sll_run (dst := dst) (ty := ty) (pos := pos) (af := af) (g := g) (w := w) (lo := none) (hi := some (.int k i)) (l := 0) (h := i.toNat) he hx
    (by simp [Instr.sliceBounds, Instr.sliceBound, asIntOf, h0.1, h0.2]) none (some z) rfl (by simp [hz])
  rw [this]
  have hs : shf a cap 0 n = a := by
    unfold shf; split
    · rfl
    · cases a <;> simp [Addr.add]
  rw [hs]; rfl
theorem slll {t n len cap : Nat} {a : Option Addr} {k : IntKind} {i : Int} (he : elemSize P t = some n) (hx : ev N σ x = .slice a len cap) (hy : ev N σ y = .int k i) (h0 : 0 ≤ i ∧ i ≤ len) :
    (execOp (ev N σ) ⟨dst, .slice t x (some y) none none, ty, pos, af, g⟩).run P w = .ok (.value (.slice (shf a cap i.toNat n) (len - i.toNat) (cap - i.toNat))) w :=
  sll_run (lo := some (.int k i)) (hi := none) he hx
    (by simp [Instr.sliceBounds, Instr.sliceBound, asIntOf, h0.1, h0.2]) (some y) none (by simp [hy]) rfl
theorem sll {t n len cap : Nat} {a : Option Addr} {k k' : IntKind} {i j : Int} (he : elemSize P t = some n) (hx : ev N σ x = .slice a len cap) (hy : ev N σ y = .int k i) (hz : ev N σ z = .int k' j) (h0 : 0 ≤ i ∧ i ≤ j ∧ j ≤ cap) :
    (execOp (ev N σ) ⟨dst, .slice t x (some y) (some z) none, ty, pos, af, g⟩).run P w = .ok (.value (.slice (shf a cap i.toNat n) (j.toNat - i.toNat) (cap - i.toNat))) w := by
  have h1 : 0 ≤ j := by omega
  have h2 : i ≤ (j.toNat : Int) := by omega
  refine sll_run (lo := some (.int k i)) (hi := some (.int k' j)) he hx ?_ (some y) (some z) (by simp [hy]) (by simp [hz])
  simp only [Instr.sliceBounds, Instr.sliceBound, asIntOf, Sem.run_bind, Sem.run_pure, Result.andThen_ok, Sem.run_ite, h0.1, h1, h0.2.2, h2, and_self, if_true]

/-! numbers -/
theorem wi64 {n : Int} (h : -9223372036854775808 ≤ n ∧ n ≤ 9223372036854775807) : IntKind.i64.wrap n = n := IntWalk.i64_in n h
theorem wi32 {n : Int} (h : -2147483648 ≤ n ∧ n ≤ 2147483647) : IntKind.i32.wrap n = n := IntWalk.i32_in n h
theorem wu8 {n : Int} (h : 0 ≤ n ∧ n ≤ 255) : IntKind.u8.wrap n = n := IntWalk.u8_in n h
theorem wu32 {n : Int} (h : 0 ≤ n ∧ n ≤ 4294967295) : IntKind.u32.wrap n = n := IntWalk.u32_in n h
theorem wu64 {n : Int} (h : 0 ≤ n ∧ n ≤ 18446744073709551615) : IntKind.u64.wrap n = n := IntWalk.u64_in n h
theorem iv {k : IntKind} {a b : Int} (h : a = b) : Value.int k a = Value.int k b := by rw [h]
theorem ad {t t' : TypeId} {k : IntKind} {a b : Int} (hx : ev N σ x = .int k a) (hy : ev N σ y = .int k b) (hr : k.wrap (a + b) = a + b) :
    (execOp (ev N σ) ⟨dst, .binOp .add t x y t', ty, pos, af, g⟩).run P w = .ok (.value (.int k (a + b))) w := by
  simp [execOp, hx, hy, eqGuard, binOp, Op.intArith, hr]
theorem adv {t t' : TypeId} {k : IntKind} {a b : Int} (v : Int) (hx : ev N σ x = .int k a) (hy : ev N σ y = .int k b) (hr : k.wrap (a + b) = v) :
    (execOp (ev N σ) ⟨dst, .binOp .add t x y t', ty, pos, af, g⟩).run P w = .ok (.value (.int k v)) w := by
  subst hr; simp [execOp, hx, hy, eqGuard, binOp, Op.intArith]
theorem sbv {t t' : TypeId} {k : IntKind} {a b : Int} (v : Int) (hx : ev N σ x = .int k a) (hy : ev N σ y = .int k b) (hr : k.wrap (a - b) = v) :
    (execOp (ev N σ) ⟨dst, .binOp .sub t x y t', ty, pos, af, g⟩).run P w = .ok (.value (.int k v)) w := by
  subst hr; simp [execOp, hx, hy, eqGuard, binOp, Op.intArith]
theorem mlv {t t' : TypeId} {k : IntKind} {a b : Int} (v : Int) (hx : ev N σ x = .int k a) (hy : ev N σ y = .int k b) (hr : k.wrap (a * b) = v) :
    (execOp (ev N σ) ⟨dst, .binOp .mul t x y t', ty, pos, af, g⟩).run P w = .ok (.value (.int k v)) w := by
  subst hr; simp [execOp, hx, hy, eqGuard, binOp, Op.intArith]
/-- a number of type int that is reckoned is a natural number's -/
theorem w64n {a : Int} {n : Nat} (h : a = n) (hn : n ≤ 9223372036854775807) : IntKind.i64.wrap a = (n : Int) := by rw [h]; exact wi64 (by omega)
theorem bv {p q : Prop} [Decidable p] [Decidable q] (h : p ↔ q) : Value.bool (decide p) = Value.bool (decide q) := by rw [decide_eq_decide.2 h]
theorem bT {p : Prop} [Decidable p] (h : p) : Value.bool true = Value.bool (decide p) := by rw [decide_eq_true h]
theorem bF {p : Prop} [Decidable p] (h : ¬p) : Value.bool false = Value.bool (decide p) := by rw [decide_eq_false h]
theorem sb {t t' : TypeId} {k : IntKind} {a b : Int} (hx : ev N σ x = .int k a) (hy : ev N σ y = .int k b) (hr : k.wrap (a - b) = a - b) :
    (execOp (ev N σ) ⟨dst, .binOp .sub t x y t', ty, pos, af, g⟩).run P w = .ok (.value (.int k (a - b))) w := by
  simp [execOp, hx, hy, eqGuard, binOp, Op.intArith, hr]
theorem ml {t t' : TypeId} {k : IntKind} {a b : Int} (hx : ev N σ x = .int k a) (hy : ev N σ y = .int k b) (hr : k.wrap (a * b) = a * b) :
    (execOp (ev N σ) ⟨dst, .binOp .mul t x y t', ty, pos, af, g⟩).run P w = .ok (.value (.int k (a * b))) w := by
  simp [execOp, hx, hy, eqGuard, binOp, Op.intArith, hr]
theorem qu {t t' : TypeId} {k : IntKind} {a b : Int} (hx : ev N σ x = .int k a) (hy : ev N σ y = .int k b) (h0 : 0 ≤ a ∧ 0 < b) (hr : k.wrap (a / b) = a / b) :
    (execOp (ev N σ) ⟨dst, .binOp .quo t x y t', ty, pos, af, g⟩).run P w = .ok (.value (.int k (a / b))) w := by
  have : a.tdiv b = a / b := Int.tdiv_eq_ediv_of_nonneg h0.1
  simp [execOp, hx, hy, eqGuard, binOp, Op.intDiv, show b ≠ 0 from by omega, this, hr]
theorem quv {t t' : TypeId} {k : IntKind} {a b : Int} (v : Int) (hx : ev N σ x = .int k a) (hy : ev N σ y = .int k b) (h0 : 0 ≤ a ∧ 0 < b) (hr : k.wrap (a / b) = v) :
    (execOp (ev N σ) ⟨dst, .binOp .quo t x y t', ty, pos, af, g⟩).run P w = .ok (.value (.int k v)) w := by
  have : a.tdiv b = a / b := Int.tdiv_eq_ediv_of_nonneg h0.1
  subst hr; simp [execOp, hx, hy, eqGuard, binOp, Op.intDiv, show b ≠ 0 from by omega, this]
theorem rm {t t' : TypeId} {k : IntKind} {a b : Int} (hx : ev N σ x = .int k a) (hy : ev N σ y = .int k b) (h0 : 0 ≤ a ∧ 0 < b) :
    (execOp (ev N σ) ⟨dst, .binOp .rem t x y t', ty, pos, af, g⟩).run P w = .ok (.value (.int k (a % b))) w := by
  have : a.tmod b = a % b := Int.tmod_eq_emod_of_nonneg h0.1
  simp [execOp, hx, hy, eqGuard, binOp, Op.intDiv, show b ≠ 0 from by omega, this]
theorem lt {t t' : TypeId} {k : IntKind} {a b : Int} (hx : ev N σ x = .int k a) (hy : ev N σ y = .int k b) :
    (execOp (ev N σ) ⟨dst, .binOp .lss t x y t', ty, pos, af, g⟩).run P w = .ok (.value (.bool (decide (a < b)))) w := by
  simp [execOp, hx, hy, eqGuard, binOp, Op.intCmp]
theorem le {t t' : TypeId} {k : IntKind} {a b : Int} (hx : ev N σ x = .int k a) (hy : ev N σ y = .int k b) :
    (execOp (ev N σ) ⟨dst, .binOp .leq t x y t', ty, pos, af, g⟩).run P w = .ok (.value (.bool (decide (a ≤ b)))) w := by
  simp [execOp, hx, hy, eqGuard, binOp, Op.intCmp]
theorem gt {t t' : TypeId} {k : IntKind} {a b : Int} (hx : ev N σ x = .int k a) (hy : ev N σ y = .int k b) :
    (execOp (ev N σ) ⟨dst, .binOp .gtr t x y t', ty, pos, af, g⟩).run P w = .ok (.value (.bool (decide (b < a)))) w := by
  simp [execOp, hx, hy, eqGuard, binOp, Op.intCmp]
theorem ge {t t' : TypeId} {k : IntKind} {a b : Int} (hx : ev N σ x = .int k a) (hy : ev N σ y = .int k b) :
    (execOp (ev N σ) ⟨dst, .binOp .geq t x y t', ty, pos, af, g⟩).run P w = .ok (.value (.bool (decide (b ≤ a)))) w := by
  simp [execOp, hx, hy, eqGuard, binOp, Op.intCmp]
theorem eqi {t t' : TypeId} {k : IntKind} {a b : Int} (hx : ev N σ x = .int k a) (hy : ev N σ y = .int k b) :
    (execOp (ev N σ) ⟨dst, .binOp .eql t x y t', ty, pos, af, g⟩).run P w = .ok (.value (.bool (decide (a = b)))) w := by
  simp [execOp, hx, hy, eqGuard, binOp, Op.intCmp]
  rw [Bool.eq_iff_iff]; simp
theorem nei {t t' : TypeId} {k : IntKind} {a b : Int} (hx : ev N σ x = .int k a) (hy : ev N σ y = .int k b) :
    (execOp (ev N σ) ⟨dst, .binOp .neq t x y t', ty, pos, af, g⟩).run P w = .ok (.value (.bool (decide (a ≠ b)))) w := by
  simp [execOp, hx, hy, eqGuard, binOp, Op.intCmp]
  rw [Bool.eq_iff_iff]; simp
theorem no {t : TypeId} {b : Bool} (hx : ev N σ x = .bool b) : (execOp (ev N σ) ⟨dst, .unOp .not t x, ty, pos, af, g⟩).run P w = .ok (.value (.bool (!b))) w := by
  simp [execOp, hx, Op.unary]
theorem bor {t t' : TypeId} {k : IntKind} {a b v : Int} (hx : ev N σ x = .int k a) (hy : ev N σ y = .int k b) (hv : k.wrap (BitVec.ofInt k.bits a ||| BitVec.ofInt k.bits b).toNat = v) :
    (execOp (ev N σ) ⟨dst, .binOp .or t x y t', ty, pos, af, g⟩).run P w = .ok (.value (.int k v)) w := by
  subst hv; simp [execOp, hx, hy, eqGuard, binOp, Op.intBits]
theorem band {t t' : TypeId} {k : IntKind} {a b v : Int} (hx : ev N σ x = .int k a) (hy : ev N σ y = .int k b) (hv : k.wrap (BitVec.ofInt k.bits a &&& BitVec.ofInt k.bits b).toNat = v) :
    (execOp (ev N σ) ⟨dst, .binOp .and t x y t', ty, pos, af, g⟩).run P w = .ok (.value (.int k v)) w := by
  subst hv; simp [execOp, hx, hy, eqGuard, binOp, Op.intBits]
theorem shr {t t' : TypeId} {k yk : IntKind} {a b v : Int} (hx : ev N σ x = .int k a) (hy : ev N σ y = .int yk b) (h0 : 0 ≤ b) (hv : a.fdiv (2 ^ min b.toNat k.bits) = v) :
    (execOp (ev N σ) ⟨dst, .binOp .shr t x y t', ty, pos, af, g⟩).run P w = .ok (.value (.int k v)) w := by
  have : ¬ b < 0 := by omega
  simp [execOp, hx, hy, eqGuard, binOp, Op.shift, this, hv]
theorem shl {t t' : TypeId} {k yk : IntKind} {a b v : Int} (hx : ev N σ x = .int k a) (hy : ev N σ y = .int yk b) (h0 : 0 ≤ b) (hv : k.wrap (a * 2 ^ min b.toNat k.bits) = v) :
    (execOp (ev N σ) ⟨dst, .binOp .shl t x y t', ty, pos, af, g⟩).run P w = .ok (.value (.int k v)) w := by
  have : ¬ b < 0 := by omega
  simp [execOp, hx, hy, eqGuard, binOp, Op.shift, this, hv]
theorem shr7 (m : Nat) : (m : Int).fdiv (2 ^ min (7 : Int).toNat IntKind.u64.bits) = ((m / 128 : Nat) : Int) := by
  show (m : Int).fdiv 128 = _
  rw [Int.fdiv_eq_ediv_of_nonneg _ (by omega)]; rfl
theorem u8_wrap (m : Nat) : IntKind.u8.wrap (m : Int) = ((m % 256 : Nat) : Int) := by
  rw [IntKind.wrap_u8]; omega
theorem or128_fin : ∀ r : Fin 256, IntKind.u8.wrap (BitVec.ofInt IntKind.u8.bits ((r.val : Nat) : Int) ||| BitVec.ofInt IntKind.u8.bits 128).toNat = ((UInt8.ofNat (r.val % 128 + 128)).toNat : Int) := by decide +kernel
theorem or128 (m : Nat) : IntKind.u8.wrap (BitVec.ofInt IntKind.u8.bits ((m % 256 : Nat) : Int) ||| BitVec.ofInt IntKind.u8.bits 128).toNat = ((UInt8.ofNat (m % 128 + 128)).toNat : Int) := by
  have := or128_fin ⟨m % 256, Nat.mod_lt _ (by omega)⟩
  simpa [show m % 256 % 128 = m % 128 from by omega] using this
theorem u8_nat (m : Nat) (h : m < 256) : ((UInt8.ofNat m).toNat : Int) = (m : Int) := by
  simp [Nat.mod_eq_of_lt h]
/-- a number's kind turned -/
theorem cv {t u : TypeId} {k k' : IntKind} {n : Int} (hu : P.underlying u = some (.int k')) (ht : (P.underlying t).isSome = true) (hx : ev N σ x = .int k n) :
    (execOp (ev N σ) ⟨dst, .convert t u x, ty, pos, af, g⟩).run P w = .ok (.value (.int k' (k'.wrap n))) w := by
  obtain ⟨d, hd⟩ := Option.isSome_iff_exists.1 ht
  cases d <;> simp [execOp, hx, convert, run_under hu, run_under hd, Conv.intToInt]
theorem cvw {t u : TypeId} {k k' : IntKind} {n v : Int} (hu : P.underlying u = some (.int k')) (ht : (P.underlying t).isSome = true) (hx : ev N σ x = .int k n) (hr : k'.wrap n = v) :
    (execOp (ev N σ) ⟨dst, .convert t u x, ty, pos, af, g⟩).run P w = .ok (.value (.int k' v)) w := by
  rw [cv hu ht hx, hr]
theorem cvs {t u : TypeId} {k k' : IntKind} {n : Int} (hu : P.underlying u = some (.int k')) (ht : (P.underlying t).isSome = true) (hx : ev N σ x = .int k n) (hr : k'.wrap n = n) :
    (execOp (ev N σ) ⟨dst, .convert t u x, ty, pos, af, g⟩).run P w = .ok (.value (.int k' n)) w := by
  rw [cv hu ht hx, hr]
/-- pointers against nil -/
theorem eqp (d : Nat) {t e : TypeId} {a : Option Addr} (hu : P.underlying t = some (.pointer e)) : (Op.equalIn (d + 1) t (.pointer a) (.pointer none)).run P w = .ok a.isNone w := by
  cases a <;> simp [Op.equalIn, run_under hu]
theorem eqp' {t e : TypeId} {a : Option Addr} (hu : P.underlying t = some (.pointer e)) : (Op.equal t (.pointer a) (.pointer none)).run P w = .ok a.isNone w := eqp 9999 hu
theorem eqpn {t t' e : TypeId} {a : Option Addr} (hu : P.underlying t = some (.pointer e)) (hx : ev N σ x = .pointer a) (hy : ev N σ y = .pointer none) :
    (execOp (ev N σ) ⟨dst, .binOp .eql t x y t', ty, pos, af, g⟩).run P w = .ok (.value (.bool a.isNone)) w := by
  have h : (binOp .eql t (.pointer a) (.pointer none)).run P w = .ok (.bool a.isNone) w := by
    simp only [binOp]; simp [eqp' hu]
  simp [execOp, hx, hy, eqGuard, h]
theorem nepn {t t' e : TypeId} {a : Option Addr} (hu : P.underlying t = some (.pointer e)) (hx : ev N σ x = .pointer a) (hy : ev N σ y = .pointer none) :
    (execOp (ev N σ) ⟨dst, .binOp .neq t x y t', ty, pos, af, g⟩).run P w = .ok (.value (.bool a.isSome)) w := by
  have h : (binOp .neq t (.pointer a) (.pointer none)).run P w = .ok (.bool a.isSome) w := by
    simp only [binOp]; simp [eqp' hu]
  simp [execOp, hx, hy, eqGuard, h]
theorem eqb0 (d : Nat) {t : TypeId} {a b : Bool} (hu : P.underlying t = some .bool) : (Op.equalIn (d + 1) t (.bool a) (.bool b)).run P w = .ok (a == b) w := by
  simp [Op.equalIn, run_under hu]
theorem eqb1 {t : TypeId} {a b : Bool} (hu : P.underlying t = some .bool) : (Op.equal t (.bool a) (.bool b)).run P w = .ok (a == b) w := eqb0 9999 hu
theorem eqbb {t t' : TypeId} {a b : Bool} (hu : P.underlying t = some .bool) (hx : ev N σ x = .bool a) (hy : ev N σ y = .bool b) :
    (execOp (ev N σ) ⟨dst, .binOp .eql t x y t', ty, pos, af, g⟩).run P w = .ok (.value (.bool (decide (a = b)))) w := by
  have h : (binOp .eql t (.bool a) (.bool b)).run P w = .ok (.bool (decide (a = b))) w := by
    simp only [binOp]; simp [eqb1 hu]; cases a <;> cases b <;> rfl
  simp [execOp, hx, hy, eqGuard, h]
theorem nebb {t t' : TypeId} {a b : Bool} (hu : P.underlying t = some .bool) (hx : ev N σ x = .bool a) (hy : ev N σ y = .bool b) :
    (execOp (ev N σ) ⟨dst, .binOp .neq t x y t', ty, pos, af, g⟩).run P w = .ok (.value (.bool (decide (a ≠ b)))) w := by
  have h : (binOp .neq t (.bool a) (.bool b)).run P w = .ok (.bool (decide (a ≠ b))) w := by
    simp only [binOp]; simp [eqb1 hu]; cases a <;> cases b <;> rfl
  simp [execOp, hx, hy, eqGuard, h]

/-! strings -/
/-- a string by its bytes -/
def str (l : List UInt8) : Value := .string ⟨⟨l⟩⟩
theorem str_of (s : ByteArray) : Value.string s = str s.data.toList := rfl
theorem lns {t : TypeId} {l : List UInt8} {at_ : Array TypeId} (ht : P.underlying t = some .string) (ha : at_ = #[t]) (hx : ev N σ x = str l) :
    (execOp (ev N σ) ⟨dst, .call ⟨.builtin .len, #[x], at_⟩, ty, pos, af, g⟩).run P w = .ok (.value (.int .i64 l.length)) w := by
  subst ha
  simp [execOp, resolve, invoke, builtin, Builtin.len_, run_under ht, hx, str, goInt]
  rfl
theorem lnl {t e : TypeId} {a : Option Addr} {n c : Nat} {at_ : Array TypeId} (ht : P.underlying t = some (.slice e)) (ha : at_ = #[t]) (hx : ev N σ x = .slice a n c) :
    (execOp (ev N σ) ⟨dst, .call ⟨.builtin .len, #[x], at_⟩, ty, pos, af, g⟩).run P w = .ok (.value (.int .i64 n)) w := by
  subst ha
  simp [execOp, resolve, invoke, builtin, Builtin.len_, run_under ht, hx, goInt]
theorem lnm {t k e r : TypeId} {es : Array MapEntry} {c : Nat} {at_ : Array TypeId} (ht : P.underlying t = some (.map k e)) (ha : at_ = #[t]) (hx : ev N σ x = .map (some r)) (hr : w.heap[r]? = some (.map es c)) :
    (execOp (ev N σ) ⟨dst, .call ⟨.builtin .len, #[x], at_⟩, ty, pos, af, g⟩).run P w = .ok (.value (.int .i64 es.size)) w := by
  subst ha
  simp [execOp, resolve, invoke, builtin, Builtin.len_, run_under ht, hx, goInt, getObj, Sem.run, hr]
theorem mn {k : IntKind} {a b : Int} {at_ : Array TypeId} (hx : ev N σ x = .int k a) (hy : ev N σ y = .int k b) :
    (execOp (ev N σ) ⟨dst, .call ⟨.builtin .min, #[x, y], at_⟩, ty, pos, af, g⟩).run P w = .ok (.value (.int k (min a b))) w := by
  have : (if b < a then b else a) = min a b := by omega
  simp [execOp, resolve, invoke, builtin, Builtin.min_, Builtin.min2, hx, hy, this]
theorem mx {k : IntKind} {a b : Int} {at_ : Array TypeId} (hx : ev N σ x = .int k a) (hy : ev N σ y = .int k b) :
    (execOp (ev N σ) ⟨dst, .call ⟨.builtin .max, #[x, y], at_⟩, ty, pos, af, g⟩).run P w = .ok (.value (.int k (max a b))) w := by
  have : (if b > a then b else a) = max a b := by omega
  simp [execOp, resolve, invoke, builtin, Builtin.max_, Builtin.max2, hx, hy, this]
/-- a byte of a string -/
theorem ixs {t : TypeId} {l : List UInt8} {k : IntKind} {i : Int} (ht : P.underlying t = some .string) (hx : ev N σ x = str l) (hy : ev N σ y = .int k i) (h0 : 0 ≤ i ∧ i < l.length) :
    (execOp (ev N σ) ⟨dst, .index t x y, ty, pos, af, g⟩).run P w = .ok (.value (.int .u8 ((l.getD i.toNat 0).toNat : Int))) w := by
  have hs : (⟨⟨l⟩⟩ : ByteArray)[i.toNat]? = some (l.getD i.toNat 0) := by
    have hlt : i.toNat < l.length := by omega
    have hlt' : i.toNat < (⟨⟨l⟩⟩ : ByteArray).size := hlt
    rw [getElem?_pos (⟨⟨l⟩⟩ : ByteArray) i.toNat hlt']
    simp [List.getD_eq_getElem?_getD, hlt, ByteArray.getElem_eq_getElem_data]
  simp [execOp, Instr.index, hx, hy, asIntOf, str, run_under ht, h0.1, hs]
theorem slice_str (l : List UInt8) (a b : Nat) : Value.string ((⟨⟨l⟩⟩ : ByteArray).extract a b) = str ((l.take b).drop a) := by
  unfold str
  congr 1
  apply ByteArray.ext
  simp [ByteArray.data_extract, List.extract_eq_take_drop, List.drop_take]
theorem sls {t : TypeId} {l : List UInt8} {k k' : IntKind} {a b : Int} (ht : P.underlying t = some .string) (hx : ev N σ x = str l) (hy : ev N σ y = .int k a) (hz : ev N σ z = .int k' b) (h0 : 0 ≤ a ∧ a ≤ b ∧ b ≤ l.length) :
    (execOp (ev N σ) ⟨dst, .slice t x (some y) (some z) none, ty, pos, af, g⟩).run P w = .ok (.value (str ((l.take b.toNat).drop a.toNat))) w := by
  have h1 : b ≤ ((⟨⟨l⟩⟩ : ByteArray).size : Nat) := h0.2.2
  have h2 : 0 ≤ b := by omega
  have h3 : a ≤ (b.toNat : Nat) := by omega
  simp [execOp, Instr.sliceAt, Instr.slice, Instr.sliceBounds, Instr.sliceBound, hx, hy, hz, asIntOf, str, run_under ht, h0.1, h1, h2]
  rw [if_pos (by omega)]
  exact congrArg (fun v => Result.ok (Next.value v) w) (slice_str l a.toNat b.toNat)
theorem slsh {t : TypeId} {l : List UInt8} {k' : IntKind} {b : Int} (ht : P.underlying t = some .string) (hx : ev N σ x = str l) (hz : ev N σ z = .int k' b) (h0 : 0 ≤ b ∧ b ≤ l.length) :
    (execOp (ev N σ) ⟨dst, .slice t x none (some z) none, ty, pos, af, g⟩).run P w = .ok (.value (str (l.take b.toNat))) w := by
  have h1 : b ≤ ((⟨⟨l⟩⟩ : ByteArray).size : Nat) := h0.2
  have := slice_str l 0 b.toNat
  simp only [List.drop_zero] at this
  simp [execOp, Instr.sliceAt, Instr.slice, Instr.sliceBounds, Instr.sliceBound, hx, hz, asIntOf, str, run_under ht, h0.1, h1]
  exact Value.string.inj this
theorem slsl {t : TypeId} {l : List UInt8} {k : IntKind} {a : Int} (ht : P.underlying t = some .string) (hx : ev N σ x = str l) (hy : ev N σ y = .int k a) (h0 : 0 ≤ a ∧ a ≤ l.length) :
    (execOp (ev N σ) ⟨dst, .slice t x (some y) none none, ty, pos, af, g⟩).run P w = .ok (.value (str (l.drop a.toNat))) w := by
  have h1 : a ≤ ((⟨⟨l⟩⟩ : ByteArray).size : Nat) := h0.2
  have := slice_str l a.toNat l.length
  simp only [List.take_length] at this
  simp [execOp, Instr.sliceAt, Instr.slice, Instr.sliceBounds, Instr.sliceBound, hx, hy, asIntOf, str, run_under ht, h0.1, h1]
  exact Value.string.inj this
theorem toL (l : List UInt8) : (⟨⟨l⟩⟩ : ByteArray).toList = l := Lib.toList_data ⟨⟨l⟩⟩
theorem cc {t t' : TypeId} {l m : List UInt8} (hx : ev N σ x = str l) (hy : ev N σ y = str m) (h : l.length + m.length ≤ 9223372036854775807) :
    (execOp (ev N σ) ⟨dst, .binOp .add t x y t', ty, pos, af, g⟩).run P w = .ok (.value (str (l ++ m))) w := by
  have h1 : ¬ (((⟨⟨l⟩⟩ : ByteArray).size + (⟨⟨m⟩⟩ : ByteArray).size : Nat) : Int) > IntKind.i64.max := by
    have : IntKind.i64.max = 9223372036854775807 := by decide
    rw [this]
    show ¬ ((l.length + m.length : Nat) : Int) > _
    omega
  have h2 : (⟨⟨l⟩⟩ : ByteArray) ++ (⟨⟨m⟩⟩ : ByteArray) = ⟨⟨l ++ m⟩⟩ := by
    apply ByteArray.ext; simp
  simp only [execOp, hx, hy, str, eqGuard, binOp, Op.stringOp]
  rw [if_neg h1, h2]
  rfl
theorem eqs {t t' : TypeId} {l m : List UInt8} (hx : ev N σ x = str l) (hy : ev N σ y = str m) :
    (execOp (ev N σ) ⟨dst, .binOp .eql t x y t', ty, pos, af, g⟩).run P w = .ok (.value (.bool (decide (l = m)))) w := by
  simp only [execOp, hx, hy, str, eqGuard, binOp, Op.stringOp, toL]
  show Result.ok (Next.value (.bool (l == m))) w = _
  rw [show (l == m) = decide (l = m) from by rw [Bool.eq_iff_iff]; simp]
theorem nes {t t' : TypeId} {l m : List UInt8} (hx : ev N σ x = str l) (hy : ev N σ y = str m) :
    (execOp (ev N σ) ⟨dst, .binOp .neq t x y t', ty, pos, af, g⟩).run P w = .ok (.value (.bool (decide (l ≠ m)))) w := by
  simp only [execOp, hx, hy, str, eqGuard, binOp, Op.stringOp, toL]
  show Result.ok (Next.value (.bool (!(l == m)))) w = _
  rw [show (!(l == m)) = decide (l ≠ m) from by rw [Bool.eq_iff_iff]; simp]
/-- the order of texts -/
def sless (a b : List UInt8) : Bool := Op.bytesLess a b
theorem sless_irr (a : List UInt8) : sless a a = false := by
  induction a with
  | nil => rfl
  | cons x a ih =>
    have hx : ¬ x < x := UInt8.lt_irrefl x
    have : sless (x :: a) (x :: a) = (decide (x < x) || (x == x && sless a a)) := rfl
    rw [this, ih]; simp [hx]
theorem sless_cons (x y : UInt8) (a b : List UInt8) : sless (x :: a) (y :: b) = (decide (x < y) || (x == y && sless a b)) := rfl
theorem sless_trans {a b c : List UInt8} (h1 : sless a b = true) (h2 : sless b c = true) : sless a c = true := by
  induction a generalizing b c with
  | nil =>
    cases b with
    | nil => cases h1
    | cons y b => cases c with
      | nil => cases h2
      | cons z c => rfl
  | cons x a ih =>
    cases b with
    | nil => cases h1
    | cons y b => cases c with
      | nil => cases h2
      | cons z c =>
        rw [sless_cons] at *
        simp only [Bool.or_eq_true, decide_eq_true_eq, Bool.and_eq_true, beq_iff_eq] at *
        rcases h1 with h1 | ⟨rfl, h1⟩
        · rcases h2 with h2 | ⟨rfl, h2⟩
          · exact .inl (UInt8.lt_trans h1 h2)
          · exact .inl h1
        · rcases h2 with h2 | ⟨rfl, h2⟩
          · exact .inl h2
          · exact .inr ⟨rfl, ih h1 h2⟩
theorem sless_total (a b : List UInt8) : sless a b = true ∨ a = b ∨ sless b a = true := by
  induction a generalizing b with
  | nil => cases b with
    | nil => exact .inr (.inl rfl)
    | cons y b => exact .inl rfl
  | cons x a ih => cases b with
    | nil => exact .inr (.inr rfl)
    | cons y b =>
      simp only [sless_cons, Bool.or_eq_true, decide_eq_true_eq, Bool.and_eq_true, beq_iff_eq, List.cons.injEq]
      rcases Nat.lt_trichotomy x.toNat y.toNat with h | h | h
      · exact .inl (.inl (UInt8.lt_iff_toNat_lt.2 h))
      · have e : x = y := UInt8.toNat_inj.1 h
        subst e
        rcases ih b with h | h | h
        · exact .inl (.inr ⟨rfl, h⟩)
        · exact .inr (.inl ⟨rfl, h⟩)
        · exact .inr (.inr (.inr ⟨rfl, h⟩))
      · exact .inr (.inr (.inl (UInt8.lt_iff_toNat_lt.2 h)))
theorem sless_asymm {a b : List UInt8} (h : sless a b = true) : sless b a = false := by
  cases hb : sless b a
  · rfl
  · have := sless_trans h hb; rw [sless_irr] at this; cases this
theorem pw_get {rs : List (List UInt8)} (hs : rs.Pairwise (fun x y => sless x y = true)) {i j : Nat} (h : i < j) (hj : j < rs.length) : sless (rs.getD i []) (rs.getD j []) = true := by
  have := List.pairwise_iff_getElem.1 hs i j (by omega) hj h
  simpa [List.getD_eq_getElem?_getD, List.getElem?_eq_getElem hj, List.getElem?_eq_getElem (show i < rs.length by omega)] using this
theorem sless_lo {rs : List (List UInt8)} {r : List UInt8} (hs : rs.Pairwise (fun x y => sless x y = true)) {i m : Nat} (h : i < m + 1) (hm : m < rs.length) (hr : sless (rs.getD m []) r = true) : sless (rs.getD i []) r = true := by
  rcases Nat.lt_or_eq_of_le (Nat.le_of_lt_succ h) with h | rfl
  · exact sless_trans (pw_get hs h hm) hr
  · exact hr
theorem sless_hi {rs : List (List UInt8)} {r : List UInt8} (hs : rs.Pairwise (fun x y => sless x y = true)) {i m : Nat} (h : m ≤ i) (hi : i < rs.length) (hr : sless (rs.getD m []) r = false) : sless (rs.getD i []) r = false := by
  rcases Nat.lt_or_eq_of_le h with h | rfl
  · cases hb : sless (rs.getD i []) r
    · rfl
    · have := sless_trans (pw_get hs h hi) hb; rw [hr] at this; cases this
  · exact hr
theorem lts {t t' : TypeId} {l m : List UInt8} (hx : ev N σ x = str l) (hy : ev N σ y = str m) :
    (execOp (ev N σ) ⟨dst, .binOp .lss t x y t', ty, pos, af, g⟩).run P w = .ok (.value (.bool (sless l m))) w := by
  simp only [execOp, hx, hy, str, eqGuard, binOp, Op.stringOp, toL]
  rfl
theorem les {t t' : TypeId} {l m : List UInt8} (hx : ev N σ x = str l) (hy : ev N σ y = str m) :
    (execOp (ev N σ) ⟨dst, .binOp .leq t x y t', ty, pos, af, g⟩).run P w = .ok (.value (.bool (sless l m || decide (l = m)))) w := by
  simp only [execOp, hx, hy, str, eqGuard, binOp, Op.stringOp, toL]
  show Result.ok (Next.value (.bool (Op.bytesLess l m || l == m))) w = _
  rw [show (l == m) = decide (l = m) from by rw [Bool.eq_iff_iff]; simp]
  rfl
theorem gts {t t' : TypeId} {l m : List UInt8} (hx : ev N σ x = str l) (hy : ev N σ y = str m) :
    (execOp (ev N σ) ⟨dst, .binOp .gtr t x y t', ty, pos, af, g⟩).run P w = .ok (.value (.bool (!(sless l m || decide (l = m))))) w := by
  simp only [execOp, hx, hy, str, eqGuard, binOp, Op.stringOp, toL]
  show Result.ok (Next.value (.bool (!(Op.bytesLess l m || l == m)))) w = _
  rw [show (l == m) = decide (l = m) from by rw [Bool.eq_iff_iff]; simp]
  rfl
theorem ges {t t' : TypeId} {l m : List UInt8} (hx : ev N σ x = str l) (hy : ev N σ y = str m) :
    (execOp (ev N σ) ⟨dst, .binOp .geq t x y t', ty, pos, af, g⟩).run P w = .ok (.value (.bool (!sless l m))) w := by
  simp only [execOp, hx, hy, str, eqGuard, binOp, Op.stringOp, toL]
  rfl
theorem mf {fn : Fn} {first captured : Array Operand} : (execOp (ev N σ) ⟨dst, .makeFunc fn first captured, ty, pos, af, g⟩).run P w = .ok (.value (.func fn (first.map (ev N σ)) (captured.map (ev N σ)))) w := rfl
theorem mfl {fn : Fn} {first captured : Array Operand} : (execOp (ev N σ) ⟨dst, .makeFunc fn first captured, ty, pos, af, g⟩).run P w = .ok (.value (.func fn (first.toList.map (ev N σ)).toArray (captured.toList.map (ev N σ)).toArray)) w := by
  rw [mf, ← Array.toList_map, ← Array.toList_map]
end
end Go.Hb
