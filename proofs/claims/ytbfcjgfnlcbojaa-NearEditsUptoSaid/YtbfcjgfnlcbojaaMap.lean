/-
  Maps as lists of keys and values, in the order in which they came in. Over any program. No conditions but those that each lemma names.
-/
import Derived.Test.YtbfcjgfnlcbojaaEff
import Derived.Laws.StructEq
namespace Go.Hb
open Go.RowKit

/-- a map's block: its entries in their order -/
def MapIs (h : Array Obj) (b : Nat) (kvs : List (Value × Value)) : Prop := ∃ es clock, h[b]? = some (.map es clock) ∧ es.toList.map (fun e => (e.key, e.val)) = kvs
theorem MapIs.md {F : Nat → Prop} {w w' : World} {b : Nat} {kvs : List (Value × Value)} (h : MapIs w.heap b kvs) (hm : Md F w w') (hf : ¬ F b) : MapIs w'.heap b kvs :=
  let ⟨es, c, h1, h2⟩ := h; ⟨es, c, hm.blk h1 hf, h2⟩
theorem MapIs.lt {h : Array Obj} {b : Nat} {kvs : List (Value × Value)} (hm : MapIs h b kvs) : b < h.size := let ⟨_, _, h1, _⟩ := hm; (Array.getElem?_eq_some_iff.1 h1).1
/-- keys that can be looked for -/
structure KeyT (P : Program) (k : TypeId) (isK : Value → Prop) : Prop where
  check : ∀ em w v, isK v → (Instr.checkKey em 10000 k v).run P w = .ok () w
  find : ∀ w x es, isK x → (∀ e ∈ es, isK e.key) →
    ((Instr.findKey k x es).run P w = .ok none w ∧ ∀ e ∈ es, e.key ≠ x) ∨ ∃ j e, (Instr.findKey k x es).run P w = .ok (some (j, e.val)) w ∧ es[j]? = some e ∧ e.key = x

theorem findNow_int {q : IntKind} (x : Int) : ∀ (es : List MapEntry) (i : Nat), (∀ e ∈ es, ∃ a, e.key = .int .i64 a) →
    (Instr.findNow (.int q) (.int .i64 x) es i = some none ∧ ∀ e ∈ es, e.key ≠ .int .i64 x) ∨ ∃ j e, Instr.findNow (.int q) (.int .i64 x) es i = some (some (i + j, e.val)) ∧ es[j]? = some e ∧ e.key = .int .i64 x
  | [], i, _ => .inl ⟨rfl, fun _ h => by simp at h⟩
  | e :: es, i, h => by
    obtain ⟨a, ha⟩ := h e (by simp)
    by_cases hx : x = a
    · subst hx
      refine .inr ⟨0, e, ?_, rfl, ha⟩
      simp [Instr.findNow, Instr.sameNow, ha]
    · have hs : Instr.sameNow (.int q) (.int .i64 x) e.key = some false := by simp [Instr.sameNow, ha, hx]
      have hne : e.key ≠ .int .i64 x := by rw [ha]; intro h; cases h; exact hx rfl
      rcases findNow_int (q := q) x es (i + 1) (fun e he => h e (by simp [he])) with ⟨h1, h2⟩ | ⟨j, e', h1, h2, h3⟩
      · refine .inl ⟨by simp [Instr.findNow, hs, h1], fun e' he' => ?_⟩
        rcases List.mem_cons.1 he' with rfl | he'
        · exact hne
        · exact h2 e' he'
      · refine .inr ⟨j + 1, e', ?_, h2, h3⟩
        simp only [Instr.findNow, hs, h1]; rw [show i + 1 + j = i + (j + 1) from by omega]
theorem checkKey_int {P : Program} {k : TypeId} {q : IntKind} {em : Bool} {n : Nat} {a : Int} (hk : P.underlying k = some (.int q)) (w : World) : (Instr.checkKey em (n + 1) k (.int .i64 a)).run P w = .ok () w := by
  simp only [Instr.checkKey, Sem.run_bind, run_under hk, Result.andThen_ok, Sem.run_pure]
theorem checkKey_bool {P : Program} {k : TypeId} {em : Bool} {n : Nat} {a : Bool} (hk : P.underlying k = some .bool) (w : World) : (Instr.checkKey em (n + 1) k (.bool a)).run P w = .ok () w := by
  simp only [Instr.checkKey, Sem.run_bind, run_under hk, Result.andThen_ok, Sem.run_pure]
theorem checkKey_str {P : Program} {k : TypeId} {em : Bool} {n : Nat} {a : List UInt8} (hk : P.underlying k = some .string) (w : World) : (Instr.checkKey em (n + 1) k (str a)).run P w = .ok () w := by
  simp only [str, Instr.checkKey, Sem.run_bind, run_under hk, Result.andThen_ok, Sem.run_pure]
/-- a key that is an int -/
def isI (v : Value) : Prop := ∃ a, v = .int .i64 a
theorem key_int {P : Program} {k : TypeId} {q : IntKind} (hk : P.underlying k = some (.int q)) : KeyT P k isI where
  check em w v hv := by obtain ⟨a, rfl⟩ := hv; exact checkKey_int hk w
  find w x es hx hes := by
    obtain ⟨a, rfl⟩ := hx
    rcases findNow_int (q := q) a es 0 hes with ⟨h1, h2⟩ | ⟨j, e, h1, h2, h3⟩
    · exact .inl ⟨by simp [Instr.findKey, run_under hk, h1], h2⟩
    · exact .inr ⟨j, e, by simp [Instr.findKey, run_under hk, h1], h2, h3⟩

/-- a key of a bool and a text -/
def isBS (v : Value) : Prop := ∃ (f : Bool) (s : List UInt8), v = .agg #[.bool f, str s]
def bsOk (P : Program) (k : TypeId) : Bool :=
  match P.underlying k with
  | some (.struct fs) => match fs.toList with
    | [f1, f2] => f1.name != "_" && f2.name != "_" && f1.offset == 0 && f2.offset == 1 && !P.stoodInHeld k &&
      (match P.underlying f1.type with | some .bool => true | _ => false) && (match P.underlying f2.type with | some .string => true | _ => false)
    | _ => false
  | _ => false
theorem part_plain {P : Program} {t : TypeId} {cs : Array Value} {o : Nat} {v : Value} {d : TypeDesc} (ht : P.underlying t = some d) (hd : (match d with | .bool | .string => true | _ => false) = true) (hv : cs[o]? = some v) (w : World) : (part t cs o).run P w = .ok v w := by
  cases d <;> first | (cases hd; done) | simp [part, isAgg, run_under ht, hv]
theorem bsOk_spec {P : Program} {k : TypeId} (h : bsOk P k = true) : ∃ fs f1 f2, P.underlying k = some (.struct fs) ∧ fs.toList = [f1, f2] ∧ f1.name ≠ "_" ∧ f2.name ≠ "_" ∧ f1.offset = 0 ∧ f2.offset = 1 ∧ P.stoodInHeld k = false ∧ P.underlying f1.type = some .bool ∧ P.underlying f2.type = some .string := by
  unfold bsOk at h
  split at h
  · rename_i fs hu
    split at h
    · rename_i f1 f2 hf
      simp only [Bool.and_eq_true, bne_iff_ne, beq_iff_eq, Bool.not_eq_true'] at h
      obtain ⟨⟨⟨⟨⟨⟨h1, h2⟩, h3⟩, h4⟩, h5⟩, h6⟩, h7⟩ := h
      refine ⟨fs, f1, f2, hu, hf, h1, h2, h3, h4, h5, ?_, ?_⟩
      · split at h6
        · assumption
        · cases h6
      · split at h7
        · assumption
        · cases h7
    · cases h
  · cases h
theorem equal_bs {P : Program} {k : TypeId} (h : bsOk P k = true) {f g : Bool} {s t : List UInt8} (w : World) : (Op.equal k (.agg #[.bool f, str s]) (.agg #[.bool g, str t])).run P w = .ok (decide (f = g ∧ s = t)) w := by
  obtain ⟨fs, f1, f2, hu, hf, h1, h2, h3, h4, h5, h6, h7⟩ := bsOk_spec h
  have hF : P.fieldsOf k = fs := by simp [Program.fieldsOf, hu]
  have e1 : ∀ (x : Bool) (y : List UInt8) (w : World), (part f1.type #[.bool x, str y] f1.offset).run P w = .ok (.bool x) w := fun x y w => part_plain h6 rfl (by rw [h3]; rfl) w
  have e2 : ∀ (x : Bool) (y : List UInt8) (w : World), (part f2.type #[.bool x, str y] f2.offset).run P w = .ok (str y) w := fun x y w => part_plain h7 rfl (by rw [h4]; rfl) w
  unfold Op.equal
  show (Op.equalIn (9998 + 1 + 1) k _ _).run P w = _
  rw [run_equalIn_struct w (9998 + 1) k _ _ (by rw [hF]; exact hu) h5, hF, hf]
  simp only [Op.eqFields, Sem.run_bind, Sem.run_ite, e1, e2, Result.andThen_ok, run_equalIn_bool' w 9998 f1.type f g h6, h1, h2, ne_eq, not_false_eq_true, if_true]
  by_cases hfg : f = g
  · subst hfg
    have : (Op.equalIn (9998 + 1) f2.type (str s) (str t)).run P w = .ok (decide (s = t)) w := by
      rw [str, str, run_equalIn_string w 9998 f2.type _ _ h7, ByteArray.toList_eq, ByteArray.toList_eq]
      congr 1
      by_cases hst : s = t
      · subst hst; simp
      · simp [hst]
    simp only [beq_self_eq_true, Bool.not_true, Bool.false_eq_true, if_false, this, Result.andThen_ok, true_and]
    by_cases hst : s = t <;> simp [hst]
  · simp [hfg]
theorem checkKey_bs {P : Program} {k : TypeId} {em : Bool} {n : Nat} (h : bsOk P k = true) {f : Bool} {s : List UInt8} (w : World) : (Instr.checkKey em (n + 1 + 1) k (.agg #[.bool f, str s])).run P w = .ok () w := by
  obtain ⟨fs, f1, f2, hu, hf, h1, h2, h3, h4, h5, h6, h7⟩ := bsOk_spec h
  have e1 : ∀ (w : World), (part f1.type #[.bool f, str s] f1.offset).run P w = .ok (.bool f) w := fun w => part_plain h6 rfl (by rw [h3]; rfl) w
  have e2 : ∀ (w : World), (part f2.type #[.bool f, str s] f2.offset).run P w = .ok (str s) w := fun w => part_plain h7 rfl (by rw [h4]; rfl) w
  rw [Instr.checkKey]
  simp only [Sem.run_bind, run_under hu, Result.andThen_ok]
  rw [← Array.forIn_toList, hf]
  simp only [List.forIn_cons, List.forIn_nil, Sem.run_bind, e1, e2, h1, h2, ne_eq, not_false_eq_true, if_true, Result.andThen_ok, checkKey_bool h6, checkKey_str h7, Sem.run_pure]
theorem findAsking_bs {P : Program} {k : TypeId} (h : bsOk P k = true) {f : Bool} {s : List UInt8} (w : World) : ∀ (es : List MapEntry) (i : Nat), (∀ e ∈ es, isBS e.key) →
    ((Instr.findAsking k (.agg #[.bool f, str s]) es i).run P w = .ok none w ∧ ∀ e ∈ es, e.key ≠ .agg #[.bool f, str s]) ∨ ∃ j e, (Instr.findAsking k (.agg #[.bool f, str s]) es i).run P w = .ok (some (i + j, e.val)) w ∧ es[j]? = some e ∧ e.key = .agg #[.bool f, str s]
  | [], i, _ => .inl ⟨by simp [Instr.findAsking], fun _ h => by simp at h⟩
  | e :: es, i, hk => by
    obtain ⟨g, t, ha⟩ := hk e (by simp)
    have he := equal_bs h (f := f) (g := g) (s := s) (t := t) w
    rw [← ha] at he
    by_cases hx : f = g ∧ s = t
    · obtain ⟨rfl, rfl⟩ := hx
      refine .inr ⟨0, e, ?_, rfl, ha⟩
      simp [Instr.findAsking, he]
    · have hne : e.key ≠ .agg #[.bool f, str s] := by
        rw [ha]; intro h9; simp [str] at h9; exact hx ⟨h9.1.symm, h9.2.symm⟩
      rcases findAsking_bs (f := f) (s := s) h w es (i + 1) (fun e he => hk e (by simp [he])) with ⟨h1, h2⟩ | ⟨j, e', h1, h2, h3⟩
      · refine .inl ⟨by simp [Instr.findAsking, he, hx, h1], fun e' he' => ?_⟩
        rcases List.mem_cons.1 he' with rfl | he'
        · exact hne
        · exact h2 e' he'
      · refine .inr ⟨j + 1, e', ?_, h2, h3⟩
        simp only [Instr.findAsking, Sem.run_bind, he, hx, Result.andThen_ok, decide_false, Sem.run_ite, Bool.false_eq_true, if_false, h1]; rw [show i + 1 + j = i + (j + 1) from by omega]
theorem key_bs {P : Program} {k : TypeId} (h : bsOk P k = true) : KeyT P k isBS where
  check em w v hv := by obtain ⟨f, s, rfl⟩ := hv; exact checkKey_bs (n := 9998) h w
  find w x es hx hes := by
    obtain ⟨f, s, rfl⟩ := hx
    obtain ⟨fs, f1, f2, hu, _⟩ := bsOk_spec h
    have hrun : es ≠ [] → (Instr.findKey k (.agg #[.bool f, str s]) es).run P w = (Instr.findAsking k (.agg #[.bool f, str s]) es).run P w := by
      intro hne
      cases es with
      | nil => exact absurd rfl hne
      | cons e es => simp [Instr.findKey, run_under hu, Instr.findNow, Instr.sameNow]
    by_cases hne : es = []
    · subst hne; exact .inl ⟨by simp [Instr.findKey, run_under hu, Instr.findNow], fun _ h => by simp at h⟩
    · rw [hrun hne]
      rcases findAsking_bs h w es 0 hes with h1 | ⟨j, e, h1, h2, h3⟩
      · exact .inl h1
      · exact .inr ⟨j, e, by rw [h1, Nat.zero_add], h2, h3⟩

def zeroV (P : Program) (e : TypeId) : Option Value := (P.info? e).bind (·.zero)
theorem zeroV_run {P : Program} {e : TypeId} {z : Value} (h : zeroV P e = some z) (w : World) : (zeroValue e).run P w = .ok z w := by
  unfold zeroV at h
  simp only [Option.bind_eq_some_iff] at h
  obtain ⟨i, hi, hz⟩ := h
  simp [zeroValue, run_info hi, hz]
section
variable {P : Program} {N : Nat} {σ : Nat → Value} {w : World} {dst : Option Nat} {ty : TypeId} {pos : String} {af : Array Edge} {g : Option (Nat × Bool)} {x y z : Operand} {K : (Nat → Value) → World → Prop}
variable {t k e : TypeId} {isK : Value → Prop} {b : Nat} {kvs : List (Value × Value)} {kx v : Value}
theorem es_keys {es : Array MapEntry} (h : es.toList.map (fun e => (e.key, e.val)) = kvs) (hk : ∀ p ∈ kvs, isK p.1) : ∀ e ∈ es.toList, isK e.key := fun e he => hk (e.key, e.val) (by rw [← h]; exact List.mem_map_of_mem he)
theorem run_getObj_map {es : Array MapEntry} {c : Nat} (hr : w.heap[b]? = some (.map es c)) : (getObj b).run P w = .ok (.map es c) w := by
  simp [getObj, Sem.run, hr]
theorem nodup_val {kvs : List (Value × Value)} (hn : (kvs.map Prod.fst).Nodup) {kx v v' : Value} (h1 : (kx, v) ∈ kvs) (h2 : (kx, v') ∈ kvs) : v = v' := by
  induction kvs with
  | nil => simp at h1
  | cons p kvs ih =>
    simp only [List.map_cons, List.nodup_cons] at hn
    rcases List.mem_cons.1 h1 with h1 | h1
    · rcases List.mem_cons.1 h2 with h2 | h2
      · rw [← h1] at h2; cases h2; rfl
      · rw [← h1] at hn; exact absurd (List.mem_map_of_mem (f := Prod.fst) h2) hn.1
    · rcases List.mem_cons.1 h2 with h2 | h2
      · rw [← h2] at hn; exact absurd (List.mem_map_of_mem (f := Prod.fst) h1) hn.1
      · exact ih hn.2 h1 h2
/-- a look-up that finds -/
theorem lk_hit {ok : Bool} (ht : P.underlying t = some (.map k e)) (KT : KeyT P k isK) (hm : MapIs w.heap b kvs) (hk : ∀ p ∈ kvs, isK p.1) (hx : ev N σ x = .map (some b)) (hy : ev N σ y = kx) (hi : isK kx) (hn : (kvs.map Prod.fst).Nodup) (hv : (kx, v) ∈ kvs) :
    (execOp (ev N σ) ⟨dst, .lookup t x y ok, ty, pos, af, g⟩).run P w = .ok (.value (if ok then .tuple #[v, .bool true] else v)) w := by
  obtain ⟨es, c, hr, he⟩ := hm
  rcases KT.find w kx es.toList hi (es_keys he hk) with ⟨_, h2⟩ | ⟨j, e', h1, h2, h3⟩
  · rw [← he] at hv
    obtain ⟨e1, he1, h4⟩ := List.mem_map.1 hv
    cases h4
    exact absurd rfl (h2 e1 he1)
  · have hv' : (kx, e'.val) ∈ kvs := by rw [← he, ← h3]; exact List.mem_map_of_mem (f := fun e : MapEntry => (e.key, e.val)) (List.mem_of_getElem? h2)
    have := nodup_val hn hv hv'
    subst this
    cases ok <;> simp [execOp, Instr.lookup, run_under ht, hx, hy, run_getObj_map hr, KT.check _ w kx hi, h1]
/-- a look-up that finds nothing -/
theorem lk_miss {ok : Bool} {zv : Value} (ht : P.underlying t = some (.map k e)) (hz : zeroV P e = some zv) (KT : KeyT P k isK) (hm : MapIs w.heap b kvs) (hk : ∀ p ∈ kvs, isK p.1) (hx : ev N σ x = .map (some b)) (hy : ev N σ y = kx) (hi : isK kx) (hn : ∀ v, (kx, v) ∉ kvs) :
    (execOp (ev N σ) ⟨dst, .lookup t x y ok, ty, pos, af, g⟩).run P w = .ok (.value (if ok then .tuple #[zv, .bool false] else zv)) w := by
  obtain ⟨es, c, hr, he⟩ := hm
  rcases KT.find w kx es.toList hi (es_keys he hk) with ⟨h1, _⟩ | ⟨j, e', h1, h2, h3⟩
  · cases ok <;> simp [execOp, Instr.lookup, run_under ht, hx, hy, run_getObj_map hr, KT.check _ w kx hi, h1, zeroV_run hz]
  · exact absurd (by rw [← he, ← h3]; exact List.mem_map_of_mem (f := fun e : MapEntry => (e.key, e.val)) (List.mem_of_getElem? h2)) (hn e'.val)
/-- a new entry -/
theorem mup (ht : P.underlying t = some (.map k e)) (KT : KeyT P k isK) (hm : MapIs w.heap b kvs) (hk : ∀ p ∈ kvs, isK p.1) (hx : ev N σ x = .map (some b)) (hy : ev N σ y = kx) (hz : ev N σ z = v) (hi : isK kx) (hn : ∀ v, (kx, v) ∉ kvs)
    (kk : ∀ w', Md (fun j => j = b) w w' → MapIs w'.heap b (kvs ++ [(kx, v)]) → K σ w') : wpo P N ⟨none, .mapUpdate t x y z, ty, pos, af, g⟩ σ w K := by
  obtain ⟨es, c, hr, he⟩ := hm
  rcases KT.find w kx es.toList hi (es_keys he hk) with ⟨h1, _⟩ | ⟨j, e', h1, h2, h3⟩
  · have hb := (Array.getElem?_eq_some_iff.1 hr).1
    have hrun : (execOp (ev N σ) ⟨none, .mapUpdate t x y z, ty, pos, af, g⟩).run P w = .ok .skip { w with heap := w.heap.setIfInBounds b (.map (es.push { key := kx, val := v, born := c }) (c + 1)) } := by
      simp [execOp, Instr.mapUpdate, run_under ht, hx, hy, hz, run_getObj_map hr, KT.check _ w kx hi, h1, setObj, Sem.run, hr]
    unfold wpo Oper.wp
    rw [act_eval, hrun]
    refine ⟨σ, rfl, kk _ ⟨rfl, rfl, by simp, fun i _ hne => by simp only; rw [Array.getElem?_setIfInBounds_ne (fun e => hne e.symm)]⟩ ⟨_, _, by simp only; rw [Array.getElem?_setIfInBounds_self_of_lt hb], ?_⟩⟩
    simp [he]
  · exact absurd (by rw [← he, ← h3]; exact List.mem_map_of_mem (f := fun e : MapEntry => (e.key, e.val)) (List.mem_of_getElem? h2)) (hn e'.val)
/-- how many entries -/
theorem lnm' {r : Nat} {at_ : Array TypeId} (ht : P.underlying t = some (.map k e)) (ha : at_ = #[t]) (hx : ev N σ x = .map (some r)) (hm : MapIs w.heap r kvs) :
    (execOp (ev N σ) ⟨dst, .call ⟨.builtin .len, #[x], at_⟩, ty, pos, af, g⟩).run P w = .ok (.value (.int .i64 kvs.length)) w := by
  obtain ⟨es, c, hr, he⟩ := hm
  have := lnm (dst := dst) (ty := ty) (pos := pos) (af := af) (g := g) ht ha hx hr
  rw [← he]; simpa using this
end
end Go.Hb
