/-
  Walks of package dawg: the register of frozen states. No conditions but those that each theorem names.
-/
import Derived.Test.YtbfcjgfnlcbojaaChecked
import Derived.Test.YtbfcjgfnlcbojaaCore
import Derived.Test.YtbfcjgfnlcbojaaRecord
import Derived.Test.YtbfcjgfnlcbojaaBuilder
import Derived.Test.YtbfcjgfnlcbojaaRef18
import Derived.Test.YtbfcjgfnlcbojaaVisit
import Derived.Test.YtbfcjgfnlcbojaaPlan
set_option maxRecDepth 20000
set_option linter.unusedVariables false
namespace Go.Hb.Reg
open Go.Proofs
open Go.Hb.Record Go.Hb.Builder Go.Hb.Ref18 Go.Hb.Visit
theorem ag3 : aggN Try.prog 3 = some none := by kernel_rfl
theorem ag4 : aggN Try.prog 4 = some none := by kernel_rfl
theorem ag5 : aggN Try.prog 5 = some none := by kernel_rfl
theorem ag99 : aggN Try.prog 99 = some none := by kernel_rfl
theorem ag100 : aggN Try.prog 100 = some none := by kernel_rfl
theorem ag104 : aggN Try.prog 104 = some none := by kernel_rfl
theorem ag118 : aggN Try.prog 118 = some (some 2) := by kernel_rfl
theorem ag131 : aggN Try.prog 131 = some (some 2) := by kernel_rfl
theorem c53 : Callable Try.prog 53 := callable Try.func53 (by kernel_rfl) (by kernel_rfl)
theorem c54 : Callable Try.prog 54 := callable Try.func54 (by kernel_rfl) (by kernel_rfl)
theorem c55 : Callable Try.prog 55 := callable Try.func55 (by kernel_rfl) (by kernel_rfl)
theorem c56 : Callable Try.prog 56 := callable Try.func56 (by kernel_rfl) (by kernel_rfl)
theorem cz3 : cellsN Try.prog 3 = some 1 := by kernel_rfl
theorem cz118 : cellsN Try.prog 118 = some 2 := by kernel_rfl
theorem cz131 : cellsN Try.prog 131 = some 2 := by kernel_rfl
theorem es100 : elemSize Try.prog 100 = some 2 := by kernel_rfl
theorem fo102_0 : fieldOff Try.prog 102 0 = some 0 := by kernel_rfl
theorem fo102_1 : fieldOff Try.prog 102 1 = some 1 := by kernel_rfl
theorem fo102_2 : fieldOff Try.prog 102 2 = some 2 := by kernel_rfl
theorem fo106_4 : fieldOff Try.prog 106 4 = some 4 := by kernel_rfl
theorem fo118_0 : fieldOff Try.prog 118 0 = some 0 := by kernel_rfl
theorem fo118_1 : fieldOff Try.prog 118 1 = some 1 := by kernel_rfl
theorem kb131 : KeyT Try.prog 131 isBS := key_bs (by kernel_rfl)
theorem st131 : structOk Try.prog 131 = some ([(0, 1), (1, 1)], [.bool false, .string ⟨⟨[]⟩⟩]) := by kernel_rfl
theorem u99 : Try.prog.underlying 99 = some (.pointer 102) := by kernel_rfl
theorem u100 : Try.prog.underlying 100 = some (.slice 118) := by kernel_rfl
theorem u104 : Try.prog.underlying 104 = some (.map 131 99) := by kernel_rfl
theorem u128 : Try.prog.underlying 128 = some (.int .u64) := by kernel_rfl
theorem us3 : (Try.prog.underlying 3).isSome = true := by kernel_rfl
theorem wide : Try.prog.follows .mixedOrders = true := by kernel_rfl
theorem zs118 : zeroOf Try.prog 118 = some (some [.int .u8 0, .pointer none]) := by kernel_rfl
theorem zs121 : zeroOf Try.prog 121 = some (some [.pointer none, .slice none 0 0]) := by kernel_rfl
theorem zs131 : zeroOf Try.prog 131 = some (some [.bool false, .string ⟨⟨[]⟩⟩]) := by kernel_rfl
theorem zv99 : zeroV Try.prog 99 = some (.pointer none) := by kernel_rfl

/-- the cells of a node's edges -/
def nflat (l : List (UInt8 × Nat)) : List Value := l.flatMap fun e => [.int .u8 e.1.toNat, .pointer (some ⟨e.2, 0, none⟩)]
theorem nflat_ne {l : List (UInt8 × Nat)} (h : 0 < l.length) : nflat l ≠ [] := flat_ne (f := fun e : UInt8 × Nat => [Value.int .u8 e.1.toNat, .pointer (some ⟨e.2, 0, none⟩)]) (m := 2) (fun _ => rfl) (by decide) h
theorem nflat_cells {h : Array Obj} {a : Option Addr} {l : List (UInt8 × Nat)} {i : Nat} {c : UInt8} {q : Nat} (hc : Cells h a (nflat l)) (hl : l[i]? = some (c, q)) : ∀ j, j < 2 → Hb.cel h (bk a) (fo a + i * 2 + j) = [Value.int .u8 c.toNat, .pointer (some ⟨q, 0, none⟩)][j]? :=
  flat_cells (f := fun e : UInt8 × Nat => [Value.int .u8 e.1.toNat, .pointer (some ⟨e.2, 0, none⟩)]) (m := 2) (fun _ => rfl) hc hl
/-- a node in memory: its edges lead to blocks -/
structure NdAt (w : World) (p : Nat) (ev : Value) (f : Bool) (es : List (UInt8 × Nat)) (id : Nat) : Prop where
  blk : w.heap[p]? = some (.cells [.bool f, ev, .int .i64 id].toArray 102 (0, 0))
  row : w.ownsRow 0 118 2 ev es.length (nflat es)
theorem NdAt.B {w : World} {p : Nat} {ev : Value} {f : Bool} {es : List (UInt8 × Nat)} {id : Nat} (h : NdAt w p ev f es id) : Blk w.heap p [.bool f, ev, .int .i64 id] := ⟨_, h.blk⟩
theorem NdAt.md {F : Nat → Prop} {w w' : World} {p : Nat} {ev : Value} {f : Bool} {es : List (UInt8 × Nat)} {id : Nat} (h : NdAt w p ev f es id) (hm : Md F w w') (hp : ¬ F p) (he : ∀ k, ev.ownBlock = some k → ¬ F k) : NdAt w' p ev f es id :=
  ⟨hm.blk h.blk hp, own_md h.row hm he⟩
/-- a frozen node: its edges lead to numbers -/
structure FN where
  p : Nat
  ev : Value
  f : Bool
  es : List (UInt8 × Nat)
def tg (fz : List FN) (e : UInt8 × Nat) : UInt8 × Nat := (e.1, (fz.map FN.p).getD (e.2 - 1) 0)
def FzAt (w : World) (fz : List FN) : Prop := ∀ (j : Nat) x, fz[j]? = some x → NdAt w x.p x.ev x.f (x.es.map (tg fz)) (j + 1) ∧ ∀ e ∈ x.es, 1 ≤ e.2 ∧ e.2 ≤ j
/-- what tells a frozen node apart -/
def ent (x : FN) : Bool × List (UInt8 × Nat) := (x.f, x.es)
def keyV (f : Bool) (es : List (UInt8 × Nat)) : Value := .agg #[.bool f, str (kenc es)]
def kvl (fz : List FN) : List (Value × Value) := fz.map fun x => (keyV x.f x.es, .pointer (some ⟨x.p, 0, none⟩))
def fnd (fz : List FN) (f : Bool) (es : List (UInt8 × Nat)) : Option FN := fz.find? fun x => decide (ent x = (f, es))
def lookF (fz : List FN) (f : Bool) (es : List (UInt8 × Nat)) : Option Addr := (fnd fz f es).map fun x => ⟨x.p, 0, none⟩
theorem keyV_inj {f g : Bool} {a b : List (UInt8 × Nat)} (h : keyV f a = keyV g b) : f = g ∧ a = b := by
  simp only [keyV, str, Value.agg.injEq, Array.mk.injEq, List.cons.injEq, Value.bool.injEq, Value.string.injEq, ByteArray.mk.injEq, and_true] at h
  exact ⟨h.1, kenc_inj h.2⟩
theorem kvl_keys (fz : List FN) : ∀ q ∈ kvl fz, isBS q.1 := by
  intro q hq
  obtain ⟨x, _, rfl⟩ := List.mem_map.1 hq
  exact ⟨_, _, rfl⟩
theorem kvl_nodup {fz : List FN} (h : (fz.map ent).Nodup) : ((kvl fz).map Prod.fst).Nodup := by
  have e : (kvl fz).map Prod.fst = (fz.map ent).map (fun q => keyV q.1 q.2) := by simp [kvl, ent]
  rw [e]
  exact List.Pairwise.map _ (fun a b hab hk => hab (by obtain ⟨h1, h2⟩ := keyV_inj hk; exact Prod.ext h1 h2)) h
theorem fnd_none {fz : List FN} {f : Bool} {es : List (UInt8 × Nat)} (h : fnd fz f es = none) : ∀ v, (keyV f es, v) ∉ kvl fz := by
  intro v hv
  obtain ⟨x, hx, he⟩ := List.mem_map.1 hv
  simp only [Prod.mk.injEq] at he
  obtain ⟨h1, h2⟩ := keyV_inj he.1
  have := List.find?_eq_none.1 h x hx
  simp [ent, h1, h2] at this
theorem fnd_some {fz : List FN} {f : Bool} {es : List (UInt8 × Nat)} {x : FN} (h : fnd fz f es = some x) : x ∈ fz ∧ x.f = f ∧ x.es = es := by
  have h1 := List.find?_some h
  have h2 := List.mem_of_find?_eq_some h
  simp only [ent, Prod.mk.injEq, decide_eq_true_eq] at h1
  exact ⟨h2, h1.1, h1.2⟩
section
variable {P : Program} {N : Nat} {σ : Nat → Value} {w : World} {dst : Option Nat} {ty : TypeId} {pos : String} {af : Array Edge} {g : Option (Nat × Bool)} {x y : Operand}
theorem lk_fz {t k e m : Nat} {fz : List FN} {f : Bool} {es : List (UInt8 × Nat)} (ht : P.underlying t = some (.map k e)) (hz : zeroV P e = some (.pointer none)) (KT : KeyT P k isBS) (hm : MapIs w.heap m (kvl fz)) (hn : (fz.map ent).Nodup) (hx : ev N σ x = .map (some m)) (hy : ev N σ y = keyV f es) :
    (execOp (ev N σ) ⟨dst, .lookup t x y false, ty, pos, af, g⟩).run P w = .ok (.value (.pointer (lookF fz f es))) w := by
  cases hf : fnd fz f es with
  | none =>
    rw [lookF, hf]
    exact lk_miss (ok := false) ht hz KT hm (kvl_keys fz) hx hy ⟨_, _, rfl⟩ (fnd_none hf)
  | some q =>
    rw [lookF, hf]
    obtain ⟨h1, h2, h3⟩ := fnd_some hf
    exact lk_hit (ok := false) ht KT hm (kvl_keys fz) hx hy ⟨_, _, rfl⟩ (kvl_nodup hn) (List.mem_map.2 ⟨q, h1, by rw [h2, h3]; rfl⟩)
end
theorem map_ne {h : Array Obj} {b m : Nat} {L : List Value} {kvs : List (Value × Value)} (hm : MapIs h m kvs) (hb : Blk h b L) : b ≠ m := by
  rintro rfl
  obtain ⟨es, c, h1, _⟩ := hm
  obtain ⟨e, h2⟩ := hb
  rw [h1] at h2; cases h2

theorem freeze_w (b m pp id : Nat) (L : List Value) (ev : Value) (f : Bool) (ies : List (UInt8 × Nat)) (fz : List FN) (w : World) (hb : Blk w.heap b L) (h4 : L[4]? = some (.map (some m))) (hm : MapIs w.heap m (kvl fz)) (hz : FzAt w fz) (hnd : (fz.map ent).Nodup) (hx : NdAt w pp ev f (ies.map (tg fz)) id) (hi : ∀ e ∈ ies, 1 ≤ e.2 ∧ e.2 ≤ fz.length) (hl : fz.length ≤ 137438953472) (hil : ies.length ≤ 137438953472) (hpb : pp ≠ b) :
    Ret Try.prog 45 (List.toArray [.pointer (some ⟨b, 0, none⟩), .pointer (some ⟨pp, 0, none⟩)]) w (fun v w' => match fnd fz f ies with | some x => v = .pointer (some ⟨x.p, 0, none⟩) ∧ Wk w w' | none => v = .pointer (some ⟨pp, 0, none⟩) ∧ Md (fun k => k = pp ∨ k = m) w w' ∧ MapIs w'.heap m (kvl (fz ++ [⟨pp, ev, f, ies⟩])) ∧ w'.heap[pp]? = some (.cells [.bool f, ev, .int .i64 (fz.length + 1 : Nat)].toArray 102 (0, 0))) := by
  have hbm := map_ne hm hb
  have hpm := map_ne hm hx.B
  have hlp := hx.B.lt
  have hlb := hb.lt
  have hlm := hm.lt
  obtain ⟨ae, ce, rfl⟩ := own_slice hx.row
  have hlen : (ies.map (tg fz)).length = ies.length := List.length_map ..
  have hu64 : ∀ e ∈ ies, e.2 < 18446744073709551616 := fun e he => by have := hi e he; omega
  refine enter Try.func45 rfl Try.ntmps45 rfl ?_
  refine sq (fun K1 hK1 => ?_)
  refine rg ?_
  refine p asg ?_
  refine nl ?_
  refine tn (hK1 _ _ ?_)
  refine sq (fun K2 hK2 => ?_)
  refine rg ?_
  refine e (alT zs121 fun b5 w5 hb5 hN5 hB5 => ?_)
  have hBd5 : Bd 121 5 w5 b5 (.slice none 0 0) [] := ⟨⟨none, hB5, .inl rfl⟩, World.ownsRow_nil _ _ _ _, by simp⟩
  refine nl ?_
  refine tn (hK2 _ _ ?_)
  refine sq (fun K3 hK3 => ?_)
  refine sq (fun K4 hK4 => ?_)
  refine rg ?_
  refine p (mvt (.pointer (some ⟨pp, 0, none⟩)) rfl) ?_
  refine p (nc rfl) ?_
  refine p (fa fo102_1 rfl) ?_
  refine p (ld ag100 rfl (Wk.cel hN5.md (hx.B.cel 1))) ?_
  refine p (lnl u100 rfl rfl) ?_
  refine p mv ?_
  refine nl ?_
  refine tn (hK4 _ _ ?_)
  refine blk ?_
  refine lp (fun gm σ1 wL => ∃ (i : Nat) (buf : Value), (i ≤ ies.length) ∧ (Wk w wL) ∧ (Bd 121 5 wL b5 buf (kenc (ies.take i))) ∧ (σ1 0 = .pointer (some ⟨b, 0, none⟩)) ∧ (σ1 1 = .pointer (some ⟨pp, 0, none⟩)) ∧ (σ1 5 = .pointer (some ⟨b5, 0, none⟩)) ∧ (σ1 13 = .slice ae (ies.map (tg fz)).length ce) ∧ (σ1 14 = .int .i64 (ies.map (tg fz)).length) ∧ (σ1 15 = .int .i64 i) ∧ (ies.length - i = gm)) _ ⟨0, .slice none 0 0, (by omega), hN5.md, hBd5, rfl, rfl, rfl, rfl, rfl, rfl, rfl⟩ ?_
  rintro gm σ1 wL ⟨i, buf, hi1, hE, hBd, hs1_0, hs1_1, hs1_5, hs1_13, hs1_14, hs1_15, rfl⟩
  refine fx 0 hs1_0 (fx 1 hs1_1 (fx 5 hs1_5 (fx 13 hs1_13 (fx 14 hs1_14 (fx 15 hs1_15 ?_)))))
  have hkl := kenc_len (l := ies.take i) (fun e he => hu64 e (List.mem_of_mem_take he))
  have hkl2 : (ies.take i).length ≤ ies.length := by simp only [List.length_take]; omega
  refine sq (fun K5 hK5 => ?_)
  refine rg ?_
  refine p (lt rfl rfl) ?_
  refine nl ?_
  refine tn (hK5 _ _ ?_)
  refine sq (fun K6 hK6 => ?_)
  refine cd rfl (fun hc16 => ?_) (fun hc16 => ?_)
  · refine skp ?_
    refine tn (hK6 _ _ ?_)
    refine sq (fun K7 hK7 => ?_)
    refine blk ?_
    refine sq (fun K8 hK8 => ?_)
    obtain ⟨⟨c, n⟩, hiesi⟩ : ∃ e, ies[i]? = some e := ⟨ies[i]'(by omega), List.getElem?_eq_getElem (by omega)⟩
    have hmem : (c, n) ∈ ies := List.mem_of_getElem? hiesi
    have hin := hi (c, n) hmem
    simp only at hin
    obtain ⟨y, hyi⟩ : ∃ y, fz[n - 1]? = some y := ⟨fz[n - 1]'(by omega), List.getElem?_eq_getElem (by omega)⟩
    have hy := hz _ _ hyi
    rw [show n - 1 + 1 = n from by omega] at hy
    have hesi : (ies.map (tg fz))[i]? = some (c, y.p) := by rw [List.getElem?_map, hiesi]; simp [tg, List.getD_eq_getElem?_getD, List.getElem?_map, hyi]
    refine rg ?_
    refine p (ia' es100 rfl rfl (by omega) (Cells.ok ((own_cellsS hx.row).2) (nflat_ne (by omega)))) ?_
    refine p (lda ag118 rfl rfl (show ∀ j, j < 2 → cel wL.heap (bk ae) (fo ae + i * 2 + j) = [Value.int .u8 c.toNat, .pointer (some ⟨y.p, 0, none⟩)][j]? from nflat_cells (own_cellsS (own_nw hx.row hE)).2 hesi)) ?_
    refine e (al zs118 fun b7 w7 hb7 hN7 hB7 => ?_)
    refine e (sta cz118 rfl rfl rfl rfl (hB7) (by simp) fun wt4_3 hM4_3 hB4_3 => ?_)
    have hB4 : Blk wt4_3.heap b7 [Value.int .u8 c.toNat, .pointer (some ⟨y.p, 0, none⟩)] := hB4_3
    have hs7 := hE.size
    have hE4 : Wk w wt4_3 := Md.trans' (Md.trans hE hN7.md) hM4_3 (fun k hk h => by omega)
    have hBd4 := (hBd.md hN7.md (fun _ _ h => h)).md hM4_3 (fun k hk h => by have := hBd.flt hk; omega)
    refine nl ?_
    refine tn (hK8 _ _ ?_)
    refine sq (fun K9 hK9 => ?_)
    refine rg ?_
    refine p (fa fo118_0 rfl) ?_
    refine p (ld ag5 rfl (hB4.cel 0)) ?_
    refine e (cl c53 (writeByte_w b5 buf (kenc (ies.take i)) c _ hBd4 (by omega)) rfl fun v21 w21 hR21 => ?_)
    obtain ⟨rfl, buf1, hBd6, hM6, hf6⟩ := hR21
    have hE6 : Wk w w21 := Md.trans' hE4 hM6 (fun k hk h => by have := hBd4.flt h; omega)
    have hB6 := hM6.B hB4 (fun h => by
      rcases hBd4.flt h with ⟨h1, h2⟩
      rcases h with h | h
      · have := hBd.lt; omega
      · have := (own_lt hBd.own h).2; omega)
    refine nl ?_
    refine tn (hK9 _ _ ?_)
    refine rg ?_
    refine p (fa fo118_1 rfl) ?_
    refine p (ld ag99 rfl (hB6.cel 1)) ?_
    refine p (nc rfl) ?_
    refine p (fa fo102_2 rfl) ?_
    refine p (ld ag3 rfl ((hy.1.md hE6 (fun x => x) (fun _ _ x => x)).B.cel 2)) ?_
    refine p (cvw u128 us3 rfl (by have := hi (c, n) hmem; exact wu64 (by omega))) ?_
    refine e (cl c55 (uint_w n _ (by omega)) rfl fun v28 w28 hR28 => ?_)
    obtain ⟨rfl, hE28⟩ := hR28
    have hBd7 := hBd6.md hE28 (fun _ _ h => h)
    refine e (cl c54 (writeString_w b5 buf1 (kenc (ies.take i) ++ [c]) (uintB n) _ hBd7 (by have := uintB_len10 (n := n) (by omega); simp only [List.length_append, List.length_singleton]; omega)) rfl fun v29 w29 hR29 => ?_)
    obtain ⟨rfl, buf2, hBd8, hM8, hf8⟩ := hR29
    have hE8 : Wk w w29 := Md.trans' (Md.trans hE6 hE28) hM8 (fun k hk h => by have := hBd7.flt h; omega)
    rw [← kenc_take hiesi] at hBd8
    refine nl ?_
    refine bn ?_
    refine tn (hK7 _ _ ?_)
    refine rg ?_
    refine p (adv ((i + 1 : Nat) : Int) rfl rfl (w64n (by omega) (by omega))) ?_
    refine p mv ?_
    refine nl ?_
    refine tn ?_
    exact ⟨_, by omega, i + 1, buf2, (by omega), hE8, hBd8, rfl, rfl, rfl, rfl, rfl, rfl, rfl⟩
  · refine ext ?_
    refine te _ ?_
    refine te _ ?_
    refine be ?_
    refine tn (hK3 _ _ ?_)
    refine sqc (fun σ2 wC => ∃ (b8 : Nat), (Wk w wC) ∧ (Blk (wC).heap b8 [.bool f, str (kenc ies)]) ∧ (w.heap.size ≤ b8) ∧ (σ2 0 = .pointer (some ⟨b, 0, none⟩)) ∧ (σ2 1 = .pointer (some ⟨pp, 0, none⟩)) ∧ (σ2 8 = .pointer (some ⟨b8, 0, none⟩))) ?_ ?_
    · obtain rfl : i = ies.length := by omega
      rw [List.take_length] at hBd hkl
      have hsE := hE.size
      have hdr : wL.drew.heap.size = wL.heap.size := rfl
      have hS8 : (fun w' => cel w'.heap pp 0 = some (.bool f)) wL.drew := (hx.md hE (fun x => x) (fun _ _ x => x)).B.cel 0
      refine hst (fun w' => cel w'.heap pp 0 = some (.bool f)) wide hS8 ?_
      refine hp 0 rfl (by kernel_rfl) (fun _ _ => mvt (.pointer (some ⟨pp, 0, none⟩)) rfl) hS8 ?_
      refine hp 1 rfl (by kernel_rfl) (fun _ _ => nc rfl) hS8 ?_
      refine hp 2 rfl (by kernel_rfl) (fun _ _ => fa fo102_0 rfl) hS8 ?_
      refine hp 3 rfl (by kernel_rfl) (fun w' hS => ld ag4 rfl (hS)) hS8 ?_
      refine he2 4 6 rfl rfl (by kernel_rfl) ?_ ?_
      · refine (cl c56 (string_w b5 buf (kenc ies) _ (hBd.md (Md.refl (fun _ => False) _).drew (fun _ _ h => h)) (by omega)) rfl fun v35 w35 hR35 => ?_)
        obtain ⟨rfl, hM35⟩ := hR35
        have hS8_4 : (fun w' => cel w'.heap pp 0 = some (.bool f)) w35 := hM35.cel hS8 (fun h => by have := (own_lt hBd.own h).1; omega)
        refine ⟨hS8_4, ?_⟩
        refine hp 5 rfl (by kernel_rfl) (fun _ _ => bld (ps := [(0, .bool f), (1, str (kenc ies))]) (L := [.bool f, str (kenc ies)]) st131 rfl (rfl)) hS8_4 ?_
        refine he 6 rfl (by kernel_rfl) (al zs131 fun b8 w8 hb8 hN8 hB8 => ?_)
        have hS8_6 : (fun w' => cel w'.heap pp 0 = some (.bool f)) w8 := Wk.cel hN8.md hS8_4
        refine ⟨hS8_6, ?_⟩
        refine he 7 rfl (by kernel_rfl) (sta cz131 rfl rfl rfl rfl (hB8) (by simp) fun wt8_7 hM8_7 hB8_7 => ?_)
        have hs35 := hM35.size
        have hE9x : Wk w wt8_7 := Md.trans' (Md.trans (Md.trans' hE.drew hM35 (fun k hk h => by have := (own_lt hBd.own h).1; omega)) hN8.md) hM8_7 (fun k hk h => by omega)
        have hb9x : w.heap.size ≤ b8 := by omega
        have hS8_7 : (fun w' => cel w'.heap pp 0 = some (.bool f)) wt8_7 := hM8_7.cel hS8_6 (fun h => by have := hM35.size; omega)
        refine ⟨hS8_7, ?_⟩
        refine hn (by kernel_rfl) ?_
        refine tn ?_
        exact ⟨b8, hE9x, hB8_7, hb9x, rfl, rfl, rfl⟩
      · refine (al zs131 fun b8 w8 hb8 hN8 hB8 => ?_)
        have hS8_6 : (fun w' => cel w'.heap pp 0 = some (.bool f)) w8 := Wk.cel hN8.md hS8
        refine ⟨hS8_6, ?_⟩
        refine he 4 rfl (by kernel_rfl) (cl c56 (string_w b5 buf (kenc ies) _ ((hBd.md (Md.refl (fun _ => False) _).drew (fun _ _ h => h)).md hN8.md (fun _ _ h => h)) (by omega)) rfl fun v35 w35 hR35 => ?_)
        obtain ⟨rfl, hM35⟩ := hR35
        have hS8_4 : (fun w' => cel w'.heap pp 0 = some (.bool f)) w35 := hM35.cel hS8_6 (fun h => by have := (own_lt hBd.own h).1; omega)
        refine ⟨hS8_4, ?_⟩
        refine hp 5 rfl (by kernel_rfl) (fun _ _ => bld (ps := [(0, .bool f), (1, str (kenc ies))]) (L := [.bool f, str (kenc ies)]) st131 rfl (rfl)) hS8_4 ?_
        refine he 7 rfl (by kernel_rfl) (sta cz131 rfl rfl rfl rfl (hM35.B hB8 (fun h => by have := (own_lt hBd.own h).2; omega)) (by simp) fun wt8_7 hM8_7 hB8_7 => ?_)
        have hs35 := hM35.size
        have hE9x : Wk w wt8_7 := Md.trans' (Md.trans' (Md.trans hE.drew hN8.md) hM35 (fun k hk h => by have := (own_lt hBd.own h).1; omega)) hM8_7 (fun k hk h => by omega)
        have hb9x : w.heap.size ≤ b8 := by omega
        have hS8_7 : (fun w' => cel w'.heap pp 0 = some (.bool f)) wt8_7 := hM8_7.cel hS8_4 (fun h => by have := hM35.size; omega)
        refine ⟨hS8_7, ?_⟩
        refine hn (by kernel_rfl) ?_
        refine tn ?_
        exact ⟨b8, hE9x, hB8_7, hb9x, rfl, rfl, rfl⟩
    rintro σ2 wC ⟨b8, hE9, hB9, hb9, hs2_0, hs2_1, hs2_8⟩
    refine fx 0 hs2_0 (fx 1 hs2_1 (fx 8 hs2_8 ?_))
    refine sq (fun K7 hK7 => ?_)
    refine sq (fun K8 hK8 => ?_)
    have hS9 : (fun w' => Blk w'.heap b L ∧ Blk w'.heap b8 [.bool f, str (kenc ies)] ∧ MapIs w'.heap m (kvl fz)) wC.drew := ⟨Wk.B hE9 hb, hB9, hm.md (F := fun _ => False) hE9.drew (fun x => x)⟩
    refine hst (fun w' => Blk w'.heap b L ∧ Blk w'.heap b8 [.bool f, str (kenc ies)] ∧ MapIs w'.heap m (kvl fz)) wide hS9 ?_
    refine hp 0 rfl (by kernel_rfl) (fun _ _ => mvt (.pointer (some ⟨b, 0, none⟩)) rfl) hS9 ?_
    refine hp 1 rfl (by kernel_rfl) (fun _ _ => nc rfl) hS9 ?_
    refine hp 2 rfl (by kernel_rfl) (fun _ _ => fa fo106_4 rfl) hS9 ?_
    refine hp 3 rfl (by kernel_rfl) (fun w' hS => ld ag104 rfl ((hS.1.cel 4).trans h4)) hS9 ?_
    refine hp 4 rfl (by kernel_rfl) (fun w' hS => lda ag131 rfl rfl (show ∀ j, j < 2 → cel w'.heap b8 (0 + j) = [Value.bool f, str (kenc ies)][j]? from fun j _ => hS.2.1.cel0 j)) hS9 ?_
    refine hp 5 rfl (by kernel_rfl) (fun w' hS => lk_fz u104 zv99 kb131 hS.2.2 hnd rfl rfl) hS9 ?_
    refine hp 6 rfl (by kernel_rfl) (fun _ _ => asg) hS9 ?_
    refine hn (by kernel_rfl) ?_
    refine tn (hK8 _ _ ?_)
    refine sq (fun K9 hK9 => ?_)
    refine rg ?_
    refine p mv ?_
    refine p (nepn u99 rfl rfl) ?_
    refine nl ?_
    refine tn (hK9 _ _ ?_)
    refine cb rfl (fun hc44 => ?_) (fun hc44 => ?_)
    · refine sq (fun K10 hK10 => ?_)
      refine rg ?_
      refine p mv ?_
      refine p asg ?_
      refine nl ?_
      refine tn (hK10 _ _ ?_)
      refine rt ?_
      refine tr ?_
      refine f1 rfl rfl ?_
      cases hf : fnd fz f ies with
      | none => simp [lookF, hf] at hc44
      | some x => exact ⟨by show Value.pointer (lookF fz f ies) = _; rw [lookF, hf]; rfl, hE9.drew⟩
    · refine skp ?_
      refine tn (hK7 _ _ ?_)
      refine sq (fun K10 hK10 => ?_)
      have hnone : fnd fz f ies = none := by simpa [lookF] using hc44
      have hkl9 : (kvl fz).length = fz.length := by simp [kvl]
      refine rg ?_
      refine p (mvt (.pointer (some ⟨pp, 0, none⟩)) rfl) ?_
      refine p (mvt (.pointer (some ⟨b, 0, none⟩)) rfl) ?_
      refine p (nc rfl) ?_
      refine p (fa fo106_4 rfl) ?_
      refine p (ld ag104 rfl (Wk.cel hE9.drew ((hb.cel 4).trans h4))) ?_
      refine p (lnm' u104 rfl rfl (hm.md (F := fun _ => False) hE9.drew (fun x => x))) ?_
      refine p (adv (((kvl fz).length + 1 : Nat) : Int) rfl rfl (w64n (by omega) (by omega))) ?_
      refine p (nc rfl) ?_
      refine p (fa fo102_2 rfl) ?_
      refine e (stT cz3 rfl rfl rfl (hx.md hE9.drew (fun x => x) (fun _ _ x => x)).blk (by simp) fun w12 hM12 hB12 => ?_)
      have hm12 := (hm.md (F := fun _ => False) hE9.drew (fun x => x)).md hM12 (fun h => hpm h.symm)
      refine nl ?_
      refine tn (hK10 _ _ ?_)
      refine sq (fun K11 hK11 => ?_)
      have hS13 : (fun w' => Blk w'.heap b L ∧ Blk w'.heap b8 [.bool f, str (kenc ies)]) w12.drew := ⟨hM12.B (Wk.B hE9.drew hb) (fun h => hpb h.symm), hM12.B hB9 (fun h => by omega)⟩
      refine hst (fun w' => Blk w'.heap b L ∧ Blk w'.heap b8 [.bool f, str (kenc ies)]) wide hS13 ?_
      refine hp 0 rfl (by kernel_rfl) (fun _ _ => mvt (.pointer (some ⟨b, 0, none⟩)) rfl) hS13 ?_
      refine hp 1 rfl (by kernel_rfl) (fun _ _ => nc rfl) hS13 ?_
      refine hp 2 rfl (by kernel_rfl) (fun _ _ => fa fo106_4 rfl) hS13 ?_
      refine hp 3 rfl (by kernel_rfl) (fun w' hS => ld ag104 rfl ((hS.1.cel 4).trans h4)) hS13 ?_
      refine hp 4 rfl (by kernel_rfl) (fun w' hS => lda ag131 rfl rfl (show ∀ j, j < 2 → cel w'.heap b8 (0 + j) = [Value.bool f, str (kenc ies)][j]? from fun j _ => hS.2.cel0 j)) hS13 ?_
      refine hp 5 rfl (by kernel_rfl) (fun _ _ => mvt (.pointer (some ⟨pp, 0, none⟩)) rfl) hS13 ?_
      refine he 6 rfl (by kernel_rfl) (mup u104 kb131 hm12 (kvl_keys fz) rfl rfl rfl ⟨_, _, rfl⟩ (fnd_none hnone) fun w13 hM13 hm13 => ?_)
      have hS13_6 : (fun w' => Blk w'.heap b L ∧ Blk w'.heap b8 [.bool f, str (kenc ies)]) w13 := ⟨hM13.B hS13.1 hbm, hM13.B hS13.2 (fun h => by omega)⟩
      refine ⟨hS13_6, ?_⟩
      refine hn (by kernel_rfl) ?_
      refine tn (hK11 _ _ ?_)
      refine sq (fun K12 hK12 => ?_)
      refine rg ?_
      refine p (mvt (.pointer (some ⟨pp, 0, none⟩)) rfl) ?_
      refine p (ast (.pointer (some ⟨pp, 0, none⟩)) rfl) ?_
      refine nl ?_
      refine tn (hK12 _ _ ?_)
      refine rt ?_
      refine f1 rfl rfl ?_
      rw [hnone]
      refine ⟨rfl, Md.trans' (Md.trans' (hE9.drew.mono (fun _ _ h => h.elim)) hM12 (fun k _ h => .inl h)).drew hM13 (fun k _ h => .inr h), ?_, ?_⟩
      · rw [kvl, List.map_append]; exact hm13
      · have := hM13.blk (show w12.drew.heap[pp]? = _ from hB12) hpm
        rw [hkl9] at this; exact this

theorem tg_app {fz : List FN} {z : FN} {x : UInt8 × Nat} (h1 : 1 ≤ x.2) (h2 : x.2 ≤ fz.length) : tg (fz ++ [z]) x = tg fz x := by
  simp only [tg, List.map_append, List.getD_eq_getElem?_getD]
  rw [List.getElem?_append_left (by simp; omega)]
theorem tg_map {fz : List FN} {z : FN} {l : List (UInt8 × Nat)} (h : ∀ x ∈ l, 1 ≤ x.2 ∧ x.2 ≤ fz.length) : l.map (tg (fz ++ [z])) = l.map (tg fz) :=
  List.map_congr_left fun x hx => tg_app (h x hx).1 (h x hx).2
/-- an edges' block is no node and no map -/
theorem row_node {w : World} {p pp : Nat} {ev ev' : Value} {f f' : Bool} {es es' : List (UInt8 × Nat)} {id id' : Nat} (h : NdAt w p ev f es id) (h' : NdAt w pp ev' f' es' id') : ev.ownBlock ≠ some pp := by
  intro hk
  rcases h.row.2 with ⟨h1, _⟩ | ⟨g, cap, cur, h1, _, hg, _⟩
  · rw [h1] at hk; simp [Value.ownBlock] at hk
  · rw [h1] at hk; simp only [Value.ownBlock, Option.some.injEq] at hk; subst hk
    have := h'.blk
    rw [hg] at this
    simp only [Option.some.injEq, Obj.cells.injEq] at this
    exact absurd this.2.1 (by decide)
theorem row_map {w : World} {p m : Nat} {ev : Value} {f : Bool} {es : List (UInt8 × Nat)} {id : Nat} {kvs : List (Value × Value)} (h : NdAt w p ev f es id) (h' : MapIs w.heap m kvs) : ev.ownBlock ≠ some m := by
  intro hk
  rcases h.row.2 with ⟨h1, _⟩ | ⟨g, cap, cur, h1, _, hg, _⟩
  · rw [h1] at hk; simp [Value.ownBlock] at hk
  · rw [h1] at hk; simp only [Value.ownBlock, Option.some.injEq] at hk; subst hk
    obtain ⟨_, _, h2, _⟩ := h'
    rw [hg] at h2; cases h2
theorem fnd_idx {fz : List FN} {f : Bool} {es : List (UInt8 × Nat)} {x : FN} (h : fnd fz f es = some x) : (f, es) ∈ fz.map ent ∧ fz[(fz.map ent).idxOf (f, es)]? = some x := by
  induction fz with
  | nil => simp [fnd] at h
  | cons y fz ih =>
    unfold fnd at h
    rw [List.find?_cons] at h
    by_cases hy : ent y = (f, es)
    · simp only [hy, decide_true, Option.some.injEq] at h
      subst h
      refine ⟨by simp [hy], ?_⟩
      rw [List.map_cons, hy, List.idxOf_cons_self]; rfl
    · simp only [hy, decide_false] at h
      obtain ⟨h1, h2⟩ := ih h
      refine ⟨by simp [h1], ?_⟩
      rw [List.map_cons, List.idxOf_cons, show (ent y == (f, es)) = false from by simp [hy]]; exact h2
theorem fnd_nmem {fz : List FN} {f : Bool} {es : List (UInt8 × Nat)} (h : fnd fz f es = none) : (f, es) ∉ fz.map ent := by
  intro hm
  obtain ⟨x, hx, he⟩ := List.mem_map.1 hm
  have := List.find?_eq_none.1 h x hx
  simp [he] at this
theorem freeze2_w (b m id : Nat) (L : List Value) (z : FN) (fz : List FN) (w : World) (hb : Blk w.heap b L) (h4 : L[4]? = some (.map (some m))) (hm : MapIs w.heap m (kvl fz)) (hz : FzAt w fz) (hnd : (fz.map ent).Nodup) (hx : NdAt w z.p z.ev z.f (z.es.map (tg fz)) id) (hi : ∀ x ∈ z.es, 1 ≤ x.2 ∧ x.2 ≤ fz.length) (hl : fz.length ≤ 137438953472) (hil : z.es.length ≤ 137438953472) (hpb : z.p ≠ b) (hsp : ∀ x ∈ fz, x.p ≠ z.p) :
    Ret Try.prog 45 (List.toArray [.pointer (some ⟨b, 0, none⟩), .pointer (some ⟨z.p, 0, none⟩)]) w (fun v w' => ∃ fz2 q, v = .pointer (some ⟨q, 0, none⟩) ∧ (fz2 = fz ∨ fz2 = fz ++ [z]) ∧ fz2.map ent = (frzS (fz.map ent) (ent z)).2 ∧ 1 ≤ (frzS (fz.map ent) (ent z)).1 ∧ (frzS (fz.map ent) (ent z)).1 ≤ fz2.length ∧ (fz2.map FN.p).getD ((frzS (fz.map ent) (ent z)).1 - 1) 0 = q ∧
      Md (fun k => k = z.p ∨ k = m) w w' ∧ MapIs w'.heap m (kvl fz2) ∧ FzAt w' fz2 ∧ (fz2.map ent).Nodup) := by
  have hzp := fun (w1 : World) (h : Md (fun k => k = z.p ∨ k = m) w w1) (x : FN) (id : Nat) (es : List (UInt8 × Nat)) (hxx : NdAt w x.p x.ev x.f es id) (hne : x.p ≠ z.p) => hxx.md h (fun h => by
    rcases h with h | h
    · exact hne h
    · exact map_ne hm hxx.B h) (fun k hk h => by
    rcases h with h | h
    · exact row_node hxx hx (h ▸ hk)
    · exact row_map hxx hm (h ▸ hk))
  refine (freeze_w b m z.p id L z.ev z.f z.es fz w hb h4 hm hz hnd hx hi hl hil hpb).mono fun v w' h => ?_
  cases hf : fnd fz z.f z.es with
  | some x =>
    rw [hf] at h
    obtain ⟨rfl, hw⟩ := h
    obtain ⟨h1, h2⟩ := fnd_idx hf
    have hlt := (List.getElem?_eq_some_iff.1 h2).1
    have e1 : frzS (fz.map ent) (ent z) = ((fz.map ent).idxOf (z.f, z.es) + 1, fz.map ent) := by unfold frzS; rw [if_pos (show ent z ∈ _ from h1)]; rfl
    rw [e1]
    refine ⟨fz, x.p, rfl, .inl rfl, rfl, by simp, hlt, ?_, hw.mono (fun _ _ h => h.elim), hm.md (F := fun _ => False) hw (fun x => x), fun j y hy => ⟨(hz j y hy).1.md hw (fun x => x) (fun _ _ x => x), (hz j y hy).2⟩, hnd⟩
    simp only [Nat.add_sub_cancel, List.getD_eq_getElem?_getD, List.getElem?_map, h2]; rfl
  | none =>
    rw [hf] at h
    obtain ⟨rfl, hw, hm', hp'⟩ := h
    have h1 := fnd_nmem hf
    have e1 : frzS (fz.map ent) (ent z) = (fz.length + 1, fz.map ent ++ [ent z]) := by unfold frzS; rw [if_neg (show ent z ∉ _ from h1), List.length_map]
    rw [e1]
    refine ⟨fz ++ [z], z.p, rfl, .inr rfl, by simp, by simp, by simp, by simp [List.getD_eq_getElem?_getD], hw, hm', ?_, ?_⟩
    · intro j y hy
      by_cases hj : j < fz.length
      · rw [List.getElem?_append_left hj] at hy
        obtain ⟨h2, h3⟩ := hz j y hy
        rw [tg_map (fun x hx => ⟨(h3 x hx).1, by have := (h3 x hx).2; omega⟩)]
        exact ⟨hzp w' hw y _ _ h2 (hsp y (List.mem_of_getElem? hy)), h3⟩
      · rw [List.getElem?_append_right (by omega)] at hy
        by_cases h0 : j - fz.length = 0
        · rw [h0] at hy
          simp only [List.getElem?_cons_zero, Option.some.injEq] at hy
          subst hy
          obtain rfl : j = fz.length := by omega
          rw [tg_map hi]
          exact ⟨⟨hp', own_md hx.row hw (fun k hk h => by
            rcases h with h | h
            · exact row_node hx hx (h ▸ hk)
            · exact row_map hx hm (h ▸ hk))⟩, hi⟩
        · rw [List.getElem?_eq_none (by simp; omega)] at hy; cases hy
    · rw [List.map_append, List.nodup_append]
      exact ⟨hnd, by simp, fun a ha c hc => by simp only [List.map_cons, List.map_nil, List.mem_singleton] at hc; subst hc; rintro rfl; exact h1 ha⟩
theorem FzAt.md {F : Nat → Prop} {w w' : World} {fz : List FN} (h : FzAt w fz) (hm : Md F w w') (hf : ∀ x ∈ fz, ¬ F x.p ∧ ∀ k, x.ev.ownBlock = some k → ¬ F k) : FzAt w' fz :=
  fun j x hx => ⟨(h j x hx).1.md hm (hf x (List.mem_of_getElem? hx)).1 (hf x (List.mem_of_getElem? hx)).2, (h j x hx).2⟩
theorem NdAt.mdT {F : Nat → Prop} {w w' : World} {L : List Nat} {p : Nat} {ev : Value} {f : Bool} {es : List (UInt8 × Nat)} {id : Nat} (h : NdAt w p ev f es id) (hm : Md F w w') (hT : TF w L F) (h1 : L.contains 104 = false) (h2 : L.contains 120 = false) : NdAt w' p ev f es id :=
  h.md hm (hT.no (tag_cells h.blk) h1) (fun k hk => hT.no (tag_own h.row hk) h2)
theorem FzAt.mdT {F : Nat → Prop} {w w' : World} {L : List Nat} {fz : List FN} (h : FzAt w fz) (hm : Md F w w') (hT : TF w L F) (h1 : L.contains 104 = false) (h2 : L.contains 120 = false) : FzAt w' fz :=
  fun j x hx => ⟨(h j x hx).1.mdT hm hT h1 h2, (h j x hx).2⟩

end Go.Hb.Reg
