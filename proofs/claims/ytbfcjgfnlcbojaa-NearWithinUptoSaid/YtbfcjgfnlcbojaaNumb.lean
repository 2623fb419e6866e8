/-
  Walks of package dawg: the states numbered. No conditions but those that each theorem names.
-/
import Derived.Test.YtbfcjgfnlcbojaaChecked
import Derived.Test.YtbfcjgfnlcbojaaCore
import Derived.Test.YtbfcjgfnlcbojaaRecord
import Derived.Test.YtbfcjgfnlcbojaaBuilder
import Derived.Test.YtbfcjgfnlcbojaaRef18
import Derived.Test.YtbfcjgfnlcbojaaVisit
import Derived.Test.YtbfcjgfnlcbojaaReg
import Derived.Test.YtbfcjgfnlcbojaaCut
import Derived.Test.YtbfcjgfnlcbojaaPlan
set_option maxRecDepth 20000
set_option linter.unusedVariables false
namespace Go.Hb.Numb
open Go.Proofs
open Go.Hb.Record Go.Hb.Builder Go.Hb.Ref18 Go.Hb.Visit Go.Hb.Reg Go.Hb.Cut
theorem ag3 : aggN Try.prog 3 = some none := by kernel_rfl
theorem ag4 : aggN Try.prog 4 = some none := by kernel_rfl
theorem ag5 : aggN Try.prog 5 = some none := by kernel_rfl
theorem ag32 : aggN Try.prog 32 = some none := by kernel_rfl
theorem ag99 : aggN Try.prog 99 = some none := by kernel_rfl
theorem ag100 : aggN Try.prog 100 = some none := by kernel_rfl
theorem ag118 : aggN Try.prog 118 = some (some 2) := by kernel_rfl
theorem ag132 : aggN Try.prog 132 = some none := by kernel_rfl
theorem ag133 : aggN Try.prog 133 = some none := by kernel_rfl
theorem c57 : Callable Try.prog 57 := callable Try.func57 (by kernel_rfl) (by kernel_rfl)
theorem cz32 : cellsN Try.prog 32 = some 1 := by kernel_rfl
theorem cz74 : cellsN Try.prog 74 = some 1 := by kernel_rfl
theorem cz118 : cellsN Try.prog 118 = some 2 := by kernel_rfl
theorem es32 : elemSize Try.prog 32 = some 2 := by kernel_rfl
theorem es100 : elemSize Try.prog 100 = some 2 := by kernel_rfl
theorem fo76_1 : fieldOff Try.prog 76 1 = some 1 := by kernel_rfl
theorem fo102_0 : fieldOff Try.prog 102 0 = some 0 := by kernel_rfl
theorem fo102_1 : fieldOff Try.prog 102 1 = some 1 := by kernel_rfl
theorem fo102_2 : fieldOff Try.prog 102 2 = some 2 := by kernel_rfl
theorem fo118_0 : fieldOff Try.prog 118 0 = some 0 := by kernel_rfl
theorem fo118_1 : fieldOff Try.prog 118 1 = some 1 := by kernel_rfl
theorem ki3 : KeyT Try.prog 3 isI := key_int (q := .i64) (by kernel_rfl)
theorem so32 : sliceOk Try.prog 32 76 2 32 = true := by kernel_rfl
theorem so74 : sliceOk Try.prog 74 81 2 16 = true := by kernel_rfl
theorem st76 : structOk Try.prog 76 = some ([(0, 1), (1, 1)], [.bool false, .slice none 0 0]) := by kernel_rfl
theorem st81 : structOk Try.prog 81 = some ([(0, 1), (1, 1)], [.int .u8 0, .int .i64 0]) := by kernel_rfl
theorem u32 : Try.prog.underlying 32 = some (.slice 76) := by kernel_rfl
theorem u100 : Try.prog.underlying 100 = some (.slice 118) := by kernel_rfl
theorem u132 : Try.prog.underlying 132 = some (.map 3 3) := by kernel_rfl
theorem wide : Try.prog.follows .mixedOrders = true := by kernel_rfl
theorem zs118 : zeroOf Try.prog 118 = some (some [.int .u8 0, .pointer none]) := by kernel_rfl
theorem zv3 : zeroV Try.prog 3 = some (.int .i64 0) := by kernel_rfl

/-- ids with their places, as a map -/
def kvI (l : List Nat) : List (Value × Value) := l.zipIdx.map fun q => (.int .i64 q.1, .int .i64 q.2)
theorem kvI_app (l : List Nat) (x : Nat) : kvI (l ++ [x]) = kvI l ++ [(.int .i64 x, .int .i64 l.length)] := by
  simp [kvI, List.zipIdx_append]
theorem kvI_key {l : List Nat} {x : Nat} {v : Value} (h : (Value.int .i64 x, v) ∈ kvI l) : ∃ i : Nat, l[i]? = some x ∧ v = .int .i64 i := by
  obtain ⟨q, hq, he⟩ := List.mem_map.1 h
  simp only [Prod.mk.injEq, Value.int.injEq, true_and] at he
  obtain ⟨h1, h2⟩ := he
  obtain ⟨i, hi⟩ := List.mem_iff_getElem?.1 hq
  rw [List.getElem?_zipIdx, Option.map_eq_some_iff] at hi
  obtain ⟨y, hy, rfl⟩ := hi
  simp only at h1 h2
  have : y = x := by omega
  subst this
  exact ⟨i, hy, by rw [← h2]; simp⟩
theorem kvI_keys (l : List Nat) : ∀ q ∈ kvI l, isI q.1 := by
  intro q hq
  obtain ⟨x, _, rfl⟩ := List.mem_map.1 hq
  exact ⟨_, rfl⟩
theorem kvI_nodup {l : List Nat} (h : l.Nodup) : ((kvI l).map Prod.fst).Nodup := by
  have e : (kvI l).map Prod.fst = l.map (fun n : Nat => Value.int .i64 n) := by
    simp only [kvI, List.map_map]
    have : (Prod.fst ∘ fun q : Nat × Nat => (Value.int .i64 (q.1 : Int), Value.int .i64 (q.2 : Int))) = (fun n : Nat => Value.int .i64 (n : Int)) ∘ Prod.fst := rfl
    rw [this, ← List.map_map, List.zipIdx_map_fst]
  rw [e]
  exact List.Pairwise.map _ (fun a b hab hk => hab (by simp only [Value.int.injEq, true_and] at hk; omega)) h
theorem kvI_mem {l : List Nat} {x : Nat} (hx : x ∈ l) : (Value.int .i64 x, Value.int .i64 (l.idxOf x : Nat)) ∈ kvI l := by
  refine List.mem_map.2 ⟨(x, l.idxOf x), ?_, rfl⟩
  rw [List.mem_iff_getElem?]
  have hlt := List.idxOf_lt_length_of_mem hx
  refine ⟨l.idxOf x, ?_⟩
  rw [List.getElem?_zipIdx, List.getElem?_eq_getElem hlt]
  simp
section
variable {P : Program} {N : Nat} {σ : Nat → Value} {w : World} {dst : Option Nat} {ty : TypeId} {pos : String} {af : Array Edge} {g : Option (Nat × Bool)} {x y : Operand}
theorem lk_ix {t k e m : Nat} {l : List Nat} {id : Nat} (ht : P.underlying t = some (.map k e)) (hz : zeroV P e = some (.int .i64 0)) (KT : KeyT P k isI) (hm : MapIs w.heap m (kvI l)) (hn : l.Nodup) (hx : ev N σ x = .map (some m)) (hy : ev N σ y = .int .i64 id) :
    (execOp (ev N σ) ⟨dst, .lookup t x y true, ty, pos, af, g⟩).run P w = .ok (.value (.tuple #[.int .i64 (if id ∈ l then (l.idxOf id : Int) else 0), .bool (decide (id ∈ l))])) w := by
  by_cases hi : id ∈ l
  · rw [if_pos hi, decide_eq_true hi]
    exact lk_hit (ok := true) ht KT hm (kvI_keys l) hx hy ⟨_, rfl⟩ (kvI_nodup hn) (kvI_mem hi)
  · rw [if_neg hi, decide_eq_false hi]
    exact lk_miss (ok := true) ht hz KT hm (kvI_keys l) hx hy ⟨_, rfl⟩ (fun v hv => by obtain ⟨i, h, _⟩ := kvI_key hv; exact hi (List.mem_of_getElem? h))
end
theorem sflat_set {l : List (Bool × Value)} {j : Nat} {f : Bool} {u : Value} {r : List (Bool × Value)} (hl : l.length = j) {v : Value} : (sflat (l ++ (f, u) :: r)).set (j * 2 + 1) v = sflat (l ++ (f, v) :: r) := by
  have h : (sflat l).length = j * 2 := by rw [← hl]; exact flat_len (f := fun q : Bool × Value => [.bool q.1, q.2]) (m := 2) (fun _ => rfl) l
  rw [sflat_app, sflat_app, List.set_append_right _ _ (by omega), show j * 2 + 1 - (sflat l).length = 1 from by omega]
  rfl
theorem nodup_snoc {l : List Nat} {x : Nat} (h : l.Nodup) (hx : x ∉ l) : (l ++ [x]).Nodup := by
  rw [List.nodup_append]
  exact ⟨h, by simp, fun a ha b hb => by simp only [List.mem_singleton] at hb; subst hb; rintro rfl; exact hx ha⟩
def sepV (svs : List (Bool × Value)) : Prop := svs.Pairwise (fun q q' => ∀ k, q.2.ownBlock = some k → q'.2.ownBlock ≠ some k)
theorem sepV_snoc {svs : List (Bool × Value)} {f : Bool} (h : sepV svs) : sepV (svs ++ [(f, .slice none 0 0)]) := by
  unfold sepV at *
  rw [List.pairwise_append]
  exact ⟨h, by simp, fun a ha b hb k hk hk2 => by simp only [List.mem_singleton] at hb; subst hb; simp [Value.ownBlock] at hk2⟩
theorem sepV_mid {svs nsv : List (Bool × Value)} {f g : Bool} {u v : Value} (h : sepV ((svs ++ [(f, u)]) ++ nsv)) (h1 : ∀ q ∈ svs, ∀ k, q.2.ownBlock = some k → v.ownBlock ≠ some k) (h2 : ∀ q ∈ nsv, ∀ k, q.2.ownBlock = some k → v.ownBlock ≠ some k) : sepV (svs ++ (g, v) :: nsv) := by
  unfold sepV at *
  rw [List.append_assoc, List.pairwise_append] at h
  obtain ⟨h3, h4, h5⟩ := h
  simp only [List.singleton_append, List.pairwise_cons] at h4
  rw [List.pairwise_append, List.pairwise_cons]
  refine ⟨h3, ⟨fun q hq k hk hk2 => h2 q hq k hk2 hk, h4.2⟩, fun a ha b hb => ?_⟩
  rcases List.mem_cons.1 hb with rfl | hb
  · exact h1 a ha
  · exact h5 a ha b (by simp [hb])
/-- states being numbered, as they lie in memory -/
structure NB (w : World) (B p1 p2 p3 m : Nat) (vs : Value) (fz : List FN) (s : List Nat × List Ent) (svs : List (Bool × Value)) : Prop where
  c1 : w.heap[p1]? = some (.cells [.map (some m)].toArray 132 (0, 0))
  mp : MapIs w.heap m (kvI s.1)
  c2 : w.heap[p2]? = some (.cells [vs].toArray 32 (0, 0))
  c3 : w.heap[p3]? = some (.cells [(Value.func (.func 57) #[] #[.pointer (some ⟨p1, 0, none⟩), .pointer (some ⟨p2, 0, none⟩), .pointer (some ⟨p3, 0, none⟩)])].toArray 133 (0, 0))
  rs : w.ownsRow B 76 2 vs svs.length (sflat svs)
  sts : StsT 81 w B s.2 svs
  len : s.2.length = s.1.length
  hfz : FzAt w fz
  nd : s.1.Nodup
  rg : ∀ i ∈ s.1, 1 ≤ i ∧ i ≤ fz.length
  b2 : B ≤ p2
  bm : B ≤ m
  sep : sepV svs
/-- the blocks that the numbering writes -/
def NF (p2 m : Nat) (vs : Value) (k : Nat) : Prop := k = p2 ∨ k = m ∨ vs.ownBlock = some k
theorem NB.md {F : Nat → Prop} {w w' : World} {B p1 p2 p3 m : Nat} {vs : Value} {fz : List FN} {s : List Nat × List Ent} {svs : List (Bool × Value)} (h : NB w B p1 p2 p3 m vs fz s svs) (hm : Md F w w') (h1 : ¬ F p1) (h2 : ¬ F p2) (h3 : ¬ F p3) (h4 : ¬ F m) (h5 : ∀ k, vs.ownBlock = some k → ¬ F k) (h6 : ∀ q ∈ svs, ∀ k, q.2.ownBlock = some k → ¬ F k) (h7 : ∀ x ∈ fz, ¬ F x.p ∧ ∀ k, x.ev.ownBlock = some k → ¬ F k) : NB w' B p1 p2 p3 m vs fz s svs :=
  ⟨hm.blk h.c1 h1, h.mp.md hm h4, hm.blk h.c2 h2, hm.blk h.c3 h3, own_md h.rs hm h5, h.sts.md hm h6, h.len, h.hfz.md hm h7, h.nd, h.rg, h.b2, h.bm, h.sep⟩
theorem NB.wk {w w' : World} {B p1 p2 p3 m : Nat} {vs : Value} {fz : List FN} {s : List Nat × List Ent} {svs : List (Bool × Value)} (h : NB w B p1 p2 p3 m vs fz s svs) (hm : Wk w w') : NB w' B p1 p2 p3 m vs fz s svs :=
  h.md hm (fun x => x) (fun x => x) (fun x => x) (fun x => x) (fun _ _ x => x) (fun _ _ _ _ x => x) (fun _ _ => ⟨fun x => x, fun _ _ x => x⟩)
theorem NB.own {w w' : World} {B p1 p2 p3 m B' n : Nat} {vs v : Value} {fz : List FN} {s : List Nat × List Ent} {svs : List (Bool × Value)} {xs : List Value} (h : NB w B p1 p2 p3 m vs fz s svs) (ho : w.ownsRow B' 81 2 v n xs) (hd : ∀ q ∈ svs, ∀ k, q.2.ownBlock = some k → v.ownBlock ≠ some k) (hm : Md (fun k => v.ownBlock = some k) w w') : NB w' B p1 p2 p3 m vs fz s svs :=
  have hT : TF w [83] (fun k => v.ownBlock = some k) := TF.own ho rfl
  ⟨hm.blkT hT h.c1 rfl, h.mp.mdT hm hT rfl, hm.blkT hT h.c2 rfl, hm.blkT hT h.c3 rfl, own_mdT h.rs hm hT rfl, h.sts.md hm (fun q hq k hk => hd q hq k hk), h.len, h.hfz.mdT hm hT rfl rfl, h.nd, h.rg, h.b2, h.bm, h.sep⟩
theorem NB.lt {w : World} {B p1 p2 p3 m : Nat} {vs : Value} {fz : List FN} {s : List Nat × List Ent} {svs : List (Bool × Value)} (h : NB w B p1 p2 p3 m vs fz s svs) {k : Nat} (hk : NF p2 m vs k) : B ≤ k ∧ k < w.heap.size := by
  rcases hk with rfl | rfl | hk
  · exact ⟨h.b2, Blk.lt ⟨_, h.c2⟩⟩
  · exact ⟨h.bm, h.mp.lt⟩
  · have := own_lt h.rs hk; omega
theorem NB.slt {w : World} {B p1 p2 p3 m : Nat} {vs : Value} {fz : List FN} {s : List Nat × List Ent} {svs : List (Bool × Value)} (h : NB w B p1 p2 p3 m vs fz s svs) {q : Bool × Value} (hq : q ∈ svs) {k : Nat} (hk : q.2.ownBlock = some k) : k < w.heap.size := by
  obtain ⟨n, xs, ho⟩ := h.sts.row hq
  exact (own_lt ho hk).2
theorem NB.off {w : World} {B p1 p2 p3 m B' n k : Nat} {vs v : Value} {fz : List FN} {s : List Nat × List Ent} {svs : List (Bool × Value)} {xs : List Value} (h : NB w B p1 p2 p3 m vs fz s svs) (ho : w.ownsRow B' 81 2 v n xs) (hk : v.ownBlock = some k) : ¬ NF p2 m vs k := by
  rintro (rfl | rfl | h1)
  · exact own_cellne ho h.c2 (by decide) hk
  · exact own_mapne ho h.mp hk
  · exact own_ne ho h.rs (by decide) hk h1
theorem NB.known {w : World} {B p1 p2 p3 m : Nat} {vs : Value} {fz : List FN} {s : List Nat × List Ent} {svs : List (Bool × Value)} (h : NB w B p1 p2 p3 m vs fz s svs) : s.1.length ≤ fz.length := by
  have h1 : s.1 ⊆ List.range' 1 fz.length := fun i hi => by
    have := h.rg i hi
    rw [List.mem_range'_1]; omega
  have h2 := List.Nodup.length_le_of_subset h.nd h1
  simpa using h2
theorem visI_old {ents : List Ent} {f id : Nat} {s : List Nat × List Ent} (h : id ∈ s.1) : visI ents (f + 1) id s = (s.1.idxOf id, s) := by simp only [visI]; rw [if_pos h]
theorem visI_new {ents : List Ent} {f id : Nat} {s s' : List Nat × List Ent} {es : List (UInt8 × Nat)} {fb : Bool} {es0 : List (UInt8 × Nat)} (h : id ∉ s.1) (he : ents.getD (id - 1) dE = (fb, es0)) (hf : es0.foldl (visIG (visI ents f)) ([], (s.1 ++ [id], s.2 ++ [(fb, [])])) = (es, s')) :
    visI ents (f + 1) id s = (s.1.length, (s'.1, s'.2.set s.1.length (fb, es))) := by simp only [visI]; rw [if_neg h, he]; simp only [hf]

set_option maxHeartbeats 1000000 in
theorem number1_w (B p1 p2 p3 m f id : Nat) (x : FN) (vs : Value) (fz : List FN) (s : List Nat × List Ent) (svs : List (Bool × Value)) (w : World) (hV : NB w B p1 p2 p3 m vs fz s svs) (hid : 1 ≤ id) (hf : id ≤ f) (hx : fz[id - 1]? = some x) (hfl : fz.length ≤ 68719476736) (hel : ∀ y ∈ fz, y.es.length ≤ 68719476736) (hB : B ≤ w.heap.size) :
    Ret Try.prog 57 (List.toArray [.pointer (some ⟨x.p, 0, none⟩), .pointer (some ⟨p1, 0, none⟩), .pointer (some ⟨p2, 0, none⟩), .pointer (some ⟨p3, 0, none⟩)]) w (fun v w' => v = .int .i64 (visI (fz.map ent) f id s).1 ∧ ∃ vs' nsv, NB w' B p1 p2 p3 m vs' fz (visI (fz.map ent) f id s).2 (svs ++ nsv) ∧ Md (NF p2 m vs) w w' ∧ (∀ k, NF p2 m vs' k → NF p2 m vs k ∨ w.heap.size ≤ k) ∧ ∀ q ∈ nsv, ∀ k, q.2.ownBlock = some k → w.heap.size ≤ k) := by
  induction f generalizing id x s vs svs w with
  | zero => omega
  | succ f ih =>
    have hidl : id ≤ fz.length := by have := (List.getElem?_eq_some_iff.1 hx).1; omega
    have hxm : ∀ (w1 : World) vs1 s1 svs1, NB w1 B p1 p2 p3 m vs1 fz s1 svs1 → NdAt w1 x.p x.ev x.f (x.es.map (tg fz)) id := fun w1 vs1 s1 svs1 h => by
      have := (h.hfz _ _ hx).1
      rw [show id - 1 + 1 = id from by omega] at this; exact this
    have hN := hxm _ _ _ _ hV
    have hNe : ∀ e ∈ x.es, 1 ≤ e.2 ∧ e.2 < id := fun e he => by have := (hV.hfz _ _ hx).2 e he; omega
    have hxl := hel x (List.mem_of_getElem? hx)
    have hkn := hV.known
    have hsl := hV.sts.1
    have hln := hV.len
    have hentx : (fz.map ent).getD (id - 1) dE = (x.f, x.es) := by rw [List.getD_eq_getElem?_getD, List.getElem?_map, hx]; rfl
    refine enter Try.func57 rfl Try.ntmps57 rfl ?_
    refine sq (fun K1 hK1 => ?_)
    refine rg ?_
    refine p asg ?_
    refine nl ?_
    refine tn (hK1 _ _ ?_)
    refine sqc (fun σ1 wA => (id ∉ s.1) ∧ (Wk w wA) ∧ (σ1 0 = .pointer (some ⟨x.p, 0, none⟩)) ∧ (σ1 1 = .pointer (some ⟨p1, 0, none⟩)) ∧ (σ1 2 = .pointer (some ⟨p2, 0, none⟩)) ∧ (σ1 3 = .pointer (some ⟨p3, 0, none⟩))) ?_ ?_
    · refine sq (fun K2 hK2 => ?_)
      have hS1 : (fun w' => Wk w w') w.drew := (Md.refl _ _).drew
      refine hst (fun w' => Wk w w') wide hS1 ?_
      refine hp 0 rfl (by kernel_rfl) (fun w' hS => ld ag132 rfl (Wk.cel hS (Blk.cel ⟨_, hV.c1⟩ 0))) hS1 ?_
      refine hp 1 rfl (by kernel_rfl) (fun _ _ => mvt (.pointer (some ⟨x.p, 0, none⟩)) rfl) hS1 ?_
      refine hp 2 rfl (by kernel_rfl) (fun _ _ => nc rfl) hS1 ?_
      refine hp 3 rfl (by kernel_rfl) (fun _ _ => fa fo102_2 rfl) hS1 ?_
      refine hp 4 rfl (by kernel_rfl) (fun w' hS => ld ag3 rfl (Wk.cel hS (hN.B.cel 2))) hS1 ?_
      refine hp 5 rfl (by kernel_rfl) (fun w' hS => lk_ix u132 zv3 ki3 (hV.mp.md (F := fun _ => False) hS (fun x => x)) hV.nd rfl rfl) hS1 ?_
      refine hp 6 rfl (by kernel_rfl) (fun _ _ => mv) hS1 ?_
      refine hp 7 rfl (by kernel_rfl) (fun _ _ => xt rfl rfl) hS1 ?_
      refine hp 8 rfl (by kernel_rfl) (fun _ _ => xt rfl rfl) hS1 ?_
      refine hp 9 rfl (by kernel_rfl) (fun _ _ => asg) hS1 ?_
      refine hp 10 rfl (by kernel_rfl) (fun _ _ => asg) hS1 ?_
      refine hn (by kernel_rfl) ?_
      refine tn (hK2 _ _ ?_)
      refine sq (fun K3 hK3 => ?_)
      refine rg ?_
      refine p mv ?_
      refine nl ?_
      refine tn (hK3 _ _ ?_)
      refine cd rfl (fun hin => ?_) (fun hin => ?_)
      · refine sq (fun K4 hK4 => ?_)
        refine rg ?_
        refine p mv ?_
        refine p asg ?_
        refine nl ?_
        refine tn (hK4 _ _ ?_)
        refine rt ?_
        refine tr ?_
        refine f1 rfl rfl ?_
        rw [visI_old hin]
        exact ⟨by show Value.int .i64 (if id ∈ s.1 then (s.1.idxOf id : Int) else 0) = _; rw [if_pos hin], vs, [], by rw [List.append_nil]; exact hV.wk (Md.refl _ _).drew, (Md.refl _ _).drew, fun k h => .inl h, fun _ h => by simp at h⟩
      · refine skp ?_
        refine tn ?_
        exact ⟨hin, ((Md.refl _ _).drew), rfl, rfl, rfl, rfl⟩
    rintro σ1 wA ⟨hin, hEA, hs1_0, hs1_1, hs1_2, hs1_3⟩
    refine fx 0 hs1_0 (fx 1 hs1_1 (fx 2 hs1_2 (fx 3 hs1_3 ?_)))
    obtain ⟨sa0, sc0, hvs0⟩ := own_slice hV.rs
    have hVa := hV.wk hEA
    have hNa := hxm _ _ _ _ hVa
    refine sq (fun K2 hK2 => ?_)
    refine rg ?_
    refine p (ld ag32 rfl (show cel wA.heap p2 0 = some (.slice sa0 svs.length sc0) from hvs0 ▸ Blk.cel ⟨_, hVa.c2⟩ 0)) ?_
    refine p (lnl u32 rfl rfl) ?_
    refine p asg ?_
    refine nl ?_
    refine tn (hK2 _ _ ?_)
    refine sq (fun K3 hK3 => ?_)
    have hS5 : (fun w' => cel w'.heap p1 0 = some (.map (some m)) ∧ cel w'.heap x.p 2 = some (.int .i64 id)) wA.drew := ⟨Blk.cel ⟨_, hVa.c1⟩ 0, hNa.B.cel 2⟩
    refine hst (fun w' => cel w'.heap p1 0 = some (.map (some m)) ∧ cel w'.heap x.p 2 = some (.int .i64 id)) wide hS5 ?_
    refine hp 0 rfl (by kernel_rfl) (fun w' hS => ld ag132 rfl (hS.1)) hS5 ?_
    refine hp 1 rfl (by kernel_rfl) (fun _ _ => mvt (.pointer (some ⟨x.p, 0, none⟩)) rfl) hS5 ?_
    refine hp 2 rfl (by kernel_rfl) (fun _ _ => nc rfl) hS5 ?_
    refine hp 3 rfl (by kernel_rfl) (fun _ _ => fa fo102_2 rfl) hS5 ?_
    refine hp 4 rfl (by kernel_rfl) (fun w' hS => ld ag3 rfl (hS.2)) hS5 ?_
    refine hp 5 rfl (by kernel_rfl) (fun _ _ => mv) hS5 ?_
    refine he 6 rfl (by kernel_rfl) (mup u132 ki3 (hVa.mp.md (F := fun _ => False) (Md.refl _ _).drew (fun x => x)) (kvI_keys _) rfl rfl rfl ⟨_, rfl⟩ (fun v hv => by obtain ⟨i, h, _⟩ := kvI_key hv; exact hin (List.mem_of_getElem? h)) fun w5 hM5 hm5 => ?_)
    have hM5x : Md (fun k => k = m) wA w5 := Md.trans (Md.refl _ _).drew hM5
    have hT5 : TF wA [1] (fun k => k = m) := TF.eq (tag_map hVa.mp) rfl
    have hc15 := hM5x.blkT hT5 hVa.c1 rfl
    have hb2 := hM5x.blkT hT5 hVa.c2 rfl
    have hc35 := hM5x.blkT hT5 hVa.c3 rfl
    have hrs5 := own_mdT hVa.rs hM5x hT5 rfl
    have hsts5 := hVa.sts.mdT hM5x hT5 rfl
    have hfz5 := hVa.hfz.mdT hM5x hT5 rfl rfl
    have hm5' : MapIs w5.heap m (kvI (s.1 ++ [id])) := by rw [kvI_app, show s.1.length = svs.length from by omega]; exact hm5
    have hN5 := hNa.mdT hM5x hT5 rfl rfl
    have hS5_6 : (fun w' => cel w'.heap p1 0 = some (.map (some m)) ∧ cel w'.heap x.p 2 = some (.int .i64 id)) w5 := ⟨Blk.cel ⟨_, hc15⟩ 0, hN5.B.cel 2⟩
    refine ⟨hS5_6, ?_⟩
    refine hn (by kernel_rfl) ?_
    refine tn (hK3 _ _ ?_)
    refine sq (fun K4 hK4 => ?_)
    have hS6 : (fun w' => w'.heap[p2]? = some (.cells [vs].toArray 32 (0, 0)) ∧ cel w'.heap x.p 0 = some (.bool x.f)) w5.drew := ⟨hb2, hN5.B.cel 0⟩
    refine lst (fun w' => w'.heap[p2]? = some (.cells [vs].toArray 32 (0, 0)) ∧ cel w'.heap x.p 0 = some (.bool x.f)) 8 wide hS6 ?_
    refine lq 0 rfl (by kernel_rfl) (fun w' hS => ld ag32 rfl (Blk.cel ⟨_, hS.1⟩ 0)) hS6 ?_
    refine lq 1 rfl (by kernel_rfl) (fun _ _ => mvt (.pointer (some ⟨x.p, 0, none⟩)) rfl) hS6 ?_
    refine lq 2 rfl (by kernel_rfl) (fun _ _ => nc rfl) hS6 ?_
    refine lq 3 rfl (by kernel_rfl) (fun _ _ => fa fo102_0 rfl) hS6 ?_
    refine lq 4 rfl (by kernel_rfl) (fun w' hS => ld ag4 rfl (hS.2)) hS6 ?_
    refine lq 5 rfl (by kernel_rfl) (fun _ _ => bld (ps := [(0, .bool x.f)]) (L := [.bool x.f, .slice none 0 0]) st76 rfl (rfl)) hS6 ?_
    refine lef 6 rfl (by kernel_rfl) (bsa so32 rfl rfl rfl fun b37 w37 hb37 hN37 hB37 => ?_)
    have hB37x : Blk w37.heap b37 [.bool x.f, .slice none 0 0] := hB37
    have hE37 : Wk w5 w37 := Md.trans (Md.refl _ _).drew hN37.md
    have hS6_6 : (fun w' => w'.heap[p2]? = some (.cells [vs].toArray 32 (0, 0)) ∧ cel w'.heap x.p 0 = some (.bool x.f)) w37 := ⟨Wk.blk hN37.md hS6.1, Wk.cel hN37.md hS6.2⟩
    refine ⟨hS6_6, ?_⟩
    refine lef 7 rfl (by kernel_rfl) (ap so32 (own_nw hrs5 hE37) rfl (by have := hE37.size; have := hM5x.size; have := hEA.size; omega) rfl (Cells.of_blk hB37x) (rfl) (rfl) (by omega) (by omega) fun v38 w38 ho38 hM38 hz38 hf38 => ?_)
    have hT38 : TF w37 [78] (fun k => vs.ownBlock = some k) := TF.own (own_nw hrs5 hE37) rfl
    have hc2_38 := hM38.blkT hT38 (Wk.blk hE37 hb2) rfl
    have hS6_7 : (fun w' => w'.heap[p2]? = some (.cells [vs].toArray 32 (0, 0)) ∧ cel w'.heap x.p 0 = some (.bool x.f)) w38 := ⟨hc2_38, hM38.cel hS6_6.2 (hT38.no (tag_cells (Wk.blk hE37 hN5.blk)) rfl)⟩
    refine ⟨hS6_7, ?_⟩
    refine lel 8 rfl (by kernel_rfl) (by kernel_rfl) (stT cz32 rfl rfl (own_one ho38) hc2_38 (by simp) fun w6 hM6 hB6 => ?_)
    have hM56 : Md (fun k => k = p2 ∨ vs.ownBlock = some k) w5 w6 := Md.trans' (Md.trans' (hE37.mono (fun _ _ h => h.elim)) hM38 (fun k _ h => .inr h)) hM6 (fun k _ h => .inl h)
    have hT56 : TF w5 [78, 34] (fun k => k = p2 ∨ vs.ownBlock = some k) := (TF.eq (tag_cells hb2) rfl).or (TF.own hrs5 rfl)
    have hs37 := hE37.size
    have hs5 := hM5x.size
    have hsA := hEA.size
    have hrs6 : World.ownsRow w6 B 76 2 v38 (svs ++ [(x.f, Value.slice none 0 0)]).length (sflat (svs ++ [(x.f, Value.slice none 0 0)])) := by
      rw [sflat_app, List.length_append]
      exact own_mdT ho38 hM6 (TF.eq (L := [34]) (tag_cells hc2_38) rfl) rfl
    have hV6 : NB w6 B p1 p2 p3 m v38 fz (s.1 ++ [id], s.2 ++ [(x.f, [])]) (svs ++ [(x.f, Value.slice none 0 0)]) :=
      ⟨hM56.blkT hT56 hc15 rfl, hm5'.mdT hM56 hT56 rfl, hB6, hM56.blkT hT56 hc35 rfl, hrs6, (hsts5.mdT hM56 hT56 rfl).app1, by simp [hln], hfz5.mdT hM56 hT56 rfl rfl,
       nodup_snoc hV.nd hin, fun i hi => by
         rcases List.mem_append.1 hi with hi | hi
         · exact hV.rg i hi
         · simp only [List.mem_singleton] at hi; omega, hV.b2, hV.bm, sepV_snoc hV.sep⟩
    have hMwA6 : Md (NF p2 m vs) wA w6 := Md.trans' (hM5x.mono (fun k _ h => .inr (.inl h))) hM56 (fun k _ h => by
      rcases h with h | h
      · exact .inl h
      · exact .inr (.inr h))
    have hM6t : Md (NF p2 m vs) w w6 := Md.trans' (hEA.mono (fun _ _ h => h.elim)) hMwA6 (fun _ _ h => h)
    have hfv6 : ∀ k, NF p2 m v38 k → (NF p2 m vs) k ∨ w.heap.size ≤ k := by
      rintro k (h | h | h)
      · exact .inl (.inl h)
      · exact .inl (.inr (.inl h))
      · rcases hf38 k h with h | h
        · exact .inl (.inr (.inr h))
        · exact .inr (by omega)
    refine lnd (by kernel_rfl) ?_
    refine tn (hK4 _ _ ?_)
    refine sq (fun K5 hK5 => ?_)
    refine rg ?_
    refine p asg ?_
    refine nl ?_
    refine tn (hK5 _ _ ?_)
    refine sq (fun K6 hK6 => ?_)
    refine sq (fun K7 hK7 => ?_)
    obtain ⟨ae, ce, hae⟩ := own_slice hN.row
    have hN8 := hxm _ _ _ _ hV6
    rw [hae] at hN8
    refine rg ?_
    refine p (mvt (.pointer (some ⟨x.p, 0, none⟩)) rfl) ?_
    refine p (nc rfl) ?_
    refine p (fa fo102_1 rfl) ?_
    refine p (ld ag100 rfl (hN8.B.cel 1)) ?_
    refine p (lnl u100 rfl rfl) ?_
    refine p mv ?_
    refine nl ?_
    refine tn (hK7 _ _ ?_)
    refine blk ?_
    refine lp (fun gm σ2 wL => ∃ (i : Nat) (es : List (UInt8 × Nat)) (si : List Nat × List Ent) (ve v1 : Value) (nsv : List (Bool × Value)), (i ≤ x.es.length) ∧ (x.es.foldl (visIG (visI (fz.map ent) f)) ([], (s.1 ++ [id], s.2 ++ [(x.f, [])])) = (x.es.drop i).foldl (visIG (visI (fz.map ent) f)) (es, si)) ∧ (NB wL B p1 p2 p3 m v1 fz si ((svs ++ [(x.f, Value.slice none 0 0)]) ++ nsv)) ∧ (Md (NF p2 m vs) w wL) ∧ (∀ k, NF p2 m v1 k → (NF p2 m vs) k ∨ w.heap.size ≤ k) ∧ (∀ q ∈ nsv, ∀ k, q.2.ownBlock = some k → w.heap.size ≤ k) ∧ (World.ownsRow wL w.heap.size 81 2 ve es.length (eflat es)) ∧ (∀ q ∈ nsv, ∀ k, q.2.ownBlock = some k → ve.ownBlock ≠ some k) ∧ (es.length = i) ∧ (σ2 1 = .pointer (some ⟨p1, 0, none⟩)) ∧ (σ2 2 = .pointer (some ⟨p2, 0, none⟩)) ∧ (σ2 3 = .pointer (some ⟨p3, 0, none⟩)) ∧ (σ2 8 = .int .i64 svs.length) ∧ (σ2 9 = ve) ∧ (σ2 42 = .slice ae (x.es.map (tg fz)).length ce) ∧ (σ2 43 = .int .i64 (x.es.map (tg fz)).length) ∧ (σ2 44 = .int .i64 i) ∧ (x.es.length - i = gm)) _ ⟨0, [], (s.1 ++ [id], s.2 ++ [(x.f, [])]), .slice none 0 0, v38, [], (by omega), (by rw [List.drop_zero]), (by rw [List.append_nil]; exact hV6), hM6t, hfv6, (fun _ h => by simp at h), (World.ownsRow_nil _ _ _ _), (fun _ h => by simp at h), rfl, rfl, rfl, rfl, rfl, rfl, rfl, rfl, rfl, rfl⟩ ?_
    rintro gm σ2 wL ⟨i, es, si, ve, v1, nsv, hi1, hfold, hNBL, hM1, hfv1, hns, hes, hdj, hesl, hs2_1, hs2_2, hs2_3, hs2_8, hs2_9, hs2_42, hs2_43, hs2_44, rfl⟩
    refine fx 1 hs2_1 (fx 2 hs2_2 (fx 3 hs2_3 (fx 8 hs2_8 (fx 9 hs2_9 (fx 42 hs2_42 (fx 43 hs2_43 (fx 44 hs2_44 ?_)))))))
    have hNL := hxm _ _ _ _ hNBL
    rw [hae] at hNL
    have hml : (x.es.map (tg fz)).length = x.es.length := List.length_map ..
    have hsL := hM1.size
    refine sq (fun K8 hK8 => ?_)
    refine rg ?_
    refine p (lt rfl rfl) ?_
    refine nl ?_
    refine tn (hK8 _ _ ?_)
    refine sq (fun K9 hK9 => ?_)
    refine cd rfl (fun hc45 => ?_) (fun hc45 => ?_)
    · refine skp ?_
      refine tn (hK9 _ _ ?_)
      refine sq (fun K10 hK10 => ?_)
      refine blk ?_
      refine sq (fun K11 hK11 => ?_)
      have hilt : i < x.es.length := by omega
      obtain ⟨⟨c, n⟩, hxi⟩ : ∃ e, x.es[i]? = some e := ⟨_, List.getElem?_eq_getElem hilt⟩
      have hin1 := hNe _ (List.mem_of_getElem? hxi)
      simp only at hin1
      obtain ⟨y, hyi⟩ : ∃ y, fz[n - 1]? = some y := ⟨_, List.getElem?_eq_getElem (show n - 1 < fz.length by omega)⟩
      have hesi : (x.es.map (tg fz))[i]? = some (c, y.p) := by rw [List.getElem?_map, hxi]; simp [tg, List.getD_eq_getElem?_getD, List.getElem?_map, hyi]
      refine rg ?_
      refine p (ia' es100 rfl rfl (by omega) (Cells.ok ((own_cellsS hNL.row).2) (nflat_ne (by omega)))) ?_
      refine p (lda ag118 rfl rfl (show ∀ j, j < 2 → cel wL.heap (bk ae) (fo ae + i * 2 + j) = [Value.int .u8 c.toNat, .pointer (some ⟨y.p, 0, none⟩)][j]? from nflat_cells (own_cellsS hNL.row).2 hesi)) ?_
      refine e (alT zs118 fun b11 w11 hb11 hN11 hB11 => ?_)
      refine e (staT cz118 rfl rfl rfl rfl hB11 (by simp) fun w12 hM12 hB12 => ?_)
      have hB12x : w12.heap[b11]? = some (.cells [Value.int .u8 c.toNat, .pointer (some ⟨y.p, 0, none⟩)].toArray 118 (0, 0)) := hB12
      have hE12 : Wk wL w12 := Md.trans' hN11.md hM12 (fun k hk h => by omega)
      have hE12d : Wk wL w12.drew := hE12.drew
      have hNB12 := hNBL.wk hE12d
      have hs12 : w12.drew.heap.size = w12.heap.size := rfl
      have hsz12 := hE12.size
      have hszL := hM1.size
      refine nl ?_
      refine tn (hK11 _ _ ?_)
      have hS11 : (fun w' => w'.heap[b11]? = some (.cells [Value.int .u8 c.toNat, .pointer (some ⟨y.p, 0, none⟩)].toArray 118 (0, 0)) ∧ w'.heap[p3]? = some (.cells [(Value.func (.func 57) #[] #[.pointer (some ⟨p1, 0, none⟩), .pointer (some ⟨p2, 0, none⟩), .pointer (some ⟨p3, 0, none⟩)])].toArray 133 (0, 0))) w12.drew := ⟨hB12x, hNB12.c3⟩
      refine hst (fun w' => w'.heap[b11]? = some (.cells [Value.int .u8 c.toNat, .pointer (some ⟨y.p, 0, none⟩)].toArray 118 (0, 0)) ∧ w'.heap[p3]? = some (.cells [(Value.func (.func 57) #[] #[.pointer (some ⟨p1, 0, none⟩), .pointer (some ⟨p2, 0, none⟩), .pointer (some ⟨p3, 0, none⟩)])].toArray 133 (0, 0))) wide hS11 ?_
      refine hp 0 rfl (by kernel_rfl) (fun _ _ => mvt (ve) rfl) hS11 ?_
      refine hp 1 rfl (by kernel_rfl) (fun _ _ => fa fo118_0 rfl) hS11 ?_
      refine hp 2 rfl (by kernel_rfl) (fun w' hS => ld ag5 rfl (Blk.cel ⟨_, hS.1⟩ 0)) hS11 ?_
      refine hp 3 rfl (by kernel_rfl) (fun w' hS => ld ag133 rfl (Blk.cel ⟨_, hS.2⟩ 0)) hS11 ?_
      refine hp 4 rfl (by kernel_rfl) (fun _ _ => fa fo118_1 rfl) hS11 ?_
      refine hp 5 rfl (by kernel_rfl) (fun w' hS => ld ag99 rfl (Blk.cel ⟨_, hS.1⟩ 1)) hS11 ?_
      refine he 6 rfl (by kernel_rfl) (clv c57 rfl (ih n y v1 si ((svs ++ [(x.f, Value.slice none 0 0)]) ++ nsv) _ hNB12 hin1.1 (by omega) hyi (by omega)) rfl fun v54 w54 hR54 => ?_)
      obtain ⟨rfl, v2, nsv2, hV2, hM2, hfv2, hns2⟩ := hR54
      have hsz54 := hM2.size
      have hM2' : Md (NF p2 m vs) w w54 := Md.trans' (Md.trans hM1 (hE12d.mono (fun _ _ h => h.elim))) hM2 (fun k hk h => (hfv1 k h).resolve_right (by omega))
      have hes12 := own_nw hes hE12d
      have hes2 := own_md hes12 hM2 (fun k hk h => hNB12.off hes12 hk h)
      have hve := fun k (h : ve.ownBlock = some k) => own_lt hes h
      have hdj2 : ∀ q ∈ ((svs ++ [(x.f, Value.slice none 0 0)]) ++ nsv) ++ nsv2, ∀ k, q.2.ownBlock = some k → ve.ownBlock ≠ some k := by
        intro q hq k hk h
        have hvk := hve k h
        rcases List.mem_append.1 hq with hq | hq
        · rcases List.mem_append.1 hq with hq | hq
          · rcases List.mem_append.1 hq with hq | hq
            · have := hV.slt hq hk; omega
            · simp only [List.mem_singleton] at hq; subst hq; simp [Value.ownBlock] at hk
          · exact hdj q hq k hk h
        · have := hns2 q hq k hk; omega
      have hS11_6 : (fun w' => w'.heap[b11]? = some (.cells [Value.int .u8 c.toNat, .pointer (some ⟨y.p, 0, none⟩)].toArray 118 (0, 0)) ∧ w'.heap[p3]? = some (.cells [(Value.func (.func 57) #[] #[.pointer (some ⟨p1, 0, none⟩), .pointer (some ⟨p2, 0, none⟩), .pointer (some ⟨p3, 0, none⟩)])].toArray 133 (0, 0))) w54 := ⟨hM2.blk hS11.1 (fun h => by have := (hNBL.lt h).2; omega), hV2.c3⟩
      refine ⟨hS11_6, ?_⟩
      refine hp 7 rfl (by kernel_rfl) (fun _ _ => bld (ps := [(0, .int .u8 c.toNat), (1, .int .i64 (visI (fz.map ent) f n si).1)]) (L := [.int .u8 c.toNat, .int .i64 (visI (fz.map ent) f n si).1]) st81 rfl (rfl)) hS11_6 ?_
      refine he 8 rfl (by kernel_rfl) (bsa so74 rfl rfl rfl fun b56 w56 hb56 hN56 hB56 => ?_)
      have hB56x : Blk w56.heap b56 [.int .u8 c.toNat, .int .i64 (visI (fz.map ent) f n si).1] := hB56
      have hS11_8 : (fun w' => w'.heap[b11]? = some (.cells [Value.int .u8 c.toNat, .pointer (some ⟨y.p, 0, none⟩)].toArray 118 (0, 0)) ∧ w'.heap[p3]? = some (.cells [(Value.func (.func 57) #[] #[.pointer (some ⟨p1, 0, none⟩), .pointer (some ⟨p2, 0, none⟩), .pointer (some ⟨p3, 0, none⟩)])].toArray 133 (0, 0))) w56 := ⟨Wk.blk hN56.md hS11_6.1, Wk.blk hN56.md hS11_6.2⟩
      refine ⟨hS11_8, ?_⟩
      refine he 9 rfl (by kernel_rfl) (ap so74 (own_nw hes2 hN56.md) rfl (by have := hN56.size; omega) rfl (Cells.of_blk hB56x) (rfl) (rfl) (by omega) (by omega) fun v57 w57 ho57 hM57 hz57 hf57 => ?_)
      have hV2n := hV2.wk hN56.md
      have hes2n := own_nw hes2 hN56.md
      have hV3 := hV2n.own hes2n hdj2 hM57
      have hM3 : Md (NF p2 m vs) w w57 := Md.trans' (Md.trans hM2' (hN56.md.mono (fun _ _ h => h.elim))) hM57 (fun k hk h => by have := hve k h; omega)
      have hfv3 : ∀ k, NF p2 m v2 k → (NF p2 m vs) k ∨ w.heap.size ≤ k := fun k hk => by
        rcases hfv2 k hk with h | h
        · exact hfv1 k h
        · exact .inr (by omega)
      have hns3 : ∀ q ∈ nsv ++ nsv2, ∀ k, q.2.ownBlock = some k → w.heap.size ≤ k := fun q hq k hk => by
        rcases List.mem_append.1 hq with hq | hq
        · exact hns q hq k hk
        · have := hns2 q hq k hk; omega
      have hdj3 : ∀ q ∈ nsv ++ nsv2, ∀ k, q.2.ownBlock = some k → v57.ownBlock ≠ some k := fun q hq k hk h => by
        have hq' : q ∈ ((svs ++ [(x.f, Value.slice none 0 0)]) ++ nsv) ++ nsv2 := by rw [List.append_assoc]; exact List.mem_append_right _ hq
        rcases hf57 k h with h | h
        · exact hdj2 q hq' k hk h
        · have := hV2n.slt hq' hk; omega
      have ho57' : World.ownsRow w57 w.heap.size 81 2 v57 (es ++ [(c, (visI (fz.map ent) f n si).1)]).length (eflat (es ++ [(c, (visI (fz.map ent) f n si).1)])) := by
        rw [eflat_app, List.length_append]; exact ho57
      have hfold3 : x.es.foldl (visIG (visI (fz.map ent) f)) ([], (s.1 ++ [id], s.2 ++ [(x.f, [])])) = (x.es.drop (i + 1)).foldl (visIG (visI (fz.map ent) f)) (es ++ [(c, (visI (fz.map ent) f n si).1)], (visI (fz.map ent) f n si).2) := hfold.trans (by
        rw [List.drop_eq_getElem_cons hilt, show x.es[i] = (c, n) from (List.getElem?_eq_some_iff.1 hxi).2]; rfl)
      rw [List.append_assoc] at hV3
      have hS11_9 : (fun w' => w'.heap[b11]? = some (.cells [Value.int .u8 c.toNat, .pointer (some ⟨y.p, 0, none⟩)].toArray 118 (0, 0)) ∧ w'.heap[p3]? = some (.cells [(Value.func (.func 57) #[] #[.pointer (some ⟨p1, 0, none⟩), .pointer (some ⟨p2, 0, none⟩), .pointer (some ⟨p3, 0, none⟩)])].toArray 133 (0, 0))) w57 := ⟨hM57.blk hS11_8.1 (fun h => by have := hve _ h; omega), hV3.c3⟩
      refine ⟨hS11_9, ?_⟩
      refine hp 10 rfl (by kernel_rfl) (fun _ _ => asg) hS11_9 ?_
      refine hn (by kernel_rfl) ?_
      refine bn ?_
      refine tn (hK10 _ _ ?_)
      refine rg ?_
      refine p (ad rfl rfl (wi64 (by omega))) ?_
      refine p mv ?_
      refine nl ?_
      refine tn ?_
      exact ⟨_, by omega, i + 1, es ++ [(c, (visI (fz.map ent) f n si).1)], (visI (fz.map ent) f n si).2, v57, v2, nsv ++ nsv2, (by omega), hfold3, hV3, hM3, hfv3, hns3, ho57', hdj3, (by simp [hesl]), rfl, rfl, rfl, rfl, rfl, rfl, rfl, rfl, rfl⟩
    · refine ext ?_
      refine te _ ?_
      refine te _ ?_
      refine be ?_
      refine tn (hK6 _ _ ?_)
      refine sq (fun K10 hK10 => ?_)
      obtain ⟨sa1, sc1, rfl⟩ := own_slice hNBL.rs
      have hrsL := hNBL.rs
      have hlL : (svs ++ [(x.f, Value.slice none 0 0)] ++ nsv).length = svs.length + 1 + nsv.length := by simp; omega
      refine rg ?_
      refine p (ld ag32 rfl (Blk.cel ⟨_, hNBL.c2⟩ 0)) ?_
      refine p (mvt (.int .i64 svs.length) rfl) ?_
      refine p (mvt (ve) rfl) ?_
      refine p (ia' es32 rfl rfl (by simp only [List.length_append, List.length_singleton]; omega) (Cells.ok ((own_cellsS hrsL).2) (by simp [sflat]))) ?_
      refine p (fa fo76_1 rfl) ?_
      refine e (sto (j := svs.length * 2 + 1) hrsL cz74 rfl rfl (own_one hes) rfl (by simp only [List.length_append, List.length_singleton]; omega) fun w9 hM9 ho9 => ?_)
      refine nl ?_
      refine tn (hK10 _ _ ?_)
      refine sq (fun K11 hK11 => ?_)
      refine rg ?_
      refine p (mvt (.int .i64 svs.length) rfl) ?_
      refine p (ast (.int .i64 svs.length) rfl) ?_
      refine nl ?_
      refine tn (hK11 _ _ ?_)
      refine rt ?_
      refine f1 rfl rfl ?_
      have hvis := visI_new (es := es) (s' := si) hin hentx (hfold.trans (by rw [List.drop_eq_nil_of_le (by omega)]; rfl))
      rw [hvis]
      have hT9 : TF wL [78] (fun k => (Value.slice sa1 ((svs ++ [(x.f, Value.slice none 0 0)]) ++ nsv).length sc1).ownBlock = some k) := TF.own hrsL rfl
      have hs9 : World.ownsRow w9 B 76 2 (.slice sa1 ((svs ++ [(x.f, Value.slice none 0 0)]) ++ nsv).length sc1) (svs ++ (x.f, ve) :: nsv).length (sflat (svs ++ (x.f, ve) :: nsv)) := by
        have e1 : (svs ++ [(x.f, Value.slice none 0 0)]) ++ nsv = svs ++ (x.f, Value.slice none 0 0) :: nsv := by simp
        have e2 := sflat_set (l := svs) (j := svs.length) (f := x.f) (u := Value.slice none 0 0) (r := nsv) rfl (v := ve)
        rw [← e1] at e2
        rw [← e2, show (svs ++ (x.f, ve) :: nsv).length = ((svs ++ [(x.f, Value.slice none 0 0)]) ++ nsv).length from by simp]; exact ho9
      have hes9 := own_mono (own_mdT hes hM9 hT9 rfl) (show B ≤ w.heap.size from hB)
      refine ⟨congrArg (fun n : Nat => Value.int .i64 n) (show svs.length = s.1.length by omega), .slice sa1 ((svs ++ [(x.f, Value.slice none 0 0)]) ++ nsv).length sc1, (x.f, ve) :: nsv, ⟨hM9.blkT hT9 hNBL.c1 rfl, hNBL.mp.mdT hM9 hT9 rfl, hM9.blkT hT9 hNBL.c2 rfl, hM9.blkT hT9 hNBL.c3 rfl, hs9, ?_, ?_, hNBL.hfz.mdT hM9 hT9 rfl rfl, hNBL.nd, hNBL.rg, hV.b2, hV.bm, ?_⟩, Md.trans' hM1 hM9 (fun k hk h => (hfv1 k (.inr (.inr h))).resolve_right (by omega)), hfv1, ?_⟩
      · have h9 := (hNBL.sts.mdT hM9 hT9 rfl).set (n := s.1.length) (f := x.f) hes9
        rw [show s.1.length = svs.length from by omega, set_mid] at h9
        rw [show s.1.length = svs.length from by omega]; exact h9
      · rw [List.length_set]; exact hNBL.len
      · exact sepV_mid hNBL.sep (fun q hq k hk h => by have := hV.slt hq hk; have := (own_lt hes h).1; omega) hdj
      · intro q hq k hk
        rcases List.mem_cons.1 hq with rfl | hq
        · exact (own_lt hes hk).1
        · exact hns q hq k hk
end Go.Hb.Numb
