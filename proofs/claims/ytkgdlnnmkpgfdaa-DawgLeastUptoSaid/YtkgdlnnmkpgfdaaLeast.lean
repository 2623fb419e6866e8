/-
  Walks of hornbooklaw18.DawgLeast: an automaton of few states has none to spare. No conditions but those that each theorem names.
-/
import Derived.Test.YtkgdlnnmkpgfdaaChecked
import Derived.Test.YtkgdlnnmkpgfdaaEff
import Derived.Test.YtkgdlnnmkpgfdaaRef08
import Derived.Test.YtkgdlnnmkpgfdaaVisit
import Derived.Test.YtkgdlnnmkpgfdaaReg
import Derived.Test.YtkgdlnnmkpgfdaaCut
import Derived.Test.YtkgdlnnmkpgfdaaBuild
import Derived.Test.YtkgdlnnmkpgfdaaAdd
import Derived.Test.YtkgdlnnmkpgfdaaAdds
import Derived.Test.YtkgdlnnmkpgfdaaAsked
import Derived.Test.YtkgdlnnmkpgfdaaNumb
import Derived.Test.YtkgdlnnmkpgfdaaFin
import Derived.Test.YtkgdlnnmkpgfdaaRfrz
import Derived.Test.YtkgdlnnmkpgfdaaSame
import Derived.Test.YtkgdlnnmkpgfdaaLawA
import Derived.Test.YtkgdlnnmkpgfdaaLawB
import Derived.Test.YtkgdlnnmkpgfdaaStr
import Derived.Test.YtkgdlnnmkpgfdaaPure
import Derived.Test.YtkgdlnnmkpgfdaaDawg
import Derived.Test.YtkgdlnnmkpgfdaaVis
import Derived.Test.YtkgdlnnmkpgfdaaRow
import Derived.Test.YtkgdlnnmkpgfdaaNode
import Derived.Test.YtkgdlnnmkpgfdaaMap
import Derived.Test.YtkgdlnnmkpgfdaaAuto
import Derived.Test.YtkgdlnnmkpgfdaaLast
import Derived.Test.YtkgdlnnmkpgfdaaTag
import Derived.Test.YtkgdlnnmkpgfdaaFrz
import Derived.Test.YtkgdlnnmkpgfdaaSet
import Derived.Test.YtkgdlnnmkpgfdaaPost
import Derived.Test.YtkgdlnnmkpgfdaaBulk
import Derived.Test.YtkgdlnnmkpgfdaaOpens
import Derived.Test.YtkgdlnnmkpgfdaaMake
set_option maxRecDepth 20000
set_option linter.unusedVariables false
namespace Go.Hb.Least
open Go.Proofs
open Go.Hb.Ref08 Go.Hb.Visit Go.Hb.Reg Go.Hb.Cut Go.Hb.Build Go.Hb.Add Go.Hb.Adds Go.Hb.Asked Go.Hb.Numb Go.Hb.Fin Go.Hb.Rfrz Go.Hb.Same Go.Hb.LawA Go.Hb.LawB
theorem ag3 : aggN Try.prog 3 = some none := by kernel_rfl
theorem ag4 : aggN Try.prog 4 = some none := by kernel_rfl
theorem ag5 : aggN Try.prog 5 = some none := by kernel_rfl
theorem ag38 : aggN Try.prog 38 = some none := by kernel_rfl
theorem ag40 : aggN Try.prog 40 = some (some 2) := by kernel_rfl
theorem ag42 : aggN Try.prog 42 = some (some 2) := by kernel_rfl
theorem c30 : Callable Try.prog 30 := callable Try.func30 (by kernel_rfl) (by kernel_rfl)
theorem cz4 : cellsN Try.prog 4 = some 1 := by kernel_rfl
theorem cz40 : cellsN Try.prog 40 = some 2 := by kernel_rfl
theorem cz42 : cellsN Try.prog 42 = some 2 := by kernel_rfl
theorem es23 : elemSize Try.prog 23 = some 2 := by kernel_rfl
theorem es38 : elemSize Try.prog 38 = some 2 := by kernel_rfl
theorem es74 : elemSize Try.prog 74 = some 1 := by kernel_rfl
theorem fo40_0 : fieldOff Try.prog 40 0 = some 0 := by kernel_rfl
theorem fo40_1 : fieldOff Try.prog 40 1 = some 1 := by kernel_rfl
theorem fo42_0 : fieldOff Try.prog 42 0 = some 0 := by kernel_rfl
theorem fo42_1 : fieldOff Try.prog 42 1 = some 1 := by kernel_rfl
theorem so74 : sliceOk Try.prog 74 4 1 1 = true := by kernel_rfl
theorem u4 : Try.prog.underlying 4 = some (.bool) := by kernel_rfl
theorem u23 : Try.prog.underlying 23 = some (.slice 40) := by kernel_rfl
theorem u38 : Try.prog.underlying 38 = some (.slice 42) := by kernel_rfl
theorem wide : Try.prog.follows .mixedOrders = true := by kernel_rfl
theorem zs40 : zeroOf Try.prog 40 = some (some [.bool false, .slice none 0 0]) := by kernel_rfl
theorem zs42 : zeroOf Try.prog 42 = some (some [.int .u8 0, .int .i64 0]) := by kernel_rfl

theorem sflat_cells {h : Array Obj} {a : Option Addr} {l : List (Bool × Value)} {i : Nat} {f : Bool} {u : Value} (hc : Cells h a (sflat l)) (hl : l[i]? = some (f, u)) : ∀ j, j < 2 → Hb.cel h (bk a) (fo a + i * 2 + j) = [Value.bool f, u][j]? :=
  flat_cells (f := fun q : Bool × Value => [Value.bool q.1, q.2]) (m := 2) (fun _ => rfl) hc hl
theorem any_take_succ {α : Type} {l : List α} {f : α → Bool} {i : Nat} (d : α) (h : i < l.length) (h1 : (l.take i).any f = false) (h2 : f (l.getD i d) = false) : (l.take (i + 1)).any f = false := by
  rw [take_succ_getD l i d h, List.any_append, h1, List.any_cons, h2]; rfl
/-- does an edge lead to q -/
def eTo (q : Int) (e : UInt8 × Nat) : Bool := decide ((e.2 : Int) = q)
def entB (sts : List Ent) (q : Int) : Bool := sts.any fun p => p.2.any (eTo q)
theorem ne_mk {mk : List Bool} (h : 0 < mk.length) : mk.map Value.bool ≠ [] := by
  intro h0; have := congrArg List.length h0; simp only [List.length_map, List.length_nil] at this; omega
theorem mk_cel {h : Array Obj} {am : Option Addr} {mk : List Bool} {n : Nat} (hc : Cells h am (mk.map Value.bool)) (hn : n < mk.length) : cel h (bk am) (fo am + n) = some (.bool (mk.getD n false)) :=
  hc.cel _ _ (by rw [List.getElem?_map, List.getD_eq_getElem?_getD, List.getElem?_eq_getElem hn]; rfl)
theorem mk_celi {h : Array Obj} {am : Option Addr} {mk : List Bool} {n : Nat} (hc : Cells h am (mk.map Value.bool)) (hn : n < mk.length) : cel h (bk am) (fo am + (n : Int).toNat * 1) = some (.bool (mk.getD n false)) := by
  rw [Int.toNat_natCast, Nat.mul_one]; exact mk_cel hc hn
def dG : UInt8 × Nat := (0, 0)

set_option maxHeartbeats 1000000 in
theorem entered_w (sts : List Ent) (q : Int) (aa : Option Addr) (cc : Nat) (svs : List (Bool × Value)) (w : World) (hA : SR w aa svs sts) (hl : svs.length ≤ 1073741824) (hE : ∀ p ∈ sts, p.2.length ≤ 1073741824) :
    Ret Try.prog 19 (List.toArray [.slice aa svs.length cc, .int .i64 q]) w (fun v w' => v = .bool (entB sts q) ∧ Wk w w') := by
  have hlA := hA.len
  refine enter Try.func19 rfl Try.ntmps19 rfl ?_
  refine sq (fun K1 hK1 => ?_)
  refine rg ?_
  refine p asg ?_
  refine nl ?_
  refine tn (hK1 _ _ ?_)
  refine sq (fun K2 hK2 => ?_)
  refine sq (fun K3 hK3 => ?_)
  refine rg ?_
  refine p (mvt (.slice aa svs.length cc) rfl) ?_
  refine p (lnl u23 rfl rfl) ?_
  refine p mv ?_
  refine nl ?_
  refine tn (hK3 _ _ ?_)
  refine blk ?_
  refine lp (fun gm σ1 wL => ∃ (i : Nat), (i ≤ svs.length) ∧ (Wk w wL) ∧ ((sts.take i).any (fun p => p.2.any (eTo q)) = false) ∧ (σ1 1 = .int .i64 q) ∧ (σ1 9 = .slice aa svs.length cc) ∧ (σ1 10 = .int .i64 svs.length) ∧ (σ1 11 = .int .i64 i) ∧ (svs.length - i = gm)) _ ⟨0, (by omega), (Md.refl _ _), rfl, rfl, rfl, rfl, rfl, rfl⟩ ?_
  rintro gm σ1 wL ⟨i, hi, hEi, hno, hs1_1, hs1_9, hs1_10, hs1_11, rfl⟩
  refine fx 1 hs1_1 (fx 9 hs1_9 (fx 10 hs1_10 (fx 11 hs1_11 ?_)))
  refine sq (fun K4 hK4 => ?_)
  refine rg ?_
  refine p (lt rfl rfl) ?_
  refine nl ?_
  refine tn (hK4 _ _ ?_)
  refine sq (fun K5 hK5 => ?_)
  refine cd rfl (fun hc12 => ?_) (fun hc12 => ?_)
  · refine skp ?_
    refine tn (hK5 _ _ ?_)
    refine sq (fun K6 hK6 => ?_)
    refine blk ?_
    refine sq (fun K7 hK7 => ?_)
    have hA1 := hA.wk hEi
    obtain ⟨fi, ei, xi, hqi, _, hci⟩ := hA1.get (i := i) (by omega)
    have hme := hE _ (getD_mem (d := dE) (show i < sts.length by omega))
    refine rg ?_
    refine p (ia' es23 rfl rfl (by omega) (Cells.ok (hA1.cells) (sflat_ne (by omega)))) ?_
    refine p (lda ag40 rfl rfl (show ∀ j, j < 2 → cel wL.heap (bk aa) (fo aa + i * 2 + j) = [Value.bool fi, .slice ei (sts.getD i dE).2.length xi][j]? from sflat_cells hA1.cells hqi)) ?_
    refine e (alT zs40 fun b6 w6 hb6 hN6 hB6 => ?_)
    refine e (staT cz40 rfl rfl rfl rfl hB6 (by simp) fun w3 hM3 hB3 => ?_)
    have hB3x : Blk w3.heap b6 [Value.bool fi, .slice ei (sts.getD i dE).2.length xi] := ⟨_, hB3⟩
    have hE3 : Wk wL w3 := Md.trans' hN6.md hM3 (fun k hk h => by omega)
    refine nl ?_
    refine tn (hK7 _ _ ?_)
    refine sq (fun K8 hK8 => ?_)
    refine rg ?_
    refine p (fa fo40_1 rfl) ?_
    refine p (ld ag38 rfl (hB3x.cel 1)) ?_
    refine p (lnl u38 rfl rfl) ?_
    refine p mv ?_
    refine nl ?_
    refine tn (hK8 _ _ ?_)
    refine blk ?_
    refine lp (fun gm σ2 wM => ∃ (k : Nat), (k ≤ (sts.getD i dE).2.length) ∧ (Wk wL wM) ∧ (((sts.getD i dE).2.take k).any (eTo q) = false) ∧ (σ2 1 = .int .i64 q) ∧ (σ2 9 = .slice aa svs.length cc) ∧ (σ2 10 = .int .i64 svs.length) ∧ (σ2 11 = .int .i64 i) ∧ (σ2 16 = .slice ei (sts.getD i dE).2.length xi) ∧ (σ2 17 = .int .i64 (sts.getD i dE).2.length) ∧ (σ2 18 = .int .i64 k) ∧ ((sts.getD i dE).2.length - k = gm)) _ ⟨0, (by omega), hE3, rfl, rfl, rfl, rfl, rfl, rfl, rfl, rfl, rfl⟩ ?_
    rintro gm σ2 wM ⟨k, hk, hEm, hnk, hs2_1, hs2_9, hs2_10, hs2_11, hs2_16, hs2_17, hs2_18, rfl⟩
    refine fx 1 hs2_1 (fx 9 hs2_9 (fx 10 hs2_10 (fx 11 hs2_11 (fx 16 hs2_16 (fx 17 hs2_17 (fx 18 hs2_18 ?_))))))
    refine sq (fun K9 hK9 => ?_)
    refine rg ?_
    refine p (lt rfl rfl) ?_
    refine nl ?_
    refine tn (hK9 _ _ ?_)
    refine sq (fun K10 hK10 => ?_)
    refine cd rfl (fun hc19 => ?_) (fun hc19 => ?_)
    · refine skp ?_
      refine tn (hK10 _ _ ?_)
      refine sq (fun K11 hK11 => ?_)
      refine blk ?_
      refine sq (fun K12 hK12 => ?_)
      have hck := hci.wk hEm
      obtain ⟨⟨c, z⟩, hek⟩ : ∃ e, (sts.getD i dE).2[k]? = some e := ⟨_, List.getElem?_eq_getElem (by omega)⟩
      have hgk : (sts.getD i dE).2.getD k dG = (c, z) := by rw [List.getD_eq_getElem?_getD, hek]; rfl
      refine rg ?_
      refine p (ia' es38 rfl rfl (by omega) (Cells.ok (hck) (eflat_ne (by omega)))) ?_
      refine p (lda ag42 rfl rfl (show ∀ j, j < 2 → cel wM.heap (bk ei) (fo ei + k * 2 + j) = [Value.int .u8 c.toNat, .int .i64 z][j]? from eflat_cells hck hek)) ?_
      refine e (alT zs42 fun b8 w8 hb8 hN8 hB8 => ?_)
      refine e (staT cz42 rfl rfl rfl rfl hB8 (by simp) fun w9 hM9 hB9 => ?_)
      have hB9x : Blk w9.heap b8 [Value.int .u8 c.toNat, .int .i64 z] := ⟨_, hB9⟩
      have hE9 : Wk wM w9 := Md.trans' hN8.md hM9 (fun k hk h => by omega)
      refine nl ?_
      refine tn (hK12 _ _ ?_)
      refine sq (fun K13 hK13 => ?_)
      refine rg ?_
      refine p (fa fo42_1 rfl) ?_
      refine p (ld ag3 rfl (hB9x.cel 1)) ?_
      refine p (mvt (.int .i64 q) rfl) ?_
      refine p (eqi rfl rfl) ?_
      refine nl ?_
      refine tn (hK13 _ _ ?_)
      refine cd rfl (fun hc25 => ?_) (fun hc25 => ?_)
      · refine sq (fun K14 hK14 => ?_)
        refine rg ?_
        refine p asg ?_
        refine nl ?_
        refine tn (hK14 _ _ ?_)
        refine rt ?_
        refine br ?_
        refine tr ?_
        refine tr ?_
        refine br ?_
        refine br ?_
        refine tr ?_
        refine tr ?_
        refine br ?_
        refine tr ?_
        refine f1 rfl rfl ?_
        refine ⟨congrArg Value.bool (Eq.symm ?_), Md.trans hEi (Md.trans hEm hE9)⟩
        exact List.any_eq_true.2 ⟨_, getD_mem (d := dE) (show i < sts.length by omega), List.any_eq_true.2 ⟨(c, z), List.mem_of_getElem? hek, decide_eq_true hc25⟩⟩
      · refine skp ?_
        refine bn ?_
        refine tn (hK11 _ _ ?_)
        refine rg ?_
        refine p (ad rfl rfl (wi64 (by omega))) ?_
        refine p mv ?_
        refine nl ?_
        refine tn ?_
        exact ⟨_, by omega, k + 1, (by omega), (Md.trans hEm hE9), (any_take_succ dG (by omega) hnk (by rw [hgk]; exact decide_eq_false hc25)), rfl, rfl, rfl, rfl, rfl, rfl, rfl, rfl⟩
    · refine ext ?_
      refine te _ ?_
      refine te _ ?_
      refine be ?_
      refine bn ?_
      refine tn (hK6 _ _ ?_)
      refine rg ?_
      refine p (ad rfl rfl (wi64 (by omega))) ?_
      refine p mv ?_
      refine nl ?_
      refine tn ?_
      exact ⟨_, by omega, i + 1, (by omega), (Md.trans hEi hEm), (any_take_succ dE (by omega) hno (by rw [show k = (sts.getD i dE).2.length by omega, List.take_length] at hnk; exact hnk)), rfl, rfl, rfl, rfl, rfl⟩
  · refine ext ?_
    refine te _ ?_
    refine te _ ?_
    refine be ?_
    refine tn (hK2 _ _ ?_)
    refine sq (fun K6 hK6 => ?_)
    refine rg ?_
    refine p asg ?_
    refine nl ?_
    refine tn (hK6 _ _ ?_)
    refine rt ?_
    refine f1 rfl rfl ?_
    refine ⟨congrArg Value.bool (Eq.symm ?_), hEi⟩
    rw [show i = sts.length by omega, List.take_length] at hno
    exact hno

/-- do two edges tell states apart -/
def difE (mk : List Bool) (n : Nat) (e e' : UInt8 × Nat) : Bool := decide (e.1 ≠ e'.1) || mk.getD (e.2 * n + e'.2) false
def difP (mk : List Bool) (n : Nat) (p q : Ent) : Bool := (List.range p.2.length).any fun k => difE mk n (p.2.getD k dG) (q.2.getD k dG)
def difB (sts : List Ent) (mk : List Bool) (i j : Nat) : Bool := decide ((sts.getD i dE).1 ≠ (sts.getD j dE).1) || decide ((sts.getD i dE).2.length ≠ (sts.getD j dE).2.length) || difP mk sts.length (sts.getD i dE) (sts.getD j dE)

section
variable {sts : List Ent} {mk : List Bool} {i j n k : Nat} {c c2 : UInt8} {z z2 : Nat}
theorem difB_f (h : (sts.getD i dE).1 ≠ (sts.getD j dE).1) : difB sts mk i j = true := by
  unfold difB; rw [decide_eq_true h]; rfl
theorem difB_l (h : (sts.getD i dE).2.length ≠ (sts.getD j dE).2.length) : difB sts mk i j = true := by
  unfold difB; rw [decide_eq_true h, Bool.or_true]; rfl
theorem difB_e (hk : k < (sts.getD i dE).2.length) (h : difE mk sts.length ((sts.getD i dE).2.getD k dG) ((sts.getD j dE).2.getD k dG) = true) : difB sts mk i j = true := by
  unfold difB difP
  rw [List.any_eq_true.2 ⟨k, List.mem_range.2 hk, h⟩, Bool.or_true]
theorem difB_no (h1 : (sts.getD i dE).1 = (sts.getD j dE).1) (h2 : (sts.getD i dE).2.length = (sts.getD j dE).2.length) (h3 : difP mk sts.length (sts.getD i dE) (sts.getD j dE) = false) : difB sts mk i j = false := by
  unfold difB; rw [h3, decide_eq_false (fun h => h h1), decide_eq_false (fun h => h h2)]; rfl
theorem difE_no (h1 : c = c2) (h2 : mk.getD (z * n + z2) false = false) : difE mk n (c, z) (c2, z2) = false := by
  unfold difE; simp only; rw [h2, decide_eq_false (fun h => h h1)]; rfl
theorem difE_c (h : c ≠ c2) : difE mk n (c, z) (c2, z2) = true := by
  unfold difE; simp only; rw [decide_eq_true h]; rfl
theorem difE_m (h : mk.getD (z * n + z2) false = true) : difE mk n (c, z) (c2, z2) = true := by
  unfold difE; simp only; rw [h, Bool.or_true]
theorem range_any {f : Nat → Bool} (h : (List.range k).any f = false) (h2 : f k = false) : (List.range (k + 1)).any f = false := by
  rw [List.range_succ, List.any_append, h, List.any_cons, h2]; rfl
end

set_option maxHeartbeats 1000000 in
theorem differ_w (sts : List Ent) (mk : List Bool) (i j : Nat) (aa am : Option Addr) (cc nm cm : Nat) (svs : List (Bool × Value)) (w : World) (hA : SR w aa svs sts) (hM : Cells w.heap am (mk.map Value.bool)) (hnm : mk.length = nm) (hn2 : nm = svs.length * svs.length) (hi : i < svs.length) (hj : j < svs.length) (hl : svs.length ≤ 1048576) (hE : ∀ p ∈ sts, p.2.length ≤ 256 ∧ ∀ e ∈ p.2, e.2 < svs.length) :
    Ret Try.prog 30 (List.toArray [.slice aa svs.length cc, .slice am nm cm, .int .i64 i, .int .i64 j]) w (fun v w' => v = .bool (difB sts mk i j) ∧ Wk w w') := by
  have hlA := hA.len
  obtain ⟨fi, ei, xi, hqi, hfi, hci⟩ := hA.get hi
  obtain ⟨fj, ej, xj, hqj, hfj, hcj⟩ := hA.get hj
  have hdr : w.drew.heap.size = w.heap.size := rfl
  have hmi := hE _ (getD_mem (d := dE) (show i < sts.length by omega))
  have hmj := hE _ (getD_mem (d := dE) (show j < sts.length by omega))
  refine enter Try.func30 rfl Try.ntmps30 rfl ?_
  refine sq (fun K1 hK1 => ?_)
  refine rg ?_
  refine p asg ?_
  refine nl ?_
  refine tn (hK1 _ _ ?_)
  refine sqc (fun σ1 wC => ∃ (b9 b10 : Nat), (Wk w wC) ∧ (Blk (wC).heap b9 [Value.bool fi, .slice ei (sts.getD i dE).2.length xi]) ∧ (Blk (wC).heap b10 [Value.bool fj, .slice ej (sts.getD j dE).2.length xj]) ∧ (σ1 9 = .pointer (some ⟨b9, 0, none⟩)) ∧ (σ1 10 = .pointer (some ⟨b10, 0, none⟩)) ∧ (σ1 0 = .slice aa svs.length cc) ∧ (σ1 1 = .slice am nm cm) ∧ (σ1 2 = .int .i64 i) ∧ (σ1 3 = .int .i64 j)) ?_ ?_
  · have hS1 : (fun w' => Wk w w') w.drew := (Md.refl _ _).drew
    refine hst (fun w' => Wk w w') wide hS1 ?_
    refine hp 0 rfl (by kernel_rfl) (fun _ _ => mvt (.slice aa svs.length cc) rfl) hS1 ?_
    refine hp 1 rfl (by kernel_rfl) (fun _ _ => mvt (.int .i64 i) rfl) hS1 ?_
    refine hp 2 rfl (by kernel_rfl) (fun _ _ => ia' es23 rfl rfl (by omega) (Cells.ok (hA.cells) (sflat_ne (by omega)))) hS1 ?_
    refine hp 3 rfl (by kernel_rfl) (fun w' hS => lda ag40 rfl rfl (fun c hc => show cel w'.heap (bk aa) (fo aa + i * 2 + c) = [Value.bool fi, .slice ei (sts.getD i dE).2.length xi][c]? from sflat_cells (hA.cells.wk hS) hqi c hc)) hS1 ?_
    refine hp 4 rfl (by kernel_rfl) (fun _ _ => mvt (.slice aa svs.length cc) rfl) hS1 ?_
    refine hp 5 rfl (by kernel_rfl) (fun _ _ => mvt (.int .i64 j) rfl) hS1 ?_
    refine hp 6 rfl (by kernel_rfl) (fun _ _ => ia' es23 rfl rfl (by omega) (Cells.ok (hA.cells) (sflat_ne (by omega)))) hS1 ?_
    refine hp 7 rfl (by kernel_rfl) (fun w' hS => lda ag40 rfl rfl (fun c hc => show cel w'.heap (bk aa) (fo aa + j * 2 + c) = [Value.bool fj, .slice ej (sts.getD j dE).2.length xj][c]? from sflat_cells (hA.cells.wk hS) hqj c hc)) hS1 ?_
    refine he2 8 9 rfl rfl (by kernel_rfl) ?_ ?_
    · refine (alT zs40 fun b9 w9 hb9 hN9 hB9 => ?_)
      have hs9 := hN9.size
      have hS1_8 : (fun w' => Wk w w') w9 := Md.trans hS1 hN9.md
      refine ⟨hS1_8, ?_⟩
      refine he 9 rfl (by kernel_rfl) (alT zs40 fun b10 w10 hb10 hN10 hB10 => ?_)
      have hs10 := hN10.size
      have hB10y := hB10
      have hB9y := Wk.blk hN10.md hB9
      have hS1_9 : (fun w' => Wk w w') w10 := Md.trans hS1_8 hN10.md
      refine ⟨hS1_9, ?_⟩
      refine he 10 rfl (by kernel_rfl) (staT cz40 rfl rfl rfl rfl hB9y (by simp) fun w14 hM14 hB14 => ?_)
      have hB9z : Blk w14.heap b9 [Value.bool fi, .slice ei (sts.getD i dE).2.length xi] := ⟨_, hB14⟩
      have hB10z := hM14.blk hB10y (fun h => by have := (Array.getElem?_eq_some_iff.1 hB9).1; have := (Array.getElem?_eq_some_iff.1 hB10).1; omega)
      have hS1_10 : (fun w' => Wk w w') w14 := Md.trans' hS1_9 hM14 (fun k hk h => by omega)
      refine ⟨hS1_10, ?_⟩
      refine he 11 rfl (by kernel_rfl) (staT cz40 rfl rfl rfl rfl hB10z (by simp) fun w15 hM15 hB15 => ?_)
      have hB10f : Blk w15.heap b10 [Value.bool fj, .slice ej (sts.getD j dE).2.length xj] := ⟨_, hB15⟩
      have hB9f := hM15.B hB9z (fun h => by have := (Array.getElem?_eq_some_iff.1 hB9).1; have := (Array.getElem?_eq_some_iff.1 hB10).1; omega)
      have hS1_11 : (fun w' => Wk w w') w15 := Md.trans' hS1_10 hM15 (fun k hk h => by omega)
      refine ⟨hS1_11, ?_⟩
      refine hn (by kernel_rfl) ?_
      refine tn ?_
      exact ⟨b9, b10, hS1_11, hB9f, hB10f, rfl, rfl, rfl, rfl, rfl, rfl⟩
    · refine (alT zs40 fun b10 w10 hb10 hN10 hB10 => ?_)
      have hs10 := hN10.size
      have hS1_9 : (fun w' => Wk w w') w10 := Md.trans hS1 hN10.md
      refine ⟨hS1_9, ?_⟩
      refine he 8 rfl (by kernel_rfl) (alT zs40 fun b9 w9 hb9 hN9 hB9 => ?_)
      have hs9 := hN9.size
      have hB9y := hB9
      have hB10y := Wk.blk hN9.md hB10
      have hS1_8 : (fun w' => Wk w w') w9 := Md.trans hS1_9 hN9.md
      refine ⟨hS1_8, ?_⟩
      refine he 10 rfl (by kernel_rfl) (staT cz40 rfl rfl rfl rfl hB9y (by simp) fun w14 hM14 hB14 => ?_)
      have hB9z : Blk w14.heap b9 [Value.bool fi, .slice ei (sts.getD i dE).2.length xi] := ⟨_, hB14⟩
      have hB10z := hM14.blk hB10y (fun h => by have := (Array.getElem?_eq_some_iff.1 hB9).1; have := (Array.getElem?_eq_some_iff.1 hB10).1; omega)
      have hS1_10 : (fun w' => Wk w w') w14 := Md.trans' hS1_8 hM14 (fun k hk h => by omega)
      refine ⟨hS1_10, ?_⟩
      refine he 11 rfl (by kernel_rfl) (staT cz40 rfl rfl rfl rfl hB10z (by simp) fun w15 hM15 hB15 => ?_)
      have hB10f : Blk w15.heap b10 [Value.bool fj, .slice ej (sts.getD j dE).2.length xj] := ⟨_, hB15⟩
      have hB9f := hM15.B hB9z (fun h => by have := (Array.getElem?_eq_some_iff.1 hB9).1; have := (Array.getElem?_eq_some_iff.1 hB10).1; omega)
      have hS1_11 : (fun w' => Wk w w') w15 := Md.trans' hS1_10 hM15 (fun k hk h => by omega)
      refine ⟨hS1_11, ?_⟩
      refine hn (by kernel_rfl) ?_
      refine tn ?_
      exact ⟨b9, b10, hS1_11, hB9f, hB10f, rfl, rfl, rfl, rfl, rfl, rfl⟩
  rintro σ1 wC ⟨b9, b10, hEC, hB9c, hB10c, hs1_9, hs1_10, hs1_0, hs1_1, hs1_2, hs1_3⟩
  refine fx 9 hs1_9 (fx 10 hs1_10 (fx 0 hs1_0 (fx 1 hs1_1 (fx 2 hs1_2 (fx 3 hs1_3 ?_)))))
  refine sq (fun K2 hK2 => ?_)
  refine sq (fun K3 hK3 => ?_)
  refine rg ?_
  refine p (fa fo40_0 rfl) ?_
  refine p (ld ag4 rfl (hB9c.cel 0)) ?_
  refine p (fa fo40_0 rfl) ?_
  refine p (ld ag4 rfl (hB10c.cel 0)) ?_
  refine p (nebb u4 rfl rfl) ?_
  refine p mv ?_
  refine gs (t := 25) rfl (fun hg25 => ?_) (fun hg25 => ?_)
  · refine sk rfl rfl rfl rfl ?_
    refine sk rfl rfl rfl rfl ?_
    refine sk rfl rfl rfl rfl ?_
    refine sk rfl rfl rfl rfl ?_
    refine sk rfl rfl rfl rfl ?_
    refine sk rfl rfl rfl rfl ?_
    refine sk rfl rfl rfl rfl ?_
    refine p (pkt rfl) ?_
    refine nl ?_
    refine tn (hK3 _ _ ?_)
    refine ct rfl ?_
    refine sq (fun K4 hK4 => ?_)
    refine rg ?_
    refine p asg ?_
    refine nl ?_
    refine tn (hK4 _ _ ?_)
    refine rt ?_
    refine tr ?_
    refine f1 rfl rfl ?_
    exact ⟨congrArg Value.bool (difB_f (by rw [hfi, hfj]; exact hg25)).symm, hEC⟩
  · refine pg rfl rfl rfl (fa fo40_1 rfl) ?_
    refine pg rfl rfl rfl (ld ag38 rfl (hB9c.cel 1)) ?_
    refine pg rfl rfl rfl (lnl u38 rfl rfl) ?_
    refine pg rfl rfl rfl (fa fo40_1 rfl) ?_
    refine pg rfl rfl rfl (ld ag38 rfl (hB10c.cel 1)) ?_
    refine pg rfl rfl rfl (lnl u38 rfl rfl) ?_
    refine pg rfl rfl rfl (nei rfl rfl) ?_
    refine p (pkf rfl) ?_
    refine nl ?_
    refine tn (hK3 _ _ ?_)
    refine cd rfl (fun hc33 => ?_) (fun hc33 => ?_)
    · refine sq (fun K4 hK4 => ?_)
      refine rg ?_
      refine p asg ?_
      refine nl ?_
      refine tn (hK4 _ _ ?_)
      refine rt ?_
      refine tr ?_
      refine f1 rfl rfl ?_
      exact ⟨congrArg Value.bool (difB_l (by omega)).symm, hEC⟩
    · refine skp ?_
      refine tn (hK2 _ _ ?_)
      refine sq (fun K4 hK4 => ?_)
      refine sq (fun K5 hK5 => ?_)
      refine rg ?_
      refine p (fa fo40_1 rfl) ?_
      refine p (ld ag38 rfl (hB9c.cel 1)) ?_
      refine p (lnl u38 rfl rfl) ?_
      refine p mv ?_
      refine nl ?_
      refine tn (hK5 _ _ ?_)
      refine blk ?_
      refine lp (fun gm σ2 wL => ∃ (k : Nat), (k ≤ (sts.getD i dE).2.length) ∧ (Wk w wL) ∧ (Blk (wL).heap b9 [Value.bool fi, .slice ei (sts.getD i dE).2.length xi]) ∧ (Blk (wL).heap b10 [Value.bool fj, .slice ej (sts.getD j dE).2.length xj]) ∧ (fi = fj) ∧ ((sts.getD i dE).2.length = (sts.getD j dE).2.length) ∧ ((List.range k).any (fun k => difE mk sts.length ((sts.getD i dE).2.getD k dG) ((sts.getD j dE).2.getD k dG)) = false) ∧ (σ2 9 = .pointer (some ⟨b9, 0, none⟩)) ∧ (σ2 10 = .pointer (some ⟨b10, 0, none⟩)) ∧ (σ2 0 = .slice aa svs.length cc) ∧ (σ2 1 = .slice am nm cm) ∧ (σ2 2 = .int .i64 i) ∧ (σ2 3 = .int .i64 j) ∧ (σ2 36 = .int .i64 (sts.getD i dE).2.length) ∧ (σ2 37 = .int .i64 k) ∧ ((sts.getD i dE).2.length - k = gm)) _ ⟨0, (by omega), hEC, hB9c, hB10c, (Classical.not_not.1 hg25), (by omega), rfl, rfl, rfl, rfl, rfl, rfl, rfl, rfl, rfl, rfl⟩ ?_
      rintro gm σ2 wL ⟨k, hk, hEL, hB9L, hB10L, hff, hll, hdf, hs2_9, hs2_10, hs2_0, hs2_1, hs2_2, hs2_3, hs2_36, hs2_37, rfl⟩
      refine fx 9 hs2_9 (fx 10 hs2_10 (fx 0 hs2_0 (fx 1 hs2_1 (fx 2 hs2_2 (fx 3 hs2_3 (fx 36 hs2_36 (fx 37 hs2_37 ?_)))))))
      refine sq (fun K6 hK6 => ?_)
      refine rg ?_
      refine p (lt rfl rfl) ?_
      refine nl ?_
      refine tn (hK6 _ _ ?_)
      refine sq (fun K7 hK7 => ?_)
      refine cd rfl (fun hc38 => ?_) (fun hc38 => ?_)
      · refine skp ?_
        refine tn (hK7 _ _ ?_)
        refine sq (fun K8 hK8 => ?_)
        refine blk ?_
        refine sq (fun K9 hK9 => ?_)
        refine rg ?_
        refine p (mvt (.int .i64 k) rfl) ?_
        refine p (ast (.int .i64 k) rfl) ?_
        refine nl ?_
        refine tn (hK9 _ _ ?_)
        refine sq (fun K10 hK10 => ?_)
        have hciL := hci.wk hEL
        have hcjL := hcj.wk hEL
        have hML := hM.wk hEL
        obtain ⟨⟨c, z⟩, hek⟩ : ∃ e, (sts.getD i dE).2[k]? = some e := ⟨_, List.getElem?_eq_getElem (by omega)⟩
        obtain ⟨⟨c2, z2⟩, hek2⟩ : ∃ e, (sts.getD j dE).2[k]? = some e := ⟨_, List.getElem?_eq_getElem (by omega)⟩
        have hgk : (sts.getD i dE).2.getD k dG = (c, z) := by rw [List.getD_eq_getElem?_getD, hek]; rfl
        have hgk2 : (sts.getD j dE).2.getD k dG = (c2, z2) := by rw [List.getD_eq_getElem?_getD, hek2]; rfl
        have hz : z < svs.length := hmi.2 _ (List.mem_of_getElem? hek)
        have hz2 : z2 < svs.length := hmj.2 _ (List.mem_of_getElem? hek2)
        have hzz : z * svs.length + svs.length ≤ svs.length * svs.length := by rw [← Nat.succ_mul]; exact Nat.mul_le_mul_right _ hz
        have hzb : svs.length * svs.length ≤ 1048576 * 1048576 := Nat.mul_le_mul hl hl
        have hS7 : (fun w' => Wk wL w') wL.drew := (Md.refl _ _).drew
        refine hst (fun w' => Wk wL w') wide hS7 ?_
        refine hp 0 rfl (by kernel_rfl) (fun _ _ => fa fo40_1 rfl) hS7 ?_
        refine hp 1 rfl (by kernel_rfl) (fun w' hS => ld ag38 rfl (Wk.cel hS (hB9L.cel 1))) hS7 ?_
        refine hp 2 rfl (by kernel_rfl) (fun _ _ => mvt (.int .i64 k) rfl) hS7 ?_
        refine hp 3 rfl (by kernel_rfl) (fun _ _ => ia' es38 rfl rfl (by omega) (Cells.ok (hciL) (eflat_ne (by omega)))) hS7 ?_
        refine hp 4 rfl (by kernel_rfl) (fun _ _ => fa fo42_0 rfl) hS7 ?_
        refine hp 5 rfl (by kernel_rfl) (fun w' hS => ld ag5 rfl (Wk.cel hS (show _ = some (Value.int .u8 c.toNat) from cel2 hciL (i := k) (c := 0) ((eflat_get hek (by decide)).trans rfl)))) hS7 ?_
        refine hp 6 rfl (by kernel_rfl) (fun _ _ => fa fo40_1 rfl) hS7 ?_
        refine hp 7 rfl (by kernel_rfl) (fun w' hS => ld ag38 rfl (Wk.cel hS (hB10L.cel 1))) hS7 ?_
        refine hp 8 rfl (by kernel_rfl) (fun _ _ => mvt (.int .i64 k) rfl) hS7 ?_
        refine hp 9 rfl (by kernel_rfl) (fun _ _ => ia' es38 rfl rfl (by omega) (Cells.ok (hcjL) (eflat_ne (by omega)))) hS7 ?_
        refine hp 10 rfl (by kernel_rfl) (fun _ _ => fa fo42_0 rfl) hS7 ?_
        refine hp 11 rfl (by kernel_rfl) (fun w' hS => ld ag5 rfl (Wk.cel hS (show _ = some (Value.int .u8 c2.toNat) from cel2 hcjL (i := k) (c := 0) ((eflat_get hek2 (by decide)).trans rfl)))) hS7 ?_
        refine hp 12 rfl (by kernel_rfl) (fun _ _ => nei rfl rfl) hS7 ?_
        refine hp 13 rfl (by kernel_rfl) (fun _ _ => mv) hS7 ?_
        refine hgs (t := 53) rfl (fun hg53 => ?_) (fun hg53 => ?_)
        · refine hsk 14 rfl (by kernel_rfl) rfl rfl rfl rfl hS7 ?_
          refine hsk 15 rfl (by kernel_rfl) rfl rfl rfl rfl hS7 ?_
          refine hsk 16 rfl (by kernel_rfl) rfl rfl rfl rfl hS7 ?_
          refine hsk 17 rfl (by kernel_rfl) rfl rfl rfl rfl hS7 ?_
          refine hsk 18 rfl (by kernel_rfl) rfl rfl rfl rfl hS7 ?_
          refine hsk 19 rfl (by kernel_rfl) rfl rfl rfl rfl hS7 ?_
          refine hsk 20 rfl (by kernel_rfl) rfl rfl rfl rfl hS7 ?_
          refine hsk 21 rfl (by kernel_rfl) rfl rfl rfl rfl hS7 ?_
          refine hsk 22 rfl (by kernel_rfl) rfl rfl rfl rfl hS7 ?_
          refine hsk 23 rfl (by kernel_rfl) rfl rfl rfl rfl hS7 ?_
          refine hsk 24 rfl (by kernel_rfl) rfl rfl rfl rfl hS7 ?_
          refine hsk 25 rfl (by kernel_rfl) rfl rfl rfl rfl hS7 ?_
          refine hsk 26 rfl (by kernel_rfl) rfl rfl rfl rfl hS7 ?_
          refine hsk 27 rfl (by kernel_rfl) rfl rfl rfl rfl hS7 ?_
          refine hsk 28 rfl (by kernel_rfl) rfl rfl rfl rfl hS7 ?_
          refine hsk 29 rfl (by kernel_rfl) rfl rfl rfl rfl hS7 ?_
          refine hsk 30 rfl (by kernel_rfl) rfl rfl rfl rfl hS7 ?_
          refine hsk 31 rfl (by kernel_rfl) rfl rfl rfl rfl hS7 ?_
          refine hsk 32 rfl (by kernel_rfl) rfl rfl rfl rfl hS7 ?_
          refine hp 33 rfl (by kernel_rfl) (fun _ _ => pkt rfl) hS7 ?_
          refine hn (by kernel_rfl) ?_
          refine tn (hK10 _ _ ?_)
          refine ct rfl ?_
          refine sq (fun K11 hK11 => ?_)
          refine rg ?_
          refine p asg ?_
          refine nl ?_
          refine tn (hK11 _ _ ?_)
          refine rt ?_
          refine br ?_
          refine tr ?_
          refine tr ?_
          refine br ?_
          refine tr ?_
          refine f1 rfl rfl ?_
          exact ⟨congrArg Value.bool (difB_e (k := k) (by omega) (by rw [hgk, hgk2]; exact difE_c (fun h => hg53 (by rw [h])))).symm, hEL.drew⟩
        · refine hpg 14 rfl (by kernel_rfl) rfl rfl rfl (fun _ _ => mvt (.slice am nm cm) rfl) hS7 ?_
          refine hpg 15 rfl (by kernel_rfl) rfl rfl rfl (fun _ _ => fa fo40_1 rfl) hS7 ?_
          refine hpg 16 rfl (by kernel_rfl) rfl rfl rfl (fun w' hS => ld ag38 rfl (Wk.cel hS (hB9L.cel 1))) hS7 ?_
          refine hpg 17 rfl (by kernel_rfl) rfl rfl rfl (fun _ _ => mvt (.int .i64 k) rfl) hS7 ?_
          refine hpg 18 rfl (by kernel_rfl) rfl rfl rfl (fun _ _ => ia' es38 rfl rfl (by omega) (Cells.ok (hciL) (eflat_ne (by omega)))) hS7 ?_
          refine hpg 19 rfl (by kernel_rfl) rfl rfl rfl (fun _ _ => fa fo42_1 rfl) hS7 ?_
          refine hpg 20 rfl (by kernel_rfl) rfl rfl rfl (fun w' hS => ld ag3 rfl (Wk.cel hS (show _ = some (Value.int .i64 (z : Nat)) from cel2 hciL (i := k) (c := 1) ((eflat_get hek (by decide)).trans rfl)))) hS7 ?_
          refine hpg 21 rfl (by kernel_rfl) rfl rfl rfl (fun _ _ => mvt (.slice aa svs.length cc) rfl) hS7 ?_
          refine hpg 22 rfl (by kernel_rfl) rfl rfl rfl (fun _ _ => lnl u23 rfl rfl) hS7 ?_
          refine hpg 23 rfl (by kernel_rfl) rfl rfl rfl (fun _ _ => mlv ((z * svs.length : Nat) : Int) rfl rfl (w64n (by omega) (by omega))) hS7 ?_
          refine hpg 24 rfl (by kernel_rfl) rfl rfl rfl (fun _ _ => fa fo40_1 rfl) hS7 ?_
          refine hpg 25 rfl (by kernel_rfl) rfl rfl rfl (fun w' hS => ld ag38 rfl (Wk.cel hS (hB10L.cel 1))) hS7 ?_
          refine hpg 26 rfl (by kernel_rfl) rfl rfl rfl (fun _ _ => mvt (.int .i64 k) rfl) hS7 ?_
          refine hpg 27 rfl (by kernel_rfl) rfl rfl rfl (fun _ _ => ia' es38 rfl rfl (by omega) (Cells.ok (hcjL) (eflat_ne (by omega)))) hS7 ?_
          refine hpg 28 rfl (by kernel_rfl) rfl rfl rfl (fun _ _ => fa fo42_1 rfl) hS7 ?_
          refine hpg 29 rfl (by kernel_rfl) rfl rfl rfl (fun w' hS => ld ag3 rfl (Wk.cel hS (show _ = some (Value.int .i64 (z2 : Nat)) from cel2 hcjL (i := k) (c := 1) ((eflat_get hek2 (by decide)).trans rfl)))) hS7 ?_
          refine hpg 30 rfl (by kernel_rfl) rfl rfl rfl (fun _ _ => adv ((z * svs.length + z2 : Nat) : Int) rfl rfl (w64n (by omega) (by omega))) hS7 ?_
          refine hpg 31 rfl (by kernel_rfl) rfl rfl rfl (fun _ _ => ia' es74 rfl rfl (by omega) (Cells.ok (hML) (ne_mk (by omega)))) hS7 ?_
          refine hpg 32 rfl (by kernel_rfl) rfl rfl rfl (fun w' hS => ld ag4 rfl (Wk.cel hS (mk_cel hML (by omega)))) hS7 ?_
          refine hp 33 rfl (by kernel_rfl) (fun _ _ => pkf rfl) hS7 ?_
          refine hn (by kernel_rfl) ?_
          refine tn (hK10 _ _ ?_)
          refine cb rfl (fun hc73 => ?_) (fun hc73 => ?_)
          · refine sq (fun K11 hK11 => ?_)
            refine rg ?_
            refine p asg ?_
            refine nl ?_
            refine tn (hK11 _ _ ?_)
            refine rt ?_
            refine br ?_
            refine tr ?_
            refine tr ?_
            refine br ?_
            refine tr ?_
            refine f1 rfl rfl ?_
            exact ⟨congrArg Value.bool (difB_e (k := k) (by omega) (by rw [hgk, hgk2]; exact difE_m (by rw [hlA]; simpa only [Int.toNat_natCast, Nat.mul_one] using hc73))).symm, hEL.drew⟩
          · refine skp ?_
            refine bn ?_
            refine tn (hK8 _ _ ?_)
            refine rg ?_
            refine p (ad rfl rfl (wi64 (by omega))) ?_
            refine p mv ?_
            refine nl ?_
            refine tn ?_
            exact ⟨_, by omega, k + 1, (by omega), hEL.drew, hB9L, hB10L, hff, hll, (range_any hdf (by show difE mk sts.length _ _ = false; rw [hgk, hgk2]; exact difE_no (u8eq (Classical.not_not.1 hg53)) (by rw [hlA]; simpa only [Int.toNat_natCast, Nat.mul_one] using hc73))), rfl, rfl, rfl, rfl, rfl, rfl, rfl, rfl, rfl⟩
      · refine ext ?_
        refine te _ ?_
        refine te _ ?_
        refine be ?_
        refine tn (hK4 _ _ ?_)
        refine sq (fun K8 hK8 => ?_)
        refine rg ?_
        refine p asg ?_
        refine nl ?_
        refine tn (hK8 _ _ ?_)
        refine rt ?_
        refine f1 rfl rfl ?_
        exact ⟨congrArg Value.bool (difB_no (by rw [hfi, hfj]; exact hff) hll (by unfold difP; rw [show (sts.getD i dE).2.length = k by omega]; exact hdf)).symm, hEL⟩

/-- which pairs are marked, to and fro -/
def SymM (mk : List Bool) (n : Nat) : Prop := ∀ i j, i < n → j < n → mk.getD (i * n + j) false = mk.getD (j * n + i) false
/-- the pairs looked at so far in a pass without a change -/
def PassOK (sts : List Ent) (mk : List Bool) (n i j : Nat) : Prop := ∀ i' j', j' < i' → (i' < i ∨ (i' = i ∧ j' < j)) → mk.getD (i' * n + j') false = false → difB sts mk i' j' = false
theorem PassOK.zero {sts : List Ent} {mk : List Bool} {n : Nat} : PassOK sts mk n 0 0 := fun i' j' _ h => by omega
theorem PassOK.row {sts : List Ent} {mk : List Bool} {n i : Nat} (h : PassOK sts mk n i i) : PassOK sts mk n (i + 1) 0 := fun i' j' h1 h2 => h i' j' h1 (by omega)
theorem PassOK.step {sts : List Ent} {mk : List Bool} {n i j : Nat} (h : PassOK sts mk n i j) (h1 : mk.getD (i * n + j) false = false → difB sts mk i j = false) : PassOK sts mk n i (j + 1) := fun i' j' g1 g2 => by
  by_cases h9 : i' = i ∧ j' = j
  · obtain ⟨rfl, rfl⟩ := h9; exact h1
  · exact h i' j' g1 (by omega)
theorem idx_inj {n i j i' j' : Nat} (h1 : j < n) (h2 : j' < n) (h : i * n + j = i' * n + j') : i = i' ∧ j = j' := by
  have a1 : (i * n + j) / n = i := by rw [Nat.mul_comm, Nat.mul_add_div (by omega), Nat.div_eq_of_lt h1, Nat.add_zero]
  have a2 : (i' * n + j') / n = i' := by rw [Nat.mul_comm, Nat.mul_add_div (by omega), Nat.div_eq_of_lt h2, Nat.add_zero]
  have a3 : i = i' := by rw [← a1, ← a2, h]
  subst a3
  exact ⟨rfl, by omega⟩
theorem idx_lt {n i j : Nat} (h1 : i < n) (h2 : j < n) : i * n + j < n * n := by
  have : i * n + n ≤ n * n := by rw [← Nat.succ_mul]; exact Nat.mul_le_mul_right _ h1
  omega
theorem ne_len2 {r : List Value} {m : Nat} (h : r.length = m * 1) (hm : 0 < m) : r ≠ [] := by
  rintro rfl; simp only [List.length_nil] at h; omega
def mk2 (mk : List Bool) (n i j : Nat) : List Bool := (mk.set (i * n + j) true).set (j * n + i) true
theorem set_getD (mk : List Bool) (k k' : Nat) (hk : k < mk.length) : (mk.set k true).getD k' false = if k' = k then true else mk.getD k' false := by
  simp only [List.getD_eq_getElem?_getD, List.getElem?_set]
  by_cases h : k = k'
  · subst h; rw [if_pos rfl, if_pos hk, if_pos rfl]; rfl
  · rw [if_neg h, if_neg (fun e => h e.symm)]
theorem mk2_sym {mk : List Bool} {n i j : Nat} (hl : mk.length = n * n) (h : SymM mk n) (hi : i < n) (hj : j < n) : SymM (mk2 mk n i j) n := fun a b ha hb => by
  have e : ∀ a b, a < n → b < n → (mk2 mk n i j).getD (a * n + b) false = if (a = j ∧ b = i) ∨ (a = i ∧ b = j) then true else mk.getD (a * n + b) false := fun a b ha hb => by
    unfold mk2
    rw [set_getD _ _ _ (by rw [List.length_set, hl]; exact idx_lt hj hi), set_getD _ _ _ (by rw [hl]; exact idx_lt hi hj)]
    by_cases h1 : a = j ∧ b = i
    · rw [if_pos (by rw [h1.1, h1.2]), if_pos (.inl h1)]
    · rw [if_neg (fun e => h1 (idx_inj hb hi e))]
      by_cases h2 : a = i ∧ b = j
      · rw [if_pos (by rw [h2.1, h2.2]), if_pos (.inr h2)]
      · rw [if_neg (fun e => h2 (idx_inj hb hj e)), if_neg (by rintro (h | h); exact h1 h; exact h2 h)]
  rw [e a b ha hb, e b a hb ha, h a b ha hb]
  by_cases h1 : (a = j ∧ b = i) ∨ (a = i ∧ b = j)
  · rw [if_pos h1, if_pos (by omega)]
  · rw [if_neg h1, if_neg (by omega)]
theorem set_count {mk : List Bool} {k : Nat} (hk : k < mk.length) (h : mk.getD k false = false) : (mk.set k true).count false + 1 = mk.count false := by
  rw [List.getD_eq_getElem?_getD, List.getElem?_eq_getElem hk] at h
  have h0 : mk[k] = false := h
  have hc : 0 < mk.count false := List.count_pos_iff.2 (h0 ▸ List.getElem_mem hk)
  rw [List.count_set hk, h0]
  simp
  omega
theorem set_count_le (mk : List Bool) (k : Nat) : (mk.set k true).count false ≤ mk.count false := by
  by_cases hk : k < mk.length
  · rw [List.count_set hk]; simp
  · rw [List.set_eq_of_length_le (by omega)]; exact Nat.le_refl _
theorem mk2_count {mk : List Bool} {n i j : Nat} (hl : mk.length = n * n) (hi : i < n) (hj : j < n) (h : mk.getD (i * n + j) false = false) : (mk2 mk n i j).count false + 1 ≤ mk.count false := by
  have h1 := set_count (mk := mk) (k := i * n + j) (by rw [hl]; exact idx_lt hi hj) h
  have h2 := set_count_le (mk.set (i * n + j) true) (j * n + i)
  unfold mk2; omega
theorem mk2_map (mk : List Bool) (n i j : Nat) : ((mk.map Value.bool).set (i * n + j) (.bool true)).set (j * n + i) (.bool true) = (mk2 mk n i j).map Value.bool := by
  unfold mk2; rw [List.map_set, List.map_set]
theorem mk2_len (mk : List Bool) (n i j : Nat) : (mk2 mk n i j).length = mk.length := by unfold mk2; rw [List.length_set, List.length_set]
theorem sym0 (m n : Nat) : SymM (List.replicate m false) n := fun i j _ _ => by
  have : ∀ k, (List.replicate m false).getD k false = false := fun k => by
    rw [List.getD_eq_getElem?_getD, List.getElem?_replicate]; split <;> rfl
  rw [this, this]

set_option maxHeartbeats 1000000 in
theorem apart_w (sts : List Ent) (aa : Option Addr) (cc : Nat) (svs : List (Bool × Value)) (w : World) (hA : SR w aa svs sts) (hl : svs.length ≤ 120) (hE : ∀ p ∈ sts, p.2.length ≤ 256 ∧ ∀ e ∈ p.2, e.2 < svs.length)
  (hD : ∀ mk : List Bool, SymM mk svs.length → PassOK sts mk svs.length svs.length 0 → ∀ i j, j < i → i < svs.length → mk.getD (i * svs.length + j) false = true) :
    Ret Try.prog 20 (List.toArray [.slice aa svs.length cc]) w (fun v w' => v = .bool true ∧ Wk w w') := by
  have hnn : svs.length * svs.length ≤ 120 * 120 := Nat.mul_le_mul hl hl
  have hlA := hA.len
  refine enter Try.func20 rfl Try.ntmps20 rfl ?_
  refine sq (fun K1 hK1 => ?_)
  refine rg ?_
  refine p asg ?_
  refine nl ?_
  refine tn (hK1 _ _ ?_)
  refine sq (fun K2 hK2 => ?_)
  refine rg ?_
  refine p (mvt (.slice aa svs.length cc) rfl) ?_
  refine p (lnl u23 rfl rfl) ?_
  refine p asg ?_
  refine nl ?_
  refine tn (hK2 _ _ ?_)
  refine sq (fun K3 hK3 => ?_)
  refine rg ?_
  refine p mv ?_
  refine p mv ?_
  refine p (mlv ((svs.length * svs.length : Nat) : Int) rfl rfl (w64n (by omega) (by omega))) ?_
  refine e (mks (zv := .bool false) so74 rfl rfl rfl rfl (by omega) (by unfold maxLen; omega) fun bm w15 hb15 hN15 ho15 => ?_)
  have hE15 : Wk w w15 := hN15.md
  have hO15 : World.ownsRow w15 w.heap.size 4 1 (.slice (some ⟨bm, 0, none⟩) (svs.length * svs.length) (svs.length * svs.length)) (svs.length * svs.length) ((List.replicate (svs.length * svs.length) false).map Value.bool) := by rw [List.map_replicate]; exact ho15 _ (by omega)
  refine p asg ?_
  refine nl ?_
  refine tn (hK3 _ _ ?_)
  refine sq (fun K4 hK4 => ?_)
  refine sq (fun K5 hK5 => ?_)
  refine rg ?_
  refine p asg ?_
  refine nl ?_
  refine tn (hK5 _ _ ?_)
  refine blk ?_
  refine lp (fun gm σ1 wL => ∃ (mk : List Bool) (ch : Bool), (Wk w wL) ∧ (World.ownsRow wL w.heap.size 4 1 (.slice (some ⟨bm, 0, none⟩) (svs.length * svs.length) (svs.length * svs.length)) (svs.length * svs.length) (mk.map Value.bool)) ∧ (mk.length = svs.length * svs.length) ∧ (SymM mk svs.length) ∧ (ch = false → PassOK sts mk svs.length svs.length 0) ∧ (σ1 0 = .slice aa svs.length cc) ∧ (σ1 3 = .int .i64 svs.length) ∧ (σ1 4 = .slice (some ⟨bm, 0, none⟩) (svs.length * svs.length) (svs.length * svs.length)) ∧ (σ1 5 = .bool ch) ∧ (mk.count false + (if ch = true then 1 else 0) = gm)) _ ⟨List.replicate (svs.length * svs.length) false, true, hE15, hO15, (by rw [List.length_replicate]), (sym0 _ _), (fun h => absurd h (by decide)), rfl, rfl, rfl, rfl, rfl⟩ ?_
  rintro gm σ1 wL ⟨mk, ch, hE1, hO, hlm, hsy, hfx, hs1_0, hs1_3, hs1_4, hs1_5, rfl⟩
  refine fx 0 hs1_0 (fx 3 hs1_3 (fx 4 hs1_4 (fx 5 hs1_5 ?_)))
  refine sq (fun K6 hK6 => ?_)
  refine sq (fun K7 hK7 => ?_)
  refine rg ?_
  refine p (mvt (.bool ch) rfl) ?_
  refine nl ?_
  refine tn (hK7 _ _ ?_)
  refine cb rfl (fun hc16 => ?_) (fun hc16 => ?_)
  · refine skp ?_
    refine tn (hK6 _ _ ?_)
    refine blk ?_
    refine sq (fun K8 hK8 => ?_)
    have hch1 : (if ch = true then 1 else 0) = 1 := if_pos hc16
    refine rg ?_
    refine p asg ?_
    refine nl ?_
    refine tn (hK8 _ _ ?_)
    refine sq (fun K9 hK9 => ?_)
    refine rg ?_
    refine p (mvt (.int .i64 svs.length) rfl) ?_
    refine p mv ?_
    refine nl ?_
    refine tn (hK9 _ _ ?_)
    refine blk ?_
    refine lp (fun gm σ2 wM => ∃ (i : Nat) (mk1 : List Bool) (ch1 : Bool), (i ≤ svs.length) ∧ (Wk w wM) ∧ (World.ownsRow wM w.heap.size 4 1 (.slice (some ⟨bm, 0, none⟩) (svs.length * svs.length) (svs.length * svs.length)) (svs.length * svs.length) (mk1.map Value.bool)) ∧ (mk1.length = svs.length * svs.length) ∧ (SymM mk1 svs.length) ∧ (mk1.count false + (if ch1 = true then 1 else 0) ≤ mk.count false) ∧ (ch1 = false → PassOK sts mk1 svs.length i 0) ∧ (σ2 0 = .slice aa svs.length cc) ∧ (σ2 3 = .int .i64 svs.length) ∧ (σ2 4 = .slice (some ⟨bm, 0, none⟩) (svs.length * svs.length) (svs.length * svs.length)) ∧ (σ2 5 = .bool ch1) ∧ (σ2 17 = .int .i64 svs.length) ∧ (σ2 18 = .int .i64 i) ∧ (svs.length - i = gm)) _ ⟨0, mk, false, (by omega), hE1, hO, hlm, hsy, (by simp), (fun _ => PassOK.zero), rfl, rfl, rfl, rfl, rfl, rfl, rfl⟩ ?_
    rintro gm σ2 wM ⟨i, mk1, ch1, hi, hE1, hO, hlm, hsy, hcn, hps, hs2_0, hs2_3, hs2_4, hs2_5, hs2_17, hs2_18, rfl⟩
    refine fx 0 hs2_0 (fx 3 hs2_3 (fx 4 hs2_4 (fx 5 hs2_5 (fx 17 hs2_17 (fx 18 hs2_18 ?_)))))
    refine sq (fun K10 hK10 => ?_)
    refine rg ?_
    refine p (lt rfl rfl) ?_
    refine nl ?_
    refine tn (hK10 _ _ ?_)
    refine sq (fun K11 hK11 => ?_)
    refine cd rfl (fun hc19 => ?_) (fun hc19 => ?_)
    · refine skp ?_
      refine tn (hK11 _ _ ?_)
      refine sq (fun K12 hK12 => ?_)
      refine blk ?_
      refine sq (fun K13 hK13 => ?_)
      refine rg ?_
      refine p (mvt (.int .i64 i) rfl) ?_
      refine p (ast (.int .i64 i) rfl) ?_
      refine nl ?_
      refine tn (hK13 _ _ ?_)
      refine sq (fun K14 hK14 => ?_)
      refine rg ?_
      refine p (mvt (.int .i64 i) rfl) ?_
      refine p mv ?_
      refine nl ?_
      refine tn (hK14 _ _ ?_)
      refine blk ?_
      refine lp (fun gm σ3 wN => ∃ (j : Nat) (mk2_ : List Bool) (ch2 : Bool), (j ≤ i) ∧ (Wk w wN) ∧ (World.ownsRow wN w.heap.size 4 1 (.slice (some ⟨bm, 0, none⟩) (svs.length * svs.length) (svs.length * svs.length)) (svs.length * svs.length) (mk2_.map Value.bool)) ∧ (mk2_.length = svs.length * svs.length) ∧ (SymM mk2_ svs.length) ∧ (mk2_.count false + (if ch2 = true then 1 else 0) ≤ mk.count false) ∧ (ch2 = false → PassOK sts mk2_ svs.length i j) ∧ (σ3 0 = .slice aa svs.length cc) ∧ (σ3 3 = .int .i64 svs.length) ∧ (σ3 4 = .slice (some ⟨bm, 0, none⟩) (svs.length * svs.length) (svs.length * svs.length)) ∧ (σ3 5 = .bool ch2) ∧ (σ3 17 = .int .i64 svs.length) ∧ (σ3 18 = .int .i64 i) ∧ (σ3 6 = .int .i64 i) ∧ (σ3 21 = .int .i64 i) ∧ (σ3 22 = .int .i64 j) ∧ (i - j = gm)) _ ⟨0, mk1, ch1, (by omega), hE1, hO, hlm, hsy, hcn, hps, rfl, rfl, rfl, rfl, rfl, rfl, rfl, rfl, rfl, rfl⟩ ?_
      rintro gm σ3 wN ⟨j, mk2_, ch2, hj, hE1, hO, hlm, hsy, hcn, hps, hs3_0, hs3_3, hs3_4, hs3_5, hs3_17, hs3_18, hs3_6, hs3_21, hs3_22, rfl⟩
      refine fx 0 hs3_0 (fx 3 hs3_3 (fx 4 hs3_4 (fx 5 hs3_5 (fx 17 hs3_17 (fx 18 hs3_18 (fx 6 hs3_6 (fx 21 hs3_21 (fx 22 hs3_22 ?_))))))))
      refine sq (fun K15 hK15 => ?_)
      refine rg ?_
      refine p (lt rfl rfl) ?_
      refine nl ?_
      refine tn (hK15 _ _ ?_)
      refine sq (fun K16 hK16 => ?_)
      refine cd rfl (fun hc23 => ?_) (fun hc23 => ?_)
      · refine skp ?_
        refine tn (hK16 _ _ ?_)
        refine sq (fun K17 hK17 => ?_)
        refine blk ?_
        refine sq (fun K18 hK18 => ?_)
        refine rg ?_
        refine p (mvt (.int .i64 j) rfl) ?_
        refine p (ast (.int .i64 j) rfl) ?_
        refine nl ?_
        refine tn (hK18 _ _ ?_)
        refine sq (fun K19 hK19 => ?_)
        have hij := idx_lt (n := svs.length) (show i < svs.length by omega) (show j < svs.length by omega)
        have hij2 : i * svs.length ≤ svs.length * svs.length := Nat.mul_le_mul_right _ (by omega)
        refine rg ?_
        refine p (mvt (.slice (some ⟨bm, 0, none⟩) (svs.length * svs.length) (svs.length * svs.length)) rfl) ?_
        refine p (mvt (.int .i64 i) rfl) ?_
        refine p (mvt (.int .i64 svs.length) rfl) ?_
        refine p (mlv ((i * svs.length : Nat) : Int) rfl rfl (w64n (by omega) (by omega))) ?_
        refine p (mvt (.int .i64 j) rfl) ?_
        refine p (adv ((i * svs.length + j : Nat) : Int) rfl rfl (w64n (by omega) (by omega))) ?_
        refine p (ia' es74 rfl rfl (by omega) (Cells.ok ((own_cellsS hO).2) (ne_mk (by rw [hlm]; omega)))) ?_
        refine p (ld ag4 rfl (mk_celi (n := i * svs.length + j) (own_cellsS hO).2 (by rw [hlm]; exact idx_lt (by omega) (by omega)))) ?_
        refine p (no rfl) ?_
        refine p mv ?_
        refine gb (t := 34) rfl (fun hg34 => ?_) (fun hg34 => ?_)
        · refine pg rfl rfl rfl (mvt (.slice aa svs.length cc) rfl) ?_
          refine pg rfl rfl rfl (mvt (.slice (some ⟨bm, 0, none⟩) (svs.length * svs.length) (svs.length * svs.length)) rfl) ?_
          refine pg rfl rfl rfl (mvt (.int .i64 i) rfl) ?_
          refine pg rfl rfl rfl (mvt (.int .i64 j) rfl) ?_
          refine eg rfl rfl rfl (cl c30 (differ_w sts mk2_ i j aa (some ⟨bm, 0, none⟩) cc (svs.length * svs.length) (svs.length * svs.length) svs _ (hA.wk hE1) (own_cellsS hO).2 hlm rfl (by omega) (by omega) (by omega) hE) rfl fun v39 w39 hR39 => ?_)
          obtain ⟨rfl, hE39⟩ := hR39
          have hO39 := own_nw hO hE39
          refine p (pkt rfl) ?_
          refine nl ?_
          refine tn (hK19 _ _ ?_)
          refine cb rfl (fun hc40 => ?_) (fun hc40 => ?_)
          · refine sq (fun K20 hK20 => ?_)
            have hji := idx_lt (n := svs.length) (show j < svs.length by omega) (show i < svs.length by omega)
            have hji2 : j * svs.length ≤ svs.length * svs.length := Nat.mul_le_mul_right _ (by omega)
            refine rg ?_
            refine p (mvt (.slice (some ⟨bm, 0, none⟩) (svs.length * svs.length) (svs.length * svs.length)) rfl) ?_
            refine p (mvt (.int .i64 i) rfl) ?_
            refine p (mvt (.int .i64 svs.length) rfl) ?_
            refine p (mlv ((i * svs.length : Nat) : Int) rfl rfl (w64n (by omega) (by omega))) ?_
            refine p (mvt (.int .i64 j) rfl) ?_
            refine p (adv ((i * svs.length + j : Nat) : Int) rfl rfl (w64n (by omega) (by omega))) ?_
            refine p (mvt (.slice (some ⟨bm, 0, none⟩) (svs.length * svs.length) (svs.length * svs.length)) rfl) ?_
            refine p (mvt (.int .i64 j) rfl) ?_
            refine p (mvt (.int .i64 svs.length) rfl) ?_
            refine p (mlv ((j * svs.length : Nat) : Int) rfl rfl (w64n (by omega) (by omega))) ?_
            refine p (mvt (.int .i64 i) rfl) ?_
            refine p (adv ((j * svs.length + i : Nat) : Int) rfl rfl (w64n (by omega) (by omega))) ?_
            refine p (ia' es74 rfl rfl (by omega) (Cells.ok ((own_cellsS hO39).2) (ne_mk (by rw [hlm]; omega)))) ?_
            refine e (sto (j := i * svs.length + j) hO39 cz4 rfl rfl rfl (by rw [Int.toNat_natCast, Nat.mul_one]) (by omega) fun w13 hM13 ho13 => ?_)
            refine p (ia' es74 rfl rfl (by omega) (Cells.ok ((own_cellsS ho13).2) (ne_len2 ho13.1 (by omega)))) ?_
            refine e (sto (j := j * svs.length + i) ho13 cz4 rfl rfl rfl (by rw [Int.toNat_natCast, Nat.mul_one]) (by omega) fun w14 hM14 ho14 => ?_)
            have hE14 : Wk w w14 := Wk.own (Wk.own (Md.trans hE1 hE39) hO39 hM13 (Nat.le_refl _)) ho13 hM14 (Nat.le_refl _)
            have hO14 : World.ownsRow w14 w.heap.size 4 1 (.slice (some ⟨bm, 0, none⟩) (svs.length * svs.length) (svs.length * svs.length)) (svs.length * svs.length) ((mk2 mk2_ svs.length i j).map Value.bool) := by rw [← mk2_map]; exact ho14
            have hmf := Bool.not_inj (show (!mk2_.getD (i * svs.length + j) false) = !false from hg34)
            refine nl ?_
            refine tn (hK20 _ _ ?_)
            refine rg ?_
            refine p asg ?_
            refine nl ?_
            refine bn ?_
            refine tn (hK17 _ _ ?_)
            refine rg ?_
            refine p (ad rfl rfl (wi64 (by omega))) ?_
            refine p mv ?_
            refine nl ?_
            refine tn ?_
            exact ⟨_, by omega, j + 1, mk2 mk2_ svs.length i j, true, (by omega), hE14, hO14, ((by rw [mk2_len]; exact hlm)), (mk2_sym hlm hsy (by omega) (by omega)), ((by have := mk2_count hlm (show i < svs.length by omega) (show j < svs.length by omega) hmf; rw [if_pos rfl]; omega)), ((fun h => absurd h (by decide))), rfl, rfl, rfl, rfl, rfl, rfl, rfl, rfl, rfl, rfl⟩
          · refine skp ?_
            refine bn ?_
            refine tn (hK17 _ _ ?_)
            refine rg ?_
            refine p (ad rfl rfl (wi64 (by omega))) ?_
            refine p mv ?_
            refine nl ?_
            refine tn ?_
            exact ⟨_, by omega, j + 1, mk2_, ch2, (by omega), (Md.trans hE1 hE39), hO39, hlm, hsy, hcn, ((fun h => (hps h).step (fun _ => hc40))), rfl, rfl, rfl, rfl, rfl, rfl, rfl, rfl, rfl, rfl⟩
        · refine sk rfl rfl rfl rfl ?_
          refine sk rfl rfl rfl rfl ?_
          refine sk rfl rfl rfl rfl ?_
          refine sk rfl rfl rfl rfl ?_
          refine sk rfl rfl rfl rfl ?_
          refine p (pkf rfl) ?_
          refine nl ?_
          refine tn (hK19 _ _ ?_)
          refine cf rfl ?_
          refine skp ?_
          refine bn ?_
          refine tn (hK17 _ _ ?_)
          refine rg ?_
          refine p (ad rfl rfl (wi64 (by omega))) ?_
          refine p mv ?_
          refine nl ?_
          refine tn ?_
          exact ⟨_, by omega, j + 1, mk2_, ch2, (by omega), hE1, hO, hlm, hsy, hcn, ((fun h => (hps h).step (fun h9 => by have h8 : (!mk2_.getD (i * svs.length + j) false) = false := hg34; rw [h9] at h8; cases h8))), rfl, rfl, rfl, rfl, rfl, rfl, rfl, rfl, rfl, rfl⟩
      · refine ext ?_
        refine te _ ?_
        refine te _ ?_
        refine be ?_
        refine bn ?_
        refine tn (hK12 _ _ ?_)
        refine rg ?_
        refine p (ad rfl rfl (wi64 (by omega))) ?_
        refine p mv ?_
        refine nl ?_
        refine tn ?_
        exact ⟨_, by omega, i + 1, mk2_, ch2, (by omega), hE1, hO, hlm, hsy, hcn, ((fun h => by have := hps h; rw [show j = i by omega] at this; exact this.row)), rfl, rfl, rfl, rfl, rfl, rfl, rfl⟩
    · refine ext ?_
      refine te _ ?_
      refine te _ ?_
      refine be ?_
      refine bn ?_
      refine tn ?_
      exact ⟨_, by omega, mk1, ch1, hE1, hO, hlm, hsy, ((fun h => by have h9 := hps h; rw [show i = svs.length by omega] at h9; exact h9)), rfl, rfl, rfl, rfl, rfl⟩
  · refine ext ?_
    refine te _ ?_
    refine te _ ?_
    refine be ?_
    refine tn (hK4 _ _ ?_)
    refine sq (fun K8 hK8 => ?_)
    refine sq (fun K9 hK9 => ?_)
    have hall := hD mk hsy (hfx hc16)
    refine rg ?_
    refine p (mvt (.int .i64 svs.length) rfl) ?_
    refine p mv ?_
    refine nl ?_
    refine tn (hK9 _ _ ?_)
    refine blk ?_
    refine lp (fun gm σ4 wP => ∃ (i : Nat), (i ≤ svs.length) ∧ (Wk w wP) ∧ (World.ownsRow wP w.heap.size 4 1 (.slice (some ⟨bm, 0, none⟩) (svs.length * svs.length) (svs.length * svs.length)) (svs.length * svs.length) (mk.map Value.bool)) ∧ (σ4 0 = .slice aa svs.length cc) ∧ (σ4 3 = .int .i64 svs.length) ∧ (σ4 4 = .slice (some ⟨bm, 0, none⟩) (svs.length * svs.length) (svs.length * svs.length)) ∧ (σ4 57 = .int .i64 svs.length) ∧ (σ4 58 = .int .i64 i) ∧ (svs.length - i = gm)) _ ⟨0, (by omega), hE1, hO, rfl, rfl, rfl, rfl, rfl, rfl⟩ ?_
    rintro gm σ4 wP ⟨i, hi, hE2, hO2, hs4_0, hs4_3, hs4_4, hs4_57, hs4_58, rfl⟩
    refine fx 0 hs4_0 (fx 3 hs4_3 (fx 4 hs4_4 (fx 57 hs4_57 (fx 58 hs4_58 ?_))))
    refine sq (fun K10 hK10 => ?_)
    refine rg ?_
    refine p (lt rfl rfl) ?_
    refine nl ?_
    refine tn (hK10 _ _ ?_)
    refine sq (fun K11 hK11 => ?_)
    refine cd rfl (fun hc59 => ?_) (fun hc59 => ?_)
    · refine skp ?_
      refine tn (hK11 _ _ ?_)
      refine sq (fun K12 hK12 => ?_)
      refine blk ?_
      refine sq (fun K13 hK13 => ?_)
      refine rg ?_
      refine p (mvt (.int .i64 i) rfl) ?_
      refine p (ast (.int .i64 i) rfl) ?_
      refine nl ?_
      refine tn (hK13 _ _ ?_)
      refine sq (fun K14 hK14 => ?_)
      refine rg ?_
      refine p (mvt (.int .i64 i) rfl) ?_
      refine p mv ?_
      refine nl ?_
      refine tn (hK14 _ _ ?_)
      refine blk ?_
      refine lp (fun gm σ5 wQ => ∃ (j : Nat), (j ≤ i) ∧ (Wk w wQ) ∧ (World.ownsRow wQ w.heap.size 4 1 (.slice (some ⟨bm, 0, none⟩) (svs.length * svs.length) (svs.length * svs.length)) (svs.length * svs.length) (mk.map Value.bool)) ∧ (σ5 0 = .slice aa svs.length cc) ∧ (σ5 3 = .int .i64 svs.length) ∧ (σ5 4 = .slice (some ⟨bm, 0, none⟩) (svs.length * svs.length) (svs.length * svs.length)) ∧ (σ5 57 = .int .i64 svs.length) ∧ (σ5 58 = .int .i64 i) ∧ (σ5 8 = .int .i64 i) ∧ (σ5 61 = .int .i64 i) ∧ (σ5 62 = .int .i64 j) ∧ (i - j = gm)) _ ⟨0, (by omega), hE2, hO2, rfl, rfl, rfl, rfl, rfl, rfl, rfl, rfl, rfl⟩ ?_
      rintro gm σ5 wQ ⟨j, hj, hE3, hO3, hs5_0, hs5_3, hs5_4, hs5_57, hs5_58, hs5_8, hs5_61, hs5_62, rfl⟩
      refine fx 0 hs5_0 (fx 3 hs5_3 (fx 4 hs5_4 (fx 57 hs5_57 (fx 58 hs5_58 (fx 8 hs5_8 (fx 61 hs5_61 (fx 62 hs5_62 ?_)))))))
      refine sq (fun K15 hK15 => ?_)
      refine rg ?_
      refine p (lt rfl rfl) ?_
      refine nl ?_
      refine tn (hK15 _ _ ?_)
      refine sq (fun K16 hK16 => ?_)
      refine cd rfl (fun hc63 => ?_) (fun hc63 => ?_)
      · refine skp ?_
        refine tn (hK16 _ _ ?_)
        refine sq (fun K17 hK17 => ?_)
        refine blk ?_
        refine sq (fun K18 hK18 => ?_)
        refine rg ?_
        refine p (mvt (.int .i64 j) rfl) ?_
        refine p (ast (.int .i64 j) rfl) ?_
        refine nl ?_
        refine tn (hK18 _ _ ?_)
        refine sq (fun K19 hK19 => ?_)
        have hij := idx_lt (n := svs.length) (show i < svs.length by omega) (show j < svs.length by omega)
        have hij2 : i * svs.length ≤ svs.length * svs.length := Nat.mul_le_mul_right _ (by omega)
        refine rg ?_
        refine p (mvt (.slice (some ⟨bm, 0, none⟩) (svs.length * svs.length) (svs.length * svs.length)) rfl) ?_
        refine p (mvt (.int .i64 i) rfl) ?_
        refine p (mvt (.int .i64 svs.length) rfl) ?_
        refine p (mlv ((i * svs.length : Nat) : Int) rfl rfl (w64n (by omega) (by omega))) ?_
        refine p (mvt (.int .i64 j) rfl) ?_
        refine p (adv ((i * svs.length + j : Nat) : Int) rfl rfl (w64n (by omega) (by omega))) ?_
        refine p (ia' es74 rfl rfl (by omega) (Cells.ok ((own_cellsS hO3).2) (ne_mk (by rw [hlm]; omega)))) ?_
        refine p (ld ag4 rfl (mk_celi (n := i * svs.length + j) (own_cellsS hO3).2 (by rw [hlm]; exact idx_lt (by omega) (by omega)))) ?_
        refine p (no rfl) ?_
        refine nl ?_
        refine tn (hK19 _ _ ?_)
        refine cf (congrArg (fun b => Value.bool (!b)) (hall i j (by omega) (by omega))) ?_
        refine skp ?_
        refine bn ?_
        refine tn (hK17 _ _ ?_)
        refine rg ?_
        refine p (ad rfl rfl (wi64 (by omega))) ?_
        refine p mv ?_
        refine nl ?_
        refine tn ?_
        exact ⟨_, by omega, j + 1, (by omega), hE3, hO3, rfl, rfl, rfl, rfl, rfl, rfl, rfl, rfl, rfl⟩
      · refine ext ?_
        refine te _ ?_
        refine te _ ?_
        refine be ?_
        refine bn ?_
        refine tn (hK12 _ _ ?_)
        refine rg ?_
        refine p (ad rfl rfl (wi64 (by omega))) ?_
        refine p mv ?_
        refine nl ?_
        refine tn ?_
        exact ⟨_, by omega, i + 1, (by omega), hE3, hO3, rfl, rfl, rfl, rfl, rfl, rfl⟩
    · refine ext ?_
      refine te _ ?_
      refine te _ ?_
      refine be ?_
      refine tn (hK8 _ _ ?_)
      refine sq (fun K12 hK12 => ?_)
      refine rg ?_
      refine p asg ?_
      refine nl ?_
      refine tn (hK12 _ _ ?_)
      refine rt ?_
      refine f1 rfl rfl ?_
      exact ⟨rfl, hE2⟩
end Go.Hb.Least
