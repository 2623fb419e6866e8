/-
  Walks of the finder of near words and of slices.Min. No conditions but those that each theorem names.
-/
import Derived.Test.YtbfcjgfnlcbojaaChecked
import Derived.Test.YtbfcjgfnlcbojaaCore
import Derived.Test.YtbfcjgfnlcbojaaDist
import Derived.Test.YtbfcjgfnlcbojaaShape
import Derived.Test.YtbfcjgfnlcbojaaPlan
import Derived.Test.YtbfcjgfnlcbojaaNrp
set_option maxRecDepth 20000
set_option linter.unusedVariables false
namespace Go.Hb.Find
open Go.Proofs
open Go.Hb.Dist Go.Hb.Shape
theorem ag3 : aggN Try.prog 3 = some none := by kernel_rfl
theorem ag4 : aggN Try.prog 4 = some none := by kernel_rfl
theorem ag5 : aggN Try.prog 5 = some none := by kernel_rfl
theorem ag9 : aggN Try.prog 9 = some none := by kernel_rfl
theorem ag29 : aggN Try.prog 29 = some none := by kernel_rfl
theorem ag32 : aggN Try.prog 32 = some none := by kernel_rfl
theorem ag35 : aggN Try.prog 35 = some none := by kernel_rfl
theorem ag74 : aggN Try.prog 74 = some none := by kernel_rfl
theorem ag81 : aggN Try.prog 81 = some (some 2) := by kernel_rfl
theorem by29_9 : byteOk Try.prog 29 5 9 = true := by kernel_rfl
theorem c20 : Callable Try.prog 20 := callable Try.func20 (by kernel_rfl) (by kernel_rfl)
theorem c23 : Callable Try.prog 23 := callable Try.func23 (by kernel_rfl) (by kernel_rfl)
theorem c37 : Callable Try.prog 37 := callable Try.func37 (by kernel_rfl) (by kernel_rfl)
theorem cz29 : cellsN Try.prog 29 = some 1 := by kernel_rfl
theorem cz35 : cellsN Try.prog 35 = some 1 := by kernel_rfl
theorem cz81 : cellsN Try.prog 81 = some 2 := by kernel_rfl
theorem es29 : elemSize Try.prog 29 = some 1 := by kernel_rfl
theorem es32 : elemSize Try.prog 32 = some 2 := by kernel_rfl
theorem es54 : elemSize Try.prog 54 = some 1 := by kernel_rfl
theorem es74 : elemSize Try.prog 74 = some 2 := by kernel_rfl
theorem fo63_0 : fieldOff Try.prog 63 0 = some 0 := by kernel_rfl
theorem fo63_1 : fieldOff Try.prog 63 1 = some 1 := by kernel_rfl
theorem fo63_2 : fieldOff Try.prog 63 2 = some 2 := by kernel_rfl
theorem fo63_3 : fieldOff Try.prog 63 3 = some 3 := by kernel_rfl
theorem fo63_4 : fieldOff Try.prog 63 4 = some 4 := by kernel_rfl
theorem fo76_0 : fieldOff Try.prog 76 0 = some 0 := by kernel_rfl
theorem fo76_1 : fieldOff Try.prog 76 1 = some 1 := by kernel_rfl
theorem fo81_0 : fieldOff Try.prog 81 0 = some 0 := by kernel_rfl
theorem fo81_1 : fieldOff Try.prog 81 1 = some 1 := by kernel_rfl
theorem so29 : sliceOk Try.prog 29 5 1 1 = true := by kernel_rfl
theorem so35 : sliceOk Try.prog 35 45 2 24 = true := by kernel_rfl
theorem st45 : structOk Try.prog 45 = some ([(0, 1), (1, 1)], [.string ⟨⟨[]⟩⟩, .int .i64 0]) := by kernel_rfl
theorem u9 : Try.prog.underlying 9 = some (.string) := by kernel_rfl
theorem u29 : Try.prog.underlying 29 = some (.slice 5) := by kernel_rfl
theorem u54 : Try.prog.underlying 54 = some (.slice 3) := by kernel_rfl
theorem u74 : Try.prog.underlying 74 = some (.slice 81) := by kernel_rfl
theorem wide : Try.prog.follows .mixedOrders = true := by kernel_rfl
theorem zs81 : zeroOf Try.prog 81 = some (some [.int .u8 0, .int .i64 0]) := by kernel_rfl

theorem take1 {r : List Nat} {x : Nat} {h : 0 < r.length} (hx : x ∈ r.take 1) : ((r[0] : Nat) : Int) ≤ (x : Nat) := by
  cases r with
  | nil => cases hx
  | cons y r => simp only [List.take_succ_cons, List.take_zero, List.mem_singleton] at hx; subst hx; exact Int.le_refl _
theorem min_ex {r : List Nat} {m m' : Int} (h : ∃ x ∈ r, m = (x : Nat)) (h' : ∃ x ∈ r, m' = (x : Nat)) : ∃ x ∈ r, min m m' = (x : Nat) := by
  rcases Int.le_total m m' with e | e
  · rw [Int.min_eq_left e]; exact h
  · rw [Int.min_eq_right e]; exact h'
theorem min_all {r : List Nat} {m : Int} {j : Nat} (h : ∀ x ∈ r.take j, m ≤ (x : Nat)) (hj : j < r.length) : ∀ x ∈ r.take (j + 1), min m (r[j] : Nat) ≤ (x : Nat) := fun x hx => by
  rw [List.take_succ_eq_append_getElem hj, List.mem_append, List.mem_singleton] at hx
  rcases hx with hx | rfl
  · have := h x hx; omega
  · exact Int.min_le_right _ _

theorem min_w (r : List Nat) (ar : Option Addr) (cr n : Nat) (w : World) (hR : Cells w.heap ar (r.map nv)) (hn : n = r.length) (h0 : 0 < n) (hl : n ≤ 4611686018427387904) :
    Ret Try.prog 37 (List.toArray [.slice ar n cr]) w (fun v w' => (∃ m : Nat, v = .int .i64 (m : Nat) ∧ m ∈ r ∧ ∀ x ∈ r, m ≤ x) ∧ Wk w w') := by
  refine enter Try.func37 rfl Try.ntmps37 rfl ?_
  refine sq (fun K1 hK1 => ?_)
  refine rg ?_
  refine p asg ?_
  refine nl ?_
  refine tn (hK1 _ _ ?_)
  refine sq (fun K2 hK2 => ?_)
  refine sq (fun K3 hK3 => ?_)
  refine rg ?_
  refine p (mvt (.slice ar n cr) rfl) ?_
  refine p (lnl u54 rfl rfl) ?_
  refine p (lt rfl rfl) ?_
  refine nl ?_
  refine tn (hK3 _ _ ?_)
  refine cd rfl (fun h => absurd h (by omega)) (fun hc7 => ?_)
  refine skp ?_
  refine tn (hK2 _ _ ?_)
  refine sq (fun K4 hK4 => ?_)
  refine rg ?_
  refine p (mvt (.slice ar n cr) rfl) ?_
  refine p (ia' es54 rfl rfl (by omega) (Cells.ok (hR) (ne_nv (by omega)))) ?_
  refine p (ld ag3 rfl (nv_cel hR (i := 0) (List.getElem?_eq_getElem (by omega)))) ?_
  refine p asg ?_
  refine nl ?_
  refine tn (hK4 _ _ ?_)
  refine sq (fun K5 hK5 => ?_)
  refine sq (fun K6 hK6 => ?_)
  refine rg ?_
  refine p asg ?_
  refine nl ?_
  refine tn (hK6 _ _ ?_)
  refine blk ?_
  refine lp (fun gm σ1 wL => ∃ (j : Nat) (m : Int), (1 ≤ j) ∧ (j ≤ n) ∧ (Wk w wL) ∧ (∃ x ∈ r, m = (x : Nat)) ∧ (∀ x ∈ r.take j, m ≤ (x : Nat)) ∧ (σ1 0 = .slice ar n cr) ∧ (σ1 3 = .int .i64 m) ∧ (σ1 4 = .int .i64 j) ∧ (n - j = gm)) _ ⟨1, (r[0] : Nat), ((by omega)), ((by omega)), (Md.refl _ _), (⟨_, List.getElem_mem _, rfl⟩), ((fun x hx => take1 hx)), rfl, rfl, rfl, rfl⟩ ?_
  rintro gm σ1 wL ⟨j, m, h1, hj, hE, hmm, hml, hs1_0, hs1_3, hs1_4, rfl⟩
  refine fx 0 hs1_0 (fx 3 hs1_3 (fx 4 hs1_4 ?_))
  refine sq (fun K7 hK7 => ?_)
  refine sq (fun K8 hK8 => ?_)
  refine rg ?_
  refine p (mvt (.int .i64 j) rfl) ?_
  refine p (mvt (.slice ar n cr) rfl) ?_
  refine p (lnl u54 rfl rfl) ?_
  refine p (lt rfl rfl) ?_
  refine nl ?_
  refine tn (hK8 _ _ ?_)
  refine cd rfl (fun hc15 => ?_) (fun hc15 => ?_)
  · refine skp ?_
    refine tn (hK7 _ _ ?_)
    refine sq (fun K9 hK9 => ?_)
    refine blk ?_
    have hR1 := hR.wk hE
    refine rg ?_
    refine p (mvt (.int .i64 m) rfl) ?_
    refine p (mvt (.slice ar n cr) rfl) ?_
    refine p (mvt (.int .i64 j) rfl) ?_
    refine p (ia' es54 rfl rfl (by omega) (Cells.ok (hR1) (ne_nv (by omega)))) ?_
    refine p (ld ag3 rfl (nv_cel hR1 (i := j) (List.getElem?_eq_getElem (by omega)))) ?_
    refine p (mn rfl rfl) ?_
    refine p asg ?_
    refine nl ?_
    refine bn ?_
    refine tn (hK9 _ _ ?_)
    refine rg ?_
    refine p (mvt (.int .i64 j) rfl) ?_
    refine p (ad rfl rfl (wi64 (by omega))) ?_
    refine p asg ?_
    refine nl ?_
    refine tn ?_
    exact ⟨_, by omega, j + 1, min m (r[j] : Nat), ((by omega)), ((by omega)), hE, (min_ex hmm ⟨_, List.getElem_mem _, rfl⟩), (min_all hml (by omega)), rfl, rfl, rfl, rfl⟩
  · refine ext ?_
    refine te _ ?_
    refine te _ ?_
    refine be ?_
    refine tn (hK5 _ _ ?_)
    refine sq (fun K9 hK9 => ?_)
    refine rg ?_
    refine p (mvt (.int .i64 m) rfl) ?_
    refine p (ast (.int .i64 m) rfl) ?_
    refine nl ?_
    refine tn (hK9 _ _ ?_)
    refine rt ?_
    refine f1 rfl rfl ?_
    obtain ⟨x, hx, rfl⟩ := hmm
    rw [show j = r.length by omega, List.take_length] at hml
    exact ⟨⟨x, rfl, hx, fun y hy => by have := hml y hy; omega⟩, hE⟩

/-- the finder's memory -/
structure FD (w : World) (B pf : Nat) (aa : Option Addr) (n cA : Nat) (ws : List UInt8) (k : Nat) (wv ov : Value) (t : List UInt8) (out : List Nr) : Prop where
  blk : w.heap[pf]? = some (.cells [.slice aa n cA, str ws, .int .i64 (k : Nat), wv, ov].toArray 63 (0, 0))
  hp : B ≤ pf
  wr : World.ownsRow w B 5 1 wv t.length (U8 t)
  ou : World.ownsRow w B 45 2 ov out.length (nfl out)
def FF (pf : Nat) (wv ov : Value) (q : Nat) : Prop := q = pf ∨ wv.ownBlock = some q ∨ ov.ownBlock = some q
section
variable {w w' : World} {B pf : Nat} {aa : Option Addr} {n cA : Nat} {ws : List UInt8} {k : Nat} {wv ov : Value} {t : List UInt8} {out : List Nr}
theorem FD.wk (h : FD w B pf aa n cA ws k wv ov t out) (hm : Wk w w') : FD w' B pf aa n cA ws k wv ov t out := ⟨hm.blk h.blk, h.hp, own_nw h.wr hm, own_nw h.ou hm⟩
theorem FD.tf (h : FD w B pf aa n cA ws k wv ov t out) : TF w [65, 7, 47] (FF pf wv ov) := fun q hq => by
  rcases hq with rfl | hq | hq
  · rw [tag_cells h.blk]; rfl
  · rw [tag_own h.wr hq]; rfl
  · rw [tag_own h.ou hq]; rfl
theorem FD.lt (h : FD w B pf aa n cA ws k wv ov t out) {q : Nat} (hq : FF pf wv ov q) : B ≤ q ∧ q < w.heap.size := by
  rcases hq with rfl | hq | hq
  · exact ⟨h.hp, (Array.getElem?_eq_some_iff.1 h.blk).1⟩
  · exact own_lt h.wr hq
  · exact own_lt h.ou hq
theorem Row.keep {v : Value} {r : List Nat} (hr : Row w B v r) (h : FD w B pf aa n cA ws k wv ov t out) (hm : Md (FF pf wv ov) w w') : Row w' B v r := own_mdT hr hm h.tf rfl
end


theorem own_ob {a : Option Addr} {n m c : Nat} : (Value.slice a n c).ownBlock = (Value.slice a m c).ownBlock := by
  cases a <;> rfl
theorem row_mem {ws t : List UInt8} {j : Nat} (h : j ≤ ws.length) : dd ws t j t.length ∈ rowOf ws t := List.mem_of_getElem? (tab_get _ (by omega))
theorem row_cells {w : World} {B m cr : Nat} {ar : Option Addr} {r : List Nat} (h : Row w B (.slice ar m cr) r) : Cells w.heap ar (r.map nv) := by
  obtain ⟨a, c, hv, hc⟩ := h.sl
  simp only [Value.slice.injEq] at hv
  obtain ⟨rfl, _, _⟩ := hv
  exact hc
theorem fr_trans {G1 G2 G3 : Nat → Prop} {s1 s2 : Nat} (h : ∀ q, G3 q → G2 q ∨ s2 ≤ q) (h' : ∀ q, G2 q → G1 q ∨ s1 ≤ q) (hs : s1 ≤ s2) : ∀ q, G3 q → G1 q ∨ s1 ≤ q := fun q hq => by
  rcases h q hq with h | h
  · exact h' q h
  · exact .inr (by omega)
theorem FD.md {G1 G2 : Nat → Prop} {w w1 w2 : World} (h1 : Md G1 w w1) (hf : ∀ q, G2 q → G1 q ∨ w.heap.size ≤ q) (h2 : Md G2 w1 w2) : Md G1 w w2 := Md.trans' h1 h2 (fun q hq h => (hf q h).resolve_right (by omega))
theorem own1_no {a : List EnI} {ws t : List UInt8} {k i : Nat} (h : ¬ ((stOf a i).1 = true ∧ dist ws t ≤ k)) : own1 a ws k t i = [] := if_neg h
theorem own1_yes {a : List EnI} {ws t : List UInt8} {k i : Nat} (h : (stOf a i).1 = true) (h2 : dist ws t ≤ k) : own1 a ws k t i = [(t, dist ws t)] := if_pos ⟨h, h2⟩
theorem U8_take (t : List UInt8) (c : UInt8) : (U8 (t ++ [c])).take (t.length * 1) = U8 t := by
  rw [U8_app, Nat.mul_one, List.take_append_of_le_length (by rw [U8_len]; exact Nat.le_refl _), List.take_of_length_le (by rw [U8_len]; exact Nat.le_refl _)]

set_option maxHeartbeats 2000000 in
theorem fvisit_w (r : Nat) (a : List EnI) (l : List Nat) (aa : Option Addr) (cA : Nat) (ws : List UInt8) (k : Nat) (w0 : World) (pf : Nat) (wv ov : Value) (t : List UInt8) (out : List Nr) (i : Nat) (ar : Option Addr) (cr : Nat) (w : World) (hS : Shp a l) (hA : StI w0.heap aa a) (hE : Wk w0 w) (hD : FD w w0.heap.size pf aa a.length cA ws k wv ov t out) (hR : Row w w0.heap.size (.slice ar (ws.length + 1) cr) (rowOf ws t)) (hi : i < a.length) (hr : l.idxOf i < r) (ht : t.length + l.idxOf i ≤ a.length) (hob : out.length + (foundAt a ws k t i).length ≤ 1073741824) (hws : ws.length ≤ 1073741824) (hk : k ≤ 1073741824) :
    Ret Try.prog 23 (List.toArray [.pointer (some ⟨pf, 0, none⟩), .int .i64 i, .slice ar (ws.length + 1) cr]) w (fun v w' => v = .tuple #[] ∧ ∃ wv' ov', FD w' w0.heap.size pf aa a.length cA ws k wv' ov' t (out ++ foundAt a ws k t i) ∧ Md (FF pf wv ov) w w' ∧ ∀ q, FF pf wv' ov' q → FF pf wv ov q ∨ w.heap.size ≤ q) := by
  induction r generalizing wv ov t out i ar cr w with
  | zero => omega
  | succ r ih =>
    have hle := hS.le
    obtain ⟨ea, ec, h2c, hEd0⟩ := hA.two hi
    have h20 : cel w0.heap (bk aa) (fo aa + i * 2 + 0) = some (.bool (stOf a i).1) := h2c 0 (by omega)
    have h21 : cel w0.heap (bk aa) (fo aa + i * 2 + 1) = some (.slice ea (stOf a i).2.length ec) := h2c 1 (by omega)
    have hrl := (hS.ris hi).len
    have hFe := foundAt_eq hS hi ws k t
    have hFl := congrArg List.length hFe
    rw [List.length_append] at hFl
    refine enter Try.func23 rfl Try.ntmps23 rfl ?_
    refine sq (fun K1 hK1 => ?_)
    refine sq (fun K2 hK2 => ?_)
    have hS0 : (fun w' => Wk w w') w.drew := (Md.refl _ _).drew
    refine hst (fun w' => Wk w w') wide hS0 ?_
    refine hp 0 rfl (by kernel_rfl) (fun _ _ => mvt (.slice ar (ws.length + 1) cr) rfl) hS0 ?_
    refine hp 2 rfl (by kernel_rfl) (fun _ _ => mvt (.pointer (some ⟨pf, 0, none⟩)) rfl) hS0 ?_
    refine hp 3 rfl (by kernel_rfl) (fun _ _ => nc rfl) hS0 ?_
    refine hp 4 rfl (by kernel_rfl) (fun _ _ => fa fo63_2 rfl) hS0 ?_
    refine hp 5 rfl (by kernel_rfl) (fun w' hS => ld ag3 rfl (Wk.cel hS (Blk.cel ⟨_, hD.blk⟩ 2))) hS0 ?_
    refine he 1 rfl (by kernel_rfl) (cl c37 (min_w (rowOf ws t) ar cr (ws.length + 1) _ (row_cells hR) (rowOf_len _ _).symm (by omega) (by omega)) rfl fun v10 w10 hR10 => ?_)
    obtain ⟨⟨mn, rfl, hmn, hml⟩, hE10⟩ := hR10
    have hS0_1 : (fun w' => Wk w w') w10 := Md.trans hS0 hE10
    refine ⟨hS0_1, ?_⟩
    refine hp 6 rfl (by kernel_rfl) (fun _ _ => gt rfl rfl) hS0_1 ?_
    refine hn (by kernel_rfl) ?_
    have hE0 : Wk w w10 := hS0_1
    have hD0 := hD.wk hE0
    have hR0 : Row w10 w0.heap.size (.slice ar (ws.length + 1) cr) (rowOf ws t) := own_nw hR hE0
    have hE00 : Wk w0 w10 := Md.trans hE hE0
    refine tn (hK2 _ _ ?_)
    refine cd rfl (fun hc15 => ?_) (fun hc15 => ?_)
    · refine rt ?_
      refine tr ?_
      refine f0r rfl ?_
      have h0 : foundAt a ws k t i = [] := foundAt_none (fun j hj => by have := hml _ (row_mem hj); omega)
      exact ⟨rfl, wv, ov, by rw [h0, List.append_nil]; exact hD0, hE0.mono (fun _ _ h => h.elim), fun q h => .inl h⟩
    · refine skp ?_
      refine tn (hK1 _ _ ?_)
      refine sqc (fun σ1 wC => ∃ (wv1 ov1 : Value), (FD wC w0.heap.size pf aa a.length cA ws k wv1 ov1 t (out ++ own1 a ws k t i)) ∧ (Md (FF pf wv ov) w wC) ∧ (∀ q, FF pf wv1 ov1 q → FF pf wv ov q ∨ w.heap.size ≤ q) ∧ (σ1 0 = .pointer (some ⟨pf, 0, none⟩)) ∧ (σ1 1 = .int .i64 i) ∧ (σ1 2 = .slice ar (ws.length + 1) cr)) ?_ ?_
      · refine sq (fun K3 hK3 => ?_)
        refine rg ?_
        refine p (mvt (.slice ar (ws.length + 1) cr) rfl) ?_
        refine p (mvt (.pointer (some ⟨pf, 0, none⟩)) rfl) ?_
        refine p (nc rfl) ?_
        refine p (fa fo63_1 rfl) ?_
        refine p (ld ag9 rfl (Blk.cel ⟨_, hD0.blk⟩ 1)) ?_
        refine p (lns u9 rfl rfl) ?_
        refine p (ia' es54 rfl rfl (by omega) (Cells.ok ((row_cells hR0)) (ne_tab (by omega)))) ?_
        refine p (ld ag3 rfl (show _ = some (Value.int .i64 ((dist ws t : Nat) : Int)) from tab_cel (row_cells hR0) (i := ws.length) (by omega))) ?_
        refine p asg ?_
        refine nl ?_
        refine tn (hK3 _ _ ?_)
        refine sq (fun K4 hK4 => ?_)
        refine rg ?_
        refine p (mvt (.pointer (some ⟨pf, 0, none⟩)) rfl) ?_
        refine p (nc rfl) ?_
        refine p (fa fo63_0 rfl) ?_
        refine p (ld ag32 rfl (Blk.cel ⟨_, hD0.blk⟩ 0)) ?_
        refine p (mvt (.int .i64 i) rfl) ?_
        refine p (ia' es32 rfl rfl (by omega) (hA.ok (by omega))) ?_
        refine p (fa fo76_0 rfl) ?_
        refine p (ld ag4 rfl (hE00.cel h20)) ?_
        refine p mv ?_
        refine gb (t := 32) rfl (fun hg32 => ?_) (fun hg32 => ?_)
        · refine pg rfl rfl rfl mv ?_
          refine pg rfl rfl rfl (mvt (.pointer (some ⟨pf, 0, none⟩)) rfl) ?_
          refine pg rfl rfl rfl (nc rfl) ?_
          refine pg rfl rfl rfl (fa fo63_2 rfl) ?_
          refine pg rfl rfl rfl (ld ag3 rfl (Blk.cel ⟨_, hD0.blk⟩ 2)) ?_
          refine pg rfl rfl rfl (le rfl rfl) ?_
          refine p (pkt rfl) ?_
          refine nl ?_
          refine tn (hK4 _ _ ?_)
          refine cd rfl (fun hc39 => ?_) (fun hc39 => ?_)
          · obtain ⟨wa, wc, hwv⟩ := own_slice hD0.wr
            have hS3 : (fun w' => w'.heap[pf]? = some (.cells [.slice aa a.length cA, str ws, .int .i64 (k : Nat), wv, ov].toArray 63 (0, 0)) ∧ World.ownsRow w' w0.heap.size 5 1 wv t.length (U8 t)) w10.drew := ⟨hD0.blk, hD0.wr⟩
            refine lst (fun w' => w'.heap[pf]? = some (.cells [.slice aa a.length cA, str ws, .int .i64 (k : Nat), wv, ov].toArray 63 (0, 0)) ∧ World.ownsRow w' w0.heap.size 5 1 wv t.length (U8 t)) 16 wide hS3 ?_
            refine lq 0 rfl (by kernel_rfl) (fun _ _ => mvt (.pointer (some ⟨pf, 0, none⟩)) rfl) hS3 ?_
            refine lq 1 rfl (by kernel_rfl) (fun _ _ => mvt (.pointer (some ⟨pf, 0, none⟩)) rfl) hS3 ?_
            refine lq 2 rfl (by kernel_rfl) (fun _ _ => nc rfl) hS3 ?_
            refine lq 3 rfl (by kernel_rfl) (fun _ _ => fa fo63_4 rfl) hS3 ?_
            refine lq 4 rfl (by kernel_rfl) (fun w' hS => ld ag35 rfl (Blk.cel ⟨_, hS.1⟩ 4)) hS3 ?_
            refine lq 5 rfl (by kernel_rfl) (fun _ _ => mvt (.pointer (some ⟨pf, 0, none⟩)) rfl) hS3 ?_
            refine lq 6 rfl (by kernel_rfl) (fun _ _ => nc rfl) hS3 ?_
            refine lq 7 rfl (by kernel_rfl) (fun _ _ => fa fo63_3 rfl) hS3 ?_
            refine lq 8 rfl (by kernel_rfl) (fun w' hS => ld ag29 rfl (show _ = some (Value.slice wa t.length wc) from hwv ▸ Blk.cel ⟨_, hS.1⟩ 3)) hS3 ?_
            refine lq 10 rfl (by kernel_rfl) (fun _ _ => mv) hS3 ?_
            refine lq 9 rfl (by kernel_rfl) (fun w' hS => cvbs by29_9 rfl ((own_cellsS (hwv ▸ hS.2)).2) (rfl)) hS3 ?_
            refine lq 11 rfl (by kernel_rfl) (fun _ _ => bld (ps := [(0, str t), (1, .int .i64 (dist ws t : Nat))]) (L := [str t, .int .i64 (dist ws t : Nat)]) st45 rfl (rfl)) hS3 ?_
            refine lef 12 rfl (by kernel_rfl) (bsa so35 rfl rfl rfl fun b52 w52 hb52 hN52 hB52 => ?_)
            have hB52x : Blk w52.heap b52 [str t, .int .i64 (dist ws t : Nat)] := hB52
            have hE52 : Wk w10 w52 := Md.trans (Md.refl _ _).drew hN52.md
            have hD52 := hD0.wk hE52
            have hsz52 := hE52.size
            have hsz00 := hE00.size
            have hszE0 := hE0.size
            have hS3_12 : (fun w' => w'.heap[pf]? = some (.cells [.slice aa a.length cA, str ws, .int .i64 (k : Nat), wv, ov].toArray 63 (0, 0)) ∧ World.ownsRow w' w0.heap.size 5 1 wv t.length (U8 t)) w52 := ⟨hN52.md.blk hS3.1, own_nw hS3.2 hN52.md⟩
            refine ⟨hS3_12, ?_⟩
            refine lef 13 rfl (by kernel_rfl) (ap so35 (hD52.ou) rfl (by omega) rfl (Cells.of_blk hB52x) (rfl) (rfl) (by omega) (by omega) fun v53 w53 ho53 hM53 hz53 hf53 => ?_)
            have hT53 : TF w52 [47] (fun q => ov.ownBlock = some q) := TF.own hD52.ou rfl
            have hblk53 := hM53.blkT hT53 hD52.blk rfl
            have hwr53 := own_mdT hD52.wr hM53 hT53 rfl
            have hS3_13 : (fun w' => w'.heap[pf]? = some (.cells [.slice aa a.length cA, str ws, .int .i64 (k : Nat), wv, ov].toArray 63 (0, 0)) ∧ World.ownsRow w' w0.heap.size 5 1 wv t.length (U8 t)) w53 := ⟨hblk53, hwr53⟩
            refine ⟨hS3_13, ?_⟩
            refine lef 14 rfl (by kernel_rfl) (wpo_run (nc rfl) ⟨hS3_13, ?_⟩)
            refine lq 15 rfl (by kernel_rfl) (fun _ _ => fa fo63_4 rfl) hS3_13 ?_
            refine lel 16 rfl (by kernel_rfl) (by kernel_rfl) (stT cz35 rfl rfl (own_one ho53) hblk53 (by simp) fun w3 hM3 hB3 => ?_)
            have hT3 : TF w53 [65] (fun q => q = pf) := TF.eq (tag_cells hblk53) rfl
            have hDn : FD w3 w0.heap.size pf aa a.length cA ws k wv v53 t (out ++ own1 a ws k t i) := by
              rw [own1_yes hg32 (by omega)]
              refine ⟨hB3, hD.hp, own_mdT hwr53 hM3 hT3 rfl, ?_⟩
              rw [nfl_app, List.length_append]; exact own_mdT ho53 hM3 hT3 rfl
            have hMn : Md (FF pf wv ov) w w3 := Md.trans (Md.trans ((Md.trans hE0 hE52).mono (fun _ _ h => h.elim)) (hM53.mono (fun _ _ h => .inr (.inr h)))) (hM3.mono (fun _ _ h => .inl h))
            have hfn : ∀ q, FF pf wv v53 q → FF pf wv ov q ∨ w.heap.size ≤ q := fun q hq => by
              rcases hq with h | h | h
              · exact .inl (.inl h)
              · exact .inl (.inr (.inl h))
              · rcases hf53 q h with h | h
                · exact .inl (.inr (.inr h))
                · exact .inr (by omega)
            refine lnd (by kernel_rfl) ?_
            refine tn ?_
            exact ⟨wv, v53, hDn, hMn, hfn, rfl, rfl, rfl⟩
          · refine skp ?_
            refine tn ?_
            exact ⟨wv, ov, ((by rw [own1_no (fun h => by omega), List.append_nil]; exact hD0)), (hE0.mono (fun _ _ h => h.elim)), (fun q h => .inl h), rfl, rfl, rfl⟩
        · refine sk rfl rfl rfl rfl ?_
          refine sk rfl rfl rfl rfl ?_
          refine sk rfl rfl rfl rfl ?_
          refine sk rfl rfl rfl rfl ?_
          refine sk rfl rfl rfl rfl ?_
          refine sk rfl rfl rfl rfl ?_
          refine p (pkf rfl) ?_
          refine nl ?_
          refine tn (hK4 _ _ ?_)
          refine cf rfl ?_
          refine skp ?_
          refine tn ?_
          exact ⟨wv, ov, ((by rw [own1_no (fun h => by rw [hg32] at h; exact Bool.noConfusion h.1), List.append_nil]; exact hD0)), (hE0.mono (fun _ _ h => h.elim)), (fun q h => .inl h), rfl, rfl, rfl⟩
      rintro σ1 wC ⟨wv1, ov1, hD1, hM1, hf1, hs1_0, hs1_1, hs1_2⟩
      refine fx 0 hs1_0 (fx 1 hs1_1 (fx 2 hs1_2 ?_))
      have hEC : Wk w0 wC := Md.trans' hE hM1 (fun q h1 h2 => by have := (hD.lt h2).1; omega)
      refine sq (fun K3 hK3 => ?_)
      refine rg ?_
      refine p (mvt (.pointer (some ⟨pf, 0, none⟩)) rfl) ?_
      refine p (nc rfl) ?_
      refine p (fa fo63_0 rfl) ?_
      refine p (ld ag32 rfl (Blk.cel ⟨_, hD1.blk⟩ 0)) ?_
      refine p (mvt (.int .i64 i) rfl) ?_
      refine p (ia' es32 rfl rfl (by omega) (hA.ok (by omega))) ?_
      refine p (fa fo76_1 rfl) ?_
      refine p (ld ag74 rfl (hEC.cel h21)) ?_
      refine p (lnl u74 rfl rfl) ?_
      refine p mv ?_
      refine nl ?_
      refine tn (hK3 _ _ ?_)
      refine blk ?_
      refine lp (fun gm σ2 wM => ∃ (q : Nat) (wv2 ov2 : Value), (q ≤ (stOf a i).2.length) ∧ (Wk w0 wM) ∧ (Md (FF pf wv ov) w wM) ∧ (∀ q, FF pf wv2 ov2 q → FF pf wv ov q ∨ w.heap.size ≤ q) ∧ (FD wM w0.heap.size pf aa a.length cA ws k wv2 ov2 t (out ++ own1 a ws k t i ++ foundE a ws k t ((stOf a i).2.take q))) ∧ (σ2 0 = .pointer (some ⟨pf, 0, none⟩)) ∧ (σ2 1 = .int .i64 i) ∧ (σ2 2 = .slice ar (ws.length + 1) cr) ∧ (σ2 63 = .slice ea (stOf a i).2.length ec) ∧ (σ2 64 = .int .i64 (stOf a i).2.length) ∧ (σ2 65 = .int .i64 q) ∧ ((stOf a i).2.length - q = gm)) _ ⟨0, wv1, ov1, (by omega), hEC, hM1, hf1, ((by rw [List.take_zero]; unfold foundE; rw [List.flatMap_nil, List.append_nil]; exact hD1)), rfl, rfl, rfl, rfl, rfl, rfl, rfl⟩ ?_
      rintro gm σ2 wM ⟨q, wv2, ov2, hq, hEM, hMM, hf2, hD2, hs2_0, hs2_1, hs2_2, hs2_63, hs2_64, hs2_65, rfl⟩
      refine fx 0 hs2_0 (fx 1 hs2_1 (fx 2 hs2_2 (fx 63 hs2_63 (fx 64 hs2_64 (fx 65 hs2_65 ?_)))))
      refine sq (fun K4 hK4 => ?_)
      refine rg ?_
      refine p (lt rfl rfl) ?_
      refine nl ?_
      refine tn (hK4 _ _ ?_)
      refine sq (fun K5 hK5 => ?_)
      refine cd rfl (fun hc66 => ?_) (fun hc66 => ?_)
      · refine skp ?_
        refine tn (hK5 _ _ ?_)
        refine sq (fun K6 hK6 => ?_)
        refine blk ?_
        refine sq (fun K7 hK7 => ?_)
        obtain ⟨⟨c, z⟩, hek⟩ : ∃ e, (stOf a i).2[q]? = some e := ⟨_, List.getElem?_eq_getElem (by omega)⟩
        have hze := hS.edge hi (List.mem_of_getElem? hek)
        simp only at hze
        have hfl := foundE_le (a := a) (ws := ws) (t := t) (k := k) hek
        simp only at hfl
        have hfe2 : (foundE a ws k t (stOf a i).2).length = ((stOf a i).2.flatMap fun e => foundAt a ws k (t ++ [e.1]) e.2.toNat).length := rfl
        refine rg ?_
        refine p (ia' es74 rfl rfl (by omega) (hEd0.ok (by omega))) ?_
        refine p (lda ag81 rfl rfl (two_wk hEM (hEd0.two hek))) ?_
        refine e (alT zs81 fun b8 w8 hb8 hN8 hB8 => ?_)
        refine e (staT cz81 rfl rfl rfl rfl hB8 (by simp) fun w11 hM11 hB11 => ?_)
        have hB11x : Blk w11.heap b8 [Value.int .u8 c.toNat, .int .i64 z] := ⟨_, hB11⟩
        have hE11 : Wk wM w11 := Md.trans' hN8.md hM11 (fun k hk h => by omega)
        have hD11 := hD2.wk hE11
        have hs8 := hN8.size
        have hs11 := hM11.size
        have hsz11 := hE11.size
        refine nl ?_
        refine tn (hK7 _ _ ?_)
        refine sq (fun K8 hK8 => ?_)
        have hS7 : (fun w' => w'.heap[pf]? = some (.cells [.slice aa a.length cA, str ws, .int .i64 (k : Nat), wv2, ov2].toArray 63 (0, 0)) ∧ Blk w'.heap b8 [Value.int .u8 c.toNat, .int .i64 z]) w11.drew := ⟨hD11.blk, hB11x⟩
        refine lst (fun w' => w'.heap[pf]? = some (.cells [.slice aa a.length cA, str ws, .int .i64 (k : Nat), wv2, ov2].toArray 63 (0, 0)) ∧ Blk w'.heap b8 [Value.int .u8 c.toNat, .int .i64 z]) 11 wide hS7 ?_
        refine lq 0 rfl (by kernel_rfl) (fun _ _ => mvt (.pointer (some ⟨pf, 0, none⟩)) rfl) hS7 ?_
        refine lq 1 rfl (by kernel_rfl) (fun _ _ => mvt (.pointer (some ⟨pf, 0, none⟩)) rfl) hS7 ?_
        refine lq 2 rfl (by kernel_rfl) (fun _ _ => nc rfl) hS7 ?_
        refine lq 3 rfl (by kernel_rfl) (fun _ _ => fa fo63_3 rfl) hS7 ?_
        refine lq 4 rfl (by kernel_rfl) (fun w' hS => ld ag29 rfl (Blk.cel ⟨_, hS.1⟩ 3)) hS7 ?_
        refine lq 5 rfl (by kernel_rfl) (fun _ _ => fa fo81_0 rfl) hS7 ?_
        refine lq 6 rfl (by kernel_rfl) (fun w' hS => ld ag5 rfl (hS.2.cel 0)) hS7 ?_
        refine lef 7 rfl (by kernel_rfl) (bs1 so29 rfl rfl fun b76 w76 hb76 hN76 hB76 => ?_)
        have hE76 : Wk w11 w76 := Md.trans (Md.refl _ _).drew hN76.md
        have hD76 := hD11.wk hE76
        have hsz76 := hE76.size
        have hszEM := hEM.size
        have hS7_7 : (fun w' => w'.heap[pf]? = some (.cells [.slice aa a.length cA, str ws, .int .i64 (k : Nat), wv2, ov2].toArray 63 (0, 0)) ∧ Blk w'.heap b8 [Value.int .u8 c.toNat, .int .i64 z]) w76 := ⟨hN76.md.blk hS7.1, hN76.md.B hS7.2⟩
        refine ⟨hS7_7, ?_⟩
        refine lef 8 rfl (by kernel_rfl) (ap so29 (hD76.wr) rfl (by omega) rfl (Cells.of_blk hB76) (rfl) (rfl) (by omega) (by omega) fun v77 w77 ho77 hM77 hz77 hf77 => ?_)
        have hT77 : TF w76 [7] (fun q => wv2.ownBlock = some q) := TF.own hD76.wr rfl
        have hblk77 := hM77.blkT hT77 hD76.blk rfl
        have hou77 := own_mdT hD76.ou hM77 hT77 rfl
        have hb8_77 := hM77.B (hE76.B hB11x) (fun h => by have := (hD2.lt (.inr (.inl h))).2; omega)
        have hS7_8 : (fun w' => w'.heap[pf]? = some (.cells [.slice aa a.length cA, str ws, .int .i64 (k : Nat), wv2, ov2].toArray 63 (0, 0)) ∧ Blk w'.heap b8 [Value.int .u8 c.toNat, .int .i64 z]) w77 := ⟨hblk77, hb8_77⟩
        refine ⟨hS7_8, ?_⟩
        refine lef 9 rfl (by kernel_rfl) (wpo_run (nc rfl) ⟨hS7_8, ?_⟩)
        refine lq 10 rfl (by kernel_rfl) (fun _ _ => fa fo63_3 rfl) hS7_8 ?_
        refine lel 11 rfl (by kernel_rfl) (by kernel_rfl) (stT cz29 rfl rfl (own_one ho77) hblk77 (by simp) fun w7 hM7 hB7 => ?_)
        have hT7 : TF w77 [65] (fun q => q = pf) := TF.eq (tag_cells hblk77) rfl
        have hD7 : FD w7 w0.heap.size pf aa a.length cA ws k v77 ov2 (t ++ [c]) (out ++ own1 a ws k t i ++ foundE a ws k t ((stOf a i).2.take q)) := by
          refine ⟨hB7, hD.hp, ?_, own_mdT hou77 hM7 hT7 rfl⟩
          rw [U8_app, List.length_append]; exact own_mdT ho77 hM7 hT7 rfl
        have hb8_7 := hM7.B hb8_77 (fun h => by have := (hD2.lt (.inl h)).2; omega)
        have hMs7 : Md (FF pf wv2 ov2) wM w7 := Md.trans (Md.trans ((Md.trans hE11 hE76).mono (fun _ _ h => h.elim)) (hM77.mono (fun _ _ h => .inr (.inl h)))) (hM7.mono (fun _ _ h => .inl h))
        have hfs7 : ∀ q, FF pf v77 ov2 q → FF pf wv2 ov2 q ∨ wM.heap.size ≤ q := fun q hq => by
          rcases hq with h | h | h
          · exact .inl (.inl h)
          · rcases hf77 q h with h | h
            · exact .inl (.inr (.inl h))
            · exact .inr (by omega)
          · exact .inl (.inr (.inr h))
        have hMM7 : Md (FF pf wv ov) w w7 := FD.md hMM hf2 hMs7
        have hszM := hMM.size
        have hf7 := fr_trans hfs7 hf2 hszM
        have hR7 := Row.keep hR hD hMM7
        have hE7 : Wk w0 w7 := Md.trans' hE hMM7 (fun q h1 h2 => by have := (hD.lt h2).1; omega)
        refine lnd (by kernel_rfl) ?_
        refine tn (hK8 _ _ ?_)
        refine sq (fun K9 hK9 => ?_)
        have hS8 : (fun w' => cel w'.heap pf 1 = some (str ws) ∧ Blk w'.heap b8 [Value.int .u8 c.toNat, .int .i64 z]) w7.drew := ⟨Blk.cel ⟨_, hD7.blk⟩ 1, hb8_7⟩
        refine hst (fun w' => cel w'.heap pf 1 = some (str ws) ∧ Blk w'.heap b8 [Value.int .u8 c.toNat, .int .i64 z]) wide hS8 ?_
        refine hp 0 rfl (by kernel_rfl) (fun _ _ => mvt (.pointer (some ⟨pf, 0, none⟩)) rfl) hS8 ?_
        refine hp 1 rfl (by kernel_rfl) (fun _ _ => fa fo81_1 rfl) hS8 ?_
        refine hp 2 rfl (by kernel_rfl) (fun w' hS => ld ag3 rfl (show _ = some (Value.int .i64 ((z.toNat : Nat) : Int)) from (hS.2.cel 1).trans (congrArg (fun z => some (Value.int .i64 z)) (by omega)))) hS8 ?_
        refine hp 3 rfl (by kernel_rfl) (fun _ _ => mvt (.slice ar (ws.length + 1) cr) rfl) hS8 ?_
        refine hp 4 rfl (by kernel_rfl) (fun _ _ => mvt (.pointer (some ⟨pf, 0, none⟩)) rfl) hS8 ?_
        refine hp 5 rfl (by kernel_rfl) (fun _ _ => nc rfl) hS8 ?_
        refine hp 6 rfl (by kernel_rfl) (fun _ _ => fa fo63_1 rfl) hS8 ?_
        refine hp 7 rfl (by kernel_rfl) (fun w' hS => ld ag9 rfl (hS.1)) hS8 ?_
        refine hp 8 rfl (by kernel_rfl) (fun _ _ => fa fo81_0 rfl) hS8 ?_
        refine hp 9 rfl (by kernel_rfl) (fun w' hS => ld ag5 rfl (hS.2.cel 0)) hS8 ?_
        refine he 10 rfl (by kernel_rfl) (cl c20 (next_w ws t c ar cr _ (row_cells hR7) hws (by omega)) rfl fun v90 w90 hR90 => ?_)
        obtain ⟨hE90, hr90⟩ := hR90
        obtain ⟨ar2, cr2, rfl, _⟩ := hr90.of
        have hE90x : Wk w7 w90 := Md.drewL hE90
        have hS8_10 : (fun w' => cel w'.heap pf 1 = some (str ws) ∧ Blk w'.heap b8 [Value.int .u8 c.toNat, .int .i64 z]) w90 := ⟨hE90.cel hS8.1, hE90.B hS8.2⟩
        refine ⟨hS8_10, ?_⟩
        refine he 11 rfl (by kernel_rfl) (cl c23 (ih v77 ov2 (t ++ [c]) (out ++ own1 a ws k t i ++ foundE a ws k t ((stOf a i).2.take q)) z.toNat ar2 cr2 _ (Md.trans hE7 hE90x) (hD7.wk hE90x) (own_mono hr90 (by show w0.heap.size ≤ w7.heap.size; exact hE7.size)) (by omega) (by omega) (by rw [List.length_append, List.length_singleton]; omega) (by rw [List.length_append, List.length_append]; omega)) rfl fun v91 w91 hR91 => ?_)
        obtain ⟨_, wv3, ov3, hD3, hM91, hf91⟩ := hR91
        have hsz90 := hE90x.size
        have hMM91 : Md (FF pf wv ov) w w91 := FD.md (Md.trans' hMM7 hE90x (fun _ _ h => h.elim)) hf7 hM91
        have hsz7 := hMM7.size
        have hf91x := fr_trans hf91 hf7 (by omega)
        have hwr3 := hD3.wr
        rw [show (t ++ [c]).length = t.length + 1 by rw [List.length_append]; rfl] at hwr3
        obtain ⟨wa3, wc3, hwv3⟩ := own_slice hwr3
        have hcap3 := (own_cellsS (hwv3 ▸ hwr3)).1
        have hb8n : ¬ FF pf v77 ov2 b8 := fun h => by
          rcases h with h | h | h
          · have := (hD2.lt (.inl rfl)).2; omega
          · rcases hf77 b8 h with h | h
            · have := (hD2.lt (.inr (.inl h))).2; omega
            · omega
          · have := (hD2.lt (.inr (.inr h))).2; omega
        have hS8_11 : (fun w' => cel w'.heap pf 1 = some (str ws) ∧ Blk w'.heap b8 [Value.int .u8 c.toNat, .int .i64 z]) w91 := ⟨Blk.cel ⟨_, hD3.blk⟩ 1, hM91.B hS8_10.2 hb8n⟩
        refine ⟨hS8_11, ?_⟩
        refine hn (by kernel_rfl) ?_
        refine tn (hK9 _ _ ?_)
        have hS9 : (fun w' => w'.heap[pf]? = some (.cells [.slice aa a.length cA, str ws, .int .i64 (k : Nat), wv3, ov3].toArray 63 (0, 0))) w91.drew := hD3.blk
        refine lst (fun w' => w'.heap[pf]? = some (.cells [.slice aa a.length cA, str ws, .int .i64 (k : Nat), wv3, ov3].toArray 63 (0, 0))) 14 wide hS9 ?_
        refine lq 0 rfl (by kernel_rfl) (fun _ _ => mvt (.pointer (some ⟨pf, 0, none⟩)) rfl) hS9 ?_
        refine lq 1 rfl (by kernel_rfl) (fun _ _ => mvt (.pointer (some ⟨pf, 0, none⟩)) rfl) hS9 ?_
        refine lq 2 rfl (by kernel_rfl) (fun _ _ => nc rfl) hS9 ?_
        refine lq 3 rfl (by kernel_rfl) (fun _ _ => fa fo63_3 rfl) hS9 ?_
        refine lq 4 rfl (by kernel_rfl) (fun w' hS => ld ag29 rfl (show _ = some (Value.slice wa3 (t.length + 1) wc3) from hwv3 ▸ Blk.cel ⟨_, hS⟩ 3)) hS9 ?_
        refine lq 5 rfl (by kernel_rfl) (fun _ _ => mvt (.pointer (some ⟨pf, 0, none⟩)) rfl) hS9 ?_
        refine lq 6 rfl (by kernel_rfl) (fun _ _ => nc rfl) hS9 ?_
        refine lq 7 rfl (by kernel_rfl) (fun _ _ => fa fo63_3 rfl) hS9 ?_
        refine lq 8 rfl (by kernel_rfl) (fun w' hS => ld ag29 rfl (show _ = some (Value.slice wa3 (t.length + 1) wc3) from hwv3 ▸ Blk.cel ⟨_, hS⟩ 3)) hS9 ?_
        refine lq 9 rfl (by kernel_rfl) (fun _ _ => lnl u29 rfl rfl) hS9 ?_
        refine lq 10 rfl (by kernel_rfl) (fun _ _ => sbv ((t.length : Nat) : Int) rfl rfl (w64n (by omega) (by omega))) hS9 ?_
        refine lq 11 rfl (by kernel_rfl) (fun _ _ => sllh es29 rfl rfl (by omega)) hS9 ?_
        refine lef 12 rfl (by kernel_rfl) (wpo_run (nc rfl) ⟨hS9, ?_⟩)
        refine lq 13 rfl (by kernel_rfl) (fun _ _ => fa fo63_3 rfl) hS9 ?_
        refine lel 14 rfl (by kernel_rfl) (by kernel_rfl) (stT cz29 rfl rfl rfl hS9 (by simp) fun w9 hM9 hB9 => ?_)
        have hT9 : TF w91 [65] (fun q => q = pf) := TF.eq (tag_cells hD3.blk) rfl
        have hD9 : FD w9 w0.heap.size pf aa a.length cA ws k (.slice wa3 t.length wc3) ov3 t (out ++ own1 a ws k t i ++ foundE a ws k t ((stOf a i).2.take (q + 1))) := by
          rw [foundE_step hek, ← List.append_assoc]
          refine ⟨hB9, hD.hp, ?_, own_mdT hD3.ou (Md.drewL hM9) hT9 rfl⟩
          have h9 := own_cut (hwv3 ▸ hwr3) (k := t.length) (by omega) (by omega)
          rw [U8_take] at h9
          exact own_mdT h9 (Md.drewL hM9) hT9 rfl
        have hMM9 : Md (FF pf wv ov) w w9 := Md.trans hMM91 ((Md.drewL hM9).mono (fun _ _ h => .inl h))
        have hE9 : Wk w0 w9 := Md.trans' hE hMM9 (fun q h1 h2 => by have := (hD.lt h2).1; omega)
        have hf9 : ∀ q, FF pf (Value.slice wa3 t.length wc3) ov3 q → FF pf wv ov q ∨ w.heap.size ≤ q := fun q hq => hf91x q (by
          rcases hq with h | h | h
          · exact .inl h
          · exact .inr (.inl (by rw [hwv3, own_ob]; exact h))
          · exact .inr (.inr h))
        refine lnd (by kernel_rfl) ?_
        refine bn ?_
        refine tn (hK6 _ _ ?_)
        refine rg ?_
        refine p (ad rfl rfl (wi64 (by omega))) ?_
        refine p mv ?_
        refine nl ?_
        refine tn ?_
        exact ⟨_, by omega, q + 1, .slice wa3 t.length wc3, ov3, (by omega), hE9, hMM9, hf9, hD9, rfl, rfl, rfl, rfl, rfl, rfl, rfl⟩
      · refine ext ?_
        refine te _ ?_
        refine te _ ?_
        refine be ?_
        refine f0 rfl ?_
        rw [show q = (stOf a i).2.length by omega, List.take_length, List.append_assoc] at hD2
        exact ⟨rfl, wv2, ov2, by rw [hFe]; exact hD2, hMM, hf2⟩
end Go.Hb.Find
