/-
  Walks of near.Distance with begin and next, and of the document's table (hornbookref23.Distance). No conditions but those that each theorem names.
-/
import Derived.Test.YtbfcjgfnlcbojaaChecked
import Derived.Test.YtbfcjgfnlcbojaaCore
import Derived.Test.YtbfcjgfnlcbojaaPlan
import Derived.Test.YtbfcjgfnlcbojaaNrp
set_option maxRecDepth 20000
set_option linter.unusedVariables false
namespace Go.Hb.Dist
open Go.Proofs
theorem ag3 : aggN Try.prog 3 = some none := by kernel_rfl
theorem ag54 : aggN Try.prog 54 = some none := by kernel_rfl
theorem c19 : Callable Try.prog 19 := callable Try.func19 (by kernel_rfl) (by kernel_rfl)
theorem c20 : Callable Try.prog 20 := callable Try.func20 (by kernel_rfl) (by kernel_rfl)
theorem c21 : Callable Try.prog 21 := callable Try.func21 (by kernel_rfl) (by kernel_rfl)
theorem cz3 : cellsN Try.prog 3 = some 1 := by kernel_rfl
theorem es54 : elemSize Try.prog 54 = some 1 := by kernel_rfl
theorem es57 : elemSize Try.prog 57 = some 1 := by kernel_rfl
theorem so54 : sliceOk Try.prog 54 3 1 8 = true := by kernel_rfl
theorem so57 : sliceOk Try.prog 57 54 1 24 = true := by kernel_rfl
theorem u9 : Try.prog.underlying 9 = some (.string) := by kernel_rfl
theorem u54 : Try.prog.underlying 54 = some (.slice 3) := by kernel_rfl
theorem wide : Try.prog.follows .mixedOrders = true := by kernel_rfl

/-- the row behind a row, up to a place -/
def nrow (ws t : List UInt8) (b : UInt8) (i j : Nat) : Nat := if j ≤ i then dd ws (t ++ [b]) j (t.length + 1) else 0
theorem nrow_end (ws t : List UInt8) (b : UInt8) : tab (ws.length + 1) (nrow ws t b ws.length) = rowOf ws (t ++ [b]) := by
  unfold rowOf nrow
  refine tab_ext fun i hi => ?_
  rw [if_pos (by omega), List.length_append]; rfl
theorem dd_next (ws t : List UInt8) (b : UInt8) (i : Nat) : dd ws (t ++ [b]) (i + 1) (t.length + 1) = min (min (dd ws t i t.length + ch1 (ws.getD i 0) b) (dd ws t (i + 1) t.length + 1)) (dd ws (t ++ [b]) i (t.length + 1) + 1) := by
  rw [dd_s, dd_snoc _ _ _ _ _ (Nat.le_refl _), dd_snoc _ _ _ _ _ (Nat.le_refl _)]
  simp
theorem nrow_old {ws t : List UInt8} {b : UInt8} {i : Nat} (j : Nat) (h : j ≠ i + 1) : nrow ws t b (i + 1) j = nrow ws t b i j := by
  unfold nrow
  by_cases h1 : j ≤ i
  · rw [if_pos h1, if_pos (by omega)]
  · rw [if_neg h1, if_neg (by omega)]
theorem nrow_new (ws t : List UInt8) (b : UInt8) (i : Nat) : nrow ws t b i i = dd ws (t ++ [b]) i (t.length + 1) := if_pos (Nat.le_refl _)
/-- a row of numbers that the call owns -/
def Row (w : World) (B : Nat) (v : Value) (r : List Nat) : Prop := World.ownsRow w B 3 1 v r.length (r.map nv)
theorem Row.sl {w : World} {B : Nat} {v : Value} {r : List Nat} (h : Row w B v r) : ∃ a c, v = .slice a r.length c ∧ Cells w.heap a (r.map nv) := by
  obtain ⟨a, c, hv, hc, _⟩ := own_cells h
  exact ⟨a, c, hv, hc⟩
theorem rowOf_len (ws t : List UInt8) : (rowOf ws t).length = ws.length + 1 := tab_len _ _

theorem begin_w (ws : List UInt8) (w : World) (hl : ws.length ≤ 1073741824) :
    Ret Try.prog 19 (List.toArray [str ws]) w (fun v w' => Wk w w' ∧ Row w' w.heap.size v (rowOf ws [])) := by
  refine enter Try.func19 rfl Try.ntmps19 rfl ?_
  refine sq (fun K1 hK1 => ?_)
  refine rg ?_
  refine p asg ?_
  refine nl ?_
  refine tn (hK1 _ _ ?_)
  refine sq (fun K2 hK2 => ?_)
  refine rg ?_
  refine p (mvt (str ws) rfl) ?_
  refine p (lns u9 rfl rfl) ?_
  refine p (adv ((ws.length + 1 : Nat) : Int) rfl rfl (w64n (by omega) (by omega))) ?_
  refine e (mks (zv := .int .i64 0) so54 rfl rfl rfl rfl (by omega) (by unfold maxLen; omega) fun bm w8 hb8 hN8 ho8 => ?_)
  have hO8 := ho8 w.heap.size (by omega)
  rw [rep_nv] at hO8
  refine p asg ?_
  refine nl ?_
  refine tn (hK2 _ _ ?_)
  refine sq (fun K3 hK3 => ?_)
  refine sq (fun K4 hK4 => ?_)
  refine rg ?_
  refine p mv ?_
  refine p (lnl u54 rfl rfl) ?_
  refine p mv ?_
  refine nl ?_
  refine tn (hK4 _ _ ?_)
  refine blk ?_
  refine lp (fun gm σ1 wL => ∃ (i : Nat), (i ≤ ws.length + 1) ∧ (Wk w wL) ∧ (World.ownsRow wL w.heap.size 3 1 (.slice (some ⟨bm, 0, none⟩) (ws.length + 1) (ws.length + 1)) (ws.length + 1) ((tab (ws.length + 1) (fun j => if j < i then j else 0)).map nv)) ∧ (σ1 0 = str ws) ∧ (σ1 3 = .slice (some ⟨bm, 0, none⟩) (ws.length + 1) (ws.length + 1)) ∧ (σ1 10 = .int .i64 (ws.length + 1 : Nat)) ∧ (σ1 11 = .int .i64 i) ∧ (ws.length + 1 - i = gm)) _ ⟨0, (by omega), hN8.md, ((by simpa using hO8)), rfl, rfl, rfl, rfl, rfl⟩ ?_
  rintro gm σ1 wL ⟨i, hi, hE, hO, hs1_0, hs1_3, hs1_10, hs1_11, rfl⟩
  refine fx 0 hs1_0 (fx 3 hs1_3 (fx 10 hs1_10 (fx 11 hs1_11 ?_)))
  refine sq (fun K5 hK5 => ?_)
  refine rg ?_
  refine p (lt rfl rfl) ?_
  refine nl ?_
  refine tn (hK5 _ _ ?_)
  refine sq (fun K6 hK6 => ?_)
  refine cd rfl (fun hc12 => ?_) (fun hc12 => ?_)
  · refine skp ?_
    refine tn (hK6 _ _ ?_)
    refine sq (fun K7 hK7 => ?_)
    refine blk ?_
    refine sq (fun K8 hK8 => ?_)
    refine rg ?_
    refine p (mvt (.int .i64 i) rfl) ?_
    refine p (ast (.int .i64 i) rfl) ?_
    refine nl ?_
    refine tn (hK8 _ _ ?_)
    refine rg ?_
    refine p (mvt (.slice (some ⟨bm, 0, none⟩) (ws.length + 1) (ws.length + 1)) rfl) ?_
    refine p (mvt (.int .i64 i) rfl) ?_
    refine p (mvt (.int .i64 i) rfl) ?_
    refine p (ia es54 rfl rfl (by omega)) ?_
    refine e (stn (i := i) (v := i) hO (fun j => if j < i + 1 then j else 0) cz3 rfl rfl rfl (by omega) (if_pos (by omega)) (fun j _ h => by split <;> split <;> omega) fun w5 hM5 ho5 => ?_)
    have hE5 : Wk w w5 := Wk.own hE hO hM5 (Nat.le_refl _)
    refine nl ?_
    refine bn ?_
    refine tn (hK7 _ _ ?_)
    refine rg ?_
    refine p (ad rfl rfl (wi64 (by omega))) ?_
    refine p mv ?_
    refine nl ?_
    refine tn ?_
    exact ⟨_, by omega, i + 1, (by omega), hE5, ho5, rfl, rfl, rfl, rfl, rfl⟩
  · refine ext ?_
    refine te _ ?_
    refine te _ ?_
    refine be ?_
    refine tn (hK3 _ _ ?_)
    refine sq (fun K7 hK7 => ?_)
    refine rg ?_
    refine p (mvt (.slice (some ⟨bm, 0, none⟩) (ws.length + 1) (ws.length + 1)) rfl) ?_
    refine p (ast (.slice (some ⟨bm, 0, none⟩) (ws.length + 1) (ws.length + 1)) rfl) ?_
    refine nl ?_
    refine tn (hK7 _ _ ?_)
    refine rt ?_
    refine f1 rfl rfl ?_
    have hq : tab (ws.length + 1) (fun j => if j < i then j else 0) = rowOf ws [] := tab_ext fun j hj => by rw [if_pos (by omega)]; exact (dd_i0 _ _ _).symm
    rw [hq] at hO
    exact ⟨hE, by unfold Row; rw [rowOf_len]; exact hO⟩
theorem next_w (ws t : List UInt8) (b : UInt8) (ar : Option Addr) (cr : Nat) (w : World) (hR : Cells w.heap ar ((rowOf ws t).map nv)) (hl : ws.length ≤ 1073741824) (ht : t.length ≤ 1073741824) :
    Ret Try.prog 20 (List.toArray [.slice ar (ws.length + 1) cr, str ws, .int .u8 b.toNat]) w (fun v w' => Wk w w' ∧ Row w' w.heap.size v (rowOf ws (t ++ [b]))) := by
  have hbd : ∀ i k, i ≤ ws.length → k ≤ t.length + 1 → dd ws t i k ≤ 1073741825 := fun i k hi hk => by have := dd_le ws t i k; omega
  have hbd2 : ∀ i k, i ≤ ws.length → k ≤ t.length + 1 → dd ws (t ++ [b]) i k ≤ 1073741825 := fun i k hi hk => by have := dd_le ws (t ++ [b]) i k; omega
  refine enter Try.func20 rfl Try.ntmps20 rfl ?_
  refine sq (fun K1 hK1 => ?_)
  refine rg ?_
  refine p asg ?_
  refine nl ?_
  refine tn (hK1 _ _ ?_)
  refine sq (fun K2 hK2 => ?_)
  refine rg ?_
  refine p (mvt (.slice ar (ws.length + 1) cr) rfl) ?_
  refine p (lnl u54 rfl rfl) ?_
  refine e (mks (zv := .int .i64 0) so54 rfl rfl rfl rfl (by omega) (by unfold maxLen; omega) fun bm w8 hb8 hN8 ho8 => ?_)
  have hO8 := ho8 w.heap.size (by omega)
  rw [rep_nv] at hO8
  have hR8 := hR.wk hN8.md
  have h00 := hbd 0 t.length (by omega) (by omega)
  refine p asg ?_
  refine nl ?_
  refine tn (hK2 _ _ ?_)
  refine sq (fun K3 hK3 => ?_)
  refine rg ?_
  refine p mv ?_
  refine p (mvt (.slice ar (ws.length + 1) cr) rfl) ?_
  refine p (ia' es54 rfl rfl (by omega) (Cells.ok (hR8) (ne_tab (by omega)))) ?_
  refine p (ld ag3 rfl (tab_cel hR8 (i := 0) (by omega))) ?_
  refine p (adv ((dd ws t 0 t.length + 1 : Nat) : Int) rfl rfl (w64n (by omega) (by omega))) ?_
  refine p (ia es54 rfl rfl (by omega)) ?_
  refine e (stn (i := 0) (v := dd ws t 0 t.length + 1) hO8 (nrow ws t b 0) cz3 rfl rfl rfl (by omega) (by rw [nrow_new, dd_0, dd_0]) (fun j _ h => by unfold nrow; rw [if_neg (by omega)]) fun w2 hM2 ho2 => ?_)
  have hE2 : Wk w w2 := Wk.own hN8.md hO8 hM2 (Nat.le_refl _)
  refine nl ?_
  refine tn (hK3 _ _ ?_)
  refine sq (fun K4 hK4 => ?_)
  refine sq (fun K5 hK5 => ?_)
  refine rg ?_
  refine p (mvt (str ws) rfl) ?_
  refine p (lns u9 rfl rfl) ?_
  refine p mv ?_
  refine nl ?_
  refine tn (hK5 _ _ ?_)
  refine blk ?_
  refine lp (fun gm σ1 wL => ∃ (i : Nat), (i ≤ ws.length) ∧ (Wk w wL) ∧ (World.ownsRow wL w.heap.size 3 1 (.slice (some ⟨bm, 0, none⟩) (ws.length + 1) (ws.length + 1)) (ws.length + 1) ((tab (ws.length + 1) (nrow ws t b i)).map nv)) ∧ (σ1 0 = .slice ar (ws.length + 1) cr) ∧ (σ1 1 = str ws) ∧ (σ1 2 = .int .u8 b.toNat) ∧ (σ1 7 = .slice (some ⟨bm, 0, none⟩) (ws.length + 1) (ws.length + 1)) ∧ (σ1 20 = .int .i64 ws.length) ∧ (σ1 21 = .int .i64 i) ∧ (ws.length - i = gm)) _ ⟨0, (by omega), hE2, ho2, rfl, rfl, rfl, rfl, rfl, rfl, rfl⟩ ?_
  rintro gm σ1 wL ⟨i, hi, hE, hO, hs1_0, hs1_1, hs1_2, hs1_7, hs1_20, hs1_21, rfl⟩
  refine fx 0 hs1_0 (fx 1 hs1_1 (fx 2 hs1_2 (fx 7 hs1_7 (fx 20 hs1_20 (fx 21 hs1_21 ?_)))))
  refine sq (fun K6 hK6 => ?_)
  refine rg ?_
  refine p (lt rfl rfl) ?_
  refine nl ?_
  refine tn (hK6 _ _ ?_)
  refine sq (fun K7 hK7 => ?_)
  refine cd rfl (fun hc22 => ?_) (fun hc22 => ?_)
  · refine skp ?_
    refine tn (hK7 _ _ ?_)
    refine sq (fun K8 hK8 => ?_)
    refine blk ?_
    refine sq (fun K9 hK9 => ?_)
    refine rg ?_
    refine p (mvt (.int .i64 i) rfl) ?_
    refine p (ast (.int .i64 i) rfl) ?_
    refine nl ?_
    refine tn (hK9 _ _ ?_)
    refine sq (fun K10 hK10 => ?_)
    have hRL := hR.wk hE
    have hb1 := hbd i t.length (by omega) (by omega)
    have hb2 := hbd (i + 1) t.length (by omega) (by omega)
    have hb3 := hbd2 i (t.length + 1) (by omega) (by omega)
    refine rg ?_
    refine p (mvt (.slice ar (ws.length + 1) cr) rfl) ?_
    refine p (mvt (.int .i64 i) rfl) ?_
    refine p (ia' es54 rfl rfl (by omega) (Cells.ok (hRL) (ne_tab (by omega)))) ?_
    refine p (ld ag3 rfl (tab_cel hRL (i := i) (by omega))) ?_
    refine p asg ?_
    refine nl ?_
    refine tn (hK10 _ _ ?_)
    refine sq (fun K11 hK11 => ?_)
    refine sq (fun K12 hK12 => ?_)
    refine rg ?_
    refine p (mvt (str ws) rfl) ?_
    refine p (mvt (.int .i64 i) rfl) ?_
    refine p (ixs u9 rfl rfl (by omega)) ?_
    refine p (mvt (.int .u8 b.toNat) rfl) ?_
    refine p (nei rfl rfl) ?_
    refine nl ?_
    refine tn (hK12 _ _ ?_)
    refine cd rfl (fun hc32 => ?_) (fun hc32 => ?_)
    · have hch : ch1 (ws.getD i 0) b = 1 := if_neg (fun e => hc32 (by rw [← e]; rfl))
      refine rg ?_
      refine p mv ?_
      refine p (ad rfl rfl (wi64 (by omega))) ?_
      refine p asg ?_
      refine nl ?_
      refine tn (hK11 _ _ ?_)
      have hS9 : (fun w' => Wk wL w') wL.drew := (Md.refl _ _).drew
      refine lst (fun w' => Wk wL w') 17 wide hS9 ?_
      refine lq 0 rfl (by kernel_rfl) (fun _ _ => mvt (.slice (some ⟨bm, 0, none⟩) (ws.length + 1) (ws.length + 1)) rfl) hS9 ?_
      refine lq 1 rfl (by kernel_rfl) (fun _ _ => mvt (.int .i64 i) rfl) hS9 ?_
      refine lq 2 rfl (by kernel_rfl) (fun _ _ => adv ((i + 1 : Nat) : Int) rfl rfl (w64n (by omega) (by omega))) hS9 ?_
      refine lq 3 rfl (by kernel_rfl) (fun _ _ => mv) hS9 ?_
      refine lq 4 rfl (by kernel_rfl) (fun _ _ => mvt (.slice ar (ws.length + 1) cr) rfl) hS9 ?_
      refine lq 5 rfl (by kernel_rfl) (fun _ _ => mvt (.int .i64 i) rfl) hS9 ?_
      refine lq 6 rfl (by kernel_rfl) (fun _ _ => adv ((i + 1 : Nat) : Int) rfl rfl (w64n (by omega) (by omega))) hS9 ?_
      refine lq 7 rfl (by kernel_rfl) (fun _ _ => ia' es54 rfl rfl (by omega) (Cells.ok (hRL) (ne_tab (by omega)))) hS9 ?_
      refine lq 8 rfl (by kernel_rfl) (fun w' hS => ld ag3 rfl (Wk.cel hS (tab_cel hRL (i := i + 1) (by omega)))) hS9 ?_
      refine lq 9 rfl (by kernel_rfl) (fun _ _ => adv ((dd ws t (i + 1) t.length + 1 : Nat) : Int) rfl rfl (w64n (by omega) (by omega))) hS9 ?_
      refine lq 10 rfl (by kernel_rfl) (fun _ _ => mvt (.slice (some ⟨bm, 0, none⟩) (ws.length + 1) (ws.length + 1)) rfl) hS9 ?_
      refine lq 11 rfl (by kernel_rfl) (fun _ _ => mvt (.int .i64 i) rfl) hS9 ?_
      refine lq 12 rfl (by kernel_rfl) (fun _ _ => ia es54 rfl rfl (by omega)) hS9 ?_
      refine lq 13 rfl (by kernel_rfl) (fun w' hS => ld ag3 rfl (Wk.cel hS (show _ = some (Value.int .i64 ((dd ws (t ++ [b]) i (t.length + 1) : Nat) : Int)) from by rw [← nrow_new]; exact tab_cel (own_cellsS hO).2 (by omega)))) hS9 ?_
      refine lq 14 rfl (by kernel_rfl) (fun _ _ => adv ((dd ws (t ++ [b]) i (t.length + 1) + 1 : Nat) : Int) rfl rfl (w64n (by omega) (by omega))) hS9 ?_
      refine lq 15 rfl (by kernel_rfl) (fun _ _ => mn3 rfl rfl rfl) hS9 ?_
      refine lq 16 rfl (by kernel_rfl) (fun _ _ => ia es54 rfl rfl (by omega)) hS9 ?_
      refine lel 17 rfl (by kernel_rfl) (by kernel_rfl) (stn (i := i + 1) (v := dd ws (t ++ [b]) (i + 1) (t.length + 1)) (own_nw hO hS9) (nrow ws t b (i + 1)) cz3 rfl (iv (by rw [dd_next, hch]; omega)) rfl (by omega) (nrow_new _ _ _ _) (fun j _ h => nrow_old j h) fun w9 hM9 ho9 => ?_)
      have hE9 : Wk w w9 := Wk.own hE.drew hO hM9 (Nat.le_refl _)
      refine lnd (by kernel_rfl) ?_
      refine bn ?_
      refine tn (hK8 _ _ ?_)
      refine rg ?_
      refine p (ad rfl rfl (wi64 (by omega))) ?_
      refine p mv ?_
      refine nl ?_
      refine tn ?_
      exact ⟨_, by omega, i + 1, (by omega), hE9, ho9, rfl, rfl, rfl, rfl, rfl, rfl, rfl⟩
    · have hch : ch1 (ws.getD i 0) b = 0 := if_pos (u8eq (Classical.not_not.1 hc32))
      refine skp ?_
      refine tn (hK11 _ _ ?_)
      have hS9 : (fun w' => Wk wL w') wL.drew := (Md.refl _ _).drew
      refine lst (fun w' => Wk wL w') 17 wide hS9 ?_
      refine lq 0 rfl (by kernel_rfl) (fun _ _ => mvt (.slice (some ⟨bm, 0, none⟩) (ws.length + 1) (ws.length + 1)) rfl) hS9 ?_
      refine lq 1 rfl (by kernel_rfl) (fun _ _ => mvt (.int .i64 i) rfl) hS9 ?_
      refine lq 2 rfl (by kernel_rfl) (fun _ _ => adv ((i + 1 : Nat) : Int) rfl rfl (w64n (by omega) (by omega))) hS9 ?_
      refine lq 3 rfl (by kernel_rfl) (fun _ _ => mv) hS9 ?_
      refine lq 4 rfl (by kernel_rfl) (fun _ _ => mvt (.slice ar (ws.length + 1) cr) rfl) hS9 ?_
      refine lq 5 rfl (by kernel_rfl) (fun _ _ => mvt (.int .i64 i) rfl) hS9 ?_
      refine lq 6 rfl (by kernel_rfl) (fun _ _ => adv ((i + 1 : Nat) : Int) rfl rfl (w64n (by omega) (by omega))) hS9 ?_
      refine lq 7 rfl (by kernel_rfl) (fun _ _ => ia' es54 rfl rfl (by omega) (Cells.ok (hRL) (ne_tab (by omega)))) hS9 ?_
      refine lq 8 rfl (by kernel_rfl) (fun w' hS => ld ag3 rfl (Wk.cel hS (tab_cel hRL (i := i + 1) (by omega)))) hS9 ?_
      refine lq 9 rfl (by kernel_rfl) (fun _ _ => adv ((dd ws t (i + 1) t.length + 1 : Nat) : Int) rfl rfl (w64n (by omega) (by omega))) hS9 ?_
      refine lq 10 rfl (by kernel_rfl) (fun _ _ => mvt (.slice (some ⟨bm, 0, none⟩) (ws.length + 1) (ws.length + 1)) rfl) hS9 ?_
      refine lq 11 rfl (by kernel_rfl) (fun _ _ => mvt (.int .i64 i) rfl) hS9 ?_
      refine lq 12 rfl (by kernel_rfl) (fun _ _ => ia es54 rfl rfl (by omega)) hS9 ?_
      refine lq 13 rfl (by kernel_rfl) (fun w' hS => ld ag3 rfl (Wk.cel hS (show _ = some (Value.int .i64 ((dd ws (t ++ [b]) i (t.length + 1) : Nat) : Int)) from by rw [← nrow_new]; exact tab_cel (own_cellsS hO).2 (by omega)))) hS9 ?_
      refine lq 14 rfl (by kernel_rfl) (fun _ _ => adv ((dd ws (t ++ [b]) i (t.length + 1) + 1 : Nat) : Int) rfl rfl (w64n (by omega) (by omega))) hS9 ?_
      refine lq 15 rfl (by kernel_rfl) (fun _ _ => mn3 rfl rfl rfl) hS9 ?_
      refine lq 16 rfl (by kernel_rfl) (fun _ _ => ia es54 rfl rfl (by omega)) hS9 ?_
      refine lel 17 rfl (by kernel_rfl) (by kernel_rfl) (stn (i := i + 1) (v := dd ws (t ++ [b]) (i + 1) (t.length + 1)) (own_nw hO hS9) (nrow ws t b (i + 1)) cz3 rfl (iv (by rw [dd_next, hch]; omega)) rfl (by omega) (nrow_new _ _ _ _) (fun j _ h => nrow_old j h) fun w9 hM9 ho9 => ?_)
      have hE9 : Wk w w9 := Wk.own hE.drew hO hM9 (Nat.le_refl _)
      refine lnd (by kernel_rfl) ?_
      refine bn ?_
      refine tn (hK8 _ _ ?_)
      refine rg ?_
      refine p (ad rfl rfl (wi64 (by omega))) ?_
      refine p mv ?_
      refine nl ?_
      refine tn ?_
      exact ⟨_, by omega, i + 1, (by omega), hE9, ho9, rfl, rfl, rfl, rfl, rfl, rfl, rfl⟩
  · refine ext ?_
    refine te _ ?_
    refine te _ ?_
    refine be ?_
    refine tn (hK4 _ _ ?_)
    refine sq (fun K8 hK8 => ?_)
    refine rg ?_
    refine p (mvt (.slice (some ⟨bm, 0, none⟩) (ws.length + 1) (ws.length + 1)) rfl) ?_
    refine p (ast (.slice (some ⟨bm, 0, none⟩) (ws.length + 1) (ws.length + 1)) rfl) ?_
    refine nl ?_
    refine tn (hK8 _ _ ?_)
    refine rt ?_
    refine f1 rfl rfl ?_
    rw [show i = ws.length by omega, nrow_end] at hO
    exact ⟨hE, by unfold Row; rw [rowOf_len]; exact hO⟩

theorem Row.of {w : World} {B : Nat} {v : Value} {ws t : List UInt8} (h : Row w B v (rowOf ws t)) : ∃ a c, v = .slice a (ws.length + 1) c ∧ Cells w.heap a ((rowOf ws t).map nv) := by
  obtain ⟨a, c, hv, hc⟩ := h.sl
  exact ⟨a, c, by rw [hv, rowOf_len], hc⟩
theorem rowOf_snoc (ws b : List UInt8) (i : Nat) (h : i < b.length) : rowOf ws (b.take i ++ [b.getD i 0]) = rowOf ws (b.take (i + 1)) := by rw [take_succ_getD b i 0 h]
theorem take_min (l : List UInt8) (n : Nat) (i : Int) (h : i = min (l.length : Int) n) : l.take i.toNat = l.take n := by
  rw [show i.toNat = min n l.length by omega]
  exact (List.take_eq_take_min).symm
/-- the document's table, row by row -/
def Tbl (a b : List UInt8) (w : World) (B : Nat) (v : Value) (rows : List Value) : Prop := World.ownsRow w B 54 1 v rows.length rows ∧ ∀ j vj, rows[j]? = some vj → Row w B vj (tab (b.length + 1) (dd a b j))
theorem Tbl.wk {a b : List UInt8} {w w' : World} {B : Nat} {v : Value} {rows : List Value} (h : Tbl a b w B v rows) (hm : Wk w w') : Tbl a b w' B v rows := ⟨own_nw h.1 hm, fun j vj hj => own_nw (h.2 j vj hj) hm⟩
theorem Tbl.get {a b : List UInt8} {w : World} {B : Nat} {v : Value} {rows : List Value} (h : Tbl a b w B v rows) {j : Nat} (hj : j < rows.length) : ∃ ap cp, rows[j]? = some (.slice ap (b.length + 1) cp) ∧ Cells w.heap ap ((tab (b.length + 1) (dd a b j)).map nv) := by
  have h1 := List.getElem?_eq_getElem hj
  obtain ⟨ap, cp, hv, hc⟩ := (h.2 j _ h1).sl
  rw [tab_len] at hv
  exact ⟨ap, cp, by rw [h1, hv], hc⟩
theorem Tbl.cells {a b : List UInt8} {w : World} {B n c : Nat} {ad : Option Addr} {rows : List Value} (h : Tbl a b w B (.slice ad n c) rows) (hn : n = rows.length) : Cells w.heap ad rows := by subst hn; exact (own_cellsS h.1).2
theorem Tbl.add {a b : List UInt8} {w w' : World} {B : Nat} {v v' vn : Value} {rows : List Value} (h : Tbl a b w B v rows) (hr : Row w B vn (tab (b.length + 1) (dd a b rows.length))) (ho : World.ownsRow w' B 54 1 v' (rows.length + 1) (rows ++ [vn])) (hm : Md (fun k => v.ownBlock = some k) w w') : Tbl a b w' B v' (rows ++ [vn]) := by
  have hk : ∀ (vj : Value) r, Row w B vj r → Row w' B vj r := fun vj r hj => own_md hj hm (fun k hk hf => own_ne hj h.1 (by decide) hk hf)
  refine ⟨by rw [List.length_append]; exact ho, fun j vj hj => ?_⟩
  rw [List.getElem?_append] at hj
  split at hj
  · exact hk _ _ (h.2 j vj hj)
  · rename_i hn
    obtain ⟨h1, h2⟩ := List.getElem?_eq_some_iff.1 hj
    simp only [List.length_singleton] at h1
    have : j = rows.length := by omega
    subst this
    simp only [List.getElem_singleton] at h2
    subst h2
    exact hk _ _ hr
theorem ne_rows {rows : List Value} (h : 0 < rows.length) : rows ≠ [] := by rintro rfl; simp at h

theorem dist_w (a b : List UInt8) (w : World) (hl : a.length ≤ 1073741824) (hl2 : b.length ≤ 1073741824) :
    Ret Try.prog 10 (List.toArray [str a, str b]) w (fun v w' => v = .int .i64 (dist a b : Nat) ∧ Wk w w') := by
  refine enter Try.func10 rfl Try.ntmps10 rfl ?_
  refine sq (fun K1 hK1 => ?_)
  refine rg ?_
  refine p asg ?_
  refine nl ?_
  refine tn (hK1 _ _ ?_)
  refine sq (fun K2 hK2 => ?_)
  refine rg ?_
  refine p (mvt (str a) rfl) ?_
  refine e (cl c19 (begin_w a _ (by omega)) rfl fun v8 w8 hR8 => ?_)
  obtain ⟨hE8, hr8⟩ := hR8
  obtain ⟨ar, cr, rfl, hc8⟩ := hr8.of
  refine p asg ?_
  refine nl ?_
  refine tn (hK2 _ _ ?_)
  refine sq (fun K3 hK3 => ?_)
  refine sq (fun K4 hK4 => ?_)
  refine rg ?_
  refine p (mvt (str b) rfl) ?_
  refine p (lns u9 rfl rfl) ?_
  refine p mv ?_
  refine nl ?_
  refine tn (hK4 _ _ ?_)
  refine blk ?_
  refine lp (fun gm σ1 wL => ∃ (i : Nat) (ar : Option Addr) (cr : Nat), (i ≤ b.length) ∧ (Wk w wL) ∧ (Cells (wL).heap ar ((rowOf a (b.take i)).map nv)) ∧ (σ1 0 = str a) ∧ (σ1 1 = str b) ∧ (σ1 5 = .slice ar (a.length + 1) cr) ∧ (σ1 10 = .int .i64 b.length) ∧ (σ1 11 = .int .i64 i) ∧ (b.length - i = gm)) _ ⟨0, ar, cr, (by omega), hE8, hc8, rfl, rfl, rfl, rfl, rfl, rfl⟩ ?_
  rintro gm σ1 wL ⟨i, ar, cr, hi, hE, hC, hs1_0, hs1_1, hs1_5, hs1_10, hs1_11, rfl⟩
  refine fx 0 hs1_0 (fx 1 hs1_1 (fx 5 hs1_5 (fx 10 hs1_10 (fx 11 hs1_11 ?_))))
  refine sq (fun K5 hK5 => ?_)
  refine rg ?_
  refine p (lt rfl rfl) ?_
  refine nl ?_
  refine tn (hK5 _ _ ?_)
  refine sq (fun K6 hK6 => ?_)
  refine cd rfl (fun hc12 => ?_) (fun hc12 => ?_)
  · refine skp ?_
    refine tn (hK6 _ _ ?_)
    refine sq (fun K7 hK7 => ?_)
    refine blk ?_
    refine sq (fun K8 hK8 => ?_)
    refine rg ?_
    refine p (mvt (.int .i64 i) rfl) ?_
    refine p (ast (.int .i64 i) rfl) ?_
    refine nl ?_
    refine tn (hK8 _ _ ?_)
    refine rg ?_
    refine p (mvt (.slice ar (a.length + 1) cr) rfl) ?_
    refine p (mvt (str a) rfl) ?_
    refine p (mvt (str b) rfl) ?_
    refine p (mvt (.int .i64 i) rfl) ?_
    refine p (ixs u9 rfl rfl (by omega)) ?_
    refine e (cl c20 (next_w a (b.take i) (b.getD i 0) ar cr _ hC (by omega) (by rw [List.length_take]; omega)) rfl fun v19 w19 hR19 => ?_)
    obtain ⟨hE19, hr19⟩ := hR19
    rw [rowOf_snoc _ _ _ (by omega)] at hr19
    obtain ⟨ar2, cr2, rfl, hc19⟩ := hr19.of
    refine p asg ?_
    refine nl ?_
    refine bn ?_
    refine tn (hK7 _ _ ?_)
    refine rg ?_
    refine p (ad rfl rfl (wi64 (by omega))) ?_
    refine p mv ?_
    refine nl ?_
    refine tn ?_
    exact ⟨_, by omega, i + 1, ar2, cr2, (by omega), (Md.trans hE hE19), hc19, rfl, rfl, rfl, rfl, rfl, rfl⟩
  · refine ext ?_
    refine te _ ?_
    refine te _ ?_
    refine be ?_
    refine tn (hK3 _ _ ?_)
    refine sq (fun K7 hK7 => ?_)
    rw [show i = b.length by omega, List.take_length] at hC
    refine rg ?_
    refine p (mvt (.slice ar (a.length + 1) cr) rfl) ?_
    refine p (mvt (str a) rfl) ?_
    refine p (lns u9 rfl rfl) ?_
    refine p (ia' es54 rfl rfl (by omega) (Cells.ok (hC) (ne_tab (by omega)))) ?_
    refine p (ld ag3 rfl (tab_celi hC (by omega))) ?_
    refine p asg ?_
    refine nl ?_
    refine tn (hK7 _ _ ?_)
    refine rt ?_
    refine f1 rfl rfl ?_
    exact ⟨rfl, hE⟩
theorem least_w (x1 x2 x3 : Int) (w : World) :
    Ret Try.prog 21 (List.toArray [.int .i64 x1, .int .i64 x2, .int .i64 x3]) w (fun v w' => v = .int .i64 (min (min x1 x2) x3) ∧ Wk w w') := by
  refine enter Try.func21 rfl Try.ntmps21 rfl ?_
  refine sq (fun K1 hK1 => ?_)
  refine rg ?_
  refine p asg ?_
  refine nl ?_
  refine tn (hK1 _ _ ?_)
  refine sq (fun K2 hK2 => ?_)
  refine sq (fun K3 hK3 => ?_)
  refine rg ?_
  refine p (mvt (.int .i64 x2) rfl) ?_
  refine p (mvt (.int .i64 x1) rfl) ?_
  refine p (lt rfl rfl) ?_
  refine nl ?_
  refine tn (hK3 _ _ ?_)
  refine cd rfl (fun hc9 => ?_) (fun hc9 => ?_)
  · refine rg ?_
    refine p (mvt (.int .i64 x2) rfl) ?_
    refine p (ast (.int .i64 x2) rfl) ?_
    refine nl ?_
    refine tn (hK2 _ _ ?_)
    refine sq (fun K4 hK4 => ?_)
    refine sq (fun K5 hK5 => ?_)
    refine rg ?_
    refine p (mvt (.int .i64 x3) rfl) ?_
    refine p (mvt (.int .i64 x2) rfl) ?_
    refine p (lt rfl rfl) ?_
    refine nl ?_
    refine tn (hK5 _ _ ?_)
    refine cd rfl (fun hc13 => ?_) (fun hc13 => ?_)
    · refine rg ?_
      refine p (mvt (.int .i64 x3) rfl) ?_
      refine p (ast (.int .i64 x3) rfl) ?_
      refine nl ?_
      refine tn (hK4 _ _ ?_)
      refine sq (fun K6 hK6 => ?_)
      refine rg ?_
      refine p (mvt (.int .i64 x3) rfl) ?_
      refine p (ast (.int .i64 x3) rfl) ?_
      refine nl ?_
      refine tn (hK6 _ _ ?_)
      refine rt ?_
      refine f1 rfl rfl ?_
      exact ⟨iv (by omega), Md.refl _ _⟩
    · refine skp ?_
      refine tn (hK4 _ _ ?_)
      refine sq (fun K6 hK6 => ?_)
      refine rg ?_
      refine p (mvt (.int .i64 x2) rfl) ?_
      refine p (ast (.int .i64 x2) rfl) ?_
      refine nl ?_
      refine tn (hK6 _ _ ?_)
      refine rt ?_
      refine f1 rfl rfl ?_
      exact ⟨iv (by omega), Md.refl _ _⟩
  · refine skp ?_
    refine tn (hK2 _ _ ?_)
    refine sq (fun K4 hK4 => ?_)
    refine sq (fun K5 hK5 => ?_)
    refine rg ?_
    refine p (mvt (.int .i64 x3) rfl) ?_
    refine p (mvt (.int .i64 x1) rfl) ?_
    refine p (lt rfl rfl) ?_
    refine nl ?_
    refine tn (hK5 _ _ ?_)
    refine cd rfl (fun hc13 => ?_) (fun hc13 => ?_)
    · refine rg ?_
      refine p (mvt (.int .i64 x3) rfl) ?_
      refine p (ast (.int .i64 x3) rfl) ?_
      refine nl ?_
      refine tn (hK4 _ _ ?_)
      refine sq (fun K6 hK6 => ?_)
      refine rg ?_
      refine p (mvt (.int .i64 x3) rfl) ?_
      refine p (ast (.int .i64 x3) rfl) ?_
      refine nl ?_
      refine tn (hK6 _ _ ?_)
      refine rt ?_
      refine f1 rfl rfl ?_
      exact ⟨iv (by omega), Md.refl _ _⟩
    · refine skp ?_
      refine tn (hK4 _ _ ?_)
      refine sq (fun K6 hK6 => ?_)
      refine rg ?_
      refine p (mvt (.int .i64 x1) rfl) ?_
      refine p (ast (.int .i64 x1) rfl) ?_
      refine nl ?_
      refine tn (hK6 _ _ ?_)
      refine rt ?_
      refine f1 rfl rfl ?_
      exact ⟨iv (by omega), Md.refl _ _⟩
set_option maxHeartbeats 1000000 in
theorem rdist_w (a b : List UInt8) (w : World) (hl : a.length ≤ 1073741824) (hl2 : b.length ≤ 1073741824) :
    Ret Try.prog 11 (List.toArray [str a, str b]) w (fun v w' => v = .int .i64 (dist a b : Nat) ∧ Wk w w') := by
  have hbd : ∀ i k, i ≤ a.length → k ≤ b.length → dd a b i k ≤ 1073741825 := fun i k hi hk => by have := dd_le a b i k; omega
  refine enter Try.func11 rfl Try.ntmps11 rfl ?_
  refine sq (fun K1 hK1 => ?_)
  refine rg ?_
  refine p asg ?_
  refine nl ?_
  refine tn (hK1 _ _ ?_)
  refine sq (fun K2 hK2 => ?_)
  refine rg ?_
  refine p asg ?_
  refine nl ?_
  refine tn (hK2 _ _ ?_)
  refine sq (fun K3 hK3 => ?_)
  refine sq (fun K4 hK4 => ?_)
  refine rg ?_
  refine p asg ?_
  refine nl ?_
  refine tn (hK4 _ _ ?_)
  refine blk ?_
  refine lp (fun gm σ1 wL => ∃ (i n_ : Nat) (at_ : Option Addr) (ct_ : Nat) (rows : List Value), (i ≤ a.length + 1) ∧ (Wk w wL) ∧ (i = n_) ∧ (n_ = rows.length) ∧ (Tbl a b wL w.heap.size (.slice at_ n_ ct_) rows) ∧ (σ1 0 = str a) ∧ (σ1 1 = str b) ∧ (σ1 5 = .slice at_ n_ ct_) ∧ (σ1 6 = .int .i64 i) ∧ (a.length + 1 - i = gm)) _ ⟨0, 0, none, 0, [], (by omega), (Md.refl _ _), rfl, rfl, (⟨World.ownsRow_nil _ _ _ _, fun _ _ h => by simp at h⟩), rfl, rfl, rfl, rfl, rfl⟩ ?_
  rintro gm σ1 wL ⟨i, n_, at_, ct_, rows, hi, hE, hlen, hnl, hT, hs1_0, hs1_1, hs1_5, hs1_6, rfl⟩
  refine fx 0 hs1_0 (fx 1 hs1_1 (fx 5 hs1_5 (fx 6 hs1_6 ?_)))
  subst hnl
  refine sq (fun K5 hK5 => ?_)
  refine sq (fun K6 hK6 => ?_)
  refine rg ?_
  refine p (mvt (.int .i64 i) rfl) ?_
  refine p (mvt (str a) rfl) ?_
  refine p (lns u9 rfl rfl) ?_
  refine p (le rfl rfl) ?_
  refine nl ?_
  refine tn (hK6 _ _ ?_)
  refine cd rfl (fun hc13 => ?_) (fun hc13 => ?_)
  · refine skp ?_
    refine tn (hK5 _ _ ?_)
    refine sq (fun K7 hK7 => ?_)
    refine blk ?_
    refine sq (fun K8 hK8 => ?_)
    refine rg ?_
    refine p (mvt (str b) rfl) ?_
    refine p (lns u9 rfl rfl) ?_
    refine p (adv ((b.length + 1 : Nat) : Int) rfl rfl (w64n (by omega) (by omega))) ?_
    refine e (mks (zv := .int .i64 0) so54 rfl rfl rfl rfl (by omega) (by unfold maxLen; omega) fun bm w19 hb19 hN19 ho19 => ?_)
    have hO19 := ho19 wL.heap.size (by omega)
    rw [rep_nv] at hO19
    refine p asg ?_
    refine nl ?_
    refine tn (hK8 _ _ ?_)
    refine sq (fun K9 hK9 => ?_)
    refine sq (fun K10 hK10 => ?_)
    refine rg ?_
    refine p asg ?_
    refine nl ?_
    refine tn (hK10 _ _ ?_)
    refine blk ?_
    refine lp (fun gm σ2 wM => ∃ (k : Nat), (k ≤ b.length + 1) ∧ (Wk wL wM) ∧ (World.ownsRow wM wL.heap.size 3 1 (.slice (some ⟨bm, 0, none⟩) (b.length + 1) (b.length + 1)) (b.length + 1) ((tab (b.length + 1) (fun j => if j < k then dd a b i j else 0)).map nv)) ∧ (σ2 0 = str a) ∧ (σ2 1 = str b) ∧ (σ2 5 = .slice at_ rows.length ct_) ∧ (σ2 6 = .int .i64 i) ∧ (σ2 7 = .slice (some ⟨bm, 0, none⟩) (b.length + 1) (b.length + 1)) ∧ (σ2 8 = .int .i64 k) ∧ (b.length + 1 - k = gm)) _ ⟨0, (by omega), hN19.md, ((by simpa using hO19)), rfl, rfl, rfl, rfl, rfl, rfl, rfl⟩ ?_
    rintro gm σ2 wM ⟨k, hk, hEM, hO, hs2_0, hs2_1, hs2_5, hs2_6, hs2_7, hs2_8, rfl⟩
    refine fx 0 hs2_0 (fx 1 hs2_1 (fx 5 hs2_5 (fx 6 hs2_6 (fx 7 hs2_7 (fx 8 hs2_8 ?_)))))
    refine sq (fun K11 hK11 => ?_)
    refine sq (fun K12 hK12 => ?_)
    refine rg ?_
    refine p (mvt (.int .i64 k) rfl) ?_
    refine p (mvt (str b) rfl) ?_
    refine p (lns u9 rfl rfl) ?_
    refine p (le rfl rfl) ?_
    refine nl ?_
    refine tn (hK12 _ _ ?_)
    refine cd rfl (fun hc23 => ?_) (fun hc23 => ?_)
    · refine skp ?_
      refine tn (hK11 _ _ ?_)
      refine sq (fun K13 hK13 => ?_)
      refine blk ?_
      refine sq (fun K14 hK14 => ?_)
      refine sq (fun K15 hK15 => ?_)
      refine rg ?_
      refine p (mvt (.int .i64 i) rfl) ?_
      refine p (eqi rfl rfl) ?_
      refine nl ?_
      refine tn (hK15 _ _ ?_)
      refine cd rfl (fun hc27 => ?_) (fun hc27 => ?_)
      · refine sq (fun K16 hK16 => ?_)
        refine rg ?_
        refine p (mvt (.slice (some ⟨bm, 0, none⟩) (b.length + 1) (b.length + 1)) rfl) ?_
        refine p (mvt (.int .i64 k) rfl) ?_
        refine p (mvt (.int .i64 k) rfl) ?_
        refine p (ia es54 rfl rfl (by omega)) ?_
        refine e (stn (i := k) (v := k) hO (fun j => if j < k + 1 then dd a b i j else 0) cz3 rfl rfl rfl (by omega) (by rw [if_pos (by omega), show i = 0 by omega, dd_0]) (fun j _ h => by split <;> split <;> omega) fun w13 hM13 ho13 => ?_)
        have hE13 : Wk wL w13 := Wk.own hEM hO hM13 (Nat.le_refl _)
        refine nl ?_
        refine tn (hK16 _ _ ?_)
        refine ext ?_
        refine te _ ?_
        refine be ?_
        refine tn (hK13 _ _ ?_)
        refine rg ?_
        refine p (mvt (.int .i64 k) rfl) ?_
        refine p (ad rfl rfl (wi64 (by omega))) ?_
        refine p asg ?_
        refine nl ?_
        refine tn ?_
        exact ⟨_, by omega, k + 1, (by omega), hE13, ho13, rfl, rfl, rfl, rfl, rfl, rfl, rfl⟩
      · refine skp ?_
        refine tn (hK14 _ _ ?_)
        refine sq (fun K16 hK16 => ?_)
        refine sq (fun K17 hK17 => ?_)
        refine rg ?_
        refine p (mvt (.int .i64 k) rfl) ?_
        refine p (eqi rfl rfl) ?_
        refine nl ?_
        refine tn (hK17 _ _ ?_)
        refine cd rfl (fun hc33 => ?_) (fun hc33 => ?_)
        · refine sq (fun K18 hK18 => ?_)
          refine rg ?_
          refine p (mvt (.slice (some ⟨bm, 0, none⟩) (b.length + 1) (b.length + 1)) rfl) ?_
          refine p (mvt (.int .i64 k) rfl) ?_
          refine p (mvt (.int .i64 i) rfl) ?_
          refine p (ia es54 rfl rfl (by omega)) ?_
          refine e (stn (i := k) (v := i) hO (fun j => if j < k + 1 then dd a b i j else 0) cz3 rfl rfl rfl (by omega) (by rw [if_pos (by omega), show k = 0 by omega, dd_i0]) (fun j _ h => by split <;> split <;> omega) fun w13 hM13 ho13 => ?_)
          have hE13 : Wk wL w13 := Wk.own hEM hO hM13 (Nat.le_refl _)
          refine nl ?_
          refine tn (hK18 _ _ ?_)
          refine ext ?_
          refine te _ ?_
          refine be ?_
          refine tn (hK13 _ _ ?_)
          refine rg ?_
          refine p (mvt (.int .i64 k) rfl) ?_
          refine p (ad rfl rfl (wi64 (by omega))) ?_
          refine p asg ?_
          refine nl ?_
          refine tn ?_
          exact ⟨_, by omega, k + 1, (by omega), hE13, ho13, rfl, rfl, rfl, rfl, rfl, rfl, rfl⟩
        · refine skp ?_
          refine tn (hK16 _ _ ?_)
          refine sq (fun K18 hK18 => ?_)
          obtain ⟨ap, cp, hrp, hcp0⟩ := hT.get (j := i - 1) (by omega)
          have hcp := hcp0.wk hEM
          have hTc := (hT.wk hEM).cells rfl
          have hb1 := hbd (i - 1) (k - 1) (by omega) (by omega)
          have hb2 := hbd (i - 1) k (by omega) (by omega)
          have hb3 := hbd i (k - 1) (by omega) (by omega)
          have hdd : dd a b i k = min (min (dd a b (i - 1) (k - 1) + ch1 (a.getD (i - 1) 0) (b.getD (k - 1) 0)) (dd a b i (k - 1) + 1)) (dd a b (i - 1) k + 1) := by
            have := dd_s a b (i - 1) (k - 1)
            rwa [show i - 1 + 1 = i by omega, show k - 1 + 1 = k by omega] at this
          have hpr : cel wM.heap bm (0 + (k - 1) * 1) = some (.int .i64 ((dd a b i (k - 1) : Nat) : Int)) := by
            have := tab_cel (own_cellsS hO).2 (i := k - 1) (by omega)
            rw [if_pos (by omega)] at this; exact this
          refine rg ?_
          refine p (mvt (.slice at_ rows.length ct_) rfl) ?_
          refine p (mvt (.int .i64 i) rfl) ?_
          refine p (sbv ((i - 1 : Nat) : Int) rfl rfl (w64n (by omega) (by omega))) ?_
          refine p (ia' es57 rfl rfl (by omega) (Cells.ok (hTc) (ne_rows (by omega)))) ?_
          refine p (ld ag54 rfl (hTc.at1 hrp)) ?_
          refine p (mvt (.int .i64 k) rfl) ?_
          refine p (sbv ((k - 1 : Nat) : Int) rfl rfl (w64n (by omega) (by omega))) ?_
          refine p (ia' es54 rfl rfl (by omega) (Cells.ok (hcp) (ne_tab (by omega)))) ?_
          refine p (ld ag3 rfl (tab_cel hcp (i := k - 1) (by omega))) ?_
          refine p asg ?_
          refine nl ?_
          refine tn (hK18 _ _ ?_)
          refine sq (fun K19 hK19 => ?_)
          refine sq (fun K20 hK20 => ?_)
          have hS14 : (fun w' => Wk wM w') wM.drew := (Md.refl _ _).drew
          refine hst (fun w' => Wk wM w') wide hS14 ?_
          refine hp 0 rfl (by kernel_rfl) (fun _ _ => mvt (str a) rfl) hS14 ?_
          refine hp 1 rfl (by kernel_rfl) (fun _ _ => mvt (.int .i64 i) rfl) hS14 ?_
          refine hp 2 rfl (by kernel_rfl) (fun _ _ => sbv ((i - 1 : Nat) : Int) rfl rfl (w64n (by omega) (by omega))) hS14 ?_
          refine hp 3 rfl (by kernel_rfl) (fun _ _ => ixs u9 rfl rfl (by omega)) hS14 ?_
          refine hp 4 rfl (by kernel_rfl) (fun _ _ => mvt (str b) rfl) hS14 ?_
          refine hp 5 rfl (by kernel_rfl) (fun _ _ => mvt (.int .i64 k) rfl) hS14 ?_
          refine hp 6 rfl (by kernel_rfl) (fun _ _ => sbv ((k - 1 : Nat) : Int) rfl rfl (w64n (by omega) (by omega))) hS14 ?_
          refine hp 7 rfl (by kernel_rfl) (fun _ _ => ixs u9 rfl rfl (by omega)) hS14 ?_
          refine hp 8 rfl (by kernel_rfl) (fun _ _ => nei rfl rfl) hS14 ?_
          refine hn (by kernel_rfl) ?_
          refine tn (hK20 _ _ ?_)
          refine cd rfl (fun hc55 => ?_) (fun hc55 => ?_)
          · have hch : ch1 (a.getD (i - 1) 0) (b.getD (k - 1) 0) = 1 := if_neg (fun e => hc55 (by rw [show a.getD ((i - 1 : Nat) : Int).toNat 0 = b.getD ((k - 1 : Nat) : Int).toNat 0 from e]))
            refine rg ?_
            refine p mv ?_
            refine p (adv ((dd a b (i - 1) (k - 1) + 1 : Nat) : Int) rfl rfl (w64n (by omega) (by omega))) ?_
            refine p asg ?_
            refine nl ?_
            refine tn (hK19 _ _ ?_)
            have hS16 : (fun w' => Wk wM w') wM.drew.drew := (Md.refl _ _).drew.drew
            refine lst (fun w' => Wk wM w') 20 wide hS16 ?_
            refine lq 0 rfl (by kernel_rfl) (fun _ _ => mvt (.slice (some ⟨bm, 0, none⟩) (b.length + 1) (b.length + 1)) rfl) hS16 ?_
            refine lq 1 rfl (by kernel_rfl) (fun _ _ => mvt (.int .i64 k) rfl) hS16 ?_
            refine lq 2 rfl (by kernel_rfl) (fun _ _ => mv) hS16 ?_
            refine lq 3 rfl (by kernel_rfl) (fun _ _ => mvt (.slice at_ rows.length ct_) rfl) hS16 ?_
            refine lq 4 rfl (by kernel_rfl) (fun _ _ => mvt (.int .i64 i) rfl) hS16 ?_
            refine lq 5 rfl (by kernel_rfl) (fun _ _ => sbv ((i - 1 : Nat) : Int) rfl rfl (w64n (by omega) (by omega))) hS16 ?_
            refine lq 6 rfl (by kernel_rfl) (fun _ _ => ia' es57 rfl rfl (by omega) (Cells.ok (hTc) (ne_rows (by omega)))) hS16 ?_
            refine lq 7 rfl (by kernel_rfl) (fun w' hS => ld ag54 rfl (Wk.cel hS (hTc.at1 hrp))) hS16 ?_
            refine lq 8 rfl (by kernel_rfl) (fun _ _ => mvt (.int .i64 k) rfl) hS16 ?_
            refine lq 9 rfl (by kernel_rfl) (fun _ _ => ia' es54 rfl rfl (by omega) (Cells.ok (hcp) (ne_tab (by omega)))) hS16 ?_
            refine lq 10 rfl (by kernel_rfl) (fun w' hS => ld ag3 rfl (Wk.cel hS (tab_cel hcp (i := k) (by omega)))) hS16 ?_
            refine lq 11 rfl (by kernel_rfl) (fun _ _ => adv ((dd a b (i - 1) k + 1 : Nat) : Int) rfl rfl (w64n (by omega) (by omega))) hS16 ?_
            refine lq 12 rfl (by kernel_rfl) (fun _ _ => mvt (.slice (some ⟨bm, 0, none⟩) (b.length + 1) (b.length + 1)) rfl) hS16 ?_
            refine lq 13 rfl (by kernel_rfl) (fun _ _ => mvt (.int .i64 k) rfl) hS16 ?_
            refine lq 14 rfl (by kernel_rfl) (fun _ _ => sbv ((k - 1 : Nat) : Int) rfl rfl (w64n (by omega) (by omega))) hS16 ?_
            refine lq 15 rfl (by kernel_rfl) (fun _ _ => ia es54 rfl rfl (by omega)) hS16 ?_
            refine lq 16 rfl (by kernel_rfl) (fun w' hS => ld ag3 rfl (Wk.cel hS (show _ = some (Value.int .i64 ((dd a b i (k - 1) : Nat) : Int)) from hpr))) hS16 ?_
            refine lq 17 rfl (by kernel_rfl) (fun _ _ => adv ((dd a b i (k - 1) + 1 : Nat) : Int) rfl rfl (w64n (by omega) (by omega))) hS16 ?_
            refine lef 18 rfl (by kernel_rfl) (cl c21 (least_w _ _ _ _) rfl fun v76 w76 hR76 => ?_)
            obtain ⟨rfl, hE76⟩ := hR76
            have hS16_18 : (fun w' => Wk wM w') w76 := Md.trans hS16 hE76
            refine ⟨hS16_18, ?_⟩
            refine lq 19 rfl (by kernel_rfl) (fun _ _ => ia es54 rfl rfl (by omega)) hS16_18 ?_
            refine lel 20 rfl (by kernel_rfl) (by kernel_rfl) (stn (i := k) (v := dd a b i k) (own_nw hO hS16_18) (fun j => if j < k + 1 then dd a b i j else 0) cz3 rfl (iv (by rw [hdd, hch]; omega)) rfl (by omega) (if_pos (by omega)) (fun j _ h => by split <;> split <;> omega) fun w13 hM13 ho13 => ?_)
            have hE13 : Wk wL w13 := Wk.own (Md.trans hEM hS16_18) (own_nw hO hS16_18) hM13 (Nat.le_refl _)
            refine lnd (by kernel_rfl) ?_
            refine bn ?_
            refine tn (hK13 _ _ ?_)
            refine rg ?_
            refine p (mvt (.int .i64 k) rfl) ?_
            refine p (ad rfl rfl (wi64 (by omega))) ?_
            refine p asg ?_
            refine nl ?_
            refine tn ?_
            exact ⟨_, by omega, k + 1, (by omega), hE13, ho13, rfl, rfl, rfl, rfl, rfl, rfl, rfl⟩
          · have hch : ch1 (a.getD (i - 1) 0) (b.getD (k - 1) 0) = 0 := if_pos (u8eq (Classical.not_not.1 hc55))
            refine skp ?_
            refine tn (hK19 _ _ ?_)
            have hS16 : (fun w' => Wk wM w') wM.drew.drew := (Md.refl _ _).drew.drew
            refine lst (fun w' => Wk wM w') 20 wide hS16 ?_
            refine lq 0 rfl (by kernel_rfl) (fun _ _ => mvt (.slice (some ⟨bm, 0, none⟩) (b.length + 1) (b.length + 1)) rfl) hS16 ?_
            refine lq 1 rfl (by kernel_rfl) (fun _ _ => mvt (.int .i64 k) rfl) hS16 ?_
            refine lq 2 rfl (by kernel_rfl) (fun _ _ => mv) hS16 ?_
            refine lq 3 rfl (by kernel_rfl) (fun _ _ => mvt (.slice at_ rows.length ct_) rfl) hS16 ?_
            refine lq 4 rfl (by kernel_rfl) (fun _ _ => mvt (.int .i64 i) rfl) hS16 ?_
            refine lq 5 rfl (by kernel_rfl) (fun _ _ => sbv ((i - 1 : Nat) : Int) rfl rfl (w64n (by omega) (by omega))) hS16 ?_
            refine lq 6 rfl (by kernel_rfl) (fun _ _ => ia' es57 rfl rfl (by omega) (Cells.ok (hTc) (ne_rows (by omega)))) hS16 ?_
            refine lq 7 rfl (by kernel_rfl) (fun w' hS => ld ag54 rfl (Wk.cel hS (hTc.at1 hrp))) hS16 ?_
            refine lq 8 rfl (by kernel_rfl) (fun _ _ => mvt (.int .i64 k) rfl) hS16 ?_
            refine lq 9 rfl (by kernel_rfl) (fun _ _ => ia' es54 rfl rfl (by omega) (Cells.ok (hcp) (ne_tab (by omega)))) hS16 ?_
            refine lq 10 rfl (by kernel_rfl) (fun w' hS => ld ag3 rfl (Wk.cel hS (tab_cel hcp (i := k) (by omega)))) hS16 ?_
            refine lq 11 rfl (by kernel_rfl) (fun _ _ => adv ((dd a b (i - 1) k + 1 : Nat) : Int) rfl rfl (w64n (by omega) (by omega))) hS16 ?_
            refine lq 12 rfl (by kernel_rfl) (fun _ _ => mvt (.slice (some ⟨bm, 0, none⟩) (b.length + 1) (b.length + 1)) rfl) hS16 ?_
            refine lq 13 rfl (by kernel_rfl) (fun _ _ => mvt (.int .i64 k) rfl) hS16 ?_
            refine lq 14 rfl (by kernel_rfl) (fun _ _ => sbv ((k - 1 : Nat) : Int) rfl rfl (w64n (by omega) (by omega))) hS16 ?_
            refine lq 15 rfl (by kernel_rfl) (fun _ _ => ia es54 rfl rfl (by omega)) hS16 ?_
            refine lq 16 rfl (by kernel_rfl) (fun w' hS => ld ag3 rfl (Wk.cel hS (show _ = some (Value.int .i64 ((dd a b i (k - 1) : Nat) : Int)) from hpr))) hS16 ?_
            refine lq 17 rfl (by kernel_rfl) (fun _ _ => adv ((dd a b i (k - 1) + 1 : Nat) : Int) rfl rfl (w64n (by omega) (by omega))) hS16 ?_
            refine lef 18 rfl (by kernel_rfl) (cl c21 (least_w _ _ _ _) rfl fun v76 w76 hR76 => ?_)
            obtain ⟨rfl, hE76⟩ := hR76
            have hS16_18 : (fun w' => Wk wM w') w76 := Md.trans hS16 hE76
            refine ⟨hS16_18, ?_⟩
            refine lq 19 rfl (by kernel_rfl) (fun _ _ => ia es54 rfl rfl (by omega)) hS16_18 ?_
            refine lel 20 rfl (by kernel_rfl) (by kernel_rfl) (stn (i := k) (v := dd a b i k) (own_nw hO hS16_18) (fun j => if j < k + 1 then dd a b i j else 0) cz3 rfl (iv (by rw [hdd, hch]; omega)) rfl (by omega) (if_pos (by omega)) (fun j _ h => by split <;> split <;> omega) fun w13 hM13 ho13 => ?_)
            have hE13 : Wk wL w13 := Wk.own (Md.trans hEM hS16_18) (own_nw hO hS16_18) hM13 (Nat.le_refl _)
            refine lnd (by kernel_rfl) ?_
            refine bn ?_
            refine tn (hK13 _ _ ?_)
            refine rg ?_
            refine p (mvt (.int .i64 k) rfl) ?_
            refine p (ad rfl rfl (wi64 (by omega))) ?_
            refine p asg ?_
            refine nl ?_
            refine tn ?_
            exact ⟨_, by omega, k + 1, (by omega), hE13, ho13, rfl, rfl, rfl, rfl, rfl, rfl, rfl⟩
    · refine ext ?_
      refine te _ ?_
      refine te _ ?_
      refine be ?_
      refine tn (hK9 _ _ ?_)
      refine rg ?_
      refine p (mvt (.slice at_ rows.length ct_) rfl) ?_
      refine p (mvt (.slice (some ⟨bm, 0, none⟩) (b.length + 1) (b.length + 1)) rfl) ?_
      refine e (bs1 so57 rfl rfl fun b80 w80 hb80 hN80 hB80 => ?_)
      have hE80 : Wk w w80 := Md.trans (Md.trans hE hEM) hN80.md
      have hT80 := hT.wk (Md.trans hEM hN80.md)
      have hrow : Row w80 w.heap.size (.slice (some ⟨bm, 0, none⟩) (b.length + 1) (b.length + 1)) (tab (b.length + 1) (dd a b rows.length)) := by
        have h9 := own_nw hO hN80.md
        rw [tab_ext (g := dd a b rows.length) (fun j hj => by rw [if_pos (by omega), hlen])] at h9
        unfold Row; rw [tab_len]; exact own_mono h9 hE.size
      refine e (ap so57 (hT80.1) rfl (hE80.size) rfl (Cells.of_blk hB80) (rfl) (rfl) (by omega) (by omega) fun v81 w81 ho81 hM81 hz81 hf81 => ?_)
      have hT81 := hT80.add hrow ho81 hM81
      have hE81 := Wk.own hE80 hT80.1 hM81 (Nat.le_refl _)
      obtain ⟨at2, ct2, rfl⟩ := own_slice ho81
      refine p asg ?_
      refine nl ?_
      refine bn ?_
      refine tn (hK7 _ _ ?_)
      refine rg ?_
      refine p (mvt (.int .i64 i) rfl) ?_
      refine p (ad rfl rfl (wi64 (by omega))) ?_
      refine p asg ?_
      refine nl ?_
      refine tn ?_
      exact ⟨_, by omega, i + 1, rows.length + 1, at2, ct2, rows ++ [_], (by omega), hE81, ((by omega)), ((by simp)), hT81, rfl, rfl, rfl, rfl, rfl⟩
  · refine ext ?_
    refine te _ ?_
    refine te _ ?_
    refine be ?_
    refine tn (hK3 _ _ ?_)
    refine sq (fun K7 hK7 => ?_)
    obtain ⟨ap, cp, hrp, hcp⟩ := hT.get (j := a.length) (by omega)
    refine rg ?_
    refine p (mvt (.slice at_ rows.length ct_) rfl) ?_
    refine p (mvt (str a) rfl) ?_
    refine p (lns u9 rfl rfl) ?_
    refine p (ia' es57 rfl rfl (by omega) (Cells.ok (hT.cells rfl) (ne_rows (by omega)))) ?_
    refine p (ld ag54 rfl ((hT.cells rfl).at1 hrp)) ?_
    refine p (mvt (str b) rfl) ?_
    refine p (lns u9 rfl rfl) ?_
    refine p (ia' es54 rfl rfl (by omega) (Cells.ok (hcp) (ne_tab (by omega)))) ?_
    refine p (ld ag3 rfl (tab_cel hcp (by omega))) ?_
    refine p asg ?_
    refine nl ?_
    refine tn (hK7 _ _ ?_)
    refine rt ?_
    refine f1 rfl rfl ?_
    exact ⟨rfl, hE⟩
end Go.Hb.Dist
