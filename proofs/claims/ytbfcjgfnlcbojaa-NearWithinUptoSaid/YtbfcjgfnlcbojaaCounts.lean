/-
  Walks of walk.Count: how many words an automaton has. No conditions but those that each theorem names.
-/
import Derived.Test.YtbfcjgfnlcbojaaChecked
import Derived.Test.YtbfcjgfnlcbojaaCore
import Derived.Test.YtbfcjgfnlcbojaaShape
import Derived.Test.YtbfcjgfnlcbojaaPlan
import Derived.Test.YtbfcjgfnlcbojaaNrp
set_option maxRecDepth 20000
set_option linter.unusedVariables false
namespace Go.Hb.Counts
open Go.Proofs
open Go.Hb.Shape
theorem ag3 : aggN Try.prog 3 = some none := by kernel_rfl
theorem ag4 : aggN Try.prog 4 = some none := by kernel_rfl
theorem ag32 : aggN Try.prog 32 = some none := by kernel_rfl
theorem ag54 : aggN Try.prog 54 = some none := by kernel_rfl
theorem ag74 : aggN Try.prog 74 = some none := by kernel_rfl
theorem ag81 : aggN Try.prog 81 = some (some 2) := by kernel_rfl
theorem ag138 : aggN Try.prog 138 = some none := by kernel_rfl
theorem c36 : Callable Try.prog 36 := callable Try.func36 (by kernel_rfl) (by kernel_rfl)
theorem c47 : Callable Try.prog 47 := callable Try.func47 (by kernel_rfl) (by kernel_rfl)
theorem c48 : Callable Try.prog 48 := callable Try.func48 (by kernel_rfl) (by kernel_rfl)
theorem c59 : Callable Try.prog 59 := callable Try.func59 (by kernel_rfl) (by kernel_rfl)
theorem cz3 : cellsN Try.prog 3 = some 1 := by kernel_rfl
theorem cz54 : cellsN Try.prog 54 = some 1 := by kernel_rfl
theorem cz81 : cellsN Try.prog 81 = some 2 := by kernel_rfl
theorem cz138 : cellsN Try.prog 138 = some 1 := by kernel_rfl
theorem es32 : elemSize Try.prog 32 = some 2 := by kernel_rfl
theorem es54 : elemSize Try.prog 54 = some 1 := by kernel_rfl
theorem es74 : elemSize Try.prog 74 = some 2 := by kernel_rfl
theorem fo76_0 : fieldOff Try.prog 76 0 = some 0 := by kernel_rfl
theorem fo76_1 : fieldOff Try.prog 76 1 = some 1 := by kernel_rfl
theorem fo81_1 : fieldOff Try.prog 81 1 = some 1 := by kernel_rfl
theorem so54 : sliceOk Try.prog 54 3 1 8 = true := by kernel_rfl
theorem u32 : Try.prog.underlying 32 = some (.slice 76) := by kernel_rfl
theorem u74 : Try.prog.underlying 74 = some (.slice 81) := by kernel_rfl
theorem zs54 : zeroOf Try.prog 54 = some (some [.slice none 0 0]) := by kernel_rfl
theorem zs81 : zeroOf Try.prog 81 = some (some [.int .u8 0, .int .i64 0]) := by kernel_rfl
theorem zs138 : zeroOf Try.prog 138 = some (some [.nilFunc]) := by kernel_rfl

/-- the memory of the counting -/
structure CB (w : World) (p1 p2 p3 m : Nat) (aa : Option Addr) (n cA : Nat) (out : List Nat) : Prop where
  c1 : Blk w.heap p1 [.slice (some ⟨m, 0, none⟩) n n]
  c2 : Blk w.heap p2 [.slice aa n cA]
  c3 : Blk w.heap p3 [Value.func (.func 59) #[] #[.pointer (some ⟨p1, 0, none⟩), .pointer (some ⟨p2, 0, none⟩), .pointer (some ⟨p3, 0, none⟩)]]
  row : Blk w.heap m (out.map nv)
  n1 : p1 ≠ m
  n2 : p2 ≠ m
  n3 : p3 ≠ m
theorem CB.wk {w w' : World} {p1 p2 p3 m : Nat} {aa : Option Addr} {n cA : Nat} {out : List Nat} (h : CB w p1 p2 p3 m aa n cA out) (hm : Wk w w') : CB w' p1 p2 p3 m aa n cA out := ⟨hm.B h.c1, hm.B h.c2, hm.B h.c3, hm.B h.row, h.n1, h.n2, h.n3⟩
/-- what has been counted is right -/
structure CI (a : List EnI) (out : List Nat) : Prop where
  len : out.length = a.length
  ok : ∀ i, i < a.length → out.getD i 0 = 0 ∨ out.getD i 0 = cnt a i
theorem CI.put {a : List EnI} {out : List Nat} (h : CI a out) {i : Nat} (hi : i < a.length) : CI a (out.set i (cnt a i)) ∧ (out.set i (cnt a i)).getD i 0 = cnt a i := by
  have hl : i < out.length := by rw [h.len]; exact hi
  refine ⟨⟨by rw [List.length_set]; exact h.len, fun j hj => ?_⟩, by rw [getD_set _ _ _ _ hl, if_pos rfl]⟩
  rw [getD_set _ _ _ _ hl]
  by_cases e : i = j
  · subst e; rw [if_pos rfl]; exact .inr rfl
  · rw [if_neg e]; exact h.ok j hj

set_option maxHeartbeats 1000000 in
theorem counts1_w (r : Nat) (a : List EnI) (l : List Nat) (aa : Option Addr) (cA p1 p2 p3 m : Nat) (w0 : World) (i : Nat) (out : List Nat) (w : World) (hS : Shp a l) (hA : StI w0.heap aa a) (hm : w0.heap.size ≤ m) (hE : Wk w0 w) (hC : CB w p1 p2 p3 m aa a.length cA out) (hI : CI a out) (hi : i < a.length) (hr : l.idxOf i < r) :
    Ret Try.prog 59 (List.toArray [.int .i64 i, .pointer (some ⟨p1, 0, none⟩), .pointer (some ⟨p2, 0, none⟩), .pointer (some ⟨p3, 0, none⟩)]) w (fun v w' => v = .int .i64 (cnt a i : Nat) ∧ Md (fun q => q = m) w w' ∧ ∃ out', CB w' p1 p2 p3 m aa a.length cA out' ∧ CI a out' ∧ out'.getD i 0 = cnt a i) := by
  induction r generalizing i out w with
  | zero => omega
  | succ r ih =>
    have hFF : ∀ k, k < w0.heap.size → k = m → False := fun k h1 h2 => by omega
    have hle := hS.le
    have hout := hI.len
    obtain ⟨ea, ec, h2c, hEd0⟩ := hA.two hi
    have h20 : cel w0.heap (bk aa) (fo aa + i * 2 + 0) = some (.bool (stOf a i).1) := h2c 0 (by omega)
    have h21 : cel w0.heap (bk aa) (fo aa + i * 2 + 1) = some (.slice ea (stOf a i).2.length ec) := h2c 1 (by omega)
    have hrl := (hS.ris hi).len
    refine enter Try.func59 rfl Try.ntmps59 rfl ?_
    refine sq (fun K1 hK1 => ?_)
    refine rg ?_
    refine p asg ?_
    refine nl ?_
    refine tn (hK1 _ _ ?_)
    refine sq (fun K2 hK2 => ?_)
    refine sq (fun K3 hK3 => ?_)
    refine rg ?_
    refine p (ld ag54 rfl (hC.c1.cel 0)) ?_
    refine p (mvt (.int .i64 i) rfl) ?_
    refine p (ia es54 rfl rfl (by omega)) ?_
    refine p (ld ag3 rfl (show _ = some (Value.int .i64 ((out.getD i 0 : Nat) : Int)) from blk_nv hC.row (i := i) (by omega))) ?_
    refine p (gt rfl rfl) ?_
    refine nl ?_
    refine tn (hK3 _ _ ?_)
    refine cd rfl (fun hc13 => ?_) (fun hc13 => ?_)
    · refine sq (fun K4 hK4 => ?_)
      refine rg ?_
      refine p (ld ag54 rfl (hC.c1.cel 0)) ?_
      refine p (mvt (.int .i64 i) rfl) ?_
      refine p (ia es54 rfl rfl (by omega)) ?_
      refine p (ld ag3 rfl (show _ = some (Value.int .i64 ((out.getD i 0 : Nat) : Int)) from blk_nv hC.row (i := i) (by omega))) ?_
      refine p asg ?_
      refine nl ?_
      refine tn (hK4 _ _ ?_)
      refine rt ?_
      refine tr ?_
      refine f1 rfl rfl ?_
      exact ⟨iv (by have := hI.ok i hi; omega), Md.refl _ _, out, hC, hI, by have := hI.ok i hi; omega⟩
    · refine skp ?_
      refine tn (hK2 _ _ ?_)
      refine sq (fun K4 hK4 => ?_)
      refine rg ?_
      refine p asg ?_
      refine nl ?_
      refine tn (hK4 _ _ ?_)
      refine sqc (fun σ1 wA => (Wk w0 wA) ∧ (Md (fun q => q = m) w wA) ∧ (CB wA p1 p2 p3 m aa a.length cA out) ∧ (σ1 0 = .int .i64 i) ∧ (σ1 1 = .pointer (some ⟨p1, 0, none⟩)) ∧ (σ1 2 = .pointer (some ⟨p2, 0, none⟩)) ∧ (σ1 3 = .pointer (some ⟨p3, 0, none⟩)) ∧ (σ1 6 = .int .i64 (fin1 (stOf a i) : Nat))) ?_ ?_
      · refine sq (fun K5 hK5 => ?_)
        refine rg ?_
        refine p (ld ag32 rfl (hC.c2.cel 0)) ?_
        refine p (mvt (.int .i64 i) rfl) ?_
        refine p (ia' es32 rfl rfl (by omega) (hA.ok (by omega))) ?_
        refine p (fa fo76_0 rfl) ?_
        refine p (ld ag4 rfl (hE.cel h20)) ?_
        refine nl ?_
        refine tn (hK5 _ _ ?_)
        refine cb rfl (fun hc22 => ?_) (fun hc22 => ?_)
        · refine rg ?_
          refine p asg ?_
          refine nl ?_
          refine tn ?_
          exact ⟨hE, (Md.refl _ _), hC, rfl, rfl, rfl, rfl, (by unfold fin1; rw [hc22]; rfl)⟩
        · refine skp ?_
          refine tn ?_
          exact ⟨hE, (Md.refl _ _), hC, rfl, rfl, rfl, rfl, (by unfold fin1; rw [hc22]; rfl)⟩
      rintro σ1 wA ⟨hEa, hMa, hCa, hs1_0, hs1_1, hs1_2, hs1_3, hs1_6⟩
      refine fx 0 hs1_0 (fx 1 hs1_1 (fx 2 hs1_2 (fx 3 hs1_3 (fx 6 hs1_6 ?_))))
      refine sq (fun K5 hK5 => ?_)
      refine sq (fun K6 hK6 => ?_)
      refine rg ?_
      refine p (ld ag32 rfl (hCa.c2.cel 0)) ?_
      refine p (mvt (.int .i64 i) rfl) ?_
      refine p (ia' es32 rfl rfl (by omega) (hA.ok (by omega))) ?_
      refine p (fa fo76_1 rfl) ?_
      refine p (ld ag74 rfl (hEa.cel h21)) ?_
      refine p (lnl u74 rfl rfl) ?_
      refine p mv ?_
      refine nl ?_
      refine tn (hK6 _ _ ?_)
      refine blk ?_
      refine lp (fun gm σ2 wM => ∃ (k s : Nat) (out1 : List Nat), (k ≤ (stOf a i).2.length) ∧ (s = fin1 (stOf a i) + sumC a ((stOf a i).2.take k)) ∧ (Wk w0 wM) ∧ (Md (fun q => q = m) w wM) ∧ (CB wM p1 p2 p3 m aa a.length cA out1) ∧ (CI a out1) ∧ (σ2 0 = .int .i64 i) ∧ (σ2 1 = .pointer (some ⟨p1, 0, none⟩)) ∧ (σ2 2 = .pointer (some ⟨p2, 0, none⟩)) ∧ (σ2 3 = .pointer (some ⟨p3, 0, none⟩)) ∧ (σ2 6 = .int .i64 s) ∧ (σ2 27 = .slice ea (stOf a i).2.length ec) ∧ (σ2 28 = .int .i64 (stOf a i).2.length) ∧ (σ2 29 = .int .i64 k) ∧ ((stOf a i).2.length - k = gm)) _ ⟨0, fin1 (stOf a i), out, (by omega), rfl, hEa, hMa, hCa, hI, rfl, rfl, rfl, rfl, rfl, rfl, rfl, rfl, rfl⟩ ?_
      rintro gm σ2 wM ⟨k, s, out1, hk, hs, hEM, hMM, hCM, hI1, hs2_0, hs2_1, hs2_2, hs2_3, hs2_6, hs2_27, hs2_28, hs2_29, rfl⟩
      refine fx 0 hs2_0 (fx 1 hs2_1 (fx 2 hs2_2 (fx 3 hs2_3 (fx 6 hs2_6 (fx 27 hs2_27 (fx 28 hs2_28 (fx 29 hs2_29 ?_)))))))
      refine sq (fun K7 hK7 => ?_)
      refine rg ?_
      refine p (lt rfl rfl) ?_
      refine nl ?_
      refine tn (hK7 _ _ ?_)
      refine sq (fun K8 hK8 => ?_)
      refine cd rfl (fun hc30 => ?_) (fun hc30 => ?_)
      · refine skp ?_
        refine tn (hK8 _ _ ?_)
        refine sq (fun K9 hK9 => ?_)
        refine blk ?_
        refine sq (fun K10 hK10 => ?_)
        obtain ⟨⟨c, z⟩, hek⟩ : ∃ e, (stOf a i).2[k]? = some e := ⟨_, List.getElem?_eq_getElem (by omega)⟩
        have hze := hS.edge hi (List.mem_of_getElem? hek)
        simp only at hze
        have hlen1 := hI1.len
        have hsb := sumC_le a ((stOf a i).2.take k)
        rw [List.length_take] at hsb
        have hsb2 : min k (stOf a i).2.length * 1099511627777 ≤ 256 * 1099511627777 := Nat.mul_le_mul_right _ (by omega)
        have hf1 : fin1 (stOf a i) ≤ 1 := by unfold fin1; split <;> omega
        refine rg ?_
        refine p (ia' es74 rfl rfl (by omega) (hEd0.ok (by omega))) ?_
        refine p (lda ag81 rfl rfl (two_wk hEM (hEd0.two hek))) ?_
        refine e (alT zs81 fun b8 w10 hb10 hN10 hB10 => ?_)
        refine e (staT cz81 rfl rfl rfl rfl hB10 (by simp) fun w11 hM11 hB11 => ?_)
        have hB11x : Blk w11.heap b8 [Value.int .u8 c.toNat, .int .i64 z] := ⟨_, hB11⟩
        have hE11 : Wk wM w11 := Md.trans' hN10.md hM11 (fun k hk h => by omega)
        have hC11 := hCM.wk hE11
        refine nl ?_
        refine tn (hK10 _ _ ?_)
        refine rg ?_
        refine p (mvt (.int .i64 s) rfl) ?_
        refine p (ld ag138 rfl (hC11.c3.cel 0)) ?_
        refine p (fa fo81_1 rfl) ?_
        refine p (ld ag3 rfl (show _ = some (Value.int .i64 ((z.toNat : Nat) : Int)) from (hB11x.cel 1).trans (congrArg (fun z => some (Value.int .i64 z)) (by omega)))) ?_
        refine e (clv c59 rfl (ih z.toNat out1 _ (Md.trans hEM hE11) hC11 hI1 (by omega) (by omega)) rfl fun v37 w37 hR37 => ?_)
        obtain ⟨rfl, hM37, out2, hC2, hI2, hg2⟩ := hR37
        have hMd37 : Md (fun q => q = m) w w37 := Md.trans (Md.trans' hMM hE11 (fun k _ h => h.elim)) hM37
        have hE37 : Wk w0 w37 := Md.trans' hE hMd37 hFF
        have hcz := cnt_le a z.toNat
        refine p (adv ((s + cnt a z.toNat : Nat) : Int) rfl rfl (w64n (by omega) (by omega))) ?_
        refine p asg ?_
        refine nl ?_
        refine bn ?_
        refine tn (hK9 _ _ ?_)
        refine rg ?_
        refine p (ad rfl rfl (wi64 (by omega))) ?_
        refine p mv ?_
        refine nl ?_
        refine tn ?_
        exact ⟨_, by omega, k + 1, s + cnt a z.toNat, out2, (by omega), ((by rw [sumC_step hek]; simp only; omega)), hE37, hMd37, hC2, hI2, rfl, rfl, rfl, rfl, rfl, rfl, rfl, rfl, rfl⟩
      · refine ext ?_
        refine te _ ?_
        refine te _ ?_
        refine be ?_
        refine tn (hK5 _ _ ?_)
        refine sq (fun K9 hK9 => ?_)
        rw [show k = (stOf a i).2.length by omega, List.take_length] at hs
        have hmin : (min (s : Int) 1099511627777) = ((cnt a i : Nat) : Int) := by
          have := hS.cnt hi
          unfold sumC at hs
          rw [this, ← hs]; omega
        have hlen1 := hI1.len
        obtain ⟨em, hbm⟩ := hCM.row
        refine rg ?_
        refine p (ld ag54 rfl (hCM.c1.cel 0)) ?_
        refine p (mvt (.int .i64 i) rfl) ?_
        refine p (mvt (.int .i64 s) rfl) ?_
        refine p (mn rfl rfl) ?_
        refine p (ia es54 rfl rfl (by omega)) ?_
        refine e (stT cz3 rfl (iv hmin) rfl hbm (by simp; omega) fun w12 hM12 hB12 => ?_)
        obtain ⟨hI12, hg12⟩ := hI1.put hi
        have hC12 : CB w12 p1 p2 p3 m aa a.length cA (out1.set i (cnt a i)) := ⟨hM12.B hCM.c1 hCM.n1, hM12.B hCM.c2 hCM.n2, hM12.B hCM.c3 hCM.n3, by rw [← set_nv]; exact ⟨_, by rw [Nat.zero_add, Nat.mul_one] at hB12; exact hB12⟩, hCM.n1, hCM.n2, hCM.n3⟩
        have hMd12 : Md (fun q => q = m) w w12 := Md.trans hMM hM12
        refine nl ?_
        refine tn (hK9 _ _ ?_)
        refine sq (fun K10 hK10 => ?_)
        refine rg ?_
        refine p (ld ag54 rfl (hC12.c1.cel 0)) ?_
        refine p (mvt (.int .i64 i) rfl) ?_
        refine p (ia es54 rfl rfl (by omega)) ?_
        refine p (ld ag3 rfl (show _ = some (Value.int .i64 ((cnt a i : Nat) : Int)) from (blk_nv hC12.row (i := i) (by rw [hI12.len]; omega)).trans (by rw [hg12]; rfl))) ?_
        refine p asg ?_
        refine nl ?_
        refine tn (hK10 _ _ ?_)
        refine rt ?_
        refine f1 rfl rfl ?_
        exact ⟨rfl, hMd12, _, hC12, hI12, hg12⟩

/-- what Count answers -/
def cntE (a : List EnI) : Int × Int := if shaped a = true then (if cnt a 0 ≤ 1099511627776 then ((cnt a 0 : Nat), 0) else (0, 191)) else (0, 190)
theorem Shp.shE {a : List EnI} (h : shaped a = true) : shE a = 0 := shE_ok h

theorem counts_w (a : List EnI) (l : List Nat) (aa : Option Addr) (cA : Nat) (w : World) (hS : Shp a l) (hA : StI w.heap aa a) :
    Ret Try.prog 48 (List.toArray [.slice aa a.length cA]) w (fun v w' => Wk w w' ∧ ∃ m, v = .slice (some ⟨m, 0, none⟩) a.length a.length ∧ cel w'.heap m 0 = some (.int .i64 (cnt a 0 : Nat))) := by
  have hle := hS.le
  have hpos := hS.pos
  refine enter Try.func48 rfl Try.ntmps48 rfl ?_
  refine sq (fun K1 hK1 => ?_)
  refine rg ?_
  refine e (bx1 rfl rfl fun b1 w1 hb1 hN1 hB1 => ?_)
  refine p asg ?_
  refine nl ?_
  refine tn (hK1 _ _ ?_)
  refine sq (fun K2 hK2 => ?_)
  refine rg ?_
  refine p (ld ag32 rfl (hB1.cel 0)) ?_
  refine p (lnl u32 rfl rfl) ?_
  refine e (mks (zv := .int .i64 0) so54 rfl rfl rfl rfl (by omega) (by unfold maxLen; omega) fun bm w7 hb7 hN7 ho7 => ?_)
  have hB7 : Blk w7.heap bm ((List.replicate a.length 0).map nv) := by rw [List.map_replicate]; exact own_blk (ho7 _ (Nat.le_refl _))
  refine e (alT zs54 fun b3 w3 hb3 hN3 hB3 => ?_)
  refine e (stT cz54 rfl rfl rfl hB3 (by simp) fun w2 hM2 hB2 => ?_)
  refine nl ?_
  refine tn (hK2 _ _ ?_)
  refine sq (fun K3 hK3 => ?_)
  refine rg ?_
  refine e (alT zs138 fun b4 w4 hb4 hN4 hB4 => ?_)
  refine nl ?_
  refine tn (hK3 _ _ ?_)
  refine sq (fun K4 hK4 => ?_)
  refine rg ?_
  refine p mfl ?_
  refine e (stT cz138 rfl rfl rfl hB4 (by simp) fun w5 hM5 hB5 => ?_)
  have s1 := hN1.size
  have s7 := hN7.size
  have s3 := hN3.size
  have s2 := hM2.size
  have s4 := hN4.size
  have s5 := hM5.size
  have hE3 : Wk w w3 := Md.trans hN1.md (Md.trans hN7.md hN3.md)
  have hE4 : Wk w w4 := Md.trans (Md.trans' hE3 hM2 (fun k hk h => by omega)) hN4.md
  have hE5 : Wk w w5 := Md.trans' hE4 hM5 (fun k hk h => by omega)
  have k3 : Blk w5.heap b3 [.slice (some ⟨bm, 0, none⟩) a.length a.length] := hM5.B (hN4.md.B ⟨_, hB2⟩) (fun h => by omega)
  have k1 : Blk w5.heap b1 [.slice aa a.length cA] := hM5.B (hN4.md.B (hM2.B (hN3.md.B (hN7.md.B hB1)) (fun h => by omega))) (fun h => by omega)
  have k4 : Blk w5.heap b4 [Value.func (.func 59) #[] #[.pointer (some ⟨b3, 0, none⟩), .pointer (some ⟨b1, 0, none⟩), .pointer (some ⟨b4, 0, none⟩)]] := ⟨_, hB5⟩
  have km : Blk w5.heap bm ((List.replicate a.length 0).map nv) := hM5.B (hN4.md.B (hM2.B (hN3.md.B hB7) (fun h => by omega))) (fun h => by omega)
  have hC : CB w5 b3 b1 b4 bm aa a.length cA (List.replicate a.length 0) := ⟨k3, k1, k4, km, by omega, by omega, by omega⟩
  have hI : CI a (List.replicate a.length 0) := ⟨by simp, fun i _ => .inl (zero_rep _ i (Nat.zero_le _))⟩
  refine nl ?_
  refine tn (hK4 _ _ ?_)
  refine sq (fun K5 hK5 => ?_)
  refine rg ?_
  refine p (ld ag138 rfl (hC.c3.cel 0)) ?_
  refine e (clv c59 rfl (counts1_w (l.idxOf 0 + 1) a l aa cA b3 b1 b4 bm w 0 (List.replicate a.length 0) _ hS hA (by omega) hE5 hC hI hpos (by omega)) rfl fun v10 w10 hR10 => ?_)
  obtain ⟨_, hM10, out, hC10, hI10, hg10⟩ := hR10
  have hE10 : Wk w w10 := Md.trans' hE5 hM10 (fun k hk h => by omega)
  refine nl ?_
  refine tn (hK5 _ _ ?_)
  refine sq (fun K6 hK6 => ?_)
  refine rg ?_
  refine p (ld ag54 rfl (hC10.c1.cel 0)) ?_
  refine p asg ?_
  refine nl ?_
  refine tn (hK6 _ _ ?_)
  refine rt ?_
  refine f1 rfl rfl ?_
  refine ⟨hE10, bm, rfl, ?_⟩
  have := blk_nv hC10.row (i := 0) (by rw [hI10.len]; exact hpos)
  rw [hg10] at this; exact this
theorem counted_w (a : List EnI) (aa : Option Addr) (cA : Nat) (w : World) (hA : StI w.heap aa a) (hal : a.length ≤ 140737488355328) (hes : ∀ i, i < a.length → (stOf a i).2.length ≤ 1073741824) :
    Ret Try.prog 36 (List.toArray [.slice aa a.length cA]) w (fun v w' => Wk w w' ∧ ∃ b n c, v = .tuple #[.slice b n c, .int .i64 (cntE a).2] ∧ ((cntE a).2 = 0 → 0 < n ∧ b = some ⟨bk b, fo b, none⟩ ∧ cel w'.heap (bk b) (fo b + 0) = some (.int .i64 (cnt a 0 : Nat)))) := by
  refine enter Try.func36 rfl Try.ntmps36 rfl ?_
  refine sq (fun K1 hK1 => ?_)
  refine rg ?_
  refine p asg ?_
  refine p asg ?_
  refine nl ?_
  refine tn (hK1 _ _ ?_)
  refine sq (fun K2 hK2 => ?_)
  refine sq (fun K3 hK3 => ?_)
  refine rg ?_
  refine p (mvt (.slice aa a.length cA) rfl) ?_
  refine e (cl c47 (shapeC_w a aa cA _ hA hal hes) rfl fun v7 w7 hR7 => ?_)
  obtain ⟨rfl, hE7⟩ := hR7
  refine p asg ?_
  refine nl ?_
  refine tn (hK3 _ _ ?_)
  refine sq (fun K4 hK4 => ?_)
  refine rg ?_
  refine p mv ?_
  refine p (nei rfl rfl) ?_
  refine nl ?_
  refine tn (hK4 _ _ ?_)
  refine cd rfl (fun hc9 => ?_) (fun hc9 => ?_)
  · refine sq (fun K5 hK5 => ?_)
    refine rg ?_
    refine p mv ?_
    refine p asg ?_
    refine p asg ?_
    refine nl ?_
    refine tn (hK5 _ _ ?_)
    refine rt ?_
    refine tr ?_
    refine f2 rfl rfl rfl ?_
    have hns : shaped a = false := by
      cases h : shaped a with
      | false => rfl
      | true => exact absurd (shE_ok h) (by omega)
    have he : cntE a = (0, 190) := by unfold cntE; rw [hns]; rfl
    refine ⟨hE7, none, 0, 0, ?_, fun h => by rw [he] at h; cases h⟩
    show Value.tuple #[.slice none 0 0, .int .i64 (shE a)] = _
    rw [he, shE_no hns]
  · have hsh : shaped a = true := by
      cases h : shaped a with
      | true => rfl
      | false => exact absurd (shE_no h) (by omega)
    obtain ⟨l, hS⟩ := shaped_shp hsh
    have hpos := hS.pos
    refine skp ?_
    refine tn (hK2 _ _ ?_)
    refine sq (fun K5 hK5 => ?_)
    refine rg ?_
    refine p (mvt (.slice aa a.length cA) rfl) ?_
    refine e (cl c48 (counts_w a l aa cA _ hS (hA.wk hE7)) rfl fun v12 w12 hR12 => ?_)
    obtain ⟨hE12, m, rfl, hc12⟩ := hR12
    refine p asg ?_
    refine nl ?_
    refine tn (hK5 _ _ ?_)
    refine sq (fun K6 hK6 => ?_)
    refine sq (fun K7 hK7 => ?_)
    refine rg ?_
    refine p mv ?_
    refine p (ia es54 rfl rfl (by omega)) ?_
    refine p (ld ag3 rfl (hc12)) ?_
    refine p (gt rfl rfl) ?_
    refine nl ?_
    refine tn (hK7 _ _ ?_)
    refine cd rfl (fun hc16 => ?_) (fun hc16 => ?_)
    · refine sq (fun K8 hK8 => ?_)
      refine rg ?_
      refine p asg ?_
      refine p asg ?_
      refine nl ?_
      refine tn (hK8 _ _ ?_)
      refine rt ?_
      refine tr ?_
      refine f2 rfl rfl rfl ?_
      have he : cntE a = (0, 191) := by unfold cntE; rw [if_pos hsh, if_neg (by omega)]
      refine ⟨Md.trans hE7 hE12, none, 0, 0, ?_, fun h => by rw [he] at h; cases h⟩
      show Value.tuple #[.slice none 0 0, .int .i64 191] = _
      rw [he]
    · refine skp ?_
      refine tn (hK6 _ _ ?_)
      refine sq (fun K8 hK8 => ?_)
      refine rg ?_
      refine p mv ?_
      refine p asg ?_
      refine p asg ?_
      refine nl ?_
      refine tn (hK8 _ _ ?_)
      refine rt ?_
      refine f2 rfl rfl rfl ?_
      have he : cntE a = (((cnt a 0 : Nat) : Int), 0) := by unfold cntE; rw [if_pos hsh, if_pos (by omega)]
      refine ⟨Md.trans hE7 hE12, some ⟨m, 0, none⟩, a.length, a.length, ?_, fun h => ⟨hpos, rfl, hc12⟩⟩
      show Value.tuple #[.slice (some ⟨m, 0, none⟩) a.length a.length, .int .i64 0] = _
      rw [he]
theorem count_w (a : List EnI) (aa : Option Addr) (cA : Nat) (w : World) (hA : StI w.heap aa a) (hal : a.length ≤ 140737488355328) (hes : ∀ i, i < a.length → (stOf a i).2.length ≤ 1073741824) :
    Ret Try.prog 22 (List.toArray [.slice aa a.length cA]) w (fun v w' => v = .tuple #[.int .i64 (cntE a).1, .int .i64 (cntE a).2] ∧ Wk w w') := by
  refine enter Try.func22 rfl Try.ntmps22 rfl ?_
  refine sq (fun K1 hK1 => ?_)
  refine rg ?_
  refine p asg ?_
  refine p asg ?_
  refine nl ?_
  refine tn (hK1 _ _ ?_)
  refine sq (fun K2 hK2 => ?_)
  refine rg ?_
  refine p (mvt (.slice aa a.length cA) rfl) ?_
  refine e (cl c36 (counted_w a aa cA _ hA hal hes) rfl fun v8 w8 hR8 => ?_)
  obtain ⟨hE8, b, n, c, rfl, h8⟩ := hR8
  refine p mv ?_
  refine p (xt rfl rfl) ?_
  refine p (xt rfl rfl) ?_
  refine p asg ?_
  refine p asg ?_
  refine nl ?_
  refine tn (hK2 _ _ ?_)
  refine sq (fun K3 hK3 => ?_)
  refine sq (fun K4 hK4 => ?_)
  refine rg ?_
  refine p mv ?_
  refine p (nei rfl rfl) ?_
  refine nl ?_
  refine tn (hK4 _ _ ?_)
  refine cd rfl (fun hc12 => ?_) (fun hc12 => ?_)
  · refine sq (fun K5 hK5 => ?_)
    refine rg ?_
    refine p mv ?_
    refine p asg ?_
    refine p asg ?_
    refine nl ?_
    refine tn (hK5 _ _ ?_)
    refine rt ?_
    refine tr ?_
    refine f2 rfl rfl rfl ?_
    have he : (cntE a).1 = 0 := by
      unfold cntE at *
      by_cases h1 : shaped a = true
      · rw [if_pos h1] at *
        by_cases h2 : cnt a 0 ≤ 1099511627776
        · rw [if_pos h2] at hc12; exact absurd rfl hc12
        · rw [if_neg h2]
      · rw [if_neg h1]
    exact ⟨by show Value.tuple #[.int .i64 0, .int .i64 (cntE a).2] = _; rw [he], hE8⟩
  · obtain ⟨hn8, hb8, hc8⟩ := h8 (by omega)
    refine skp ?_
    refine tn (hK3 _ _ ?_)
    refine sq (fun K5 hK5 => ?_)
    refine rg ?_
    refine p mv ?_
    refine p (ia' es54 rfl rfl (by omega) (hb8)) ?_
    refine p (ld ag3 rfl (hc8)) ?_
    refine p asg ?_
    refine p asg ?_
    refine nl ?_
    refine tn (hK5 _ _ ?_)
    refine rt ?_
    refine f2 rfl rfl rfl ?_
    have he : cntE a = (((cnt a 0 : Nat) : Int), 0) := by
      have h0 : (cntE a).2 = 0 := by omega
      unfold cntE at *
      by_cases h1 : shaped a = true
      · rw [if_pos h1] at *
        by_cases h2 : cnt a 0 ≤ 1099511627776
        · rw [if_pos h2]
        · rw [if_neg h2] at h0; cases h0
      · rw [if_neg h1] at h0; cases h0
    exact ⟨by show Value.tuple #[.int .i64 ((cnt a 0 : Nat) : Int), .int .i64 0] = _; rw [he], hE8⟩
end Go.Hb.Counts
