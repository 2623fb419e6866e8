/-
  Walk of hornbookref19.Nth. No conditions but those that each theorem names.
-/
import Derived.Test.YtbfcjgfnlcbojaaChecked
import Derived.Test.YtbfcjgfnlcbojaaCore
import Derived.Test.YtbfcjgfnlcbojaaShape
import Derived.Test.YtbfcjgfnlcbojaaHeights
import Derived.Test.YtbfcjgfnlcbojaaPlan
import Derived.Test.YtbfcjgfnlcbojaaNrp
import Derived.Test.YtbfcjgfnlcbojaaHgt
import Derived.Test.YtbfcjgfnlcbojaaIr
set_option maxRecDepth 20000
set_option linter.unusedVariables false
namespace Go.Hb.NthR
open Go.Proofs
open Go.Hb.Shape Go.Hb.Heights
theorem ag3 : aggN Try.prog 3 = some none := by kernel_rfl
theorem ag4 : aggN Try.prog 4 = some none := by kernel_rfl
theorem ag5 : aggN Try.prog 5 = some none := by kernel_rfl
theorem ag77 : aggN Try.prog 77 = some none := by kernel_rfl
theorem by29_9 : byteOk Try.prog 29 5 9 = true := by kernel_rfl
theorem es42 : elemSize Try.prog 42 = some 2 := by kernel_rfl
theorem es54 : elemSize Try.prog 54 = some 1 := by kernel_rfl
theorem es77 : elemSize Try.prog 77 = some 2 := by kernel_rfl
theorem fo79_0 : fieldOff Try.prog 79 0 = some 0 := by kernel_rfl
theorem fo79_1 : fieldOff Try.prog 79 1 = some 1 := by kernel_rfl
theorem fo82_0 : fieldOff Try.prog 82 0 = some 0 := by kernel_rfl
theorem fo82_1 : fieldOff Try.prog 82 1 = some 1 := by kernel_rfl
theorem so29 : sliceOk Try.prog 29 5 1 1 = true := by kernel_rfl

theorem cnt_len {a : List EnI} {l : List Nat} (hS : Shp a l) (h : (wrds a 0).length ≤ 65536) {i : Nat} (hi : i < a.length) : cnt a i = (wrds a i).length := by
  have := hS.most i hi
  unfold cnt; omega
theorem getD_left {α : Type} {l m : List α} {d : α} {i : Nat} (h : i < l.length) : (l ++ m).getD i d = l.getD i d := by
  rw [List.getD_eq_getElem?_getD, List.getD_eq_getElem?_getD, List.getElem?_append_left h]
theorem getD_right {α : Type} {l m : List α} {d : α} {i : Nat} (h : l.length ≤ i) : (l ++ m).getD i d = m.getD (i - l.length) d := by
  rw [List.getD_eq_getElem?_getD, List.getD_eq_getElem?_getD, List.getElem?_append_right h]
theorem getD_map' {l : List (List UInt8)} {c : UInt8} {i : Nat} (h : i < l.length) : (l.map (c :: ·)).getD i [] = c :: l.getD i [] := by
  rw [List.getD_eq_getElem?_getD, List.getD_eq_getElem?_getD, List.getElem?_map, List.getElem?_eq_getElem h]; rfl
theorem edW_drop {a : List EnI} {es : List (UInt8 × Int)} {k : Nat} {e : UInt8 × Int} (h : es[k]? = some e) : edW a (es.drop k) = (wrds a e.2.toNat).map (e.1 :: ·) ++ edW a (es.drop (k + 1)) := by
  rw [← edW_cons]
  obtain ⟨hk, rfl⟩ := List.getElem?_eq_some_iff.1 h
  rw [List.drop_eq_getElem_cons hk]
theorem edW_pos {a : List EnI} {es : List (UInt8 × Int)} {k q : Nat} (h : q < (edW a (es.drop k)).length) : k < es.length := by
  rcases Nat.lt_or_ge k es.length with h1 | h1
  · exact h1
  · rw [List.drop_eq_nil_of_le h1] at h; simp [edW] at h

set_option maxHeartbeats 1000000 in
theorem nth_w (a : List EnI) (l : List Nat) (aa ac : Option Addr) (cA cC q : Nat) (w : World) (hS : Shp a l) (hA : StI w.heap aa a) (hC : Cells w.heap ac ((tab a.length (cnt a)).map nv)) (hq : q < (wrds a 0).length) (hsm : (wrds a 0).length ≤ 65536) :
    Ret Try.prog 30 (List.toArray [.slice aa a.length cA, .slice ac a.length cC, .int .i64 (q : Nat)]) w (fun v w' => v = .tuple #[str ((wrds a 0).getD q []), .bool true] ∧ Wk w w') := by
  have hle := hS.le
  have hpos := hS.pos
  refine enter Try.func30 rfl Try.ntmps30 rfl ?_
  refine sq (fun K1 hK1 => ?_)
  refine rg ?_
  refine p asg ?_
  refine p asg ?_
  refine nl ?_
  refine tn (hK1 _ _ ?_)
  refine sq (fun K2 hK2 => ?_)
  refine sq (fun K3 hK3 => ?_)
  refine rg ?_
  refine p (mvt (.int .i64 (q : Nat)) rfl) ?_
  refine p (lt rfl rfl) ?_
  refine p mv ?_
  refine gs (t := 13) rfl (fun h => absurd h (by omega)) (fun hg13 => ?_)
  refine pg rfl rfl rfl (mvt (.int .i64 (q : Nat)) rfl) ?_
  refine pg rfl rfl rfl (mvt (.slice ac a.length cC) rfl) ?_
  refine pg rfl rfl rfl (ia' es54 rfl rfl (by omega) (Cells.ok (hC) (ne_tab (by omega)))) ?_
  refine pg rfl rfl rfl (ld ag3 rfl (tab_cel hC (i := 0) (by omega))) ?_
  refine pg rfl rfl rfl (ge rfl rfl) ?_
  refine p (pkf rfl) ?_
  refine nl ?_
  refine tn (hK3 _ _ ?_)
  refine cd rfl (fun h => absurd h (by rw [cnt_len hS hsm hpos]; omega)) (fun hc19 => ?_)
  refine skp ?_
  refine tn (hK2 _ _ ?_)
  refine sq (fun K4 hK4 => ?_)
  refine rg ?_
  refine e (bs0 so29 fun b20 w20 hb20 hN20 hB20 => ?_)
  refine p asg ?_
  refine nl ?_
  refine tn (hK4 _ _ ?_)
  refine sq (fun K5 hK5 => ?_)
  refine rg ?_
  refine p asg ?_
  refine nl ?_
  refine tn (hK5 _ _ ?_)
  refine blk ?_
  refine lp (fun gm σ1 wL => ∃ (x qn nt : Nat) (t : List UInt8) (va : Option Addr) (vc : Nat), (x < a.length) ∧ (qn < (wrds a x).length) ∧ (nt = t.length) ∧ (t.length + l.idxOf x ≤ a.length) ∧ ((wrds a 0).getD q [] = t ++ (wrds a x).getD qn []) ∧ (Wk w wL) ∧ (World.ownsRow wL w.heap.size 5 1 (.slice va nt vc) nt (U8 t)) ∧ (σ1 0 = .slice aa a.length cA) ∧ (σ1 1 = .slice ac a.length cC) ∧ (σ1 2 = .int .i64 (qn : Nat)) ∧ (σ1 8 = .slice va nt vc) ∧ (σ1 9 = .int .i64 (x : Nat)) ∧ (l.idxOf x = gm)) _ ⟨0, q, 0, [], _, _, hpos, hq, rfl, ((by have := hS.rk hpos; simp only [List.length_nil]; omega)), ((by rw [List.nil_append])), hN20.md, (hB20 w.heap.size (by omega)), rfl, rfl, rfl, rfl, rfl, rfl⟩ ?_
  rintro gm σ1 wL ⟨x, qn, nt, t, va, vc, hx, hqn, hnt, htl, hres, hE, hv, hs1_0, hs1_1, hs1_2, hs1_8, hs1_9, rfl⟩
  refine fx 0 hs1_0 (fx 1 hs1_1 (fx 2 hs1_2 (fx 8 hs1_8 (fx 9 hs1_9 ?_))))
  subst hnt
  have hxr := hS.rk hx
  obtain ⟨ea, ec, h2c, hEd0⟩ := hA.two (i := x) hx
  have h20 : cel w.heap (bk aa) (fo aa + x * 2 + 0) = some (.bool (stOf a x).1) := h2c 0 (by omega)
  have h21 : cel w.heap (bk aa) (fo aa + x * 2 + 1) = some (.slice ea (stOf a x).2.length ec) := h2c 1 (by omega)
  have hrl := (hS.ris hx).len
  have hwx := hS.wrds' hx
  have hmx := hS.most x hx
  have hwl : (edW a (stOf a x).2).length ≤ (wrds a x).length := by rw [hwx, List.length_append]; omega
  refine blk ?_
  refine sqc (fun σ2 wC => ∃ (q2 : Nat), (Wk wL wC) ∧ (World.ownsRow wC w.heap.size 5 1 (.slice va t.length vc) t.length (U8 t)) ∧ (q2 < (edW a (stOf a x).2).length) ∧ ((wrds a x).getD qn [] = (edW a (stOf a x).2).getD q2 []) ∧ (σ2 0 = .slice aa a.length cA) ∧ (σ2 1 = .slice ac a.length cC) ∧ (σ2 2 = .int .i64 (q2 : Nat)) ∧ (σ2 8 = .slice va t.length vc) ∧ (σ2 9 = .int .i64 (x : Nat))) ?_ ?_
  · refine sq (fun K6 hK6 => ?_)
    refine rg ?_
    refine p (mvt (.slice aa a.length cA) rfl) ?_
    refine p (mvt (.int .i64 (x : Nat)) rfl) ?_
    refine p (ia' es42 rfl rfl (by omega) (hA.ok (by omega))) ?_
    refine p (fa fo79_0 rfl) ?_
    refine p (ld ag4 rfl (Wk.cel hE h20)) ?_
    refine nl ?_
    refine tn (hK6 _ _ ?_)
    refine cb rfl (fun hc25 => ?_) (fun hc25 => ?_)
    · refine sq (fun K7 hK7 => ?_)
      refine sq (fun K8 hK8 => ?_)
      refine rg ?_
      refine p (mvt (.int .i64 (qn : Nat)) rfl) ?_
      refine p (eqi rfl rfl) ?_
      refine nl ?_
      refine tn (hK8 _ _ ?_)
      refine cd rfl (fun hc27 => ?_) (fun hc27 => ?_)
      · refine sq (fun K9 hK9 => ?_)
        refine rg ?_
        refine p (mvt (.slice va t.length vc) rfl) ?_
        refine p (cvbs by29_9 rfl ((own_cellsS hv).2) (rfl)) ?_
        refine p asg ?_
        refine p asg ?_
        refine nl ?_
        refine tn (hK9 _ _ ?_)
        refine rt ?_
        refine tr ?_
        refine tr ?_
        refine br ?_
        refine tr ?_
        refine br ?_
        refine f2 rfl rfl rfl ?_
        have h0 : qn = 0 := by omega
        subst h0
        have h9 : t = (wrds a 0).getD q [] := by rw [hres, hwx, if_pos hc25]; simp
        refine ⟨?_, hE⟩
        show Value.tuple #[str t, .bool true] = _
        rw [← h9]
      · refine skp ?_
        refine tn (hK7 _ _ ?_)
        refine rg ?_
        refine p (mvt (.int .i64 (qn : Nat)) rfl) ?_
        refine p (sbv ((qn - 1 : Nat) : Int) rfl rfl (w64n (by omega) (by omega))) ?_
        refine p asg ?_
        refine nl ?_
        refine tn ?_
        exact ⟨qn - 1, (Md.refl _ _), hv, ((by rw [hwx, if_pos hc25, List.length_append, List.length_singleton] at hqn; omega)), ((by rw [hwx, if_pos hc25, getD_right (by simp only [List.length_singleton]; omega)]; rfl)), rfl, rfl, rfl, rfl, rfl⟩
    · refine skp ?_
      refine tn ?_
      exact ⟨qn, (Md.refl _ _), hv, ((by rw [hwx, if_neg (by rw [hc25]; exact Bool.noConfusion), List.nil_append] at hqn; exact hqn)), ((by rw [hwx, if_neg (by rw [hc25]; exact Bool.noConfusion), List.nil_append])), rfl, rfl, rfl, rfl, rfl⟩
  rintro σ2 wC ⟨q2, hwC, hvC, hq2, hge, hs2_0, hs2_1, hs2_2, hs2_8, hs2_9⟩
  refine fx 0 hs2_0 (fx 1 hs2_1 (fx 2 hs2_2 (fx 8 hs2_8 (fx 9 hs2_9 ?_))))
  refine sq (fun K6 hK6 => ?_)
  refine rg ?_
  refine p asg ?_
  refine nl ?_
  refine tn (hK6 _ _ ?_)
  refine sq (fun K7 hK7 => ?_)
  refine blk ?_
  refine lp (fun gm σ3 wM => ∃ (k q3 : Nat), (q3 ≤ 65536) ∧ (q3 < (edW a ((stOf a x).2.drop k)).length) ∧ ((edW a (stOf a x).2).getD q2 [] = (edW a ((stOf a x).2.drop k)).getD q3 []) ∧ (Wk w wM) ∧ (World.ownsRow wM w.heap.size 5 1 (.slice va t.length vc) t.length (U8 t)) ∧ (σ3 0 = .slice aa a.length cA) ∧ (σ3 1 = .slice ac a.length cC) ∧ (σ3 2 = .int .i64 (q3 : Nat)) ∧ (σ3 8 = .slice va t.length vc) ∧ (σ3 9 = .int .i64 (x : Nat)) ∧ (σ3 10 = .int .i64 (k : Nat)) ∧ ((stOf a x).2.length - k = gm)) _ ⟨0, q2, ((by omega)), ((by rw [List.drop_zero]; exact hq2)), ((by rw [List.drop_zero])), (Md.trans hE hwC), hvC, rfl, rfl, rfl, rfl, rfl, rfl, rfl⟩ ?_
  rintro gm σ3 wM ⟨k, q3, hq3b, hq3, heq, hE1, hv1, hs3_0, hs3_1, hs3_2, hs3_8, hs3_9, hs3_10, rfl⟩
  refine fx 0 hs3_0 (fx 1 hs3_1 (fx 2 hs3_2 (fx 8 hs3_8 (fx 9 hs3_9 (fx 10 hs3_10 ?_)))))
  refine sq (fun K8 hK8 => ?_)
  refine sq (fun K9 hK9 => ?_)
  have hkl := edW_pos hq3
  obtain ⟨⟨c, z⟩, hek⟩ : ∃ e, (stOf a x).2[k]? = some e := ⟨_, List.getElem?_eq_getElem hkl⟩
  have hze := hS.edge hx (List.mem_of_getElem? hek)
  simp only at hze
  have hcz := cnt_len hS hsm (show z.toNat < a.length by omega)
  have hmz := hS.most z.toNat (by omega)
  have hed := edW_drop (a := a) hek
  simp only at hed
  rw [hed] at hq3 heq
  rw [List.length_append, List.length_map] at hq3
  refine rg ?_
  refine p (mvt (.int .i64 (q3 : Nat)) rfl) ?_
  refine p (mvt (.slice ac a.length cC) rfl) ?_
  refine p (mvt (.slice aa a.length cA) rfl) ?_
  refine p (mvt (.int .i64 (x : Nat)) rfl) ?_
  refine p (ia' es42 rfl rfl (by omega) (hA.ok (by omega))) ?_
  refine p (fa fo79_1 rfl) ?_
  refine p (ld ag77 rfl (Wk.cel hE1 h21)) ?_
  refine p (mvt (.int .i64 (k : Nat)) rfl) ?_
  refine p (ia' es77 rfl rfl (by omega) (hEd0.ok (by omega))) ?_
  refine p (fa fo82_1 rfl) ?_
  refine p (ld ag3 rfl (show _ = some (Value.int .i64 ((z.toNat : Nat) : Int)) from ((hEd0.wk (hE1)).to k (c, z) hek).trans (congrArg (fun z => some (Value.int .i64 z)) (by simp only; omega)))) ?_
  refine p (ia' es54 rfl rfl (by omega) (Cells.ok (hC.wk hE1) (ne_tab (by omega)))) ?_
  refine p (ld ag3 rfl (tab_cel (hC.wk hE1) (i := z.toNat) (by omega))) ?_
  refine p (ge rfl rfl) ?_
  refine nl ?_
  refine tn (hK9 _ _ ?_)
  refine cd rfl (fun hc45 => ?_) (fun hc45 => ?_)
  · refine skp ?_
    refine tn (hK8 _ _ ?_)
    refine blk ?_
    refine sq (fun K10 hK10 => ?_)
    refine rg ?_
    refine p (mvt (.int .i64 (q3 : Nat)) rfl) ?_
    refine p (mvt (.slice ac a.length cC) rfl) ?_
    refine p (mvt (.slice aa a.length cA) rfl) ?_
    refine p (mvt (.int .i64 (x : Nat)) rfl) ?_
    refine p (ia' es42 rfl rfl (by omega) (hA.ok (by omega))) ?_
    refine p (fa fo79_1 rfl) ?_
    refine p (ld ag77 rfl (Wk.cel hE1 h21)) ?_
    refine p (mvt (.int .i64 (k : Nat)) rfl) ?_
    refine p (ia' es77 rfl rfl (by omega) (hEd0.ok (by omega))) ?_
    refine p (fa fo82_1 rfl) ?_
    refine p (ld ag3 rfl (show _ = some (Value.int .i64 ((z.toNat : Nat) : Int)) from ((hEd0.wk (hE1)).to k (c, z) hek).trans (congrArg (fun z => some (Value.int .i64 z)) (by simp only; omega)))) ?_
    refine p (ia' es54 rfl rfl (by omega) (Cells.ok (hC.wk hE1) (ne_tab (by omega)))) ?_
    refine p (ld ag3 rfl (tab_cel (hC.wk hE1) (i := z.toNat) (by omega))) ?_
    refine p (sbv ((q3 - cnt a z.toNat : Nat) : Int) rfl rfl (w64n (by omega) (by omega))) ?_
    refine p asg ?_
    refine nl ?_
    refine tn (hK10 _ _ ?_)
    refine rg ?_
    refine p (mvt (.int .i64 (k : Nat)) rfl) ?_
    refine p (adv ((k + 1 : Nat) : Int) rfl rfl (w64n (by omega) (by omega))) ?_
    refine p asg ?_
    refine nl ?_
    refine bn ?_
    refine tn ?_
    exact ⟨_, by omega, k + 1, q3 - cnt a z.toNat, ((by omega)), ((by omega)), ((by rw [heq, getD_right (by rw [List.length_map]; omega), List.length_map, hcz])), hE1, hv1, rfl, rfl, rfl, rfl, rfl, rfl, rfl⟩
  · refine ext ?_
    refine te _ ?_
    refine te _ ?_
    refine be ?_
    refine tn (hK7 _ _ ?_)
    refine sq (fun K10 hK10 => ?_)
    refine rg ?_
    refine p (mvt (.slice va t.length vc) rfl) ?_
    refine p (mvt (.slice aa a.length cA) rfl) ?_
    refine p (mvt (.int .i64 (x : Nat)) rfl) ?_
    refine p (ia' es42 rfl rfl (by omega) (hA.ok (by omega))) ?_
    refine p (fa fo79_1 rfl) ?_
    refine p (ld ag77 rfl (Wk.cel hE1 h21)) ?_
    refine p (mvt (.int .i64 (k : Nat)) rfl) ?_
    refine p (ia' es77 rfl rfl (by omega) (hEd0.ok (by omega))) ?_
    refine p (fa fo82_0 rfl) ?_
    refine p (ld ag5 rfl (show _ = some (Value.int .u8 (c.toNat : Int)) from (hEd0.wk hE1).b k (c, z) hek)) ?_
    refine e (bs1 so29 rfl rfl fun b72 w72 hb72 hN72 hB72 => ?_)
    have hE72 : Wk w w72 := Md.trans hE1 hN72.md
    refine e (ap so29 (own_nw hv1 hN72.md) rfl (hE72.size) rfl (Cells.of_blk hB72) (rfl) (rfl) (by omega) (by omega) fun v73 w73 ho73 hM73 hz73 hf73 => ?_)
    have hE73 := Wk.own hE72 (own_nw hv1 hN72.md) hM73 (Nat.le_refl _)
    obtain ⟨vb, vd, rfl⟩ := own_slice ho73
    refine p asg ?_
    refine nl ?_
    refine tn (hK10 _ _ ?_)
    refine rg ?_
    refine p (mvt (.slice aa a.length cA) rfl) ?_
    refine p (mvt (.int .i64 (x : Nat)) rfl) ?_
    refine p (ia' es42 rfl rfl (by omega) (hA.ok (by omega))) ?_
    refine p (fa fo79_1 rfl) ?_
    refine p (ld ag77 rfl (Wk.cel hE73 h21)) ?_
    refine p (mvt (.int .i64 (k : Nat)) rfl) ?_
    refine p (ia' es77 rfl rfl (by omega) (hEd0.ok (by omega))) ?_
    refine p (fa fo82_1 rfl) ?_
    refine p (ld ag3 rfl (show _ = some (Value.int .i64 ((z.toNat : Nat) : Int)) from ((hEd0.wk (hE73)).to k (c, z) hek).trans (congrArg (fun z => some (Value.int .i64 z)) (by simp only; omega)))) ?_
    refine p asg ?_
    refine nl ?_
    refine bn ?_
    refine tn ?_
    exact ⟨_, by omega, z.toNat, q3, t.length + 1, t ++ [c], vb, vd, ((by omega)), ((by omega)), ((by simp)), ((by rw [List.length_append, List.length_singleton]; omega)), ((by rw [hres, hge, heq, getD_left (by rw [List.length_map]; omega), getD_map' (by omega), List.append_assoc]; rfl)), hE73, ((by rw [U8_app]; exact ho73)), rfl, rfl, rfl, rfl, rfl, rfl⟩
end Go.Hb.NthR
