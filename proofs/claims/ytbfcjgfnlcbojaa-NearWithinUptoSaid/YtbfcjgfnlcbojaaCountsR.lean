/-
  Walk of hornbookref19.Counts. No conditions but those that each theorem names.
-/
import Derived.Test.YtbfcjgfnlcbojaaChecked
import Derived.Test.YtbfcjgfnlcbojaaCore
import Derived.Test.YtbfcjgfnlcbojaaShape
import Derived.Test.YtbfcjgfnlcbojaaHeights
import Derived.Test.YtbfcjgfnlcbojaaPlan
import Derived.Test.YtbfcjgfnlcbojaaNrp
import Derived.Test.YtbfcjgfnlcbojaaHgt
import Derived.Test.YtbfcjgfnlcbojaaIr
set_option maxRecDepth 20000
set_option linter.unusedVariables false
namespace Go.Hb.CountsR
open Go.Proofs
open Go.Hb.Shape Go.Hb.Heights
theorem ag3 : aggN Try.prog 3 = some none := by kernel_rfl
theorem ag4 : aggN Try.prog 4 = some none := by kernel_rfl
theorem ag54 : aggN Try.prog 54 = some none := by kernel_rfl
theorem ag77 : aggN Try.prog 77 = some none := by kernel_rfl
theorem c41 : Callable Try.prog 41 := callable Try.func41 (by kernel_rfl) (by kernel_rfl)
theorem cz3 : cellsN Try.prog 3 = some 1 := by kernel_rfl
theorem cz54 : cellsN Try.prog 54 = some 1 := by kernel_rfl
theorem es42 : elemSize Try.prog 42 = some 2 := by kernel_rfl
theorem es54 : elemSize Try.prog 54 = some 1 := by kernel_rfl
theorem es57 : elemSize Try.prog 57 = some 1 := by kernel_rfl
theorem es77 : elemSize Try.prog 77 = some 2 := by kernel_rfl
theorem fo79_0 : fieldOff Try.prog 79 0 = some 0 := by kernel_rfl
theorem fo79_1 : fieldOff Try.prog 79 1 = some 1 := by kernel_rfl
theorem fo82_1 : fieldOff Try.prog 82 1 = some 1 := by kernel_rfl
theorem so54 : sliceOk Try.prog 54 3 1 8 = true := by kernel_rfl
theorem so57 : sliceOk Try.prog 57 54 1 24 = true := by kernel_rfl
theorem u42 : Try.prog.underlying 42 = some (.slice 79) := by kernel_rfl
theorem u54 : Try.prog.underlying 54 = some (.slice 3) := by kernel_rfl
theorem u57 : Try.prog.underlying 57 = some (.slice 54) := by kernel_rfl
theorem u77 : Try.prog.underlying 77 = some (.slice 82) := by kernel_rfl
theorem wide : Try.prog.follows .mixedOrders = true := by kernel_rfl

theorem rep_succ (n : Nat) : List.replicate (n + 1) ([] : List Nat) = List.replicate n [] ++ [[]] := List.replicate_succ'
theorem ne_vs {vs : List Value} (h : 0 < vs.length) : vs ≠ [] := by rintro rfl; simp at h

set_option maxHeartbeats 2000000 in
theorem countsR_w (a : List EnI) (l : List Nat) (aa : Option Addr) (cA : Nat) (w : World) (hS : Shp a l) (hA : StI w.heap aa a) :
    Ret Try.prog 29 (List.toArray [.slice aa a.length cA]) w (fun v w' => Wk w w' ∧ World.ownsRow w' w.heap.size 3 1 v a.length ((tab a.length (cnt a)).map nv)) := by
  have hle := hS.le
  have hpos := hS.pos
  have hH := hgt_le a 0
  refine enter Try.func29 rfl Try.ntmps29 rfl ?_
  refine sq (fun K1 hK1 => ?_)
  refine rg ?_
  refine p asg ?_
  refine nl ?_
  refine tn (hK1 _ _ ?_)
  refine sq (fun K2 hK2 => ?_)
  refine rg ?_
  refine p (mvt (.slice aa a.length cA) rfl) ?_
  refine e (cl c41 (heights_w a l aa cA _ hS hA) rfl fun v13 w13 hR13 => ?_)
  obtain ⟨hE13, hO13⟩ := hR13
  obtain ⟨ah, ch, rfl⟩ := own_slice hO13
  refine p asg ?_
  refine nl ?_
  refine tn (hK2 _ _ ?_)
  refine sq (fun K3 hK3 => ?_)
  refine rg ?_
  refine p asg ?_
  refine nl ?_
  refine tn (hK3 _ _ ?_)
  refine sq (fun K4 hK4 => ?_)
  refine sq (fun K5 hK5 => ?_)
  refine rg ?_
  refine p asg ?_
  refine nl ?_
  refine tn (hK5 _ _ ?_)
  refine blk ?_
  refine lp (fun gm σ1 wL => ∃ (i n4 : Nat) (vs : List Value) (ab : Option Addr) (cB : Nat), (i ≤ (hgt a 0) + 1) ∧ (n4 = i) ∧ (vs.length = n4) ∧ (Wk w13 wL) ∧ (World.ownsRow wL w13.heap.size 54 1 (.slice ab n4 cB) n4 vs) ∧ (IR nv 3 wL w13.heap.size vs (List.replicate i [])) ∧ (σ1 0 = .slice aa a.length cA) ∧ (σ1 3 = .slice ah a.length ch) ∧ (σ1 4 = .slice ab n4 cB) ∧ (σ1 5 = .int .i64 (i : Nat)) ∧ ((hgt a 0) + 1 - i = gm)) _ ⟨0, 0, [], none, 0, (by omega), rfl, rfl, (Md.refl _ _), (World.ownsRow_nil _ _ _ _), IR.nil, rfl, rfl, rfl, rfl, rfl⟩ ?_
  rintro gm σ1 wL ⟨i, n4, vs, ab, cB, hi, hn4, hvl0, hEL, hB, hIR, hs1_0, hs1_3, hs1_4, hs1_5, rfl⟩
  refine fx 0 hs1_0 (fx 3 hs1_3 (fx 4 hs1_4 (fx 5 hs1_5 ?_)))
  refine sq (fun K6 hK6 => ?_)
  refine sq (fun K7 hK7 => ?_)
  refine rg ?_
  refine p (mvt (.int .i64 (i : Nat)) rfl) ?_
  refine p (mvt (.slice ah a.length ch) rfl) ?_
  refine p (ia' es54 rfl rfl (by omega) (Cells.ok ((own_cellsS (own_nw hO13 hEL)).2) (ne_tab (by omega)))) ?_
  refine p (ld ag3 rfl (tab_cel (own_cellsS (own_nw hO13 hEL)).2 (i := 0) (by omega))) ?_
  refine p (le rfl rfl) ?_
  refine nl ?_
  refine tn (hK7 _ _ ?_)
  refine cd rfl (fun hc18 => ?_) (fun hc18 => ?_)
  · refine skp ?_
    refine tn (hK6 _ _ ?_)
    refine sq (fun K8 hK8 => ?_)
    refine blk ?_
    refine rg ?_
    refine p (mvt (.slice ab n4 cB) rfl) ?_
    refine e (bs1 so57 rfl rfl fun b22 w22 hb22 hN22 hB22 => ?_)
    refine e (ap so57 (own_nw hB hN22.md) rfl (by have := hN22.md.size; have := hEL.size; omega) rfl (Cells.of_blk hB22) (rfl) (rfl) (by omega) (by omega) fun v23 w23 ho23 hM23 hz23 hf23 => ?_)
    have hEL23 := Wk.own (Md.trans hEL hN22.md) (own_nw hB hN22.md) hM23 (Nat.le_refl _)
    have hIR23 := ((hIR.wk hN22.md).md hM23 (fun v n xs hv q hq hq2 => own_ne hv (own_nw hB hN22.md) (by decide) hq hq2)).push
    obtain ⟨ab2, cB2, rfl⟩ := own_slice ho23
    refine p asg ?_
    refine nl ?_
    refine bn ?_
    refine tn (hK8 _ _ ?_)
    refine rg ?_
    refine p (mvt (.int .i64 (i : Nat)) rfl) ?_
    refine p (ad rfl rfl (wi64 (by omega))) ?_
    refine p asg ?_
    refine nl ?_
    refine tn ?_
    exact ⟨_, by omega, i + 1, n4 + 1, vs ++ [.slice none 0 0], ab2, cB2, (by omega), (by omega), ((by rw [List.length_append, hvl0]; rfl)), hEL23, ho23, ((by rw [rep_succ]; exact hIR23)), rfl, rfl, rfl, rfl, rfl⟩
  · refine ext ?_
    refine te _ ?_
    refine te _ ?_
    refine be ?_
    refine tn (hK4 _ _ ?_)
    refine sq (fun K8 hK8 => ?_)
    refine sq (fun K9 hK9 => ?_)
    refine rg ?_
    refine p asg ?_
    refine nl ?_
    refine tn (hK9 _ _ ?_)
    refine blk ?_
    have hn5 : n4 = (hgt a 0) + 1 := by omega
    have hi5 : i = (hgt a 0) + 1 := by omega
    refine lp (fun gm σ2 wG => ∃ (i : Nat) (vs : List Value), (i ≤ a.length) ∧ (Wk w13 wG) ∧ (World.ownsRow wG w13.heap.size 54 1 (.slice ab n4 cB) n4 vs) ∧ (IR nv 3 wG w13.heap.size vs (tab ((hgt a 0) + 1) (BHf a i))) ∧ (σ2 0 = .slice aa a.length cA) ∧ (σ2 3 = .slice ah a.length ch) ∧ (σ2 4 = .slice ab n4 cB) ∧ (σ2 6 = .int .i64 (i : Nat)) ∧ (a.length - i = gm)) _ ⟨0, vs, (by omega), hEL, hB, ((by rw [hi5] at hIR; rw [show tab (hgt a 0 + 1) (BHf a 0) = List.replicate (hgt a 0 + 1) [] from (tab_rep _ _).symm]; exact hIR)), rfl, rfl, rfl, rfl, rfl⟩ ?_
    rintro gm σ2 wG ⟨i, vs, hi2, hEG, hB2, hIR2, hs2_0, hs2_3, hs2_4, hs2_6, rfl⟩
    refine fx 0 hs2_0 (fx 3 hs2_3 (fx 4 hs2_4 (fx 6 hs2_6 ?_)))
    refine sq (fun K10 hK10 => ?_)
    refine sq (fun K11 hK11 => ?_)
    refine rg ?_
    refine p (mvt (.int .i64 (i : Nat)) rfl) ?_
    refine p (mvt (.slice aa a.length cA) rfl) ?_
    refine p (lnl u42 rfl rfl) ?_
    refine p (lt rfl rfl) ?_
    refine nl ?_
    refine tn (hK11 _ _ ?_)
    refine cd rfl (fun hc27 => ?_) (fun hc27 => ?_)
    · refine skp ?_
      refine tn (hK10 _ _ ?_)
      refine sq (fun K12 hK12 => ?_)
      refine blk ?_
      have hvl := hIR2.len
      rw [tab_len] at hvl
      have hhi := hS.htop i (by omega)
      obtain ⟨aj, cj, hvj, hcj⟩ := hIR2.get (j := hgt a i) (by omega)
      rw [tab_getD _ _ (by omega)] at hvj
      have hbl := BHf_len a i (hgt a i)
      have hHn := own_nw hO13 hEG
      have hszG := hEG.size
      have hS10 : (fun w' => Cells w'.heap ah ((tab a.length (hgt a)).map nv) ∧ Cells w'.heap ab vs) wG.drew := ⟨(own_cellsS hHn).2, (own_cellsS hB2).2⟩
      refine lst (fun w' => Cells w'.heap ah ((tab a.length (hgt a)).map nv) ∧ Cells w'.heap ab vs) 16 wide hS10 ?_
      refine lq 0 rfl (by kernel_rfl) (fun _ _ => mvt (.slice ab n4 cB) rfl) hS10 ?_
      refine lq 1 rfl (by kernel_rfl) (fun _ _ => mvt (.slice ah a.length ch) rfl) hS10 ?_
      refine lq 2 rfl (by kernel_rfl) (fun _ _ => mvt (.int .i64 (i : Nat)) rfl) hS10 ?_
      refine lq 3 rfl (by kernel_rfl) (fun _ _ => ia' es54 rfl rfl (by omega) ((own_cellsS hHn).2.ok (ne_tab (by omega)))) hS10 ?_
      refine lq 4 rfl (by kernel_rfl) (fun w' hS => ld ag3 rfl (tab_cel hS.1 (i := i) (by omega))) hS10 ?_
      refine lq 5 rfl (by kernel_rfl) (fun _ _ => mvt (.slice ab n4 cB) rfl) hS10 ?_
      refine lq 6 rfl (by kernel_rfl) (fun _ _ => mvt (.slice ah a.length ch) rfl) hS10 ?_
      refine lq 7 rfl (by kernel_rfl) (fun _ _ => mvt (.int .i64 (i : Nat)) rfl) hS10 ?_
      refine lq 8 rfl (by kernel_rfl) (fun _ _ => ia' es54 rfl rfl (by omega) ((own_cellsS hHn).2.ok (ne_tab (by omega)))) hS10 ?_
      refine lq 9 rfl (by kernel_rfl) (fun w' hS => ld ag3 rfl (tab_cel hS.1 (i := i) (by omega))) hS10 ?_
      refine lq 10 rfl (by kernel_rfl) (fun _ _ => ia' es57 rfl rfl (by omega) ((own_cellsS hB2).2.ok (ne_vs (by omega)))) hS10 ?_
      refine lq 11 rfl (by kernel_rfl) (fun w' hS => ld ag54 rfl (hS.2.at1 hvj)) hS10 ?_
      refine lq 12 rfl (by kernel_rfl) (fun _ _ => mvt (.int .i64 (i : Nat)) rfl) hS10 ?_
      refine lef 13 rfl (by kernel_rfl) (bs1 so54 rfl rfl fun b43 w43 hb43 hN43 hB43 => ?_)
      have hB43x : Blk w43.heap b43 [.int .i64 (i : Nat)] := hB43
      have hE43 : Wk wG w43 := Md.trans (Md.refl _ _).drew hN43.md
      have hIR43 := hIR2.wk hE43
      have hBo43 := own_nw hB2 hE43
      have hHn43 := own_nw hHn hE43
      have hst43 := hIR43.st _ _ hvj
      rw [tab_getD _ _ (by omega)] at hst43
      have hS10_13 : (fun w' => Cells w'.heap ah ((tab a.length (hgt a)).map nv) ∧ Cells w'.heap ab vs) w43 := ⟨(own_cellsS hHn43).2, (own_cellsS hBo43).2⟩
      refine ⟨hS10_13, ?_⟩
      refine lef 14 rfl (by kernel_rfl) (ap so54 (hst43) rfl (by have := hE43.size; have := hEG.size; omega) rfl (Cells.of_blk hB43x) (rfl) (rfl) (by omega) (by omega) fun v44 w44 ho44 hM44 hz44 hf44 => ?_)
      have hB44 := own_md hBo43 hM44 (fun q hq hq2 => own_ne hBo43 hst43 (by decide) hq hq2)
      have hcH44 := (own_cellsS hHn43).2.md hM44 (fun hne hq => by
        have h1 := (own_lt hst43 hq).1
        have h2 := (own_new hO13 (ne_tab (n := a.length) (f := hgt a) (by omega))).2
        omega)
      have hIR44 := hIR43.upd hvj (by rw [tab_getD _ _ (by omega)]; exact ho44) hM44 hf44
      rw [BH_set (by omega)] at hIR44
      have hS10_14 : (fun w' => Cells w'.heap ah ((tab a.length (hgt a)).map nv) ∧ Cells w'.heap ab vs) w44 := ⟨hcH44, (own_cellsS hB44).2⟩
      refine ⟨hS10_14, ?_⟩
      refine lq 15 rfl (by kernel_rfl) (fun _ _ => ia' es57 rfl rfl (by omega) ((own_cellsS hB2).2.ok (ne_vs (by omega)))) hS10_14 ?_
      refine lel 16 rfl (by kernel_rfl) (by kernel_rfl) (sto (j := hgt a i) hB44 cz54 rfl rfl (own_one ho44) (by rw [Int.toNat_natCast, Nat.mul_one]) (by omega) fun w10 hM10 ho10 => ?_)
      have hIR10 := hIR44.md hM10 (fun v n xs hv q hq hq2 => own_ne hv hB44 (by decide) hq hq2)
      have hE44 : Wk w13 w44 := Wk.own (Md.trans hEG hE43) hst43 hM44 (Nat.le_refl _)
      have hE10 : Wk w13 w10 := Wk.own hE44 hB44 hM10 (Nat.le_refl _)
      refine lnd (by kernel_rfl) ?_
      refine bn ?_
      refine tn (hK12 _ _ ?_)
      refine rg ?_
      refine p (mvt (.int .i64 (i : Nat)) rfl) ?_
      refine p (ad rfl rfl (wi64 (by omega))) ?_
      refine p asg ?_
      refine nl ?_
      refine tn ?_
      exact ⟨_, by omega, i + 1, vs.set (hgt a i) v44, (by omega), hE10, ho10, hIR10, rfl, rfl, rfl, rfl, rfl⟩
    · refine ext ?_
      refine te _ ?_
      refine te _ ?_
      refine be ?_
      refine tn (hK8 _ _ ?_)
      refine sq (fun K12 hK12 => ?_)
      refine rg ?_
      refine p (mvt (.slice aa a.length cA) rfl) ?_
      refine p (lnl u42 rfl rfl) ?_
      refine e (mks (zv := .int .i64 0) so54 rfl rfl rfl rfl (by omega) (by unfold maxLen; omega) fun bc w48 hb48 hN48 ho48 => ?_)
      have hC48 := ho48 wG.heap.size (by omega)
      rw [rep_nv] at hC48
      refine p asg ?_
      refine nl ?_
      refine tn (hK12 _ _ ?_)
      refine sq (fun K13 hK13 => ?_)
      refine sq (fun K14 hK14 => ?_)
      refine rg ?_
      refine p asg ?_
      refine nl ?_
      refine tn (hK14 _ _ ?_)
      refine blk ?_
      rw [show i = a.length by omega] at hIR2
      have hEg : Wk w wG := Md.trans hE13 hEG
      refine lp (fun gm σ3 wI => ∃ (k : Nat) (f : Nat → Nat), (k ≤ (hgt a 0) + 1) ∧ (Wk wG wI) ∧ (World.ownsRow wI wG.heap.size 3 1 (.slice (some ⟨bc, 0, none⟩) a.length a.length) a.length ((tab a.length (f)).map nv)) ∧ (CK a f k 0) ∧ (σ3 0 = .slice aa a.length cA) ∧ (σ3 4 = .slice ab n4 cB) ∧ (σ3 7 = .slice (some ⟨bc, 0, none⟩) a.length a.length) ∧ (σ3 8 = .int .i64 (k : Nat)) ∧ ((hgt a 0) + 1 - k = gm)) _ ⟨0, (fun _ => 0), (by omega), hN48.md, hC48, (CK.zero a), rfl, rfl, rfl, rfl, rfl⟩ ?_
      rintro gm σ3 wI ⟨k, f, hk, hE4, hC4, hCK, hs3_0, hs3_4, hs3_7, hs3_8, rfl⟩
      refine fx 0 hs3_0 (fx 4 hs3_4 (fx 7 hs3_7 (fx 8 hs3_8 ?_)))
      refine sq (fun K15 hK15 => ?_)
      refine sq (fun K16 hK16 => ?_)
      refine rg ?_
      refine p (mvt (.int .i64 (k : Nat)) rfl) ?_
      refine p (mvt (.slice ab n4 cB) rfl) ?_
      refine p (lnl u57 rfl rfl) ?_
      refine p (lt rfl rfl) ?_
      refine nl ?_
      refine tn (hK16 _ _ ?_)
      refine cd rfl (fun hc52 => ?_) (fun hc52 => ?_)
      · refine skp ?_
        refine tn (hK15 _ _ ?_)
        refine sq (fun K17 hK17 => ?_)
        refine blk ?_
        refine sq (fun K18 hK18 => ?_)
        have hvl := hIR2.len
        rw [tab_len] at hvl
        obtain ⟨ak, ck, hvk, hck⟩ := hIR2.get (j := k) (by omega)
        rw [tab_getD _ _ (by omega)] at hvk hck
        have hbl := BHf_len a a.length k
        refine rg ?_
        refine p asg ?_
        refine nl ?_
        refine tn (hK18 _ _ ?_)
        refine blk ?_
        refine lp (fun gm σ4 wJ => ∃ (j : Nat) (fB : Nat → Nat), (j ≤ (BHf a a.length k).length) ∧ (Wk wG wJ) ∧ (World.ownsRow wJ wG.heap.size 3 1 (.slice (some ⟨bc, 0, none⟩) a.length a.length) a.length ((tab a.length (fB)).map nv)) ∧ (CK a fB k j) ∧ (σ4 0 = .slice aa a.length cA) ∧ (σ4 4 = .slice ab n4 cB) ∧ (σ4 7 = .slice (some ⟨bc, 0, none⟩) a.length a.length) ∧ (σ4 8 = .int .i64 (k : Nat)) ∧ (σ4 9 = .int .i64 (j : Nat)) ∧ ((BHf a a.length k).length - j = gm)) _ ⟨0, f, (by omega), hE4, hC4, hCK, rfl, rfl, rfl, rfl, rfl, rfl⟩ ?_
        rintro gm σ4 wJ ⟨j, fB, hj, hE6, hC6, hCK2, hs4_0, hs4_4, hs4_7, hs4_8, hs4_9, rfl⟩
        refine fx 0 hs4_0 (fx 4 hs4_4 (fx 7 hs4_7 (fx 8 hs4_8 (fx 9 hs4_9 ?_))))
        refine sq (fun K19 hK19 => ?_)
        refine sq (fun K20 hK20 => ?_)
        refine rg ?_
        refine p (mvt (.int .i64 (j : Nat)) rfl) ?_
        refine p (mvt (.slice ab n4 cB) rfl) ?_
        refine p (mvt (.int .i64 (k : Nat)) rfl) ?_
        refine p (ia' es57 rfl rfl (by omega) (Cells.ok ((own_cellsS (own_nw hB2 hE6)).2) (ne_vs (by omega)))) ?_
        refine p (ld ag54 rfl ((own_cellsS (own_nw hB2 hE6)).2.at1 hvk)) ?_
        refine p (lnl u54 rfl rfl) ?_
        refine p (lt rfl rfl) ?_
        refine nl ?_
        refine tn (hK20 _ _ ?_)
        refine cd rfl (fun hc61 => ?_) (fun hc61 => ?_)
        · refine skp ?_
          refine tn (hK19 _ _ ?_)
          refine sq (fun K21 hK21 => ?_)
          refine blk ?_
          refine sq (fun K22 hK22 => ?_)
          obtain ⟨x, hx⟩ : ∃ x, (BHf a a.length k)[j]? = some x := ⟨_, List.getElem?_eq_getElem (by omega)⟩
          obtain ⟨hxl, hxk⟩ := BHf_mem.1 (List.mem_of_getElem? hx)
          obtain ⟨ea, ec, h2c, hEd0⟩ := hA.two (i := x) (by omega)
          have h20 : cel w.heap (bk aa) (fo aa + x * 2 + 0) = some (.bool (stOf a x).1) := h2c 0 (by omega)
          have h21 : cel w.heap (bk aa) (fo aa + x * 2 + 1) = some (.slice ea (stOf a x).2.length ec) := h2c 1 (by omega)
          have hrl := (hS.ris hxl).len
          have hf1 : fin1 (stOf a x) ≤ 1 := by unfold fin1; split <;> omega
          have hf0 := hCK2.at_ hx
          refine rg ?_
          refine p (mvt (.slice ab n4 cB) rfl) ?_
          refine p (mvt (.int .i64 (k : Nat)) rfl) ?_
          refine p (ia' es57 rfl rfl (by omega) (Cells.ok ((own_cellsS (own_nw hB2 hE6)).2) (ne_vs (by omega)))) ?_
          refine p (ld ag54 rfl ((own_cellsS (own_nw hB2 hE6)).2.at1 hvk)) ?_
          refine p (mvt (.int .i64 (j : Nat)) rfl) ?_
          refine p (ia' es54 rfl rfl (by omega) (Cells.ok (hck.wk hE6) (ne_nv (by omega)))) ?_
          refine p (ld ag3 rfl (nv_cel (hck.wk hE6) hx)) ?_
          refine p asg ?_
          refine nl ?_
          refine tn (hK22 _ _ ?_)
          refine sqc (fun σ5 wK => (Wk wG wK) ∧ (World.ownsRow wK wG.heap.size 3 1 (.slice (some ⟨bc, 0, none⟩) a.length a.length) a.length ((tab a.length (fun i => if i = x then fin1 (stOf a x) else fB i)).map nv)) ∧ (σ5 0 = .slice aa a.length cA) ∧ (σ5 4 = .slice ab n4 cB) ∧ (σ5 7 = .slice (some ⟨bc, 0, none⟩) a.length a.length) ∧ (σ5 8 = .int .i64 (k : Nat)) ∧ (σ5 9 = .int .i64 (j : Nat)) ∧ (σ5 10 = .int .i64 (x : Nat))) ?_ ?_
          · refine sq (fun K23 hK23 => ?_)
            refine rg ?_
            refine p (mvt (.slice aa a.length cA) rfl) ?_
            refine p mv ?_
            refine p (ia' es42 rfl rfl (by omega) (hA.ok (by omega))) ?_
            refine p (fa fo79_0 rfl) ?_
            refine p (ld ag4 rfl (Wk.cel (Md.trans hEg hE6) h20)) ?_
            refine nl ?_
            refine tn (hK23 _ _ ?_)
            refine cb rfl (fun hc75 => ?_) (fun hc75 => ?_)
            · refine rg ?_
              refine p (mvt (.slice (some ⟨bc, 0, none⟩) a.length a.length) rfl) ?_
              refine p mv ?_
              refine p (ia es54 rfl rfl (by omega)) ?_
              refine e (stn (i := x) (v := 1) hC6 (fun i => if i = x then 1 else fB i) cz3 rfl rfl rfl (by omega) (if_pos rfl) (fun j _ h => if_neg h) fun w20 hM20 ho20 => ?_)
              have hE20 : Wk wG w20 := Wk.own hE6 hC6 hM20 (Nat.le_refl _)
              refine nl ?_
              refine tn ?_
              exact ⟨hE20, ((by rw [show fin1 (stOf a x) = 1 from if_pos hc75]; exact ho20)), rfl, rfl, rfl, rfl, rfl, rfl⟩
            · refine skp ?_
              refine tn ?_
              exact ⟨hE6, ((by rw [show fin1 (stOf a x) = 0 from if_neg (by rw [hc75]; exact Bool.noConfusion), ← tab_ext (f := fB) (fun i hi => by split; rename_i e; rw [e, hf0]; rfl)]; exact hC6)), rfl, rfl, rfl, rfl, rfl, rfl⟩
          rintro σ5 wK ⟨hE7, hC7, hs5_0, hs5_4, hs5_7, hs5_8, hs5_9, hs5_10⟩
          refine fx 0 hs5_0 (fx 4 hs5_4 (fx 7 hs5_7 (fx 8 hs5_8 (fx 9 hs5_9 (fx 10 hs5_10 ?_)))))
          refine sq (fun K23 hK23 => ?_)
          refine sq (fun K24 hK24 => ?_)
          refine rg ?_
          refine p asg ?_
          refine nl ?_
          refine tn (hK24 _ _ ?_)
          refine blk ?_
          refine lp (fun gm σ6 wN => ∃ (q : Nat), (q ≤ (stOf a x).2.length) ∧ (Wk wG wN) ∧ (World.ownsRow wN wG.heap.size 3 1 (.slice (some ⟨bc, 0, none⟩) a.length a.length) a.length ((tab a.length (fun i => if i = x then fin1 (stOf a x) + sumC a ((stOf a x).2.take q) else fB i)).map nv)) ∧ (σ6 0 = .slice aa a.length cA) ∧ (σ6 4 = .slice ab n4 cB) ∧ (σ6 7 = .slice (some ⟨bc, 0, none⟩) a.length a.length) ∧ (σ6 8 = .int .i64 (k : Nat)) ∧ (σ6 9 = .int .i64 (j : Nat)) ∧ (σ6 10 = .int .i64 (x : Nat)) ∧ (σ6 11 = .int .i64 (q : Nat)) ∧ ((stOf a x).2.length - q = gm)) _ ⟨0, (by omega), hE7, hC7, rfl, rfl, rfl, rfl, rfl, rfl, rfl, rfl⟩ ?_
          rintro gm σ6 wN ⟨q, hq, hE8, hC8, hs6_0, hs6_4, hs6_7, hs6_8, hs6_9, hs6_10, hs6_11, rfl⟩
          refine fx 0 hs6_0 (fx 4 hs6_4 (fx 7 hs6_7 (fx 8 hs6_8 (fx 9 hs6_9 (fx 10 hs6_10 (fx 11 hs6_11 ?_))))))
          refine sq (fun K25 hK25 => ?_)
          refine sq (fun K26 hK26 => ?_)
          refine rg ?_
          refine p (mvt (.int .i64 (q : Nat)) rfl) ?_
          refine p (mvt (.slice aa a.length cA) rfl) ?_
          refine p (mvt (.int .i64 (x : Nat)) rfl) ?_
          refine p (ia' es42 rfl rfl (by omega) (hA.ok (by omega))) ?_
          refine p (fa fo79_1 rfl) ?_
          refine p (ld ag77 rfl (Wk.cel (Md.trans hEg hE8) h21)) ?_
          refine p (lnl u77 rfl rfl) ?_
          refine p (lt rfl rfl) ?_
          refine nl ?_
          refine tn (hK26 _ _ ?_)
          refine cd rfl (fun hc86 => ?_) (fun hc86 => ?_)
          · refine skp ?_
            refine tn (hK25 _ _ ?_)
            refine sq (fun K27 hK27 => ?_)
            refine blk ?_
            obtain ⟨⟨c, z⟩, hek⟩ : ∃ e, (stOf a x).2[q]? = some e := ⟨_, List.getElem?_eq_getElem (by omega)⟩
            have hze := hS.edge hxl (List.mem_of_getElem? hek)
            have hhz := hS.hlt hxl (List.mem_of_getElem? hek)
            simp only at hze hhz
            have hcx := tab_cel (own_cellsS hC8).2 (i := x) (by omega)
            rw [if_pos rfl] at hcx
            have hcz := tab_cel (own_cellsS hC8).2 (i := z.toNat) (by omega)
            rw [if_neg (fun e => by rw [e] at hhz; omega), hCK2.low (by omega) (by omega)] at hcz
            have hcl := cnt_le a z.toNat
            have hsb := sumC_le a ((stOf a x).2.take q)
            have hsb2 : ((stOf a x).2.take q).length * 1099511627777 ≤ 256 * 1099511627777 := Nat.mul_le_mul_right _ (by rw [List.length_take]; omega)
            have hS24 : (fun w' => Wk wN w') wN.drew := (Md.refl _ _).drew
            refine lst (fun w' => Wk wN w') 20 wide hS24 ?_
            refine lq 0 rfl (by kernel_rfl) (fun _ _ => mvt (.slice (some ⟨bc, 0, none⟩) a.length a.length) rfl) hS24 ?_
            refine lq 1 rfl (by kernel_rfl) (fun _ _ => mvt (.int .i64 (x : Nat)) rfl) hS24 ?_
            refine lq 2 rfl (by kernel_rfl) (fun _ _ => mvt (.slice (some ⟨bc, 0, none⟩) a.length a.length) rfl) hS24 ?_
            refine lq 3 rfl (by kernel_rfl) (fun _ _ => mvt (.int .i64 (x : Nat)) rfl) hS24 ?_
            refine lq 4 rfl (by kernel_rfl) (fun _ _ => ia es54 rfl rfl (by omega)) hS24 ?_
            refine lq 5 rfl (by kernel_rfl) (fun w' hS => ld ag3 rfl (Wk.cel hS (show _ = some (Value.int .i64 ((fin1 (stOf a x) + sumC a ((stOf a x).2.take q) : Nat) : Int)) from hcx))) hS24 ?_
            refine lq 6 rfl (by kernel_rfl) (fun _ _ => mvt (.slice (some ⟨bc, 0, none⟩) a.length a.length) rfl) hS24 ?_
            refine lq 7 rfl (by kernel_rfl) (fun _ _ => mvt (.slice aa a.length cA) rfl) hS24 ?_
            refine lq 8 rfl (by kernel_rfl) (fun _ _ => mvt (.int .i64 (x : Nat)) rfl) hS24 ?_
            refine lq 9 rfl (by kernel_rfl) (fun _ _ => ia' es42 rfl rfl (by omega) (hA.ok (by omega))) hS24 ?_
            refine lq 10 rfl (by kernel_rfl) (fun _ _ => fa fo79_1 rfl) hS24 ?_
            refine lq 11 rfl (by kernel_rfl) (fun w' hS => ld ag77 rfl (Wk.cel hS (Wk.cel (Md.trans hEg hE8) h21))) hS24 ?_
            refine lq 12 rfl (by kernel_rfl) (fun _ _ => mvt (.int .i64 (q : Nat)) rfl) hS24 ?_
            refine lq 13 rfl (by kernel_rfl) (fun _ _ => ia' es77 rfl rfl (by omega) (hEd0.ok (by omega))) hS24 ?_
            refine lq 14 rfl (by kernel_rfl) (fun _ _ => fa fo82_1 rfl) hS24 ?_
            refine lq 15 rfl (by kernel_rfl) (fun w' hS => ld ag3 rfl (Wk.cel hS (show _ = some (Value.int .i64 ((z.toNat : Nat) : Int)) from ((hEd0.wk (Md.trans hEg hE8)).to q (c, z) hek).trans (congrArg (fun z => some (Value.int .i64 z)) (by simp only; omega))))) hS24 ?_
            refine lq 16 rfl (by kernel_rfl) (fun _ _ => ia es54 rfl rfl (by omega)) hS24 ?_
            refine lq 17 rfl (by kernel_rfl) (fun w' hS => ld ag3 rfl (Wk.cel hS (show _ = some (Value.int .i64 ((cnt a z.toNat : Nat) : Int)) from hcz))) hS24 ?_
            refine lq 18 rfl (by kernel_rfl) (fun _ _ => adv ((fin1 (stOf a x) + sumC a ((stOf a x).2.take q) + cnt a z.toNat : Nat) : Int) rfl rfl (w64n (by omega) (by omega))) hS24 ?_
            refine lq 19 rfl (by kernel_rfl) (fun _ _ => ia es54 rfl rfl (by omega)) hS24 ?_
            refine lel 20 rfl (by kernel_rfl) (by kernel_rfl) (stn (i := x) (v := fin1 (stOf a x) + sumC a ((stOf a x).2.take q) + cnt a z.toNat) (own_nw hC8 hS24) (fun i => if i = x then fin1 (stOf a x) + sumC a ((stOf a x).2.take (q + 1)) else fB i) cz3 rfl rfl rfl (by omega) (by rw [if_pos rfl, sumC_step hek]; simp only; omega) (fun j _ h => by rw [if_neg h, if_neg h]) fun w24 hM24 ho24 => ?_)
            have hE24 : Wk wG w24 := Wk.own (Md.trans hE8 hS24) (own_nw hC8 hS24) hM24 (Nat.le_refl _)
            refine lnd (by kernel_rfl) ?_
            refine bn ?_
            refine tn (hK27 _ _ ?_)
            refine rg ?_
            refine p (mvt (.int .i64 (q : Nat)) rfl) ?_
            refine p (ad rfl rfl (wi64 (by omega))) ?_
            refine p asg ?_
            refine nl ?_
            refine tn ?_
            exact ⟨_, by omega, q + 1, (by omega), hE24, ho24, rfl, rfl, rfl, rfl, rfl, rfl, rfl, rfl⟩
          · refine ext ?_
            refine te _ ?_
            refine te _ ?_
            refine be ?_
            refine tn (hK23 _ _ ?_)
            refine sq (fun K27 hK27 => ?_)
            rw [show q = (stOf a x).2.length by omega, List.take_length] at hC8
            have hcx := tab_cel (own_cellsS hC8).2 (i := x) (by omega)
            rw [if_pos rfl] at hcx
            have hcnt := hS.cnt hxl
            have hcnt : cnt a x = min (fin1 (stOf a x) + sumC a (stOf a x).2) 1099511627777 := hcnt
            refine rg ?_
            refine p (mvt (.slice (some ⟨bc, 0, none⟩) a.length a.length) rfl) ?_
            refine p (mvt (.int .i64 (x : Nat)) rfl) ?_
            refine p (ia es54 rfl rfl (by omega)) ?_
            refine p (ld ag3 rfl (show _ = some (Value.int .i64 ((fin1 (stOf a x) + sumC a (stOf a x).2 : Nat) : Int)) from hcx)) ?_
            refine p (gt rfl rfl) ?_
            refine nl ?_
            refine tn (hK27 _ _ ?_)
            refine cd rfl (fun hc113 => ?_) (fun hc113 => ?_)
            · refine rg ?_
              refine p (mvt (.slice (some ⟨bc, 0, none⟩) a.length a.length) rfl) ?_
              refine p (mvt (.int .i64 (x : Nat)) rfl) ?_
              refine p (ia es54 rfl rfl (by omega)) ?_
              refine e (stn (i := x) (v := 1099511627777) hC8 (fun i => if i = x then cnt a x else fB i) cz3 rfl rfl rfl (by omega) (by rw [if_pos rfl, hcnt]; omega) (fun j _ h => by rw [if_neg h, if_neg h]) fun w26 hM26 ho26 => ?_)
              have hE26 : Wk wG w26 := Wk.own hE8 hC8 hM26 (Nat.le_refl _)
              refine nl ?_
              refine bn ?_
              refine tn (hK21 _ _ ?_)
              refine rg ?_
              refine p (mvt (.int .i64 (j : Nat)) rfl) ?_
              refine p (ad rfl rfl (wi64 (by omega))) ?_
              refine p asg ?_
              refine nl ?_
              refine tn ?_
              exact ⟨_, by omega, j + 1, (fun i => if i = x then cnt a x else fB i), (by omega), hE26, ho26, (hCK2.step hx), rfl, rfl, rfl, rfl, rfl, rfl⟩
            · refine skp ?_
              refine bn ?_
              refine tn (hK21 _ _ ?_)
              refine rg ?_
              refine p (mvt (.int .i64 (j : Nat)) rfl) ?_
              refine p (ad rfl rfl (wi64 (by omega))) ?_
              refine p asg ?_
              refine nl ?_
              refine tn ?_
              exact ⟨_, by omega, j + 1, (fun i => if i = x then cnt a x else fB i), (by omega), hE8, ((by rw [show cnt a x = fin1 (stOf a x) + sumC a (stOf a x).2 by rw [hcnt]; omega]; exact hC8)), (hCK2.step hx), rfl, rfl, rfl, rfl, rfl, rfl⟩
        · refine ext ?_
          refine te _ ?_
          refine te _ ?_
          refine be ?_
          refine bn ?_
          refine tn (hK17 _ _ ?_)
          refine rg ?_
          refine p (mvt (.int .i64 (k : Nat)) rfl) ?_
          refine p (ad rfl rfl (wi64 (by omega))) ?_
          refine p asg ?_
          refine nl ?_
          refine tn ?_
          exact ⟨_, by omega, k + 1, fB, (by omega), hE6, hC6, (hCK2.next (by omega)), rfl, rfl, rfl, rfl, rfl⟩
      · refine ext ?_
        refine te _ ?_
        refine te _ ?_
        refine be ?_
        refine tn (hK13 _ _ ?_)
        refine sq (fun K17 hK17 => ?_)
        refine rg ?_
        refine p (mvt (.slice (some ⟨bc, 0, none⟩) a.length a.length) rfl) ?_
        refine p (ast (.slice (some ⟨bc, 0, none⟩) a.length a.length) rfl) ?_
        refine nl ?_
        refine tn (hK17 _ _ ?_)
        refine rt ?_
        refine f1 rfl rfl ?_
        have hfin : tab a.length f = tab a.length (cnt a) := tab_ext fun i hi => hCK.low hi (by have := hS.htop i hi; omega)
        rw [hfin] at hC4
        exact ⟨Md.trans hEg hE4, own_mono hC4 hEg.size⟩
end Go.Hb.CountsR
