/-
  Walk of package dawg: a word added. No conditions but those that each theorem names.
-/
import Derived.Test.YtbfcjgfnlcbojaaChecked
import Derived.Test.YtbfcjgfnlcbojaaCore
import Derived.Test.YtbfcjgfnlcbojaaWords
import Derived.Test.YtbfcjgfnlcbojaaRef18
import Derived.Test.YtbfcjgfnlcbojaaVisit
import Derived.Test.YtbfcjgfnlcbojaaReg
import Derived.Test.YtbfcjgfnlcbojaaCut
import Derived.Test.YtbfcjgfnlcbojaaBuild
import Derived.Test.YtbfcjgfnlcbojaaPlan
set_option maxRecDepth 20000
set_option linter.unusedVariables false
namespace Go.Hb.Add
open Go.Proofs
open Go.Hb.Words Go.Hb.Ref18 Go.Hb.Visit Go.Hb.Reg Go.Hb.Cut Go.Hb.Build
theorem ag3 : aggN Try.prog 3 = some none := by kernel_rfl
theorem ag4 : aggN Try.prog 4 = some none := by kernel_rfl
theorem ag9 : aggN Try.prog 9 = some none := by kernel_rfl
theorem ag99 : aggN Try.prog 99 = some none := by kernel_rfl
theorem ag100 : aggN Try.prog 100 = some none := by kernel_rfl
theorem ag103 : aggN Try.prog 103 = some none := by kernel_rfl
theorem ag104 : aggN Try.prog 104 = some none := by kernel_rfl
theorem c44 : Callable Try.prog 44 := callable Try.func44 (by kernel_rfl) (by kernel_rfl)
theorem c52 : Callable Try.prog 52 := callable Try.func52 (by kernel_rfl) (by kernel_rfl)
theorem cz4 : cellsN Try.prog 4 = some 1 := by kernel_rfl
theorem cz9 : cellsN Try.prog 9 = some 1 := by kernel_rfl
theorem cz36 : cellsN Try.prog 36 = some 1 := by kernel_rfl
theorem cz100 : cellsN Try.prog 100 = some 1 := by kernel_rfl
theorem cz103 : cellsN Try.prog 103 = some 1 := by kernel_rfl
theorem es103 : elemSize Try.prog 103 = some 1 := by kernel_rfl
theorem fo102_0 : fieldOff Try.prog 102 0 = some 0 := by kernel_rfl
theorem fo102_1 : fieldOff Try.prog 102 1 = some 1 := by kernel_rfl
theorem fo106_0 : fieldOff Try.prog 106 0 = some 0 := by kernel_rfl
theorem fo106_1 : fieldOff Try.prog 106 1 = some 1 := by kernel_rfl
theorem fo106_2 : fieldOff Try.prog 106 2 = some 2 := by kernel_rfl
theorem fo106_3 : fieldOff Try.prog 106 3 = some 3 := by kernel_rfl
theorem fo106_4 : fieldOff Try.prog 106 4 = some 4 := by kernel_rfl
theorem fo106_5 : fieldOff Try.prog 106 5 = some 5 := by kernel_rfl
theorem so100 : sliceOk Try.prog 100 118 2 16 = true := by kernel_rfl
theorem so103 : sliceOk Try.prog 103 99 1 8 = true := by kernel_rfl
theorem st102 : structOk Try.prog 102 = some ([(0, 1), (1, 1), (2, 1)], [.bool false, .slice none 0 0, .int .i64 0]) := by kernel_rfl
theorem st118 : structOk Try.prog 118 = some ([(0, 1), (1, 1)], [.int .u8 0, .pointer none]) := by kernel_rfl
theorem u9 : Try.prog.underlying 9 = some (.string) := by kernel_rfl
theorem u104 : Try.prog.underlying 104 = some (.map 131 99) := by kernel_rfl
theorem wide : Try.prog.follows .mixedOrders = true := by kernel_rfl

theorem db_wk {w w' : World} {b m : Nat} {most st cnt : Int} {last : List UInt8} {any : Bool} {vp : Value} {row : List Nat} {fz pa : List FN} {cs : List UInt8} (hD : DB w b m most st cnt last any vp row fz pa cs) (hM : Wk w w') : DB w' b m most st cnt last any vp row fz pa cs :=
  ⟨Wk.blk hM hD.blk, hD.map.md hM (fun x => x), own_nw hD.path hM, fz_wk hD.hfz hM, hD.nd, fun i x hx => ⟨(hD.hpa i x hx).1.md hM (fun x => x) (fun _ _ x => x), (hD.hpa i x hx).2⟩, hD.sep⟩
/-- the blocks of a builder that may turn -/
def FB (b m : Nat) (vp : Value) (pa : List FN) (k : Nat) : Prop := k = b ∨ k = m ∨ vp.ownBlock = some k ∨ ∃ x ∈ pa, k = x.p ∨ x.ev.ownBlock = some k

set_option maxHeartbeats 2000000 in
theorem add_w (b m K : Nat) (most cnt : Int) (last wd : List UInt8) (any : Bool) (vp : Value) (fz pa : List FN) (w : World) (hD : DB w b m most 0 cnt last any vp (pa.map FN.p) fz pa last) (hpl : pa.length = last.length + 1) (hll : last.length ≤ 255) (hfl : fz.length ≤ 68719476736) (hK : ∀ x ∈ pa, x.es.length ≤ K) (hK2 : K ≤ 34359738368) :
    Ret Try.prog 43 (List.toArray [.pointer (some ⟨b, 0, none⟩), str wd]) w (fun v w' => (255 < wd.length ∧ v = .int .i64 22 ∧ w' = w) ∨ (wd.length ≤ 255 ∧ any = true ∧ sless last wd = false ∧ v = .int .i64 180 ∧ w' = w) ∨ (wd.length ≤ 255 ∧ (any = true → sless last wd = true) ∧ ∃ vp' fz' pa', v = .int .i64 (if most < fz'.length then 181 else 0) ∧ DB w' b m most (if most < fz'.length then 181 else 0) cnt wd true vp' (pa'.map FN.p) fz' pa' wd ∧ pa'.length = wd.length + 1 ∧ addS last wd (fz.map ent, pa.map ent) = (fz'.map ent, pa'.map ent) ∧ Md (FB b m vp pa) w w' ∧ (∀ k, FB b m vp' pa' k → FB b m vp pa k ∨ w.heap.size ≤ k) ∧ ∀ x ∈ fz', x ∈ fz ∨ ∃ y ∈ pa, pe y = pe x)) := by
  have hb0 : Blk w.heap b [.int .i64 most, str last, .bool any, vp, .map (some m), .int .i64 (0 : Int), .int .i64 cnt] := ⟨_, hD.blk⟩
  refine enter Try.func43 rfl Try.ntmps43 rfl ?_
  refine sq (fun K1 hK1 => ?_)
  refine rg ?_
  refine p asg ?_
  refine nl ?_
  refine tn (hK1 _ _ ?_)
  refine sq (fun K2 hK2 => ?_)
  refine sq (fun K3 hK3 => ?_)
  refine rg ?_
  refine p (mvt (str wd) rfl) ?_
  refine p (lns u9 rfl rfl) ?_
  refine p (gt rfl rfl) ?_
  refine nl ?_
  refine tn (hK3 _ _ ?_)
  refine cd rfl (fun hc11 => ?_) (fun hc11 => ?_)
  · refine sq (fun K4 hK4 => ?_)
    refine rg ?_
    refine p asg ?_
    refine nl ?_
    refine tn (hK4 _ _ ?_)
    refine rt ?_
    refine tr ?_
    refine f1 rfl rfl ?_
    exact .inl ⟨by omega, rfl, rfl⟩
  · refine skp ?_
    refine tn (hK2 _ _ ?_)
    refine sqc (fun σ1 wC => (wd.length ≤ 255) ∧ (any = true → sless last wd = true) ∧ (Wk w wC) ∧ (σ1 0 = .pointer (some ⟨b, 0, none⟩)) ∧ (σ1 1 = str wd)) ?_ ?_
    · refine sq (fun K4 hK4 => ?_)
      refine rg ?_
      refine p (mvt (.pointer (some ⟨b, 0, none⟩)) rfl) ?_
      refine p (nc rfl) ?_
      refine p (fa fo106_2 rfl) ?_
      refine p (ld ag4 rfl (hb0.cel 2)) ?_
      refine p mv ?_
      refine gb (t := 16) rfl (fun hg16 => ?_) (fun hg16 => ?_)
      · refine pg rfl rfl rfl (mvt (str wd) rfl) ?_
        refine pg rfl rfl rfl (mvt (.pointer (some ⟨b, 0, none⟩)) rfl) ?_
        refine pg rfl rfl rfl (nc rfl) ?_
        refine pg rfl rfl rfl (fa fo106_1 rfl) ?_
        refine pg rfl rfl rfl (ld ag9 rfl (hb0.cel 1)) ?_
        refine pg rfl rfl rfl (les rfl rfl) ?_
        refine p (pkt rfl) ?_
        refine nl ?_
        refine tn (hK4 _ _ ?_)
        refine cb rfl (fun hc23 => ?_) (fun hc23 => ?_)
        · refine sq (fun K5 hK5 => ?_)
          refine rg ?_
          refine p asg ?_
          refine nl ?_
          refine tn (hK5 _ _ ?_)
          refine rt ?_
          refine tr ?_
          refine f1 rfl rfl ?_
          exact .inr (.inl ⟨by omega, hg16, le_T hc23, rfl, rfl⟩)
        · refine skp ?_
          refine tn ?_
          exact ⟨(by omega), (fun _ => le_F hc23), (Md.refl _ _), rfl, rfl⟩
      · refine sk rfl rfl rfl rfl ?_
        refine sk rfl rfl rfl rfl ?_
        refine sk rfl rfl rfl rfl ?_
        refine sk rfl rfl rfl rfl ?_
        refine sk rfl rfl rfl rfl ?_
        refine sk rfl rfl rfl rfl ?_
        refine p (pkf rfl) ?_
        refine nl ?_
        refine tn (hK4 _ _ ?_)
        refine cf rfl ?_
        refine skp ?_
        refine tn ?_
        exact ⟨(by omega), (fun h => absurd (h.symm.trans hg16) Bool.noConfusion), (Md.refl _ _), rfl, rfl⟩
    rintro σ1 wC ⟨h255, hris, hEC, hs1_0, hs1_1⟩
    refine fx 0 hs1_0 (fx 1 hs1_1 ?_)
    have hDC := db_wk hD hEC
    have hbC := Wk.B hEC hb0
    refine sq (fun K4 hK4 => ?_)
    refine rg ?_
    refine p (mvt (str wd) rfl) ?_
    refine p (mvt (.pointer (some ⟨b, 0, none⟩)) rfl) ?_
    refine p (nc rfl) ?_
    refine p (fa fo106_1 rfl) ?_
    refine p (ld ag9 rfl (hbC.cel 1)) ?_
    refine e (cl c52 (common_w wd last _ (by omega) (by omega)) rfl fun v29 w29 hR29 => ?_)
    obtain ⟨rfl, hE29⟩ := hR29
    have hD29 := db_wk hDC hE29
    have hcl := common_le wd last
    refine p asg ?_
    refine nl ?_
    refine tn (hK4 _ _ ?_)
    refine sq (fun K5 hK5 => ?_)
    refine rg ?_
    refine p (mvt (.pointer (some ⟨b, 0, none⟩)) rfl) ?_
    refine p mv ?_
    refine e (cl c44 (cut_w b m (common wd last) K most 0 cnt last any vp fz pa last w29 hD29 (by omega) (by omega) (by omega) hK (by omega)) rfl fun v32 w32 hR32 => ?_)
    obtain ⟨rfl, vp1, fz1, pa1, hD1, hl1, hcut, hM1, hpe1, hvo1, hK1x, hfn1⟩ := hR32
    refine nl ?_
    refine tn (hK5 _ _ ?_)
    refine sq (fun K6 hK6 => ?_)
    refine sq (fun K7 hK7 => ?_)
    refine rg ?_
    refine p mv ?_
    refine p asg ?_
    refine nl ?_
    refine tn (hK7 _ _ ?_)
    refine blk ?_
    obtain ⟨B0, a0, rfl⟩ : ∃ B a, pa1 = B ++ [a] := by
      rcases List.eq_nil_or_concat pa1 with h | ⟨B, a, h⟩
      · rw [h] at hl1; simp at hl1
      · exact ⟨B, a, by simpa using h⟩
    have hB0 : B0.length = common wd last := by simp at hl1; omega
    have hF1 : ∀ k, (k = b ∨ k = m ∨ ∃ x ∈ pa, k = x.p ∨ x.ev.ownBlock = some k) → FB b m vp pa k := fun k h => by
      rcases h with h | h | h
      · exact .inl h
      · exact .inr (.inl h)
      · exact .inr (.inr (.inr h))
    have hF2 : ∀ k, FB b m vp1 (B0 ++ [a0]) k → FB b m vp pa k ∨ w.heap.size ≤ k := by
      rintro k (h | h | h | ⟨x, hx, h⟩)
      · exact .inl (.inl h)
      · exact .inl (.inr (.inl h))
      · exact .inl (.inr (.inr (.inl (hvo1 ▸ h))))
      · have hm : pe x ∈ (pa.map pe).take (common wd last + 1) := by rw [← hpe1]; exact List.mem_map_of_mem hx
        obtain ⟨y, hy, he⟩ := List.mem_map.1 (List.mem_of_mem_take hm)
        refine .inl (.inr (.inr (.inr ⟨y, hy, ?_⟩)))
        rcases h with h | h
        · exact .inl (h.trans (congrArg Prod.fst he).symm)
        · exact .inr ((congrArg (fun q : Nat × Value => q.2.ownBlock) he).trans h)
    refine lp (fun gm σ2 wL => ∃ (i : Nat) (vpi : Value) (B : List FN) (a : FN), (common wd last ≤ i) ∧ (i ≤ wd.length) ∧ (B.length = i) ∧ (DB wL b m most 0 cnt last any vpi ((B ++ [a]).map FN.p) fz1 (B ++ [a]) wd) ∧ ((B ++ [a]).map ent = (B0 ++ [a0]).map ent ++ List.replicate (i - common wd last) dE) ∧ (Md (FB b m vp pa) w wL) ∧ (∀ k, FB b m vpi (B ++ [a]) k → FB b m vp pa k ∨ w.heap.size ≤ k) ∧ (a.es.length ≤ K + 1) ∧ (σ2 0 = .pointer (some ⟨b, 0, none⟩)) ∧ (σ2 1 = str wd) ∧ (σ2 6 = .int .i64 i) ∧ (wd.length - i = gm)) _ ⟨common wd last, vp1, B0, a0, (by omega), (by omega), hB0, (db_cs hD1 (fun j hj => (common_get (a := wd) (b := last) (by omega)).symm)), (by simp), (Md.trans' ((Md.trans hEC hE29).mono (fun _ _ h => h.elim)) hM1 (fun k _ h => hF1 k h)), hF2, (hK1x a0 (by simp)), rfl, rfl, rfl, rfl⟩ ?_
    rintro gm σ2 wL ⟨i, vpi, B, a, hi1, hi2, hBl, hDi, hent, hMi, hFi, hKa, hs2_0, hs2_1, hs2_6, rfl⟩
    refine fx 0 hs2_0 (fx 1 hs2_1 (fx 6 hs2_6 ?_))
    obtain ⟨aq, cq, rfl⟩ := own_slice hDi.path
    have hbL : Blk wL.heap b [.int .i64 most, str last, .bool any, (Value.slice aq ((B ++ [a]).map FN.p).length cq), .map (some m), .int .i64 (0 : Int), .int .i64 cnt] := ⟨_, hDi.blk⟩
    refine sq (fun K8 hK8 => ?_)
    refine sq (fun K9 hK9 => ?_)
    refine rg ?_
    refine p (mvt (.int .i64 i) rfl) ?_
    refine p (mvt (str wd) rfl) ?_
    refine p (lns u9 rfl rfl) ?_
    refine p (lt rfl rfl) ?_
    refine nl ?_
    refine tn (hK9 _ _ ?_)
    refine cd rfl (fun hc37 => ?_) (fun hc37 => ?_)
    · refine skp ?_
      refine tn (hK8 _ _ ?_)
      refine sq (fun K10 hK10 => ?_)
      refine blk ?_
      refine sq (fun K11 hK11 => ?_)
      refine rg ?_
      refine p (bld (ps := []) (L := [.bool false, .slice none 0 0, .int .i64 0]) st102 rfl (rfl)) ?_
      refine e (bxaT rfl fun b41 w41 hb41 hN41 hB41 => ?_)
      refine p asg ?_
      refine nl ?_
      refine tn (hK11 _ _ ?_)
      refine sq (fun K12 hK12 => ?_)
      have hai : (B ++ [a])[B.length]? = some a := by rw [List.getElem?_append_right (Nat.le_refl _), Nat.sub_self]; rfl
      have hNa : NdAt wL a.p a.ev a.f (a.es.map (tg fz1) ++ []) 0 := by
        have h := (hDi.hpa _ _ hai).1
        rw [opn, List.getElem?_eq_none (by simp)] at h; exact h
      have hle : (a.es.map (tg fz1) ++ []).length = a.es.length := by simp
      have hln : ((B ++ [a]).map FN.p).length = i + 1 := by simp [hBl]
      have hrowi : ((B ++ [a]).map FN.p)[i]? = some a.p := by rw [List.getElem?_map, ← hBl, hai]; rfl
      obtain ⟨ae, ce, hae⟩ := own_slice hNa.row
      refine rg ?_
      refine p (mvt (.pointer (some ⟨b, 0, none⟩)) rfl) ?_
      refine p (nc rfl) ?_
      refine p (fa fo106_3 rfl) ?_
      refine p (ld ag103 rfl ((Wk.B hN41.md hbL).cel 3)) ?_
      refine p (mvt (.int .i64 i) rfl) ?_
      refine p (ia' es103 rfl rfl (by omega) (Cells.ok ((own_cellsS hDi.path).2) (ne_map (by omega)))) ?_
      refine p (ld ag99 rfl (((own_cellsS hDi.path).2.wk hN41.md).at1 (i := i) (u := .pointer (some ⟨a.p, 0, none⟩)) (by rw [List.getElem?_map, hrowi]; rfl))) ?_
      refine p asg ?_
      refine nl ?_
      refine tn (hK12 _ _ ?_)
      refine sq (fun K13 hK13 => ?_)
      have hS12 : (fun w' => cel w'.heap a.p 1 = some a.ev) w41.drew := (Wk.B hN41.md hNa.B).cel 1
      refine lst (fun w' => cel w'.heap a.p 1 = some a.ev) 14 wide hS12 ?_
      refine lq 0 rfl (by kernel_rfl) (fun _ _ => mv) hS12 ?_
      refine lq 1 rfl (by kernel_rfl) (fun _ _ => mv) hS12 ?_
      refine lq 2 rfl (by kernel_rfl) (fun _ _ => nc rfl) hS12 ?_
      refine lq 3 rfl (by kernel_rfl) (fun _ _ => fa fo102_1 rfl) hS12 ?_
      refine lq 4 rfl (by kernel_rfl) (fun w' hS => ld ag100 rfl (hS)) hS12 ?_
      refine lq 5 rfl (by kernel_rfl) (fun _ _ => mvt (str wd) rfl) hS12 ?_
      refine lq 6 rfl (by kernel_rfl) (fun _ _ => mvt (.int .i64 i) rfl) hS12 ?_
      refine lq 7 rfl (by kernel_rfl) (fun _ _ => ixs u9 rfl rfl (by omega)) hS12 ?_
      refine lq 8 rfl (by kernel_rfl) (fun _ _ => mv) hS12 ?_
      refine lq 9 rfl (by kernel_rfl) (fun _ _ => bld (ps := [(0, .int .u8 (wd.getD i 0).toNat), (1, .pointer (some ⟨b41, 0, none⟩))]) (L := [.int .u8 (wd.getD i 0).toNat, .pointer (some ⟨b41, 0, none⟩)]) st118 rfl (rfl)) hS12 ?_
      refine lef 10 rfl (by kernel_rfl) (bsa so100 rfl rfl rfl fun b59 w59 hb59 hN59 hB59 => ?_)
      have hE59 : Wk wL w59 := Md.trans hN41.md (Md.trans (Md.refl _ _).drew hN59.md)
      have hS12_10 : (fun w' => cel w'.heap a.p 1 = some a.ev) w59 := Wk.cel hN59.md hS12
      refine ⟨hS12_10, ?_⟩
      refine lef 11 rfl (by kernel_rfl) (ap so100 (own_nw hNa.row hE59) rfl (Nat.zero_le _) rfl (Cells.of_blk hB59) (rfl) (rfl) (by omega) (by omega) fun v60 w60 ho60 hM60 hz60 hf60 => ?_)
      have hNb60 := hM60.blk (Wk.blk hE59 hNa.blk) (row_node hNa hNa)
      have hS12_11 : (fun w' => cel w'.heap a.p 1 = some a.ev) w60 := hM60.cel hS12_10 (row_node hNa hNa)
      refine ⟨hS12_11, ?_⟩
      refine lef 12 rfl (by kernel_rfl) (wpo_run (nc rfl) ⟨hS12_11, ?_⟩)
      refine lef 13 rfl (by kernel_rfl) (wpo_run (fa fo102_1 rfl) ⟨hS12_11, ?_⟩)
      refine lel 14 rfl (by kernel_rfl) (by kernel_rfl) (stT cz100 rfl rfl (own_one ho60) hNb60 (by simp) fun w12 hM12 hB12 => ?_)
      have hbT12 := hM12.blk (hM60.blk (Wk.blk hE59 hDi.blk) (own_cellne hNa.row hDi.blk (by decide))) (cell_ne hDi.blk hNa.blk (by decide))
      have hp12 := own_md (own_md (own_nw hDi.path hE59) hM60 (fun k hk => own_ne hDi.path hNa.row (by decide) hk)) hM12 (fun k hk h => own_cellne hDi.path hNa.blk (by decide) (h ▸ hk))
      refine lnd (by kernel_rfl) ?_
      refine tn (hK13 _ _ ?_)
      refine rg ?_
      refine p (mvt (.pointer (some ⟨b, 0, none⟩)) rfl) ?_
      refine p (mvt (.pointer (some ⟨b, 0, none⟩)) rfl) ?_
      refine p (nc rfl) ?_
      refine p (fa fo106_3 rfl) ?_
      refine p (ld ag103 rfl (Blk.cel (L := [.int .i64 most, str last, .bool any, (Value.slice aq ((B ++ [a]).map FN.p).length cq), .map (some m), .int .i64 (0 : Int), .int .i64 cnt]) ⟨_, hbT12⟩ 3)) ?_
      refine p mv ?_
      refine e (bs1 so103 rfl rfl fun b69 w69 hb69 hN69 hB69 => ?_)
      have hB69x : Blk w69.heap b69 [Value.pointer (some ⟨b41, 0, none⟩)] := hB69
      refine e (ap so103 (own_nw hp12 hN69.md) rfl (Nat.zero_le _) rfl (Cells.of_blk hB69x) (rfl) (rfl) (by omega) (by omega) fun v70 w70 ho70 hM70 hz70 hf70 => ?_)
      have hbT70 := hM70.blk (Wk.blk hN69.md hbT12) (own_cellne hDi.path hDi.blk (by decide))
      refine p (nc rfl) ?_
      refine p (fa fo106_3 rfl) ?_
      refine e (stT cz103 rfl rfl (own_one ho70) hbT70 (by simp) fun w13 hM13 hB13 => ?_)
      have hE41 := hN41.size
      have hs59 := hE59.size
      have hs60 := hM60.size
      have hMtot : Md (fun k => a.ev.ownBlock = some k ∨ k = a.p ∨ (Value.slice aq ((B ++ [a]).map FN.p).length cq).ownBlock = some k ∨ k = b) wL w13 :=
        Md.trans' (Md.trans' (Md.trans (Md.trans' (Md.trans' (hE59.mono (fun _ _ h => h.elim)) hM60 (fun k _ h => .inl h)) hM12 (fun k _ h => .inr (.inl h))) (hN69.md.mono (fun _ _ h => h.elim))) hM70 (fun k _ h => .inr (.inr (.inl h)))) hM13 (fun k _ h => .inr (.inr (.inr h)))
      have hbq : b41 ≠ b := by have := hbL.lt; omega
      have hlNa := hNa.B.lt
      have keepq : ∀ {cs : Array Value} {t : Nat} {z : Nat × Nat}, w60.heap[b41]? = some (.cells cs t z) → w13.heap[b41]? = some (.cells cs t z) := fun h =>
        hM13.blk (hM70.blk (Wk.blk hN69.md (hM12.blk h (fun h => by omega))) (fun h => by have := (own_lt hDi.path h).2; omega)) hbq
      have hq13 := keepq (hM60.blk (Wk.blk hN59.md hB41) (fun h => by have := (own_lt hNa.row h).2; omega))
      have hN13 := hM13.blk (hM70.blk (Wk.blk hN69.md hB12) (own_cellne hDi.path hNa.blk (by decide))) (cell_ne hNa.blk hDi.blk (by decide))
      have hf60' : ∀ k, v60.ownBlock = some k → a.ev.ownBlock = some k ∨ wL.heap.size ≤ k := fun k hk => (hf60 k hk).imp id (fun h => by omega)
      have ho12 : World.ownsRow w12 0 118 2 v60 ((a.es.map (tg fz1) ++ []).length + 1) _ := own_md ho60 hM12 (fun k hk h => by
        rcases hf60 k hk with h2 | h2
        · exact row_node hNa hNa (h ▸ h2)
        · omega)
      have hp70 := hf70
      have hv13 := own_md (own_md (own_nw ho12 hN69.md) hM70 (fun k hk h => by
        rcases hf60 k hk with h2 | h2
        · exact own_ne hNa.row hDi.path (by decide) h2 h
        · have := (own_lt hDi.path h).2; omega)) hM13 (fun k hk h => by
        rcases hf60 k hk with h2 | h2
        · exact own_cellne hNa.row hDi.blk (by decide) (h ▸ h2)
        · have := hbL.lt; omega)
      have hp13 := own_md ho70 hM13 (fun k hk h => by
        rcases hf70 k hk with h2 | h2
        · exact own_cellne hDi.path hDi.blk (by decide) (h ▸ h2)
        · have := hbL.lt; have := hM12.size; have := hN69.md.size; omega)
      have hv2 : World.ownsRow w13 0 118 2 v60 (a.es.length + 1) (nflat (a.es.map (tg fz1) ++ [(wd.getD B.length 0, b41)])) := by
        have e1 : nflat (a.es.map (tg fz1) ++ [(wd.getD B.length 0, b41)]) = nflat (a.es.map (tg fz1) ++ []) ++ [Value.int .u8 (wd.getD i 0).toNat, .pointer (some ⟨b41, 0, none⟩)] := by rw [hBl, List.append_nil]; simp [nflat]
        rw [e1, show a.es.length + 1 = (a.es.map (tg fz1) ++ []).length + 1 from by simp]; exact hv13
      have hp2 : World.ownsRow w13 0 99 1 v70 ((B ++ [a]).map FN.p ++ [b41]).length (((B ++ [a]).map FN.p ++ [b41]).map (fun p : Nat => Value.pointer (some ⟨p, 0, none⟩))) := by
        rw [List.length_append, show (((B ++ [a]).map FN.p ++ [b41]).map (fun p : Nat => Value.pointer (some ⟨p, 0, none⟩))) = ((B ++ [a]).map FN.p).map (fun p : Nat => Value.pointer (some ⟨p, 0, none⟩)) ++ [Value.pointer (some ⟨b41, 0, none⟩)] from List.map_append]; exact hp13
      have hDn := db_push hDi hMtot hB13 hN13 hv2 hq13 (by omega) hf60' hp2
      have hDn' : DB w13 b m most 0 cnt last any v70 (((B ++ [(⟨a.p, v60, a.f, a.es⟩ : FN)]) ++ [(⟨b41, .slice none 0 0, false, []⟩ : FN)]).map FN.p) fz1 ((B ++ [⟨a.p, v60, a.f, a.es⟩]) ++ [⟨b41, .slice none 0 0, false, []⟩]) wd := by
        have e1 : (((B ++ [(⟨a.p, v60, a.f, a.es⟩ : FN)]) ++ [(⟨b41, .slice none 0 0, false, []⟩ : FN)]).map FN.p) = (B ++ [a]).map FN.p ++ [b41] := by simp
        rw [e1]; exact hDn
      have hent' : ((B ++ [(⟨a.p, v60, a.f, a.es⟩ : FN)]) ++ [(⟨b41, .slice none 0 0, false, []⟩ : FN)]).map ent = (B0 ++ [a0]).map ent ++ List.replicate (i + 1 - common wd last) dE := by
        rw [show i + 1 - common wd last = (i - common wd last) + 1 from by omega, List.replicate_succ', ← List.append_assoc, ← hent]
        simp [ent, dE]
      have hMn : Md (FB b m vp pa) w w13 := Md.trans' hMi hMtot (fun k hk h => (hFi k (by
        rcases h with h | h | h | h
        · exact .inr (.inr (.inr ⟨a, by simp, .inr h⟩))
        · exact .inr (.inr (.inr ⟨a, by simp, .inl h⟩))
        · exact .inr (.inr (.inl h))
        · exact .inl h)).resolve_right (by omega))
      have hsL := hMi.size
      have hFn : ∀ k, FB b m v70 ((B ++ [(⟨a.p, v60, a.f, a.es⟩ : FN)]) ++ [(⟨b41, .slice none 0 0, false, []⟩ : FN)]) k → FB b m vp pa k ∨ w.heap.size ≤ k := by
        rintro k (h | h | h | ⟨x, hx, h⟩)
        · exact hFi k (.inl h)
        · exact hFi k (.inr (.inl h))
        · rcases hf70 k h with h2 | h2
          · exact hFi k (.inr (.inr (.inl h2)))
          · exact .inr (by have := hM12.size; have := hN69.md.size; omega)
        · simp only [List.mem_append, List.mem_singleton] at hx
          rcases hx with (hx | rfl) | rfl
          · exact hFi k (.inr (.inr (.inr ⟨x, by simp [hx], h⟩)))
          · rcases h with h | h
            · exact hFi k (.inr (.inr (.inr ⟨a, by simp, .inl h⟩)))
            · rcases hf60 k h with h2 | h2
              · exact hFi k (.inr (.inr (.inr ⟨a, by simp, .inr h2⟩)))
              · exact .inr (by omega)
          · rcases h with h | h
            · exact .inr (by simp only at h; omega)
            · simp [Value.ownBlock] at h
      refine nl ?_
      refine bn ?_
      refine tn (hK10 _ _ ?_)
      refine rg ?_
      refine p (mvt (.int .i64 i) rfl) ?_
      refine p (adv ((i + 1 : Nat) : Int) rfl rfl (w64n (by omega) (by omega))) ?_
      refine p asg ?_
      refine nl ?_
      refine tn ?_
      exact ⟨_, by omega, i + 1, v70, B ++ [⟨a.p, v60, a.f, a.es⟩], ⟨b41, .slice none 0 0, false, []⟩, (by omega), (by omega), (by simp [hBl]), hDn', hent', hMn, hFn, (by simp), rfl, rfl, rfl, rfl⟩
    · refine ext ?_
      refine te _ ?_
      refine te _ ?_
      refine be ?_
      refine tn (hK6 _ _ ?_)
      refine sq (fun K10 hK10 => ?_)
      obtain rfl : i = wd.length := by omega
      have hai : (B ++ [a])[B.length]? = some a := by rw [List.getElem?_append_right (Nat.le_refl _), Nat.sub_self]; rfl
      have hNa : NdAt wL a.p a.ev a.f (a.es.map (tg fz1) ++ []) 0 := by
        have h := (hDi.hpa _ _ hai).1
        rw [opn, List.getElem?_eq_none (by simp)] at h; exact h
      have hln : ((B ++ [a]).map FN.p).length = wd.length + 1 := by simp [hBl]
      have hrowi : ((B ++ [a]).map FN.p)[wd.length]? = some a.p := by rw [List.getElem?_map, ← hBl, hai]; rfl
      refine rg ?_
      refine p (mvt (.pointer (some ⟨b, 0, none⟩)) rfl) ?_
      refine p (nc rfl) ?_
      refine p (fa fo106_3 rfl) ?_
      refine p (ld ag103 rfl (hbL.cel 3)) ?_
      refine p (mvt (str wd) rfl) ?_
      refine p (lns u9 rfl rfl) ?_
      refine p (ia' es103 rfl rfl (by omega) (Cells.ok ((own_cellsS hDi.path).2) (ne_map (by omega)))) ?_
      refine p (ld ag99 rfl ((own_cellsS hDi.path).2.at1 (i := wd.length) (u := .pointer (some ⟨a.p, 0, none⟩)) (by rw [List.getElem?_map, hrowi]; rfl))) ?_
      refine p (nc rfl) ?_
      refine p (fa fo102_0 rfl) ?_
      refine e (stT cz4 rfl rfl rfl hNa.blk (by simp) fun w14 hM14 hB14 => ?_)
      have hD14 := db_last hDi hM14 hB14
      have hp14 : ∀ k, (Value.slice aq ((B ++ [a]).map FN.p).length cq).ownBlock = some k → ¬ k = b := fun k hk h => own_cellne hDi.path hDi.blk (by decide) (h ▸ hk)
      refine nl ?_
      refine tn (hK10 _ _ ?_)
      refine sq (fun K11 hK11 => ?_)
      refine rg ?_
      refine p (mvt (.pointer (some ⟨b, 0, none⟩)) rfl) ?_
      refine p (mvt (.pointer (some ⟨b, 0, none⟩)) rfl) ?_
      refine p (mvt (str wd) rfl) ?_
      refine p (nc rfl) ?_
      refine p (fa fo106_1 rfl) ?_
      refine e (stT cz9 rfl rfl rfl hD14.blk (by simp) fun w15 hM15 hB15 => ?_)
      have hD15 := hD14.upd (last' := wd) (any' := any) hM15 hB15 (own_md hD14.path hM15 hp14)
      refine p (nc rfl) ?_
      refine p (fa fo106_2 rfl) ?_
      refine e (stT cz4 rfl rfl rfl hD15.blk (by simp) fun w16 hM16 hB16 => ?_)
      have hD16 := hD15.upd (any' := true) hM16 hB16 (own_md hD15.path hM16 hp14)
      refine nl ?_
      refine tn (hK11 _ _ ?_)
      refine sq (fun K12 hK12 => ?_)
      refine sq (fun K13 hK13 => ?_)
      have hadd : addS last wd (fz.map ent, pa.map ent) = (fz1.map ent, (B ++ [(⟨a.p, a.ev, true, a.es⟩ : FN)]).map ent) := by
        rw [show pa.length - 1 = last.length from by omega] at hcut
        unfold addS
        simp only [hcut, ← hent]
        have e1 : ((B ++ [a]).map ent).take wd.length = B.map ent := by rw [List.map_append, List.take_append_of_le_length (by simp [hBl]), List.take_of_length_le (by simp [hBl])]
        have e2 : ((B ++ [a]).map ent).getD wd.length dE = ent a := by rw [List.getD_eq_getElem?_getD, List.getElem?_map, ← hBl, hai]; rfl
        rw [e1, e2]; simp [ent]
      have hsL := hMi.size
      have hMf : Md (FB b m vp pa) w w16 := Md.trans' (Md.trans' (Md.trans' hMi hM14 (fun k hk h => (hFi k (.inr (.inr (.inr ⟨a, by simp, .inl h⟩)))).resolve_right (by omega))) hM15 (fun k _ h => .inl h)) hM16 (fun k _ h => .inl h)
      have hFf : ∀ k, FB b m (Value.slice aq ((B ++ [a]).map FN.p).length cq) (B ++ [(⟨a.p, a.ev, true, a.es⟩ : FN)]) k → FB b m vp pa k ∨ w.heap.size ≤ k := by
        rintro k (h | h | h | ⟨x, hx, h⟩)
        · exact hFi k (.inl h)
        · exact hFi k (.inr (.inl h))
        · exact hFi k (.inr (.inr (.inl h)))
        · simp only [List.mem_append, List.mem_singleton] at hx
          rcases hx with hx | rfl
          · exact hFi k (.inr (.inr (.inr ⟨x, by simp [hx], h⟩)))
          · exact hFi k (.inr (.inr (.inr ⟨a, by simp, h⟩)))
      have hrw : (B ++ [a]).map FN.p = (B ++ [(⟨a.p, a.ev, true, a.es⟩ : FN)]).map FN.p := by simp
      have hDf : DB w16 b m most 0 cnt wd true (Value.slice aq ((B ++ [a]).map FN.p).length cq) ((B ++ [(⟨a.p, a.ev, true, a.es⟩ : FN)]).map FN.p) fz1 (B ++ [⟨a.p, a.ev, true, a.es⟩]) wd := by
        rw [← hrw]; exact hD16
      have hkl : (kvl fz1).length = fz1.length := by simp [kvl]
      have hS16 : (fun w' => Blk w'.heap b [.int .i64 most, str wd, .bool true, (Value.slice aq ((B ++ [a]).map FN.p).length cq), .map (some m), .int .i64 (0 : Int), .int .i64 cnt] ∧ MapIs w'.heap m (kvl fz1)) w16.drew := ⟨⟨_, hD16.blk⟩, hD16.map⟩
      refine hst (fun w' => Blk w'.heap b [.int .i64 most, str wd, .bool true, (Value.slice aq ((B ++ [a]).map FN.p).length cq), .map (some m), .int .i64 (0 : Int), .int .i64 cnt] ∧ MapIs w'.heap m (kvl fz1)) wide hS16 ?_
      refine hp 0 rfl (by kernel_rfl) (fun _ _ => mvt (.pointer (some ⟨b, 0, none⟩)) rfl) hS16 ?_
      refine hp 1 rfl (by kernel_rfl) (fun _ _ => nc rfl) hS16 ?_
      refine hp 2 rfl (by kernel_rfl) (fun _ _ => fa fo106_4 rfl) hS16 ?_
      refine hp 3 rfl (by kernel_rfl) (fun w' hS => ld ag104 rfl (hS.1.cel 4)) hS16 ?_
      refine hp 4 rfl (by kernel_rfl) (fun w' hS => lnm' u104 rfl rfl (hS.2)) hS16 ?_
      refine hp 5 rfl (by kernel_rfl) (fun _ _ => mvt (.pointer (some ⟨b, 0, none⟩)) rfl) hS16 ?_
      refine hp 6 rfl (by kernel_rfl) (fun _ _ => nc rfl) hS16 ?_
      refine hp 7 rfl (by kernel_rfl) (fun _ _ => fa fo106_0 rfl) hS16 ?_
      refine hp 8 rfl (by kernel_rfl) (fun w' hS => ld ag3 rfl (hS.1.cel 0)) hS16 ?_
      refine hp 9 rfl (by kernel_rfl) (fun _ _ => gt rfl rfl) hS16 ?_
      refine hn (by kernel_rfl) ?_
      refine tn (hK13 _ _ ?_)
      refine cd rfl (fun hc99 => ?_) (fun hc99 => ?_)
      · refine sq (fun K14 hK14 => ?_)
        refine rg ?_
        refine p (mvt (.pointer (some ⟨b, 0, none⟩)) rfl) ?_
        refine p (nc rfl) ?_
        refine p (fa fo106_5 rfl) ?_
        refine e (stT cz36 rfl rfl rfl hD16.blk (by simp) fun w17 hM17 hB17 => ?_)
        have hM17x : Md (fun k => k = b) w16 w17 := Md.trans (Md.refl _ _).drew hM17
        have hD17 := hD16.upd (st' := 181) hM17x hB17 (own_md hD16.path hM17x hp14)
        refine nl ?_
        refine tn (hK14 _ _ ?_)
        refine sq (fun K15 hK15 => ?_)
        refine rg ?_
        refine p asg ?_
        refine nl ?_
        refine tn (hK15 _ _ ?_)
        refine rt ?_
        refine tr ?_
        refine f1 rfl rfl ?_
        have hlt : most < (fz1.length : Int) := by omega
        have hD18 : DB w17 b m most 181 cnt wd true (Value.slice aq ((B ++ [a]).map FN.p).length cq) ((B ++ [(⟨a.p, a.ev, true, a.es⟩ : FN)]).map FN.p) fz1 (B ++ [⟨a.p, a.ev, true, a.es⟩]) wd := by
          rw [← hrw]; exact hD17
        refine .inr (.inr ⟨h255, hris, (Value.slice aq ((B ++ [a]).map FN.p).length cq), fz1, B ++ [⟨a.p, a.ev, true, a.es⟩], by rw [if_pos hlt]; rfl, by rw [if_pos hlt]; exact hD18, by simp [hBl], hadd, Md.trans' hMf hM17x (fun k _ h => .inl h), hFf, hfn1⟩)
      · refine skp ?_
        refine tn (hK12 _ _ ?_)
        refine sq (fun K14 hK14 => ?_)
        refine rg ?_
        refine p asg ?_
        refine nl ?_
        refine tn (hK14 _ _ ?_)
        refine rt ?_
        refine f1 rfl rfl ?_
        have hlt : ¬ most < (fz1.length : Int) := by omega
        refine .inr (.inr ⟨h255, hris, (Value.slice aq ((B ++ [a]).map FN.p).length cq), fz1, B ++ [⟨a.p, a.ev, true, a.es⟩], by rw [if_neg hlt]; rfl, by rw [if_neg hlt]; exact db_wk hDf (Md.refl _ _).drew, by simp [hBl], hadd, hMf.drew, hFf, hfn1⟩)
end Go.Hb.Add
