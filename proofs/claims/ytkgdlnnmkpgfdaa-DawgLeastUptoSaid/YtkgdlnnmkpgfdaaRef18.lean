/-
  Walks of hornbookref18: the table, and the visit of an automaton. No conditions but those that each theorem names.
-/
import Derived.Test.YtkgdlnnmkpgfdaaChecked
import Derived.Test.YtkgdlnnmkpgfdaaEff
import Derived.Test.YtkgdlnnmkpgfdaaRef06
import Derived.Test.YtkgdlnnmkpgfdaaStr
import Derived.Test.YtkgdlnnmkpgfdaaPure
set_option maxRecDepth 20000
set_option linter.unusedVariables false
namespace Go.Hb.Ref18
open Go.Proofs
open Go.Hb.Ref06
theorem ag3 : aggN Try.prog 3 = some none := by kernel_rfl
theorem ag9 : aggN Try.prog 9 = some none := by kernel_rfl
theorem ag22 : aggN Try.prog 22 = some none := by kernel_rfl
theorem ag67 : aggN Try.prog 67 = some none := by kernel_rfl
theorem cz3 : cellsN Try.prog 3 = some 1 := by kernel_rfl
theorem cz9 : cellsN Try.prog 9 = some 1 := by kernel_rfl
theorem cz22 : cellsN Try.prog 22 = some 1 := by kernel_rfl
theorem cz67 : cellsN Try.prog 67 = some 1 := by kernel_rfl
theorem es22 : elemSize Try.prog 22 = some 1 := by kernel_rfl
theorem es67 : elemSize Try.prog 67 = some 1 := by kernel_rfl
theorem fo69_0 : fieldOff Try.prog 69 0 = some 0 := by kernel_rfl
theorem fo69_1 : fieldOff Try.prog 69 1 = some 1 := by kernel_rfl
theorem so22 : sliceOk Try.prog 22 9 1 16 = true := by kernel_rfl
theorem so67 : sliceOk Try.prog 67 3 1 8 = true := by kernel_rfl
theorem u22 : Try.prog.underlying 22 = some (.slice 9) := by kernel_rfl
theorem wide : Try.prog.follows .mixedOrders = true := by kernel_rfl
theorem put_w (b off q num : Nat) (L : List Value) (vr vn : Value) (rs : List (List UInt8)) (ns : List Nat) (r : List UInt8) (w : World) (hb : Blk w.heap b L) (h0 : L[off]? = some vr) (h1 : L[off + 1]? = some vn) (hr : w.ownsRow (b + 1) 9 1 vr rs.length (rs.map str)) (hns : w.ownsRow (b + 1) 3 1 vn rs.length (ns.map (fun n : Nat => Value.int .i64 n))) (hq : q ≤ rs.length) (hbd : rs.length ≤ 137438953472) :
    Ret Try.prog 40 (List.toArray [.pointer (some ⟨b, off, none⟩), .int .i64 q, str r, .int .i64 num]) w (fun v w' => v = .tuple #[] ∧ ∃ vr' vn', Blk w'.heap b ((L.set off vr').set (off + 1) vn') ∧ w'.ownsRow (b + 1) 9 1 vr' (rs.length + 1) ((rs.take q ++ r :: rs.drop q).map str) ∧ w'.ownsRow (b + 1) 3 1 vn' (rs.length + 1) ((ns.take q ++ num :: ns.drop q).map (fun n : Nat => Value.int .i64 n)) ∧ Md (fun k => k = b ∨ vr.ownBlock = some k ∨ vn.ownBlock = some k) w w' ∧ (∀ k, vr'.ownBlock = some k → vr.ownBlock = some k ∨ w.heap.size ≤ k) ∧ (∀ k, vn'.ownBlock = some k → vn.ownBlock = some k ∨ w.heap.size ≤ k)) := by
  have hlt := hb.lt
  have hol : off + 1 < L.length := (List.getElem?_eq_some_iff.1 h1).1
  have hnl : ns.length = rs.length := by have := hns.1; simpa using this
  have hrb : ∀ k, vr.ownBlock = some k → k ≠ b ∧ k < w.heap.size := fun k hk => by have := hr.lt k hk; exact ⟨by omega, this.2⟩
  have hnb : ∀ k, vn.ownBlock = some k → k ≠ b ∧ k < w.heap.size := fun k hk => by have := hns.lt k hk; exact ⟨by omega, this.2⟩
  refine enter Try.func40 rfl Try.ntmps40 rfl ?_
  refine sq (fun K1 hK1 => ?_)
  refine rg ?_
  refine p (mvt (.pointer (some ⟨b, off, none⟩)) rfl) ?_
  refine p (mvt (.pointer (some ⟨b, off, none⟩)) rfl) ?_
  refine p (nc rfl) ?_
  refine p (fa fo69_0 rfl) ?_
  refine p (ld ag22 rfl ((hb.cel off).trans h0)) ?_
  refine e (bs1 so22 rfl rfl fun b14 w14 hb14 hN14 hB14 => ?_)
  refine e (ap so22 (own_nw hr hN14.md) rfl (by have := hN14.size; omega) rfl (Cells.of_blk hB14) (rfl) (rfl) (by omega) (by omega) fun v15 w15 ho15 hM15 hz15 hf15 => ?_)
  have hb15 := hM15.B (Wk.B hN14.md hb) (fun h => (hrb b h).1 rfl)
  have hn15 := own_md (own_nw hns hN14.md) hM15 (fun k hk h => own_ne hr hns (by decide) h hk)
  have hX15 : Md (fun k => k = b ∨ vr.ownBlock = some k ∨ vn.ownBlock = some k) w w15 := Md.trans' (hN14.md.mono (fun _ _ h => h.elim)) hM15 (fun k _ h => .inr (.inl h))
  refine p (nc rfl) ?_
  refine p (fa fo69_0 rfl) ?_
  refine e (st cz22 rfl rfl (own_one ho15) (hb15) (by omega) fun wt0_9 hM0_9 hB0_9 => ?_)
  have hr0 : World.ownsRow wt0_9 (b + 1) 9 1 v15 (rs.length + 1) (rs.map str ++ [str []]) := own_md ho15 hM0_9 (fun k hk h => by have := ho15.lt k hk; omega)
  have hn0 := own_md hn15 hM0_9 (fun k hk h => (hnb k hk).1 h)
  have hX0 : Md (fun k => k = b ∨ vr.ownBlock = some k ∨ vn.ownBlock = some k) w wt0_9 := Md.trans' hX15 hM0_9 (fun k _ h => .inl h)
  have hs0 := hX0.size
  refine nl ?_
  refine tn (hK1 _ _ ?_)
  refine sq (fun K2 hK2 => ?_)
  refine rg ?_
  refine p (mvt (.pointer (some ⟨b, off, none⟩)) rfl) ?_
  refine p (mvt (.pointer (some ⟨b, off, none⟩)) rfl) ?_
  refine p (nc rfl) ?_
  refine p (fa fo69_1 rfl) ?_
  refine p (ld ag67 rfl ((hB0_9.cel (off + 1)).trans (by rw [List.getElem?_set_ne (by omega)]; exact h1))) ?_
  refine e (bs1 so67 rfl rfl fun b23 w23 hb23 hN23 hB23 => ?_)
  refine e (ap so67 (own_nw hn0 hN23.md) rfl (by have := hN23.size; omega) rfl (Cells.of_blk hB23) (rfl) (rfl) (by omega) (by omega) fun v24 w24 ho24 hM24 hz24 hf24 => ?_)
  have hb24 := hM24.B (Wk.B hN23.md hB0_9) (fun h => (hnb b h).1 rfl)
  have hr24 := own_md (own_nw hr0 hN23.md) hM24 (fun k hk h => own_ne hr0 hn0 (by decide) hk h)
  have hX24 : Md (fun k => k = b ∨ vr.ownBlock = some k ∨ vn.ownBlock = some k) w w24 := Md.trans' (Md.trans hX0 (hN23.md.mono (fun _ _ h => h.elim))) hM24 (fun k _ h => .inr (.inr h))
  refine p (nc rfl) ?_
  refine p (fa fo69_1 rfl) ?_
  refine e (st cz67 rfl rfl (own_one ho24) (hb24) (by rw [List.length_set]; omega) fun wt1_9 hM1_9 hB1_9 => ?_)
  have hn1 : World.ownsRow wt1_9 (b + 1) 3 1 v24 (rs.length + 1) (ns.map (fun n : Nat => Value.int .i64 n) ++ [Value.int .i64 (0 : Nat)]) := own_md ho24 hM1_9 (fun k hk h => by have := ho24.lt k hk; omega)
  have hr1 := own_md hr24 hM1_9 (fun k hk h => by have := hr24.lt k hk; omega)
  have hX1 : Md (fun k => k = b ∨ vr.ownBlock = some k ∨ vn.ownBlock = some k) w wt1_9 := Md.trans' hX24 hM1_9 (fun k _ h => .inl h)
  have hf15' : ∀ k, v15.ownBlock = some k → vr.ownBlock = some k ∨ w.heap.size ≤ k := fun k hk => (hf15 k hk).imp id (fun h => by have := hN14.md.size; omega)
  have hf24' : ∀ k, v24.ownBlock = some k → vn.ownBlock = some k ∨ w.heap.size ≤ k := fun k hk => (hf24 k hk).imp id (fun h => by have := hN23.md.size; omega)
  obtain ⟨ar, cr, rfl⟩ := own_slice hr1
  obtain ⟨an, cn, rfl⟩ := own_slice hn1
  have hr2 : World.ownsRow wt1_9 (b + 1) 9 1 (.slice ar (rs.length + 1) cr) (rs.length + 1) ((cont [] rs (rs.length)).map str) := by rw [cont_top, List.map_append]; exact hr1
  have hn2 : World.ownsRow wt1_9 (b + 1) 3 1 (.slice an (rs.length + 1) cn) (rs.length + 1) ((cont 0 ns (rs.length)).map (fun n : Nat => Value.int .i64 n)) := by rw [← hnl, cont_top, List.map_append, hnl]; exact hn1
  obtain ⟨L2, hL2⟩ : ∃ L2, L2 = (L.set off (Value.slice ar (rs.length + 1) cr)).set (off + 1) (Value.slice an (rs.length + 1) cn) := ⟨_, rfl⟩
  have hb2 : Blk wt1_9.heap b L2 := by rw [hL2]; exact hB1_9
  have hL0 : L2[off]? = some (.slice ar (rs.length + 1) cr) := by rw [hL2, List.getElem?_set_ne (by omega), List.getElem?_set_self (by omega)]
  have hL1 : L2[off + 1]? = some (.slice an (rs.length + 1) cn) := by rw [hL2, List.getElem?_set_self (by rw [List.length_set]; omega)]
  refine nl ?_
  refine tn (hK2 _ _ ?_)
  refine sq (fun K3 hK3 => ?_)
  refine sq (fun K4 hK4 => ?_)
  refine rg ?_
  refine p (mvt (.pointer (some ⟨b, off, none⟩)) rfl) ?_
  refine p (nc rfl) ?_
  refine p (fa fo69_0 rfl) ?_
  refine p (ld ag22 rfl ((hb2.cel off).trans hL0)) ?_
  refine p (lnl u22 rfl rfl) ?_
  refine p (sb rfl rfl (wi64 (by omega))) ?_
  refine p asg ?_
  refine nl ?_
  refine tn (hK4 _ _ ?_)
  refine blk ?_
  refine lp (fun gm σ1 w1 => ∃ (i : Nat), (q ≤ i) ∧ (i ≤ rs.length) ∧ (Md (fun k => k = b ∨ vr.ownBlock = some k ∨ vn.ownBlock = some k) w w1) ∧ (Blk (w1).heap b L2) ∧ (World.ownsRow w1 (b + 1) 9 1 (.slice ar (rs.length + 1) cr) (rs.length + 1) ((cont [] rs (i)).map str)) ∧ (World.ownsRow w1 (b + 1) 3 1 (.slice an (rs.length + 1) cn) (rs.length + 1) ((cont 0 ns (i)).map (fun n : Nat => Value.int .i64 n))) ∧ (σ1 0 = .pointer (some ⟨b, off, none⟩)) ∧ (σ1 1 = .int .i64 q) ∧ (σ1 2 = str r) ∧ (σ1 3 = .int .i64 num) ∧ (σ1 8 = .int .i64 i) ∧ (i - q = gm)) _ ⟨rs.length, (by omega), (by omega), hX1, hb2, hr2, hn2, rfl, rfl, rfl, rfl, (iv (by omega)), rfl⟩ ?_
  rintro gm σ1 w1 ⟨i, hi1, hi2, hX, hb3, hr3, hn3, hs1_0, hs1_1, hs1_2, hs1_3, hs1_8, rfl⟩
  refine fx 0 hs1_0 (fx 1 hs1_1 (fx 2 hs1_2 (fx 3 hs1_3 (fx 8 hs1_8 ?_))))
  refine sq (fun K5 hK5 => ?_)
  refine sq (fun K6 hK6 => ?_)
  refine rg ?_
  refine p (mvt (.int .i64 i) rfl) ?_
  refine p (mvt (.int .i64 q) rfl) ?_
  refine p (gt rfl rfl) ?_
  refine nl ?_
  refine tn (hK6 _ _ ?_)
  refine cd rfl (fun hc35 => ?_) (fun hc35 => ?_)
  · refine skp ?_
    refine tn (hK5 _ _ ?_)
    refine sq (fun K7 hK7 => ?_)
    refine blk ?_
    refine sq (fun K8 hK8 => ?_)
    have hC5 := (own_cellsS hr3).2
    have hne5 : (cont [] rs i).map str ≠ [] := ne_map (by rw [cont_len (by omega)]; omega)
    have hg5 := hC5.at1 (i := i - 1) (by rw [List.getElem?_map, cont_get0 (by omega) (by omega)]; rfl)
    have hS5 : (fun w' => Blk w'.heap b L2 ∧ cel w'.heap (bk ar) (fo ar + (i - 1) * 1) = some (str (rs.getD (i - 1) []))) w1.drew := ⟨hb3, hg5⟩
    refine hst (fun w' => Blk w'.heap b L2 ∧ cel w'.heap (bk ar) (fo ar + (i - 1) * 1) = some (str (rs.getD (i - 1) []))) wide hS5 ?_
    refine hp 0 rfl (by kernel_rfl) (fun _ _ => mvt (.pointer (some ⟨b, off, none⟩)) rfl) hS5 ?_
    refine hp 1 rfl (by kernel_rfl) (fun _ _ => nc rfl) hS5 ?_
    refine hp 2 rfl (by kernel_rfl) (fun _ _ => fa fo69_0 rfl) hS5 ?_
    refine hp 3 rfl (by kernel_rfl) (fun w' hS => ld ag22 rfl ((hS.1.cel off).trans hL0)) hS5 ?_
    refine hp 4 rfl (by kernel_rfl) (fun _ _ => mvt (.int .i64 i) rfl) hS5 ?_
    refine hp 5 rfl (by kernel_rfl) (fun _ _ => mvt (.pointer (some ⟨b, off, none⟩)) rfl) hS5 ?_
    refine hp 6 rfl (by kernel_rfl) (fun _ _ => nc rfl) hS5 ?_
    refine hp 7 rfl (by kernel_rfl) (fun _ _ => fa fo69_0 rfl) hS5 ?_
    refine hp 8 rfl (by kernel_rfl) (fun w' hS => ld ag22 rfl ((hS.1.cel off).trans hL0)) hS5 ?_
    refine hp 9 rfl (by kernel_rfl) (fun _ _ => mvt (.int .i64 i) rfl) hS5 ?_
    refine hp 10 rfl (by kernel_rfl) (fun _ _ => sbv ((i - 1 : Nat) : Int) rfl rfl (w64n (by omega) (by omega))) hS5 ?_
    refine hp 11 rfl (by kernel_rfl) (fun _ _ => ia' es22 rfl rfl (by omega) (Cells.ok (hC5) (hne5))) hS5 ?_
    refine hp 12 rfl (by kernel_rfl) (fun w' hS => ld ag9 rfl (hS.2)) hS5 ?_
    refine hp 13 rfl (by kernel_rfl) (fun _ _ => ia' es22 rfl rfl (by omega) (Cells.ok (hC5) (hne5))) hS5 ?_
    refine he 14 rfl (by kernel_rfl) (sto (j := i) hr3 cz9 rfl rfl rfl (by simp) (by omega) fun w5 hM5 ho5 => ?_)
    have hb5 := hM5.B hb3 (fun h => by have := hr3.lt b h; omega)
    have ho5' : World.ownsRow w5 (b + 1) 9 1 (.slice ar (rs.length + 1) cr) (rs.length + 1) ((cont [] rs (i - 1)).map str) := by rw [← cont_step (by omega) (by omega), List.map_set]; exact ho5
    have hn5 := own_md (w := w1.drew) hn3 hM5 (fun k hk h => own_ne hr3 hn3 (by decide) h hk)
    have hS5_14 : (fun w' => Blk w'.heap b L2 ∧ cel w'.heap (bk ar) (fo ar + (i - 1) * 1) = some (str (rs.getD (i - 1) []))) w5 := ⟨hb5, (own_cellsS ho5').2.at1 (by rw [List.getElem?_map, cont_get (by omega), if_pos (by omega), List.getElem?_append_left (by omega), List.getD_eq_getElem?_getD, List.getElem?_eq_getElem (by omega)]; rfl)⟩
    refine ⟨hS5_14, ?_⟩
    refine hn (by kernel_rfl) ?_
    refine tn (hK8 _ _ ?_)
    have hC6 := (own_cellsS hn5).2
    have hne6 : (cont 0 ns i).map (fun n : Nat => Value.int .i64 n) ≠ [] := ne_map (by rw [cont_len (by omega)]; omega)
    have hg6 := hC6.at1 (i := i - 1) (by rw [List.getElem?_map, cont_get0 (by omega) (by omega)]; rfl)
    have hS6 : (fun w' => Blk w'.heap b L2 ∧ cel w'.heap (bk an) (fo an + (i - 1) * 1) = some (.int .i64 (ns.getD (i - 1) 0 : Nat))) w5.drew := ⟨hb5, hg6⟩
    refine hst (fun w' => Blk w'.heap b L2 ∧ cel w'.heap (bk an) (fo an + (i - 1) * 1) = some (.int .i64 (ns.getD (i - 1) 0 : Nat))) wide hS6 ?_
    refine hp 0 rfl (by kernel_rfl) (fun _ _ => mvt (.pointer (some ⟨b, off, none⟩)) rfl) hS6 ?_
    refine hp 1 rfl (by kernel_rfl) (fun _ _ => nc rfl) hS6 ?_
    refine hp 2 rfl (by kernel_rfl) (fun _ _ => fa fo69_1 rfl) hS6 ?_
    refine hp 3 rfl (by kernel_rfl) (fun w' hS => ld ag67 rfl ((hS.1.cel (off + 1)).trans hL1)) hS6 ?_
    refine hp 4 rfl (by kernel_rfl) (fun _ _ => mvt (.int .i64 i) rfl) hS6 ?_
    refine hp 5 rfl (by kernel_rfl) (fun _ _ => mvt (.pointer (some ⟨b, off, none⟩)) rfl) hS6 ?_
    refine hp 6 rfl (by kernel_rfl) (fun _ _ => nc rfl) hS6 ?_
    refine hp 7 rfl (by kernel_rfl) (fun _ _ => fa fo69_1 rfl) hS6 ?_
    refine hp 8 rfl (by kernel_rfl) (fun w' hS => ld ag67 rfl ((hS.1.cel (off + 1)).trans hL1)) hS6 ?_
    refine hp 9 rfl (by kernel_rfl) (fun _ _ => mvt (.int .i64 i) rfl) hS6 ?_
    refine hp 10 rfl (by kernel_rfl) (fun _ _ => sbv ((i - 1 : Nat) : Int) rfl rfl (w64n (by omega) (by omega))) hS6 ?_
    refine hp 11 rfl (by kernel_rfl) (fun _ _ => ia' es67 rfl rfl (by omega) (Cells.ok (hC6) (hne6))) hS6 ?_
    refine hp 12 rfl (by kernel_rfl) (fun w' hS => ld ag3 rfl (hS.2)) hS6 ?_
    refine hp 13 rfl (by kernel_rfl) (fun _ _ => ia' es67 rfl rfl (by omega) (Cells.ok (hC6) (hne6))) hS6 ?_
    refine he 14 rfl (by kernel_rfl) (sto (j := i) hn5 cz3 rfl rfl rfl (by simp) (by omega) fun w6 hM6 ho6 => ?_)
    have hb6 := hM6.B hb5 (fun h => by have := hn5.lt b h; omega)
    have ho6' : World.ownsRow w6 (b + 1) 3 1 (.slice an (rs.length + 1) cn) (rs.length + 1) ((cont 0 ns (i - 1)).map (fun n : Nat => Value.int .i64 n)) := by rw [← cont_step (by omega) (by omega), List.map_set]; exact ho6
    have hr6 := own_md (w := w5.drew) ho5' hM6 (fun k hk h => own_ne ho5' hn5 (by decide) hk h)
    have hS6_14 : (fun w' => Blk w'.heap b L2 ∧ cel w'.heap (bk an) (fo an + (i - 1) * 1) = some (.int .i64 (ns.getD (i - 1) 0 : Nat))) w6 := ⟨hb6, (own_cellsS ho6').2.at1 (by rw [List.getElem?_map, cont_get (by omega), if_pos (by omega), List.getElem?_append_left (by omega), List.getD_eq_getElem?_getD, List.getElem?_eq_getElem (by omega)]; rfl)⟩
    refine ⟨hS6_14, ?_⟩
    refine hn (by kernel_rfl) ?_
    have hX6 : Md (fun k => k = b ∨ vr.ownBlock = some k ∨ vn.ownBlock = some k) w w6 := Md.trans' (Md.trans' hX.drew hM5 (fun k hk h => .inr (.inl ((hf15' k h).resolve_right (by omega))))).drew hM6 (fun k hk h => .inr (.inr ((hf24' k h).resolve_right (by omega))))
    refine bn ?_
    refine tn (hK7 _ _ ?_)
    refine rg ?_
    refine p (mvt (.int .i64 i) rfl) ?_
    refine p (sbv ((i - 1 : Nat) : Int) rfl rfl (w64n (by omega) (by omega))) ?_
    refine p asg ?_
    refine nl ?_
    refine tn ?_
    exact ⟨_, by omega, i - 1, (by omega), (by omega), hX6, hb6, hr6, ho6', rfl, rfl, rfl, rfl, (iv (by omega)), rfl⟩
  · refine ext ?_
    refine te _ ?_
    refine te _ ?_
    refine be ?_
    refine tn (hK3 _ _ ?_)
    refine sq (fun K7 hK7 => ?_)
    obtain rfl : q = i := by omega
    refine rg ?_
    refine p (mvt (.pointer (some ⟨b, off, none⟩)) rfl) ?_
    refine p (nc rfl) ?_
    refine p (fa fo69_0 rfl) ?_
    refine p (ld ag22 rfl ((hb3.cel off).trans hL0)) ?_
    refine p (mvt (.int .i64 q) rfl) ?_
    refine p (mvt (str r) rfl) ?_
    refine p (ia' es22 rfl rfl (by omega) (Cells.ok ((own_cellsS hr3).2) (by unfold cont; simp))) ?_
    refine e (sto (j := q) hr3 cz9 rfl rfl rfl (by simp) (by omega) fun w7 hM7 ho7 => ?_)
    have hb7 := hM7.B hb3 (fun h => by have := hr3.lt b h; omega)
    have hn7 := own_md hn3 hM7 (fun k hk h => own_ne hr3 hn3 (by decide) h hk)
    refine nl ?_
    refine tn (hK7 _ _ ?_)
    refine rg ?_
    refine p (mvt (.pointer (some ⟨b, off, none⟩)) rfl) ?_
    refine p (nc rfl) ?_
    refine p (fa fo69_1 rfl) ?_
    refine p (ld ag67 rfl ((hb7.cel (off + 1)).trans hL1)) ?_
    refine p (mvt (.int .i64 q) rfl) ?_
    refine p (mvt (.int .i64 num) rfl) ?_
    refine p (ia' es67 rfl rfl (by omega) (Cells.ok ((own_cellsS hn7).2) (by unfold cont; simp))) ?_
    refine e (sto (j := q) hn7 cz3 rfl rfl rfl (by simp) (by omega) fun w8 hM8 ho8 => ?_)
    refine nl ?_
    refine f0 rfl ?_
    have hr8 := own_md ho7 hM8 (fun k hk h => own_ne ho7 hn7 (by decide) hk h)
    have hb8 := hM8.B hb7 (fun h => by have := hn7.lt b h; omega)
    have hX8 : Md (fun k => k = b ∨ vr.ownBlock = some k ∨ vn.ownBlock = some k) w w8 := Md.trans' (Md.trans' hX hM7 (fun k hk h => .inr (.inl ((hf15' k h).resolve_right (by omega))))) hM8 (fun k hk h => .inr (.inr ((hf24' k h).resolve_right (by omega))))
    refine ⟨rfl, _, _, hL2 ▸ hb8, ?_, ?_, hX8, hf15', hf24'⟩
    · rw [← cont_end (d := []) (by omega), List.map_set]; exact hr8
    · rw [← cont_end (d := 0) (by omega), List.map_set]; exact ho8
end Go.Hb.Ref18
