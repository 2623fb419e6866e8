/-
  Walk of hornbooklaw18.DawgLeast. No conditions but those that each theorem names.
-/
import Derived.Test.YtkgdlnnmkpgfdaaChecked
import Derived.Test.YtkgdlnnmkpgfdaaEff
import Derived.Test.YtkgdlnnmkpgfdaaRef08
import Derived.Test.YtkgdlnnmkpgfdaaVisit
import Derived.Test.YtkgdlnnmkpgfdaaReg
import Derived.Test.YtkgdlnnmkpgfdaaCut
import Derived.Test.YtkgdlnnmkpgfdaaBuild
import Derived.Test.YtkgdlnnmkpgfdaaAdd
import Derived.Test.YtkgdlnnmkpgfdaaAdds
import Derived.Test.YtkgdlnnmkpgfdaaAsked
import Derived.Test.YtkgdlnnmkpgfdaaNumb
import Derived.Test.YtkgdlnnmkpgfdaaFin
import Derived.Test.YtkgdlnnmkpgfdaaRfrz
import Derived.Test.YtkgdlnnmkpgfdaaSame
import Derived.Test.YtkgdlnnmkpgfdaaLawA
import Derived.Test.YtkgdlnnmkpgfdaaLawB
import Derived.Test.YtkgdlnnmkpgfdaaLeast
import Derived.Test.YtkgdlnnmkpgfdaaLeasts
import Derived.Test.YtkgdlnnmkpgfdaaStr
import Derived.Test.YtkgdlnnmkpgfdaaPure
import Derived.Test.YtkgdlnnmkpgfdaaDawg
import Derived.Test.YtkgdlnnmkpgfdaaVis
import Derived.Test.YtkgdlnnmkpgfdaaRow
import Derived.Test.YtkgdlnnmkpgfdaaNode
import Derived.Test.YtkgdlnnmkpgfdaaMap
import Derived.Test.YtkgdlnnmkpgfdaaAuto
import Derived.Test.YtkgdlnnmkpgfdaaLast
import Derived.Test.YtkgdlnnmkpgfdaaTag
import Derived.Test.YtkgdlnnmkpgfdaaFrz
import Derived.Test.YtkgdlnnmkpgfdaaSet
import Derived.Test.YtkgdlnnmkpgfdaaPost
import Derived.Test.YtkgdlnnmkpgfdaaBulk
import Derived.Test.YtkgdlnnmkpgfdaaOpens
import Derived.Test.YtkgdlnnmkpgfdaaMake
set_option maxRecDepth 20000
set_option linter.unusedVariables false
namespace Go.Hb.LeastW
open Go.Proofs
open Go.Hb.Ref08 Go.Hb.Visit Go.Hb.Reg Go.Hb.Cut Go.Hb.Build Go.Hb.Add Go.Hb.Adds Go.Hb.Asked Go.Hb.Numb Go.Hb.Fin Go.Hb.Rfrz Go.Hb.Same Go.Hb.LawA Go.Hb.LawB Go.Hb.Least Go.Hb.Leasts
theorem ag3 : aggN Try.prog 3 = some none := by kernel_rfl
theorem ag4 : aggN Try.prog 4 = some none := by kernel_rfl
theorem ag5 : aggN Try.prog 5 = some none := by kernel_rfl
theorem ag38 : aggN Try.prog 38 = some none := by kernel_rfl
theorem ag40 : aggN Try.prog 40 = some (some 2) := by kernel_rfl
theorem ag42 : aggN Try.prog 42 = some (some 2) := by kernel_rfl
theorem c10 : Callable Try.prog 10 := callable Try.func10 (by kernel_rfl) (by kernel_rfl)
theorem c11 : Callable Try.prog 11 := callable Try.func11 (by kernel_rfl) (by kernel_rfl)
theorem c13 : Callable Try.prog 13 := callable Try.func13 (by kernel_rfl) (by kernel_rfl)
theorem c16 : Callable Try.prog 16 := callable Try.func16 (by kernel_rfl) (by kernel_rfl)
theorem c19 : Callable Try.prog 19 := callable Try.func19 (by kernel_rfl) (by kernel_rfl)
theorem c20 : Callable Try.prog 20 := callable Try.func20 (by kernel_rfl) (by kernel_rfl)
theorem cz40 : cellsN Try.prog 40 = some 2 := by kernel_rfl
theorem cz42 : cellsN Try.prog 42 = some 2 := by kernel_rfl
theorem es23 : elemSize Try.prog 23 = some 2 := by kernel_rfl
theorem es38 : elemSize Try.prog 38 = some 2 := by kernel_rfl
theorem fo40_0 : fieldOff Try.prog 40 0 = some 0 := by kernel_rfl
theorem fo40_1 : fieldOff Try.prog 40 1 = some 1 := by kernel_rfl
theorem fo42_0 : fieldOff Try.prog 42 0 = some 0 := by kernel_rfl
theorem fo42_1 : fieldOff Try.prog 42 1 = some 1 := by kernel_rfl
theorem u22 : Try.prog.underlying 22 = some (.slice 9) := by kernel_rfl
theorem u23 : Try.prog.underlying 23 = some (.slice 40) := by kernel_rfl
theorem u38 : Try.prog.underlying 38 = some (.slice 42) := by kernel_rfl
theorem wide : Try.prog.follows .mixedOrders = true := by kernel_rfl
theorem zs40 : zeroOf Try.prog 40 = some (some [.bool false, .slice none 0 0]) := by kernel_rfl
theorem zs42 : zeroOf Try.prog 42 = some (some [.int .u8 0, .int .i64 0]) := by kernel_rfl

theorem rise_at {l : List (UInt8 × Nat)} (h : l.Pairwise (fun a b => a.1.toNat < b.1.toNat)) {k : Nat} (hk : 0 < k) {a b : UInt8 × Nat} (ha : l[k - 1]? = some a) (hb : l[k]? = some b) : a.1.toNat < b.1.toNat := by
  obtain ⟨h1, rfl⟩ := List.getElem?_eq_some_iff.1 ha
  obtain ⟨h2, rfl⟩ := List.getElem?_eq_some_iff.1 hb
  exact List.pairwise_iff_getElem.1 h _ _ h1 h2 (by omega)
theorem not_leaf {ws : Tl} {K : List Tl} (hK : AutIs ws K) (hu : Up ws) {k : Nat} {L : Tl} (hk : K[k]? = some L) (h : ((aut ws).getD k dE).2.length = 0) (h2 : (!((aut ws).getD k dE).1) = true) (h3 : 0 < ws.length) : False := by
  rw [leaf_fin hK hu (List.length_pos_iff.1 h3) hk (List.length_eq_zero_iff.1 h)] at h2
  cases h2

set_option maxHeartbeats 1000000 in
theorem least_w (l : Tl) (a : Option Addr) (cap : Nat) (w : World) (hS : Strs w.heap a l) (hl : l.length + vol l ≤ 1048576) :
    Ret Try.prog 5 (List.toArray [.slice a l.length cap]) w (fun v w' => v = .bool true ∧ Wk w w') := by
  refine enter Try.func5 rfl Try.ntmps5 rfl ?_
  refine sq (fun K1 hK1 => ?_)
  refine rg ?_
  refine p asg ?_
  refine nl ?_
  refine tn (hK1 _ _ ?_)
  refine sq (fun K2 hK2 => ?_)
  refine sq (fun K3 hK3 => ?_)
  refine rg ?_
  refine e (cl c13 (wakes_w _) rfl fun v10 w10 hR10 => ?_)
  obtain ⟨rfl, hE10⟩ := hR10
  refine p (no rfl) ?_
  refine nl ?_
  refine tn (hK3 _ _ ?_)
  refine cf (rfl) ?_
  refine skp ?_
  refine tn (hK2 _ _ ?_)
  refine sq (fun K4 hK4 => ?_)
  refine rg ?_
  refine p (mvt (.slice a l.length cap) rfl) ?_
  refine e (cl c16 (rising_w l a cap _ (hS.wk hE10) (by omega)) rfl fun v13 w13 hR13 => ?_)
  obtain ⟨hE13, ho13⟩ := hR13
  obtain ⟨a3, c3, rfl⟩ := own_slice ho13
  have hS3 : Strs w13.heap a3 (fitS l) := (own_cellsS ho13).2
  have hfl := fitS_len l
  have hfv := fitS_vol l
  have hff := fitS_fit l
  obtain ⟨K, hK⟩ := aut_is hff
  refine p asg ?_
  refine nl ?_
  refine tn (hK4 _ _ ?_)
  refine sq (fun K5 hK5 => ?_)
  refine rg ?_
  refine p mv ?_
  refine e (cl c11 (twin_w (fitS l) a3 c3 _ hS3 (by omega)) rfl fun v16 w16 hR16 => ?_)
  obtain ⟨hE16, ho16⟩ := hR16
  obtain ⟨a9, c9, rfl⟩ := own_slice ho16
  have hS9 : Strs w16.heap a9 (fitS l) := (own_cellsS ho16).2
  refine e (cl c10 (built_w (fitS l) a9 c9 _ hS9 (by omega)) rfl fun v17 w17 hR17 => ?_)
  obtain ⟨hE17, aa, n, cc, rfl, _, hok⟩ := hR17
  rw [addW_fitS l (by omega)] at hok
  obtain ⟨svs, rfl, hA⟩ := hok rfl
  rw [addW_fitS l (by omega)]
  have hSR := hA.sr
  simp only at hSR
  have hlen := hSR.len
  have hpos := aut_pos hff
  have hsm := aut_small hff
  have hEE : ∀ p ∈ aut (fitS l), p.2.length ≤ 256 ∧ ∀ e ∈ p.2, e.2 < svs.length := by
    intro p hp
    refine ⟨hsm.2 p hp, fun e he => ?_⟩
    obtain ⟨i, hi, rfl⟩ := List.mem_iff_getElem.1 hp
    have hKi : K[i]? = some (K[i]'(by rw [← hK.len]; exact hi)) := List.getElem?_eq_getElem _
    have hge : (aut (fitS l))[i] = (aut (fitS l)).getD i dE := by rw [List.getD_eq_getElem?_getD, List.getElem?_eq_getElem hi]; rfl
    rw [hge] at he
    obtain ⟨_, h2, h3⟩ := edge_der hK hff.1 hKi (aut_up hK hff.1 (List.mem_of_getElem? hKi)) he
    rw [h2]; exact Nat.lt_of_lt_of_eq (List.idxOf_lt_length_of_mem h3) (hK.len.symm.trans hlen)
  have hE0 : Wk w w17 := Md.trans (Md.trans (Md.trans hE10 hE13) hE16) hE17
  refine p mv ?_
  refine p (xt rfl rfl) ?_
  refine p (xt rfl rfl) ?_
  refine p asg ?_
  refine p asg ?_
  refine nl ?_
  refine tn (hK5 _ _ ?_)
  refine sq (fun K6 hK6 => ?_)
  refine sq (fun K7 hK7 => ?_)
  refine rg ?_
  refine p mv ?_
  refine p (nei rfl rfl) ?_
  refine p mv ?_
  refine gs (t := 22) rfl (fun h => absurd h (fun h => h rfl)) (fun hg22 => ?_)
  refine pg rfl rfl rfl mv ?_
  refine pg rfl rfl rfl (lnl u23 rfl rfl) ?_
  refine pg rfl rfl rfl (eqi rfl rfl) ?_
  refine p (pkf rfl) ?_
  refine nl ?_
  refine tn (hK7 _ _ ?_)
  refine cd rfl (fun h => absurd h (by omega)) (fun hc26 => ?_)
  refine skp ?_
  refine tn (hK6 _ _ ?_)
  refine sq (fun K8 hK8 => ?_)
  refine sq (fun K9 hK9 => ?_)
  refine rg ?_
  refine p mv ?_
  refine p (lnl u23 rfl rfl) ?_
  refine p (gt rfl rfl) ?_
  refine nl ?_
  refine tn (hK9 _ _ ?_)
  refine cd rfl (fun hc29 => ?_) (fun hc29 => ?_)
  · refine sq (fun K10 hK10 => ?_)
    refine rg ?_
    refine p asg ?_
    refine nl ?_
    refine tn (hK10 _ _ ?_)
    refine rt ?_
    refine tr ?_
    refine f1 rfl rfl ?_
    exact ⟨rfl, hE0⟩
  · refine skp ?_
    refine tn (hK8 _ _ ?_)
    refine sq (fun K10 hK10 => ?_)
    refine sq (fun K11 hK11 => ?_)
    refine rg ?_
    refine p mv ?_
    refine p (lnl u23 rfl rfl) ?_
    refine p mv ?_
    refine nl ?_
    refine tn (hK11 _ _ ?_)
    refine blk ?_
    refine lp (fun gm σ1 wL => ∃ (i : Nat), (i ≤ svs.length) ∧ (Wk w17 wL) ∧ (σ1 3 = .slice a3 (fitS l).length c3) ∧ (σ1 4 = .slice aa svs.length cc) ∧ (σ1 30 = .slice aa svs.length cc) ∧ (σ1 31 = .int .i64 svs.length) ∧ (σ1 32 = .int .i64 i) ∧ (svs.length - i = gm)) _ ⟨0, (by omega), (Md.refl _ _), rfl, rfl, rfl, rfl, rfl, rfl⟩ ?_
    rintro gm σ1 wL ⟨i, hi, hE, hs1_3, hs1_4, hs1_30, hs1_31, hs1_32, rfl⟩
    refine fx 3 hs1_3 (fx 4 hs1_4 (fx 30 hs1_30 (fx 31 hs1_31 (fx 32 hs1_32 ?_))))
    refine sq (fun K12 hK12 => ?_)
    refine rg ?_
    refine p (lt rfl rfl) ?_
    refine nl ?_
    refine tn (hK12 _ _ ?_)
    refine sq (fun K13 hK13 => ?_)
    refine cd rfl (fun hc33 => ?_) (fun hc33 => ?_)
    · refine skp ?_
      refine tn (hK13 _ _ ?_)
      refine sq (fun K14 hK14 => ?_)
      refine blk ?_
      refine sq (fun K15 hK15 => ?_)
      have hA1 := hSR.wk hE
      obtain ⟨fi, ei, xi, hqi, hfi, hci⟩ := hA1.get (i := i) (by omega)
      have hme := hsm.2 _ (getD_mem (d := dE) (show i < (aut (fitS l)).length by omega))
      have hKi : K[i]? = some (K[i]'(by rw [← hK.len]; omega)) := List.getElem?_eq_getElem _
      refine rg ?_
      refine p (mvt (.int .i64 i) rfl) ?_
      refine p (ia' es23 rfl rfl (by omega) (Cells.ok (hA1.cells) (sflat_ne (by omega)))) ?_
      refine p (lda ag40 rfl rfl (show ∀ j, j < 2 → cel wL.heap (bk aa) (fo aa + i * 2 + j) = [Value.bool fi, .slice ei ((aut (fitS l)).getD i dE).2.length xi][j]? from sflat_cells hA1.cells hqi)) ?_
      refine e (alT zs40 fun b7 w7 hb7 hN7 hB7 => ?_)
      refine p (ast (.int .i64 i) rfl) ?_
      refine e (staT cz40 rfl rfl rfl rfl hB7 (by simp) fun w11 hM11 hB11 => ?_)
      have hB11x : Blk w11.heap b7 [Value.bool fi, .slice ei ((aut (fitS l)).getD i dE).2.length xi] := ⟨_, hB11⟩
      have hE11 : Wk wL w11 := Md.trans' hN7.md hM11 (fun k hk h => by omega)
      refine nl ?_
      refine tn (hK15 _ _ ?_)
      refine sq (fun K16 hK16 => ?_)
      refine sq (fun K17 hK17 => ?_)
      refine rg ?_
      refine p (fa fo40_1 rfl) ?_
      refine p (ld ag38 rfl (hB11x.cel 1)) ?_
      refine p (lnl u38 rfl rfl) ?_
      refine p mv ?_
      refine nl ?_
      refine tn (hK17 _ _ ?_)
      refine blk ?_
      refine lp (fun gm σ2 wM => ∃ (k : Nat), (k ≤ ((aut (fitS l)).getD i dE).2.length) ∧ (Wk wL wM) ∧ (Blk (wM).heap b7 [Value.bool fi, .slice ei ((aut (fitS l)).getD i dE).2.length xi]) ∧ (σ2 3 = .slice a3 (fitS l).length c3) ∧ (σ2 4 = .slice aa svs.length cc) ∧ (σ2 30 = .slice aa svs.length cc) ∧ (σ2 31 = .int .i64 svs.length) ∧ (σ2 32 = .int .i64 i) ∧ (σ2 6 = .int .i64 i) ∧ (σ2 7 = .pointer (some ⟨b7, 0, none⟩)) ∧ (σ2 38 = .slice ei ((aut (fitS l)).getD i dE).2.length xi) ∧ (σ2 39 = .int .i64 ((aut (fitS l)).getD i dE).2.length) ∧ (σ2 40 = .int .i64 k) ∧ (((aut (fitS l)).getD i dE).2.length - k = gm)) _ ⟨0, (by omega), hE11, hB11x, rfl, rfl, rfl, rfl, rfl, rfl, rfl, rfl, rfl, rfl, rfl⟩ ?_
      rintro gm σ2 wM ⟨k, hk, hEM, hB7m, hs2_3, hs2_4, hs2_30, hs2_31, hs2_32, hs2_6, hs2_7, hs2_38, hs2_39, hs2_40, rfl⟩
      refine fx 3 hs2_3 (fx 4 hs2_4 (fx 30 hs2_30 (fx 31 hs2_31 (fx 32 hs2_32 (fx 6 hs2_6 (fx 7 hs2_7 (fx 38 hs2_38 (fx 39 hs2_39 (fx 40 hs2_40 ?_)))))))))
      refine sq (fun K18 hK18 => ?_)
      refine rg ?_
      refine p (lt rfl rfl) ?_
      refine nl ?_
      refine tn (hK18 _ _ ?_)
      refine sq (fun K19 hK19 => ?_)
      refine cd rfl (fun hc41 => ?_) (fun hc41 => ?_)
      · refine skp ?_
        refine tn (hK19 _ _ ?_)
        refine sq (fun K20 hK20 => ?_)
        refine blk ?_
        refine sq (fun K21 hK21 => ?_)
        have hck := hci.wk hEM
        obtain ⟨⟨c, z⟩, hek⟩ : ∃ e, ((aut (fitS l)).getD i dE).2[k]? = some e := ⟨_, List.getElem?_eq_getElem (by omega)⟩
        have hmk := List.mem_of_getElem? hek
        have hzp : 0 < z := edge_pos hff hK hKi hmk
        have hzl : z < svs.length := by
          obtain ⟨_, h2, h3⟩ := edge_der hK hff.1 hKi (aut_up hK hff.1 (List.mem_of_getElem? hKi)) hmk
          simp only at h2
          rw [h2]; exact Nat.lt_of_lt_of_eq (List.idxOf_lt_length_of_mem h3) (hK.len.symm.trans hlen)
        obtain ⟨⟨cp, zp⟩, hep⟩ : ∃ e, ((aut (fitS l)).getD i dE).2[k - 1]? = some e := ⟨_, List.getElem?_eq_getElem (by omega)⟩
        have hris2 : 0 < k → cp.toNat < c.toNat := fun h => rise_at (edge_rise hK hff.1 hKi) h hep hek
        refine rg ?_
        refine p (mvt (.int .i64 k) rfl) ?_
        refine p (ia' es38 rfl rfl (by omega) (Cells.ok (hck) (eflat_ne (by omega)))) ?_
        refine p (lda ag42 rfl rfl (show ∀ j, j < 2 → cel wM.heap (bk ei) (fo ei + k * 2 + j) = [Value.int .u8 c.toNat, .int .i64 z][j]? from eflat_cells hck hek)) ?_
        refine e (alT zs42 fun b9 w9 hb9 hN9 hB9 => ?_)
        refine p (ast (.int .i64 k) rfl) ?_
        refine e (staT cz42 rfl rfl rfl rfl hB9 (by simp) fun w14 hM14 hB14 => ?_)
        have hB14x : Blk w14.heap b9 [Value.int .u8 c.toNat, .int .i64 z] := ⟨_, hB14⟩
        have hE14 : Wk wM w14 := Md.trans' hN9.md hM14 (fun k hk h => by omega)
        have hB7n := Wk.B hE14 hB7m
        refine nl ?_
        refine tn (hK21 _ _ ?_)
        refine sq (fun K22 hK22 => ?_)
        have hck2 := hck.wk hE14
        have hS15 : (fun w' => Wk w14 w') w14.drew := (Md.refl _ _).drew
        refine hst (fun w' => Wk w14 w') wide hS15 ?_
        refine hp 0 rfl (by kernel_rfl) (fun _ _ => fa fo42_1 rfl) hS15 ?_
        refine hp 1 rfl (by kernel_rfl) (fun w' hS => ld ag3 rfl (Wk.cel hS (hB14x.cel 1))) hS15 ?_
        refine hp 2 rfl (by kernel_rfl) (fun _ _ => le rfl rfl) hS15 ?_
        refine hp 3 rfl (by kernel_rfl) (fun _ _ => mv) hS15 ?_
        refine hgs (t := 48) rfl (fun h => absurd h (by omega)) (fun hg48 => ?_)
        refine hpg 4 rfl (by kernel_rfl) rfl rfl rfl (fun _ _ => fa fo42_1 rfl) hS15 ?_
        refine hpg 5 rfl (by kernel_rfl) rfl rfl rfl (fun w' hS => ld ag3 rfl (Wk.cel hS (hB14x.cel 1))) hS15 ?_
        refine hpg 6 rfl (by kernel_rfl) rfl rfl rfl (fun _ _ => mvt (.slice aa svs.length cc) rfl) hS15 ?_
        refine hpg 7 rfl (by kernel_rfl) rfl rfl rfl (fun _ _ => lnl u23 rfl rfl) hS15 ?_
        refine hpg 8 rfl (by kernel_rfl) rfl rfl rfl (fun _ _ => ge rfl rfl) hS15 ?_
        refine hp 9 rfl (by kernel_rfl) (fun _ _ => pkf rfl) hS15 ?_
        refine hp 10 rfl (by kernel_rfl) (fun _ _ => mv) hS15 ?_
        refine hgs (t := 55) rfl (fun h => absurd h (by omega)) (fun hg55 => ?_)
        refine hpg 11 rfl (by kernel_rfl) rfl rfl rfl (fun _ _ => mvt (.int .i64 k) rfl) hS15 ?_
        refine hpg 12 rfl (by kernel_rfl) rfl rfl rfl (fun _ _ => gt rfl rfl) hS15 ?_
        refine hpg 13 rfl (by kernel_rfl) rfl rfl rfl (fun _ _ => mv) hS15 ?_
        refine hgs (t := 58) rfl (fun hg58 => ?_) (fun hg58 => ?_)
        · refine hpg 14 rfl (by kernel_rfl) rfl rfl rfl (fun _ _ => fa fo40_1 rfl) hS15 ?_
          refine hpg 15 rfl (by kernel_rfl) rfl rfl rfl (fun w' hS => ld ag38 rfl (Wk.cel hS (hB7n.cel 1))) hS15 ?_
          refine hpg 16 rfl (by kernel_rfl) rfl rfl rfl (fun _ _ => mvt (.int .i64 k) rfl) hS15 ?_
          refine hpg 17 rfl (by kernel_rfl) rfl rfl rfl (fun _ _ => sbv ((k - 1 : Nat) : Int) rfl rfl (w64n (by omega) (by omega))) hS15 ?_
          refine hpg 18 rfl (by kernel_rfl) rfl rfl rfl (fun _ _ => ia' es38 rfl rfl (by omega) (Cells.ok (hck2) (eflat_ne (by omega)))) hS15 ?_
          refine hpg 19 rfl (by kernel_rfl) rfl rfl rfl (fun _ _ => fa fo42_0 rfl) hS15 ?_
          refine hpg 20 rfl (by kernel_rfl) rfl rfl rfl (fun w' hS => ld ag5 rfl (Wk.cel hS (show _ = some (Value.int .u8 cp.toNat) from cel2 hck2 (i := k - 1) (c := 0) ((eflat_get hep (by decide)).trans rfl)))) hS15 ?_
          refine hpg 21 rfl (by kernel_rfl) rfl rfl rfl (fun _ _ => fa fo42_0 rfl) hS15 ?_
          refine hpg 22 rfl (by kernel_rfl) rfl rfl rfl (fun w' hS => ld ag5 rfl (Wk.cel hS (hB14x.cel 0))) hS15 ?_
          refine hpg 23 rfl (by kernel_rfl) rfl rfl rfl (fun _ _ => ge rfl rfl) hS15 ?_
          refine hpg 24 rfl (by kernel_rfl) rfl rfl rfl (fun _ _ => pkt rfl) hS15 ?_
          refine hp 25 rfl (by kernel_rfl) (fun _ _ => pkf rfl) hS15 ?_
          refine hn (by kernel_rfl) ?_
          refine tn (hK22 _ _ ?_)
          refine cd rfl (fun h => absurd h (by have := hris2 (by omega); omega)) (fun hc70 => ?_)
          refine skp ?_
          refine bn ?_
          refine tn (hK20 _ _ ?_)
          refine rg ?_
          refine p (ad rfl rfl (wi64 (by omega))) ?_
          refine p mv ?_
          refine nl ?_
          refine tn ?_
          exact ⟨_, by omega, k + 1, (by omega), ((Md.trans hEM hE14).drew), hB7n, rfl, rfl, rfl, rfl, rfl, rfl, rfl, rfl, rfl, rfl, rfl⟩
        · refine hsk 14 rfl (by kernel_rfl) rfl rfl rfl rfl hS15 ?_
          refine hsk 15 rfl (by kernel_rfl) rfl rfl rfl rfl hS15 ?_
          refine hsk 16 rfl (by kernel_rfl) rfl rfl rfl rfl hS15 ?_
          refine hsk 17 rfl (by kernel_rfl) rfl rfl rfl rfl hS15 ?_
          refine hsk 18 rfl (by kernel_rfl) rfl rfl rfl rfl hS15 ?_
          refine hsk 19 rfl (by kernel_rfl) rfl rfl rfl rfl hS15 ?_
          refine hsk 20 rfl (by kernel_rfl) rfl rfl rfl rfl hS15 ?_
          refine hsk 21 rfl (by kernel_rfl) rfl rfl rfl rfl hS15 ?_
          refine hsk 22 rfl (by kernel_rfl) rfl rfl rfl rfl hS15 ?_
          refine hsk 23 rfl (by kernel_rfl) rfl rfl rfl rfl hS15 ?_
          refine hpg 24 rfl (by kernel_rfl) rfl rfl rfl (fun _ _ => pkf rfl) hS15 ?_
          refine hp 25 rfl (by kernel_rfl) (fun _ _ => pkf rfl) hS15 ?_
          refine hn (by kernel_rfl) ?_
          refine tn (hK22 _ _ ?_)
          refine cf rfl ?_
          refine skp ?_
          refine bn ?_
          refine tn (hK20 _ _ ?_)
          refine rg ?_
          refine p (ad rfl rfl (wi64 (by omega))) ?_
          refine p mv ?_
          refine nl ?_
          refine tn ?_
          exact ⟨_, by omega, k + 1, (by omega), ((Md.trans hEM hE14).drew), hB7n, rfl, rfl, rfl, rfl, rfl, rfl, rfl, rfl, rfl, rfl, rfl⟩
      · refine ext ?_
        refine te _ ?_
        refine te _ ?_
        refine be ?_
        refine tn (hK16 _ _ ?_)
        refine sq (fun K20 hK20 => ?_)
        refine rg ?_
        refine p (fa fo40_1 rfl) ?_
        refine p (ld ag38 rfl (hB7m.cel 1)) ?_
        refine p (lnl u38 rfl rfl) ?_
        refine p (eqi rfl rfl) ?_
        refine p mv ?_
        refine gs (t := 76) rfl (fun hg76 => ?_) (fun hg76 => ?_)
        · refine pg rfl rfl rfl (fa fo40_0 rfl) ?_
          refine pg rfl rfl rfl (ld ag4 rfl (hB7m.cel 0)) ?_
          refine pg rfl rfl rfl (no rfl) ?_
          refine p (pkt rfl) ?_
          refine p mv ?_
          refine gb (t := 81) rfl (fun hg81 => ?_) (fun hg81 => ?_)
          · refine pg rfl rfl rfl (mvt (.slice a3 (fitS l).length c3) rfl) ?_
            refine pg rfl rfl rfl (lnl u22 rfl rfl) ?_
            refine pg rfl rfl rfl (gt rfl rfl) ?_
            refine p (pkt rfl) ?_
            refine p mv ?_
            refine gs (t := 86) rfl (fun h => absurd h (fun h => not_leaf hK hff.1 hKi (by omega) (by rw [hfi]; exact hg81) (by omega))) (fun hg86 => ?_)
            refine pg rfl rfl rfl (mvt (.int .i64 i) rfl) ?_
            refine pg rfl rfl rfl (gt rfl rfl) ?_
            refine pg rfl rfl rfl mv ?_
            refine gs (t := 89) rfl (fun hg89 => ?_) (fun hg89 => ?_)
            · refine pg rfl rfl rfl (mvt (.slice aa svs.length cc) rfl) ?_
              refine pg rfl rfl rfl (mvt (.int .i64 i) rfl) ?_
              refine eg rfl rfl rfl (cl c19 (entered_w (aut (fitS l)) i aa cc svs _ (hSR.wk (Md.trans hE hEM)) (by omega) (fun p hp => by have := hsm.2 p hp; omega)) rfl fun v92 w92 hR92 => ?_)
              obtain ⟨rfl, hE92⟩ := hR92
              refine pg rfl rfl rfl (no rfl) ?_
              refine pg rfl rfl rfl (pkt rfl) ?_
              refine p (pkf rfl) ?_
              refine nl ?_
              refine tn (hK20 _ _ ?_)
              refine cf (congrArg (fun b => Value.bool (!b)) (ent_all hK hff.1 (by omega) hKi)) ?_
              refine skp ?_
              refine bn ?_
              refine tn (hK14 _ _ ?_)
              refine rg ?_
              refine p (ad rfl rfl (wi64 (by omega))) ?_
              refine p mv ?_
              refine nl ?_
              refine tn ?_
              exact ⟨_, by omega, i + 1, (by omega), (Md.trans hE (Md.trans hEM hE92)), rfl, rfl, rfl, rfl, rfl, rfl⟩
            · refine sk rfl rfl rfl rfl ?_
              refine sk rfl rfl rfl rfl ?_
              refine sk rfl rfl rfl rfl ?_
              refine sk rfl rfl rfl rfl ?_
              refine pg rfl rfl rfl (pkf rfl) ?_
              refine p (pkf rfl) ?_
              refine nl ?_
              refine tn (hK20 _ _ ?_)
              refine cf rfl ?_
              refine skp ?_
              refine bn ?_
              refine tn (hK14 _ _ ?_)
              refine rg ?_
              refine p (ad rfl rfl (wi64 (by omega))) ?_
              refine p mv ?_
              refine nl ?_
              refine tn ?_
              exact ⟨_, by omega, i + 1, (by omega), (Md.trans hE hEM), rfl, rfl, rfl, rfl, rfl, rfl⟩
          · refine sk rfl rfl rfl rfl ?_
            refine sk rfl rfl rfl rfl ?_
            refine sk rfl rfl rfl rfl ?_
            refine p (pkf rfl) ?_
            refine p mv ?_
            refine pg rfl rfl rfl (mvt (.int .i64 i) rfl) ?_
            refine pg rfl rfl rfl (gt rfl rfl) ?_
            refine pg rfl rfl rfl mv ?_
            refine gs (t := 89) rfl (fun hg89 => ?_) (fun hg89 => ?_)
            · refine pg rfl rfl rfl (mvt (.slice aa svs.length cc) rfl) ?_
              refine pg rfl rfl rfl (mvt (.int .i64 i) rfl) ?_
              refine eg rfl rfl rfl (cl c19 (entered_w (aut (fitS l)) i aa cc svs _ (hSR.wk (Md.trans hE hEM)) (by omega) (fun p hp => by have := hsm.2 p hp; omega)) rfl fun v92 w92 hR92 => ?_)
              obtain ⟨rfl, hE92⟩ := hR92
              refine pg rfl rfl rfl (no rfl) ?_
              refine pg rfl rfl rfl (pkt rfl) ?_
              refine p (pkf rfl) ?_
              refine nl ?_
              refine tn (hK20 _ _ ?_)
              refine cf (congrArg (fun b => Value.bool (!b)) (ent_all hK hff.1 (by omega) hKi)) ?_
              refine skp ?_
              refine bn ?_
              refine tn (hK14 _ _ ?_)
              refine rg ?_
              refine p (ad rfl rfl (wi64 (by omega))) ?_
              refine p mv ?_
              refine nl ?_
              refine tn ?_
              exact ⟨_, by omega, i + 1, (by omega), (Md.trans hE (Md.trans hEM hE92)), rfl, rfl, rfl, rfl, rfl, rfl⟩
            · refine sk rfl rfl rfl rfl ?_
              refine sk rfl rfl rfl rfl ?_
              refine sk rfl rfl rfl rfl ?_
              refine sk rfl rfl rfl rfl ?_
              refine pg rfl rfl rfl (pkf rfl) ?_
              refine p (pkf rfl) ?_
              refine nl ?_
              refine tn (hK20 _ _ ?_)
              refine cf rfl ?_
              refine skp ?_
              refine bn ?_
              refine tn (hK14 _ _ ?_)
              refine rg ?_
              refine p (ad rfl rfl (wi64 (by omega))) ?_
              refine p mv ?_
              refine nl ?_
              refine tn ?_
              exact ⟨_, by omega, i + 1, (by omega), (Md.trans hE hEM), rfl, rfl, rfl, rfl, rfl, rfl⟩
        · refine sk rfl rfl rfl rfl ?_
          refine sk rfl rfl rfl rfl ?_
          refine sk rfl rfl rfl rfl ?_
          refine p (pkf rfl) ?_
          refine p mv ?_
          refine sk rfl rfl rfl rfl ?_
          refine sk rfl rfl rfl rfl ?_
          refine sk rfl rfl rfl rfl ?_
          refine p (pkf rfl) ?_
          refine p mv ?_
          refine pg rfl rfl rfl (mvt (.int .i64 i) rfl) ?_
          refine pg rfl rfl rfl (gt rfl rfl) ?_
          refine pg rfl rfl rfl mv ?_
          refine gs (t := 89) rfl (fun hg89 => ?_) (fun hg89 => ?_)
          · refine pg rfl rfl rfl (mvt (.slice aa svs.length cc) rfl) ?_
            refine pg rfl rfl rfl (mvt (.int .i64 i) rfl) ?_
            refine eg rfl rfl rfl (cl c19 (entered_w (aut (fitS l)) i aa cc svs _ (hSR.wk (Md.trans hE hEM)) (by omega) (fun p hp => by have := hsm.2 p hp; omega)) rfl fun v92 w92 hR92 => ?_)
            obtain ⟨rfl, hE92⟩ := hR92
            refine pg rfl rfl rfl (no rfl) ?_
            refine pg rfl rfl rfl (pkt rfl) ?_
            refine p (pkf rfl) ?_
            refine nl ?_
            refine tn (hK20 _ _ ?_)
            refine cf (congrArg (fun b => Value.bool (!b)) (ent_all hK hff.1 (by omega) hKi)) ?_
            refine skp ?_
            refine bn ?_
            refine tn (hK14 _ _ ?_)
            refine rg ?_
            refine p (ad rfl rfl (wi64 (by omega))) ?_
            refine p mv ?_
            refine nl ?_
            refine tn ?_
            exact ⟨_, by omega, i + 1, (by omega), (Md.trans hE (Md.trans hEM hE92)), rfl, rfl, rfl, rfl, rfl, rfl⟩
          · refine sk rfl rfl rfl rfl ?_
            refine sk rfl rfl rfl rfl ?_
            refine sk rfl rfl rfl rfl ?_
            refine sk rfl rfl rfl rfl ?_
            refine pg rfl rfl rfl (pkf rfl) ?_
            refine p (pkf rfl) ?_
            refine nl ?_
            refine tn (hK20 _ _ ?_)
            refine cf rfl ?_
            refine skp ?_
            refine bn ?_
            refine tn (hK14 _ _ ?_)
            refine rg ?_
            refine p (ad rfl rfl (wi64 (by omega))) ?_
            refine p mv ?_
            refine nl ?_
            refine tn ?_
            exact ⟨_, by omega, i + 1, (by omega), (Md.trans hE hEM), rfl, rfl, rfl, rfl, rfl, rfl⟩
    · refine ext ?_
      refine te _ ?_
      refine te _ ?_
      refine be ?_
      refine tn (hK10 _ _ ?_)
      refine sq (fun K14 hK14 => ?_)
      refine rg ?_
      refine p (mvt (.slice aa svs.length cc) rfl) ?_
      refine e (cl c20 (apart_w (aut (fitS l)) aa cc svs _ (hSR.wk hE) (by omega) hEE (fun mk hs hp => by rw [← hlen] at *; exact fix_all hff hs hp)) rfl fun v98 w98 hR98 => ?_)
      obtain ⟨rfl, hE98⟩ := hR98
      refine p asg ?_
      refine nl ?_
      refine tn (hK14 _ _ ?_)
      refine rt ?_
      refine f1 rfl rfl ?_
      exact ⟨rfl, Md.trans hE0 (Md.trans hE hE98)⟩
end Go.Hb.LeastW
