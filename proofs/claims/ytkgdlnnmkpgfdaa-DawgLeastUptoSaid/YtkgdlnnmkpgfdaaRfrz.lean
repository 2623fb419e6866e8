/-
  Walk of hornbookref18.Frozen. No conditions but those that each theorem names.
-/
import Derived.Test.YtkgdlnnmkpgfdaaChecked
import Derived.Test.YtkgdlnnmkpgfdaaEff
import Derived.Test.YtkgdlnnmkpgfdaaRef06
import Derived.Test.YtkgdlnnmkpgfdaaRef18
import Derived.Test.YtkgdlnnmkpgfdaaVisit
import Derived.Test.YtkgdlnnmkpgfdaaStr
import Derived.Test.YtkgdlnnmkpgfdaaPure
import Derived.Test.YtkgdlnnmkpgfdaaDawg
import Derived.Test.YtkgdlnnmkpgfdaaVis
import Derived.Test.YtkgdlnnmkpgfdaaRow
import Derived.Test.YtkgdlnnmkpgfdaaAuto
import Derived.Test.YtkgdlnnmkpgfdaaFrz
set_option maxRecDepth 20000
set_option linter.unusedVariables false
namespace Go.Hb.Rfrz
open Go.Proofs
open Go.Hb.Ref06 Go.Hb.Ref18 Go.Hb.Visit
theorem ag9 : aggN Try.prog 9 = some none := by kernel_rfl
theorem ag22 : aggN Try.prog 22 = some none := by kernel_rfl
theorem c38 : Callable Try.prog 38 := callable Try.func38 (by kernel_rfl) (by kernel_rfl)
theorem c39 : Callable Try.prog 39 := callable Try.func39 (by kernel_rfl) (by kernel_rfl)
theorem c40 : Callable Try.prog 40 := callable Try.func40 (by kernel_rfl) (by kernel_rfl)
theorem c51 : Callable Try.prog 51 := callable Try.func51 (by kernel_rfl) (by kernel_rfl)
theorem es22 : elemSize Try.prog 22 = some 1 := by kernel_rfl
theorem fo69_0 : fieldOff Try.prog 69 0 = some 0 := by kernel_rfl
theorem st69 : structOk Try.prog 69 = some ([(0, 1), (1, 1)], [.slice none 0 0, .slice none 0 0]) := by kernel_rfl
theorem u9 : Try.prog.underlying 9 = some (.string) := by kernel_rfl
theorem u22 : Try.prog.underlying 22 = some (.slice 9) := by kernel_rfl
theorem wide : Try.prog.follows .mixedOrders = true := by kernel_rfl

/-- a table of rests, in new memory -/
def Tbl (w : World) (b : Nat) (rs : Tl) : Prop := ∃ (ns : List Nat) (vr vn : Value), Blk w.heap b [vr, vn] ∧ w.ownsRow (b + 1) 9 1 vr rs.length (rs.map str) ∧ w.ownsRow (b + 1) 3 1 vn rs.length (ns.map (fun n : Nat => Value.int .i64 n))
theorem Tbl.wk {w w' : World} {b : Nat} {rs : Tl} (h : Tbl w b rs) (hm : Wk w w') : Tbl w' b rs :=
  let ⟨ns, vr, vn, h1, h2, h3⟩ := h; ⟨ns, vr, vn, Wk.B hm h1, own_nw h2 hm, own_nw h3 hm⟩
theorem Tbl.dr {w : World} {b : Nat} {rs : Tl} (h : Tbl w b rs) : Tbl w.drew b rs := h.wk (Md.refl _ _).drew

set_option maxHeartbeats 1000000 in
theorem refFrozen_w (ws : Tl) (aw : Option Addr) (cw : Nat) (w : World) (hW : Strs w.heap aw ws) (hf : Fit ws) (hwl : ws.length ≤ 134217728) :
    Ret Try.prog 48 (List.toArray [.slice aw ws.length cw]) w (fun v w' => v = .int .i64 (frozenN ws) ∧ Wk w w') := by
  have h255 : ∀ i, i < ws.length → (ws.getD i []).length ≤ 255 := fun i hi => hf.2 _ (getD_mem hi)
  refine enter Try.func48 rfl Try.ntmps48 rfl ?_
  refine sq (fun K1 hK1 => ?_)
  refine rg ?_
  refine p asg ?_
  refine nl ?_
  refine tn (hK1 _ _ ?_)
  refine sq (fun K2 hK2 => ?_)
  refine sq (fun K3 hK3 => ?_)
  refine rg ?_
  refine p (mvt (.slice aw ws.length cw) rfl) ?_
  refine p (lnl u22 rfl rfl) ?_
  refine p (eqi rfl rfl) ?_
  refine nl ?_
  refine tn (hK3 _ _ ?_)
  refine cd rfl (fun hlen => ?_) (fun hlen => ?_)
  · refine sq (fun K4 hK4 => ?_)
    refine rg ?_
    refine p asg ?_
    refine nl ?_
    refine tn (hK4 _ _ ?_)
    refine rt ?_
    refine tr ?_
    refine f1 rfl rfl ?_
    refine ⟨?_, Md.refl _ _⟩
    have h0 : ws = [] := List.eq_nil_of_length_eq_zero (by omega)
    subst h0
    rfl
  · refine skp ?_
    refine tn (hK2 _ _ ?_)
    refine sq (fun K4 hK4 => ?_)
    have hlst : ws.getD (ws.length - 1) [] = ws.getLastD [] := by
      rw [getD_get [] (by omega), List.getLastD_eq_getLast?, List.getLast?_eq_getElem?, List.getElem?_eq_getElem (by omega), Option.getD_some]
    refine rg ?_
    refine p (mvt (.slice aw ws.length cw) rfl) ?_
    refine p (mvt (.slice aw ws.length cw) rfl) ?_
    refine p (lnl u22 rfl rfl) ?_
    refine p (sbv ((ws.length - 1 : Nat) : Int) rfl rfl (w64n (by omega) (by omega))) ?_
    refine p (ia' es22 rfl rfl (by omega) (Cells.ok (hW) (ne_map (by omega)))) ?_
    refine p (ld ag9 rfl ((show cel w.heap (bk aw) (fo aw + (ws.length - 1) * 1) = some (str (ws.getLastD [])) from hlst ▸ Strs.get (i := ws.length - 1) hW (by omega)))) ?_
    refine p asg ?_
    refine nl ?_
    refine tn (hK4 _ _ ?_)
    refine sq (fun K5 hK5 => ?_)
    refine rg ?_
    refine p (bld (ps := []) (L := [.slice none 0 0, .slice none 0 0]) st69 rfl (rfl)) ?_
    refine e (bxa rfl fun b21 w21 hb21 hN21 hB21 => ?_)
    have hE21 : Wk w w21 := hN21.md
    have hT0 : Tbl w21 b21 [] := ⟨[], _, _, hB21, World.ownsRow_nil _ _ _ _, World.ownsRow_nil _ _ _ _⟩
    refine p asg ?_
    refine nl ?_
    refine tn (hK5 _ _ ?_)
    refine sq (fun K6 hK6 => ?_)
    refine sq (fun K7 hK7 => ?_)
    refine rg ?_
    refine p asg ?_
    refine nl ?_
    refine tn (hK7 _ _ ?_)
    refine blk ?_
    refine lp (fun gm σ1 wL => ∃ (i : Nat) (rs : Tl), (i + 1 ≤ ws.length) ∧ (Wk w wL) ∧ (Tbl wL b21 rs) ∧ (Up rs) ∧ (∀ r, r ∈ rs ↔ FzS ws i 1 r) ∧ (rs.length ≤ 256 * i) ∧ (σ1 0 = .slice aw ws.length cw) ∧ (σ1 3 = str (ws.getLastD [])) ∧ (σ1 4 = .pointer (some ⟨b21, 0, none⟩)) ∧ (σ1 5 = .int .i64 i) ∧ (ws.length - i = gm)) _ ⟨0, [], (by omega), hE21, hT0, List.Pairwise.nil, (fun r => ⟨fun h => by simp at h, fun h => absurd h fzs_zero⟩), (by simp), rfl, rfl, rfl, rfl, rfl⟩ ?_
    rintro gm σ1 wL ⟨i, rs, hi1, hE, hT, hsr, hset, hcnt, hs1_0, hs1_3, hs1_4, hs1_5, rfl⟩
    refine fx 0 hs1_0 (fx 3 hs1_3 (fx 4 hs1_4 (fx 5 hs1_5 ?_)))
    refine sq (fun K8 hK8 => ?_)
    refine sq (fun K9 hK9 => ?_)
    refine rg ?_
    refine p (mvt (.int .i64 i) rfl) ?_
    refine p (mvt (.slice aw ws.length cw) rfl) ?_
    refine p (lnl u22 rfl rfl) ?_
    refine p (sbv ((ws.length - 1 : Nat) : Int) rfl rfl (w64n (by omega) (by omega))) ?_
    refine p (lt rfl rfl) ?_
    refine nl ?_
    refine tn (hK9 _ _ ?_)
    refine cd rfl (fun hc26 => ?_) (fun hc26 => ?_)
    · refine skp ?_
      refine tn (hK8 _ _ ?_)
      refine sq (fun K10 hK10 => ?_)
      refine blk ?_
      refine sq (fun K11 hK11 => ?_)
      refine rg ?_
      refine p asg ?_
      refine nl ?_
      refine tn (hK11 _ _ ?_)
      refine blk ?_
      refine lp (fun gm σ2 wM => ∃ (d : Nat) (rs : Tl), (1 ≤ d) ∧ (d ≤ (ws.getD i []).length + 1) ∧ (Wk w wM) ∧ (Tbl wM b21 rs) ∧ (Up rs) ∧ (∀ r, r ∈ rs ↔ FzS ws i d r) ∧ (rs.length + 1 ≤ 256 * i + d) ∧ (σ2 0 = .slice aw ws.length cw) ∧ (σ2 3 = str (ws.getLastD [])) ∧ (σ2 4 = .pointer (some ⟨b21, 0, none⟩)) ∧ (σ2 5 = .int .i64 i) ∧ (σ2 6 = .int .i64 d) ∧ ((ws.getD i []).length + 1 - d = gm)) _ ⟨1, rs, (by omega), (by omega), hE, hT, hsr, hset, (by omega), rfl, rfl, rfl, rfl, rfl, rfl⟩ ?_
      rintro gm σ2 wM ⟨d, rs, hd1, hd2, hE1, hT1, hsr, hset, hcnt, hs2_0, hs2_3, hs2_4, hs2_5, hs2_6, rfl⟩
      refine fx 0 hs2_0 (fx 3 hs2_3 (fx 4 hs2_4 (fx 5 hs2_5 (fx 6 hs2_6 ?_))))
      have hi255 := h255 i (by omega)
      have hll : (ws.getLastD []).length ≤ 255 := by rw [← hlst]; exact h255 _ (by omega)
      refine sq (fun K12 hK12 => ?_)
      refine sq (fun K13 hK13 => ?_)
      refine rg ?_
      refine p (mvt (.int .i64 d) rfl) ?_
      refine p (mvt (.slice aw ws.length cw) rfl) ?_
      refine p (mvt (.int .i64 i) rfl) ?_
      refine p (ia' es22 rfl rfl (by omega) (Cells.ok (hW.wk hE1) (ne_map (by omega)))) ?_
      refine p (ld ag9 rfl (Strs.get (i := i) (hW.wk hE1) (by omega))) ?_
      refine p (lns u9 rfl rfl) ?_
      refine p (le rfl rfl) ?_
      refine nl ?_
      refine tn (hK13 _ _ ?_)
      refine cd rfl (fun hc35 => ?_) (fun hc35 => ?_)
      · refine skp ?_
        refine tn (hK12 _ _ ?_)
        refine sq (fun K14 hK14 => ?_)
        refine blk ?_
        refine sq (fun K15 hK15 => ?_)
        refine rg ?_
        refine p (mvt (str (ws.getLastD [])) rfl) ?_
        refine p (mvt (.slice aw ws.length cw) rfl) ?_
        refine p (mvt (.int .i64 i) rfl) ?_
        refine p (ia' es22 rfl rfl (by omega) (Cells.ok (hW.wk hE1) (ne_map (by omega)))) ?_
        refine p (ld ag9 rfl (Strs.get (i := i) (hW.wk hE1) (by omega))) ?_
        refine p (mvt (.int .i64 d) rfl) ?_
        refine e (cl c51 (begins_w (ws.getLastD []) (ws.getD i []) d _ (by omega) (by omega)) rfl fun v44 w44 hR44 => ?_)
        obtain ⟨rfl, hE44⟩ := hR44
        have hE2 : Wk w w44 := Md.trans hE1 hE44
        have hT2 := hT1.wk hE44
        refine p asg ?_
        refine nl ?_
        refine tn (hK15 _ _ ?_)
        refine sqc (fun σ3 wC => (Wk w wC) ∧ (Tbl wC b21 rs) ∧ (FzC ws i d) ∧ (σ3 0 = .slice aw ws.length cw) ∧ (σ3 3 = str (ws.getLastD [])) ∧ (σ3 4 = .pointer (some ⟨b21, 0, none⟩)) ∧ (σ3 5 = .int .i64 i) ∧ (σ3 6 = .int .i64 d)) ?_ ?_
        · refine sq (fun K16 hK16 => ?_)
          have hS12 : (fun w' => Wk w44 w') w44.drew := (Md.refl _ _).drew
          refine hst (fun w' => Wk w44 w') wide hS12 ?_
          refine hp 0 rfl (by kernel_rfl) (fun _ _ => mv) hS12 ?_
          refine hp 1 rfl (by kernel_rfl) (fun _ _ => mv) hS12 ?_
          refine hgs (t := 46) rfl (fun hg46 => ?_) (fun hg46 => ?_)
          · refine hsk 2 rfl (by kernel_rfl) rfl rfl rfl rfl hS12 ?_
            refine hsk 3 rfl (by kernel_rfl) rfl rfl rfl rfl hS12 ?_
            refine hsk 4 rfl (by kernel_rfl) rfl rfl rfl rfl hS12 ?_
            refine hsku 5 rfl (by kernel_rfl) rfl rfl rfl hS12 ?_
            refine hsku 6 rfl (by kernel_rfl) rfl rfl rfl hS12 ?_
            refine hsku 7 rfl (by kernel_rfl) rfl rfl rfl hS12 ?_
            refine hsku 8 rfl (by kernel_rfl) rfl rfl rfl hS12 ?_
            refine hsku 9 rfl (by kernel_rfl) rfl rfl rfl hS12 ?_
            refine hsku 10 rfl (by kernel_rfl) rfl rfl rfl hS12 ?_
            refine hsku 11 rfl (by kernel_rfl) rfl rfl rfl hS12 ?_
            refine hsku 12 rfl (by kernel_rfl) rfl rfl rfl hS12 ?_
            refine hsku 13 rfl (by kernel_rfl) rfl rfl rfl hS12 ?_
            refine hsku 14 rfl (by kernel_rfl) rfl rfl rfl hS12 ?_
            refine hsku 15 rfl (by kernel_rfl) rfl rfl rfl hS12 ?_
            refine hsk 16 rfl (by kernel_rfl) rfl rfl rfl rfl hS12 ?_
            refine hp 17 rfl (by kernel_rfl) (fun _ _ => pkt rfl) hS12 ?_
            refine hn (by kernel_rfl) ?_
            refine tn (hK16 _ _ ?_)
            refine ct rfl ?_
            refine ext ?_
            refine te _ ?_
            refine be ?_
            refine tn (hK14 _ _ ?_)
            refine rg ?_
            refine p (mvt (.int .i64 d) rfl) ?_
            refine p (ad rfl rfl (wi64 (by omega))) ?_
            refine p asg ?_
            refine nl ?_
            refine tn ?_
            exact ⟨_, by omega, d + 1, rs, (by omega), (by omega), hE2.drew, hT2.dr, hsr, (fun r => (hset r).trans (fzs_no (fun h => h.2.2.2.1 ((begins_pre (by omega)).1 hg46))).symm), (by omega), rfl, rfl, rfl, rfl, rfl, rfl⟩
          · refine hpg 2 rfl (by kernel_rfl) rfl rfl rfl (fun _ _ => mvt (.int .i64 i) rfl) hS12 ?_
            refine hpg 3 rfl (by kernel_rfl) rfl rfl rfl (fun _ _ => gt rfl rfl) hS12 ?_
            refine hpg 4 rfl (by kernel_rfl) rfl rfl rfl (fun _ _ => mv) hS12 ?_
            refine hgs (t := 49) rfl (fun hg49 => ?_) (fun hg49 => ?_)
            · refine hpg 5 rfl (by kernel_rfl) rfl rfl rfl (fun _ _ => mvt (.slice aw ws.length cw) rfl) hS12 ?_
              refine hpg 6 rfl (by kernel_rfl) rfl rfl rfl (fun _ _ => mvt (.int .i64 i) rfl) hS12 ?_
              refine hpg 7 rfl (by kernel_rfl) rfl rfl rfl (fun _ _ => sbv ((i - 1 : Nat) : Int) rfl rfl (w64n (by omega) (by omega))) hS12 ?_
              refine hpg 8 rfl (by kernel_rfl) rfl rfl rfl (fun _ _ => ia' es22 rfl rfl (by omega) (Cells.ok (hW.wk hE2) (ne_map (by omega)))) hS12 ?_
              refine hpg 9 rfl (by kernel_rfl) rfl rfl rfl (fun w' hS => ld ag9 rfl (Wk.cel hS (Strs.get (i := i - 1) (hW.wk hE2) (by omega)))) hS12 ?_
              refine hpg 10 rfl (by kernel_rfl) rfl rfl rfl (fun _ _ => mvt (.slice aw ws.length cw) rfl) hS12 ?_
              refine hpg 11 rfl (by kernel_rfl) rfl rfl rfl (fun _ _ => mvt (.int .i64 i) rfl) hS12 ?_
              refine hpg 12 rfl (by kernel_rfl) rfl rfl rfl (fun _ _ => ia' es22 rfl rfl (by omega) (Cells.ok (hW.wk hE2) (ne_map (by omega)))) hS12 ?_
              refine hpg 13 rfl (by kernel_rfl) rfl rfl rfl (fun w' hS => ld ag9 rfl (Wk.cel hS (Strs.get (i := i) (hW.wk hE2) (by omega)))) hS12 ?_
              refine hpg 14 rfl (by kernel_rfl) rfl rfl rfl (fun _ _ => mvt (.int .i64 d) rfl) hS12 ?_
              refine heg 15 rfl (by kernel_rfl) rfl rfl rfl (cl c51 (begins_w (ws.getD (i - 1) []) (ws.getD i []) d _ (by omega) (by have := h255 (i - 1) (by omega); omega)) rfl fun v60 w60 hR60 => ?_)
              obtain ⟨rfl, hE60⟩ := hR60
              have hS12_15 : (fun w' => Wk w44 w') w60 := Md.trans hS12 hE60
              refine ⟨hS12_15, ?_⟩
              refine hpg 16 rfl (by kernel_rfl) rfl rfl rfl (fun _ _ => pkt rfl) hS12_15 ?_
              refine hp 17 rfl (by kernel_rfl) (fun _ _ => pkf rfl) hS12_15 ?_
              refine hn (by kernel_rfl) ?_
              refine tn (hK16 _ _ ?_)
              refine cd rfl (fun hc62 => ?_) (fun hc62 => ?_)
              · refine ext ?_
                refine te _ ?_
                refine be ?_
                refine tn (hK14 _ _ ?_)
                refine rg ?_
                refine p (mvt (.int .i64 d) rfl) ?_
                refine p (ad rfl rfl (wi64 (by omega))) ?_
                refine p asg ?_
                refine nl ?_
                refine tn ?_
                exact ⟨_, by omega, d + 1, rs, (by omega), (by omega), (Md.trans hE2.drew hE60), (hT2.dr.wk hE60), hsr, (fun r => (hset r).trans (fzs_no (fun h => h.2.2.2.2 (by omega) ((begins_pre (by omega)).1 hc62))).symm), (by omega), rfl, rfl, rfl, rfl, rfl, rfl⟩
              · refine skp ?_
                refine tn ?_
                exact ⟨(Md.trans hE2.drew hE60), ((hT2.dr).wk hE60), (⟨by omega, by omega, by omega, fun h => hg46 ((begins_pre (by omega)).2 h), fun _ h => hc62 ((begins_pre (by omega)).2 h)⟩), rfl, rfl, rfl, rfl, rfl⟩
            · refine hsk 5 rfl (by kernel_rfl) rfl rfl rfl rfl hS12 ?_
              refine hsk 6 rfl (by kernel_rfl) rfl rfl rfl rfl hS12 ?_
              refine hsk 7 rfl (by kernel_rfl) rfl rfl rfl rfl hS12 ?_
              refine hsk 8 rfl (by kernel_rfl) rfl rfl rfl rfl hS12 ?_
              refine hsk 9 rfl (by kernel_rfl) rfl rfl rfl rfl hS12 ?_
              refine hsk 10 rfl (by kernel_rfl) rfl rfl rfl rfl hS12 ?_
              refine hsk 11 rfl (by kernel_rfl) rfl rfl rfl rfl hS12 ?_
              refine hsk 12 rfl (by kernel_rfl) rfl rfl rfl rfl hS12 ?_
              refine hsk 13 rfl (by kernel_rfl) rfl rfl rfl rfl hS12 ?_
              refine hsk 14 rfl (by kernel_rfl) rfl rfl rfl rfl hS12 ?_
              refine hsk 15 rfl (by kernel_rfl) rfl rfl rfl rfl hS12 ?_
              refine hpg 16 rfl (by kernel_rfl) rfl rfl rfl (fun _ _ => pkf rfl) hS12 ?_
              refine hp 17 rfl (by kernel_rfl) (fun _ _ => pkf rfl) hS12 ?_
              refine hn (by kernel_rfl) ?_
              refine tn (hK16 _ _ ?_)
              refine cf rfl ?_
              refine skp ?_
              refine tn ?_
              exact ⟨hE2.drew, hT2.dr, (⟨by omega, by omega, by omega, fun h => hg46 ((begins_pre (by omega)).2 h), fun h => by omega⟩), rfl, rfl, rfl, rfl, rfl⟩
        rintro σ3 wC ⟨hE3, hT3, hC, hs3_0, hs3_3, hs3_4, hs3_5, hs3_6⟩
        refine fx 0 hs3_0 (fx 3 hs3_3 (fx 4 hs3_4 (fx 5 hs3_5 (fx 6 hs3_6 ?_))))
        refine sq (fun K16 hK16 => ?_)
        refine rg ?_
        refine p (mvt (.int .i64 i) rfl) ?_
        refine p (adv ((i + 1 : Nat) : Int) rfl rfl (w64n (by omega) (by omega))) ?_
        refine p asg ?_
        refine nl ?_
        refine tn (hK16 _ _ ?_)
        refine sqc (fun σ4 wE => ∃ (k : Nat), (i < k) ∧ (k ≤ ws.length) ∧ (∀ j, i ≤ j → j < k → ((ws.getD i []).take d) <+: ws.getD j []) ∧ (∀ j, k ≤ j → j < ws.length → ¬ ((ws.getD i []).take d) <+: ws.getD j []) ∧ (Wk w wE) ∧ (Tbl wE b21 rs) ∧ (σ4 0 = .slice aw ws.length cw) ∧ (σ4 3 = str (ws.getLastD [])) ∧ (σ4 4 = .pointer (some ⟨b21, 0, none⟩)) ∧ (σ4 5 = .int .i64 i) ∧ (σ4 6 = .int .i64 d) ∧ (σ4 8 = .int .i64 k)) ?_ ?_
        · refine blk ?_
          refine lp (fun gm σ5 wI => ∃ (k : Nat), (i < k) ∧ (k ≤ ws.length) ∧ (∀ j, i ≤ j → j < k → ((ws.getD i []).take d) <+: ws.getD j []) ∧ (Wk w wI) ∧ (Tbl wI b21 rs) ∧ (σ5 0 = .slice aw ws.length cw) ∧ (σ5 3 = str (ws.getLastD [])) ∧ (σ5 4 = .pointer (some ⟨b21, 0, none⟩)) ∧ (σ5 5 = .int .i64 i) ∧ (σ5 6 = .int .i64 d) ∧ (σ5 8 = .int .i64 k) ∧ (ws.length - k = gm)) _ ⟨i + 1, (by omega), (by omega), (fun j h1 h2 => (by obtain rfl : j = i := (by omega); exact List.take_prefix _ _)), hE3, hT3, rfl, rfl, rfl, rfl, rfl, rfl, rfl⟩ ?_
          rintro gm σ5 wI ⟨k, hk1, hk2, hb4, hE4, hT4, hs5_0, hs5_3, hs5_4, hs5_5, hs5_6, hs5_8, rfl⟩
          refine fx 0 hs5_0 (fx 3 hs5_3 (fx 4 hs5_4 (fx 5 hs5_5 (fx 6 hs5_6 (fx 8 hs5_8 ?_)))))
          refine sq (fun K17 hK17 => ?_)
          refine sq (fun K18 hK18 => ?_)
          have hS14 : (fun w' => Wk wI w') wI.drew := (Md.refl _ _).drew
          refine hst (fun w' => Wk wI w') wide hS14 ?_
          refine hp 0 rfl (by kernel_rfl) (fun _ _ => mvt (.int .i64 k) rfl) hS14 ?_
          refine hp 1 rfl (by kernel_rfl) (fun _ _ => mvt (.slice aw ws.length cw) rfl) hS14 ?_
          refine hp 2 rfl (by kernel_rfl) (fun _ _ => lnl u22 rfl rfl) hS14 ?_
          refine hp 3 rfl (by kernel_rfl) (fun _ _ => lt rfl rfl) hS14 ?_
          refine hp 4 rfl (by kernel_rfl) (fun _ _ => mv) hS14 ?_
          refine hgs (t := 69) rfl (fun hg69 => ?_) (fun hg69 => ?_)
          · refine hpg 5 rfl (by kernel_rfl) rfl rfl rfl (fun _ _ => mvt (.slice aw ws.length cw) rfl) hS14 ?_
            refine hpg 6 rfl (by kernel_rfl) rfl rfl rfl (fun _ _ => mvt (.int .i64 k) rfl) hS14 ?_
            refine hpg 7 rfl (by kernel_rfl) rfl rfl rfl (fun _ _ => ia' es22 rfl rfl (by omega) (Cells.ok (hW.wk hE4) (ne_map (by omega)))) hS14 ?_
            refine hpg 8 rfl (by kernel_rfl) rfl rfl rfl (fun w' hS => ld ag9 rfl (Wk.cel hS (Strs.get (i := k) (hW.wk hE4) (by omega)))) hS14 ?_
            refine hpg 9 rfl (by kernel_rfl) rfl rfl rfl (fun _ _ => mvt (.slice aw ws.length cw) rfl) hS14 ?_
            refine hpg 10 rfl (by kernel_rfl) rfl rfl rfl (fun _ _ => mvt (.int .i64 i) rfl) hS14 ?_
            refine hpg 11 rfl (by kernel_rfl) rfl rfl rfl (fun _ _ => ia' es22 rfl rfl (by omega) (Cells.ok (hW.wk hE4) (ne_map (by omega)))) hS14 ?_
            refine hpg 12 rfl (by kernel_rfl) rfl rfl rfl (fun w' hS => ld ag9 rfl (Wk.cel hS (Strs.get (i := i) (hW.wk hE4) (by omega)))) hS14 ?_
            refine hpg 13 rfl (by kernel_rfl) rfl rfl rfl (fun _ _ => mvt (.int .i64 d) rfl) hS14 ?_
            refine heg 14 rfl (by kernel_rfl) rfl rfl rfl (cl c51 (begins_w (ws.getD k []) (ws.getD i []) d _ (by omega) (by have := h255 k (by omega); omega)) rfl fun v79 w79 hR79 => ?_)
            obtain ⟨rfl, hE79⟩ := hR79
            have hS14_14 : (fun w' => Wk wI w') w79 := Md.trans hS14 hE79
            refine ⟨hS14_14, ?_⟩
            refine hp 15 rfl (by kernel_rfl) (fun _ _ => pkt rfl) hS14_14 ?_
            refine hn (by kernel_rfl) ?_
            refine tn (hK18 _ _ ?_)
            refine cd rfl (fun hc80 => ?_) (fun hc80 => ?_)
            · refine skp ?_
              refine tn (hK17 _ _ ?_)
              refine blk ?_
              refine rg ?_
              refine p (mvt (.int .i64 k) rfl) ?_
              refine p (adv ((k + 1 : Nat) : Int) rfl rfl (w64n (by omega) (by omega))) ?_
              refine p asg ?_
              refine nl ?_
              refine bn ?_
              refine tn ?_
              exact ⟨_, by omega, k + 1, (by omega), (by omega), (fun j h1 h2 => (by rcases Nat.lt_or_ge j k with h | h; exact hb4 j h1 h; obtain rfl : j = k := (by omega); exact (begins_pre (by omega)).1 hc80)), (Md.trans hE4.drew hE79), (hT4.dr.wk hE79), rfl, rfl, rfl, rfl, rfl, rfl, rfl⟩
            · refine ext ?_
              refine te _ ?_
              refine te _ ?_
              refine be ?_
              refine tn ?_
              exact ⟨k, hk1, hk2, hb4, (run_end hf.1 hk1 (List.take_prefix _ _) (by omega) (fun h => hc80 ((begins_pre (by omega)).2 h))), (Md.trans hE4.drew hE79), (hT4.dr.wk hE79), rfl, rfl, rfl, rfl, rfl, rfl⟩
          · refine hsk 5 rfl (by kernel_rfl) rfl rfl rfl rfl hS14 ?_
            refine hsk 6 rfl (by kernel_rfl) rfl rfl rfl rfl hS14 ?_
            refine hsk 7 rfl (by kernel_rfl) rfl rfl rfl rfl hS14 ?_
            refine hsk 8 rfl (by kernel_rfl) rfl rfl rfl rfl hS14 ?_
            refine hsk 9 rfl (by kernel_rfl) rfl rfl rfl rfl hS14 ?_
            refine hsk 10 rfl (by kernel_rfl) rfl rfl rfl rfl hS14 ?_
            refine hsk 11 rfl (by kernel_rfl) rfl rfl rfl rfl hS14 ?_
            refine hsk 12 rfl (by kernel_rfl) rfl rfl rfl rfl hS14 ?_
            refine hsk 13 rfl (by kernel_rfl) rfl rfl rfl rfl hS14 ?_
            refine hsk 14 rfl (by kernel_rfl) rfl rfl rfl rfl hS14 ?_
            refine hp 15 rfl (by kernel_rfl) (fun _ _ => pkf rfl) hS14 ?_
            refine hn (by kernel_rfl) ?_
            refine tn (hK18 _ _ ?_)
            refine cf rfl ?_
            refine ext ?_
            refine te _ ?_
            refine te _ ?_
            refine be ?_
            refine tn ?_
            exact ⟨k, hk1, hk2, hb4, (fun j h1 h2 => by omega), hE4.drew, hT4.dr, rfl, rfl, rfl, rfl, rfl, rfl⟩
        rintro σ4 wE ⟨k, hk1, hk2, hb4, hk4, hE4, hT4, hs4_0, hs4_3, hs4_4, hs4_5, hs4_6, hs4_8⟩
        refine fx 0 hs4_0 (fx 3 hs4_3 (fx 4 hs4_4 (fx 5 hs4_5 (fx 6 hs4_6 (fx 8 hs4_8 ?_)))))
        refine sq (fun K17 hK17 => ?_)
        refine rg ?_
        refine p (mvt (.slice aw ws.length cw) rfl) ?_
        refine p (mvt (.int .i64 i) rfl) ?_
        refine p (mvt (.int .i64 k) rfl) ?_
        refine p (mvt (.int .i64 d) rfl) ?_
        refine e (cl c38 (rest_w ws aw cw i k d _ (hW.wk hE4) (by omega) (by omega) (fun j h1 h2 => ⟨by have h3 := hb4 j h1 h2; have h4 := h3.length_le; rw [List.length_take] at h4; omega, h255 j (by omega)⟩) (by omega)) rfl fun v87 w87 hR87 => ?_)
        obtain ⟨hv87, hE87⟩ := hR87
        have hrng : rst ((ws.getD i []).take d) ws = rng ws i k d := by
          have h := rst_rng (p := ((ws.getD i []).take d)) (i := i) (hi := k) (by omega) (by omega) (run_start hf.1 (List.take_prefix _ _) (by omega) hC.2.2.2.2) hb4 hk4
          rw [List.length_take, Nat.min_eq_left (by omega)] at h; exact h
        have hv : v87 = str (frame (rst ((ws.getD i []).take d) ws)) := by rw [hrng]; exact hv87
        subst hv
        have hE5 : Wk w w87 := Md.trans hE4 hE87
        obtain ⟨ns, vr, vn, hB5, hr5, hn5⟩ := hT4.wk hE87
        obtain ⟨ar, cr, rfl⟩ := own_slice hr5
        refine p asg ?_
        refine nl ?_
        refine tn (hK17 _ _ ?_)
        refine sq (fun K18 hK18 => ?_)
        refine rg ?_
        refine p (mvt (.pointer (some ⟨b21, 0, none⟩)) rfl) ?_
        refine p mv ?_
        refine e (cl c39 (place_w b21 0 rs (frame (rst ((ws.getD i []).take d) ws)) ar cr _ (hB5.cel 0) (own_cellsS hr5).2 hsr (by omega)) rfl fun v90 w90 hR90 => ?_)
        obtain ⟨hE90, q, rfl, hq1, hq2, hq3⟩ := hR90
        have hE6 : Wk w w90 := Md.trans hE5 hE90
        have hB6 := Wk.B hE90 hB5
        have hr6 := own_nw hr5 hE90
        have hn6 := own_nw hn5 hE90
        refine p asg ?_
        refine nl ?_
        refine tn (hK18 _ _ ?_)
        refine sq (fun K19 hK19 => ?_)
        refine rg ?_
        refine p mv ?_
        refine p (mvt (.pointer (some ⟨b21, 0, none⟩)) rfl) ?_
        refine p (nc rfl) ?_
        refine p (fa fo69_0 rfl) ?_
        refine p (ld ag22 rfl (hB6.cel 0)) ?_
        refine p (lnl u22 rfl rfl) ?_
        refine p (eqi rfl rfl) ?_
        refine p mv ?_
        refine gs (t := 98) rfl (fun hg98 => ?_) (fun hg98 => ?_)
        · have hnew : (frame (rst ((ws.getD i []).take d) ws)) ∉ rs := put_new hsr hq2 hq3 (fun h => by omega)
          refine sk rfl rfl rfl rfl ?_
          refine sk rfl rfl rfl rfl ?_
          refine sk rfl rfl rfl rfl ?_
          refine sk rfl rfl rfl rfl ?_
          refine sk rfl rfl rfl rfl ?_
          refine sk rfl rfl rfl rfl ?_
          refine sk rfl rfl rfl rfl ?_
          refine sk rfl rfl rfl rfl ?_
          refine sk rfl rfl rfl rfl ?_
          refine p (pkt rfl) ?_
          refine nl ?_
          refine tn (hK19 _ _ ?_)
          refine ct rfl ?_
          refine rg ?_
          refine p (mvt (.pointer (some ⟨b21, 0, none⟩)) rfl) ?_
          refine p mv ?_
          refine p mv ?_
          refine e (cl c40 (put_w b21 0 q 0 _ _ _ rs ns (frame (rst ((ws.getD i []).take d) ws)) _ hB6 rfl rfl hr6 hn6 hq1 (by omega)) rfl fun v112 w112 hR112 => ?_)
          obtain ⟨rfl, vr7, vn7, hB7, hr7, hn7, hM7, _, _⟩ := hR112
          have hE7 : Wk w w112 := Md.trans' hE6 hM7 (fun j hj h => by
            rcases h with h | h | h
            · omega
            · have := (own_lt hr6 h).1; omega
            · have := (own_lt hn6 h).1; omega)
          have hl7 : (rs.take q ++ (frame (rst ((ws.getD i []).take d) ws)) :: rs.drop q).length = rs.length + 1 := by simp; omega
          have hT7 : Tbl w112 b21 (rs.take q ++ (frame (rst ((ws.getD i []).take d) ws)) :: rs.drop q) := ⟨ns.take q ++ 0 :: ns.drop q, vr7, vn7, hB7, by rw [hl7]; exact hr7, by rw [hl7]; exact hn7⟩
          obtain ⟨hs7, hm7⟩ := put_up hsr hq2 hq3 hnew
          have hset7 : ∀ r, r ∈ rs.take q ++ (frame (rst ((ws.getD i []).take d) ws)) :: rs.drop q ↔ FzS ws i (d + 1) r := fun r => by rw [hm7, fzs_yes hC, hset r]
          refine nl ?_
          refine bn ?_
          refine tn (hK14 _ _ ?_)
          refine rg ?_
          refine p (mvt (.int .i64 d) rfl) ?_
          refine p (ad rfl rfl (wi64 (by omega))) ?_
          refine p asg ?_
          refine nl ?_
          refine tn ?_
          exact ⟨_, by omega, d + 1, rs.take q ++ (frame (rst ((ws.getD i []).take d) ws)) :: rs.drop q, (by omega), (by omega), hE7, hT7, hs7, hset7, (by omega), rfl, rfl, rfl, rfl, rfl, rfl⟩
        · refine pg rfl rfl rfl (mvt (.pointer (some ⟨b21, 0, none⟩)) rfl) ?_
          refine pg rfl rfl rfl (nc rfl) ?_
          refine pg rfl rfl rfl (fa fo69_0 rfl) ?_
          refine pg rfl rfl rfl (ld ag22 rfl (hB6.cel 0)) ?_
          refine pg rfl rfl rfl mv ?_
          refine pg rfl rfl rfl (ia' es22 rfl rfl (by omega) (Cells.ok ((own_cellsS hr6).2) (ne_map (by omega)))) ?_
          refine pg rfl rfl rfl (ld ag9 rfl (Strs.get (i := q) (own_cellsS hr6).2 (by omega))) ?_
          refine pg rfl rfl rfl mv ?_
          refine pg rfl rfl rfl (nes rfl rfl) ?_
          refine p (pkf rfl) ?_
          refine nl ?_
          refine tn (hK19 _ _ ?_)
          refine cd rfl (fun hc108 => ?_) (fun hc108 => ?_)
          · have hnew : (frame (rst ((ws.getD i []).take d) ws)) ∉ rs := put_new hsr hq2 hq3 (fun _ => hc108)
            refine rg ?_
            refine p (mvt (.pointer (some ⟨b21, 0, none⟩)) rfl) ?_
            refine p mv ?_
            refine p mv ?_
            refine e (cl c40 (put_w b21 0 q 0 _ _ _ rs ns (frame (rst ((ws.getD i []).take d) ws)) _ hB6 rfl rfl hr6 hn6 hq1 (by omega)) rfl fun v112 w112 hR112 => ?_)
            obtain ⟨rfl, vr7, vn7, hB7, hr7, hn7, hM7, _, _⟩ := hR112
            have hE7 : Wk w w112 := Md.trans' hE6 hM7 (fun j hj h => by
              rcases h with h | h | h
              · omega
              · have := (own_lt hr6 h).1; omega
              · have := (own_lt hn6 h).1; omega)
            have hl7 : (rs.take q ++ (frame (rst ((ws.getD i []).take d) ws)) :: rs.drop q).length = rs.length + 1 := by simp; omega
            have hT7 : Tbl w112 b21 (rs.take q ++ (frame (rst ((ws.getD i []).take d) ws)) :: rs.drop q) := ⟨ns.take q ++ 0 :: ns.drop q, vr7, vn7, hB7, by rw [hl7]; exact hr7, by rw [hl7]; exact hn7⟩
            obtain ⟨hs7, hm7⟩ := put_up hsr hq2 hq3 hnew
            have hset7 : ∀ r, r ∈ rs.take q ++ (frame (rst ((ws.getD i []).take d) ws)) :: rs.drop q ↔ FzS ws i (d + 1) r := fun r => by rw [hm7, fzs_yes hC, hset r]
            refine nl ?_
            refine bn ?_
            refine tn (hK14 _ _ ?_)
            refine rg ?_
            refine p (mvt (.int .i64 d) rfl) ?_
            refine p (ad rfl rfl (wi64 (by omega))) ?_
            refine p asg ?_
            refine nl ?_
            refine tn ?_
            exact ⟨_, by omega, d + 1, rs.take q ++ (frame (rst ((ws.getD i []).take d) ws)) :: rs.drop q, (by omega), (by omega), hE7, hT7, hs7, hset7, (by omega), rfl, rfl, rfl, rfl, rfl, rfl⟩
          · have hin : (frame (rst ((ws.getD i []).take d) ws)) ∈ rs := by
              have h9 : rs.getD q [] = (frame (rst ((ws.getD i []).take d) ws)) := Classical.not_not.1 hc108
              rw [← h9]; exact getD_mem (by omega)
            refine skp ?_
            refine bn ?_
            refine tn (hK14 _ _ ?_)
            refine rg ?_
            refine p (mvt (.int .i64 d) rfl) ?_
            refine p (ad rfl rfl (wi64 (by omega))) ?_
            refine p asg ?_
            refine nl ?_
            refine tn ?_
            exact ⟨_, by omega, d + 1, rs, (by omega), (by omega), hE6, (⟨ns, _, _, hB6, hr6, hn6⟩), hsr, (fun r => (by rw [fzs_yes hC, ← hset r]; exact ⟨.inl, fun h => h.elim id (fun e => e ▸ hin)⟩)), (by omega), rfl, rfl, rfl, rfl, rfl, rfl⟩
      · refine ext ?_
        refine te _ ?_
        refine te _ ?_
        refine be ?_
        refine bn ?_
        refine tn (hK10 _ _ ?_)
        refine rg ?_
        refine p (mvt (.int .i64 i) rfl) ?_
        refine p (ad rfl rfl (wi64 (by omega))) ?_
        refine p asg ?_
        refine nl ?_
        refine tn ?_
        exact ⟨_, by omega, i + 1, rs, (by omega), hE1, hT1, hsr, (fun r => (hset r).trans (fzs_row (by omega))), (by omega), rfl, rfl, rfl, rfl, rfl⟩
    · refine ext ?_
      refine te _ ?_
      refine te _ ?_
      refine be ?_
      refine tn (hK6 _ _ ?_)
      refine sq (fun K10 hK10 => ?_)
      obtain ⟨nsE, vrE, vnE, hBE, hrE, hnE⟩ := hT
      obtain ⟨arE, crE, rfl⟩ := own_slice hrE
      refine rg ?_
      refine p (mvt (.pointer (some ⟨b21, 0, none⟩)) rfl) ?_
      refine p (nc rfl) ?_
      refine p (fa fo69_0 rfl) ?_
      refine p (ld ag22 rfl (hBE.cel 0)) ?_
      refine p (lnl u22 rfl rfl) ?_
      refine p asg ?_
      refine nl ?_
      refine tn (hK10 _ _ ?_)
      refine rt ?_
      refine f1 rfl rfl ?_
      exact ⟨congrArg (fun n : Nat => Value.int .i64 n) (frozen_count hf.1 (n := i) (by omega) hsr hset), hE⟩
end Go.Hb.Rfrz
