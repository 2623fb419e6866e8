/-
  Walks of hornbooklaw18: what both sides answer, and DawgBuilds. No conditions but those that each theorem names.
-/
import Derived.Test.YtkgdlnnmkpgfdaaChecked
import Derived.Test.YtkgdlnnmkpgfdaaEff
import Derived.Test.YtkgdlnnmkpgfdaaVisit
import Derived.Test.YtkgdlnnmkpgfdaaReg
import Derived.Test.YtkgdlnnmkpgfdaaCut
import Derived.Test.YtkgdlnnmkpgfdaaBuild
import Derived.Test.YtkgdlnnmkpgfdaaAdd
import Derived.Test.YtkgdlnnmkpgfdaaAdds
import Derived.Test.YtkgdlnnmkpgfdaaNumb
import Derived.Test.YtkgdlnnmkpgfdaaFin
import Derived.Test.YtkgdlnnmkpgfdaaSame
import Derived.Test.YtkgdlnnmkpgfdaaStr
import Derived.Test.YtkgdlnnmkpgfdaaPure
import Derived.Test.YtkgdlnnmkpgfdaaDawg
import Derived.Test.YtkgdlnnmkpgfdaaVis
import Derived.Test.YtkgdlnnmkpgfdaaRow
import Derived.Test.YtkgdlnnmkpgfdaaNode
import Derived.Test.YtkgdlnnmkpgfdaaMap
import Derived.Test.YtkgdlnnmkpgfdaaAuto
import Derived.Test.YtkgdlnnmkpgfdaaLast
import Derived.Test.YtkgdlnnmkpgfdaaTag
import Derived.Test.YtkgdlnnmkpgfdaaFrz
import Derived.Test.YtkgdlnnmkpgfdaaPost
import Derived.Test.YtkgdlnnmkpgfdaaBulk
set_option maxRecDepth 20000
set_option linter.unusedVariables false
namespace Go.Hb.LawA
open Go.Proofs
open Go.Hb.Visit Go.Hb.Reg Go.Hb.Cut Go.Hb.Build Go.Hb.Add Go.Hb.Adds Go.Hb.Numb Go.Hb.Fin Go.Hb.Same
theorem ag3 : aggN Try.prog 3 = some none := by kernel_rfl
theorem ag4 : aggN Try.prog 4 = some none := by kernel_rfl
theorem ag38 : aggN Try.prog 38 = some none := by kernel_rfl
theorem c10 : Callable Try.prog 10 := callable Try.func10 (by kernel_rfl) (by kernel_rfl)
theorem c11 : Callable Try.prog 11 := callable Try.func11 (by kernel_rfl) (by kernel_rfl)
theorem c12 : Callable Try.prog 12 := callable Try.func12 (by kernel_rfl) (by kernel_rfl)
theorem c13 : Callable Try.prog 13 := callable Try.func13 (by kernel_rfl) (by kernel_rfl)
theorem c14 : Callable Try.prog 14 := callable Try.func14 (by kernel_rfl) (by kernel_rfl)
theorem c15 : Callable Try.prog 15 := callable Try.func15 (by kernel_rfl) (by kernel_rfl)
theorem es23 : elemSize Try.prog 23 = some 2 := by kernel_rfl
theorem es38 : elemSize Try.prog 38 = some 2 := by kernel_rfl
theorem fo40_0 : fieldOff Try.prog 40 0 = some 0 := by kernel_rfl
theorem fo40_1 : fieldOff Try.prog 40 1 = some 1 := by kernel_rfl
theorem fo42_1 : fieldOff Try.prog 42 1 = some 1 := by kernel_rfl
theorem so22 : sliceOk Try.prog 22 9 1 16 = true := by kernel_rfl
theorem u23 : Try.prog.underlying 23 = some (.slice 40) := by kernel_rfl
theorem u38 : Try.prog.underlying 38 = some (.slice 42) := by kernel_rfl

theorem auto_aut (ws : Tl) : auto ws = aut ws := rfl
/-- an automaton that can be read, and what it owns -/
def AutV (w : World) (B : Nat) (aa : Option Addr) (cc : Nat) (svs : List (Bool × Value)) (sts : List Ent) : Prop := w.ownsRow B 40 2 (.slice aa svs.length cc) svs.length (sflat svs) ∧ StsT 42 w B sts svs ∧ sepV svs
theorem AutV.sr {w : World} {B : Nat} {aa : Option Addr} {cc : Nat} {svs : List (Bool × Value)} {sts : List Ent} (h : AutV w B aa cc svs sts) : SR w aa svs sts := by
  obtain ⟨a, c, hv, hs⟩ := SR.of h.1 h.2.1
  simp only [Value.slice.injEq, true_and] at hv
  obtain ⟨rfl, rfl⟩ := hv
  exact hs
theorem Aut.v {w : World} {B : Nat} {v : Value} {sts : List Ent} (h : Aut w B v sts) : ∃ aa cc svs, v = .slice aa svs.length cc ∧ AutV w B aa cc svs sts := by
  obtain ⟨svs, h1, h2, h3⟩ := h
  obtain ⟨aa, cc, rfl⟩ := own_slice h1
  exact ⟨aa, cc, svs, rfl, h1, h2, h3⟩
/-- what Build answers, by the words -/
theorem built_w (ws : Tl) (aw : Option Addr) (cw : Nat) (w : World) (hS : Strs w.heap aw ws) (hwl : ws.length ≤ 134217728) :
    Ret Try.prog 10 (List.toArray [.slice aw ws.length cw]) w (fun v w' => Wk w w' ∧ ∃ aa n cc, v = .tuple #[.slice aa n cc, .int .i64 (addW bigN [] ws).1] ∧ ((addW bigN [] ws).1 ≠ 0 → n = 0) ∧ ((addW bigN [] ws).1 = 0 → ∃ svs, n = svs.length ∧ AutV w' w.heap.size aa cc svs (aut (addW bigN [] ws).2))) := by
  have he : addL bigN ab0 ws = ((addW bigN [] ws).1, bldW (addW bigN [] ws).2) := by rw [ab0_bld]; exact addL_bld _ _ _
  refine (build_w ws aw cw w hS hwl).mono fun v w' ⟨h1, h2⟩ => ⟨h1, ?_⟩
  rw [he] at h2
  rcases h2 with ⟨h2, rfl⟩ | ⟨h2, va, rfl, h3⟩
  · exact ⟨none, 0, 0, rfl, fun _ => rfl, fun h => absurd h h2⟩
  · obtain ⟨h4, h5⟩ := fin_aut (ws := (addW bigN [] ws).2) (addW_fit fit_nil)
    simp only at h2 h3
    rw [h5] at h3
    obtain ⟨aa, cc, svs, rfl, h6⟩ := Aut.v h3
    exact ⟨aa, svs.length, cc, by rw [h2], fun h => absurd h2 h, fun _ => ⟨svs, rfl, h6⟩⟩
/-- faults are told at the same place -/
theorem fault_addW {ws : Tl} {i : Nat} {e : Int} (h : faultAt ws i e) (hl : ws.length ≤ 134217728) : (addW bigN [] ws).1 = e ∧ (e = 0 → Fit ws ∧ (addW bigN [] ws).2 = ws) := by
  obtain ⟨h1, h2⟩ := h
  have hil : i ≤ ws.length := by rcases h2 with h2 | h2 | h2 <;> omega
  have hfit : ∀ k, k ≤ i → Fit (ws.take k) := by
    intro k
    induction k with
    | zero => intro _; exact fit_nil
    | succ k ih =>
      intro hk
      have ih := ih (by omega)
      obtain ⟨g1, g2⟩ := h1 k (by omega)
      rw [take_succ_getD ws k [] (by omega)]
      refine ⟨up_snoc.2 ⟨ih.1, fun t ht => ?_⟩, fun x hx => ?_⟩
      · obtain ⟨j, hj, rfl⟩ := List.mem_iff_getElem.1 ht
        simp only [List.length_take] at hj
        rw [List.getElem_take]
        have g3 := g2 (by omega)
        rcases Nat.lt_or_ge j (k - 1) with hjk | hjk
        · have g4 := pw_get ih.1 (i := j) (j := k - 1) hjk (by rw [List.length_take]; omega)
          simp only [List.getD_eq_getElem?_getD, List.getElem?_take] at g4 g3
          rw [if_pos (by omega), if_pos (by omega), List.getElem?_eq_getElem (show j < ws.length by omega)] at g4
          exact sless_trans g4 (by simpa [List.getD_eq_getElem?_getD] using g3)
        · obtain rfl : j = k - 1 := by omega
          rw [getD_get [] (show k - 1 < ws.length by omega)] at g3; exact g3
      · rcases List.mem_append.1 hx with hx | hx
        · exact ih.2 x hx
        · simp only [List.mem_singleton] at hx; subst hx; exact g1
  have hall : addW bigN [] (ws.take i) = (0, ws.take i) := by
    have := addW_all (most := bigN) (l := ws.take i) (ws := []) (by simpa using hfit i (Nat.le_refl _)) (by simp only [List.nil_append, List.length_take]; unfold bigN; omega)
    simpa using this
  have happ : ∀ (l2 l1 : Tl) (ws0 : Tl), addW bigN ws0 l1 = (0, ws0 ++ l1) → addW bigN ws0 (l1 ++ l2) = addW bigN (ws0 ++ l1) l2 := by
    intro l2 l1
    induction l1 with
    | nil => intro ws0 _; simp
    | cons w l1 ih =>
      intro ws0 h0
      simp only [addW, List.cons_append] at h0 ⊢
      by_cases hc : (add1W bigN ws0 w).1 = 0
      · rw [if_pos hc] at h0 ⊢
        have hw : (add1W bigN ws0 w).2 = ws0 ++ [w] := by
          unfold add1W at hc ⊢
          split at hc
          · simp at hc
          · split at hc
            · simp at hc
            · rename_i h5 h6; rw [if_neg h5, if_neg h6]
        rw [hw] at h0 ⊢
        have := ih (ws0 ++ [w]) (by rw [h0]; simp)
        rw [this]; simp
      · rw [if_neg hc] at h0
        rw [h0] at hc; exact absurd rfl hc
  have hsplit := happ (ws.drop i) (ws.take i) [] (by simpa using hall)
  rw [List.take_append_drop, List.nil_append] at hsplit
  rw [hsplit]
  rcases h2 with ⟨rfl, rfl⟩ | ⟨h3, h4, rfl⟩ | ⟨h3, h4, h5, h6, rfl⟩
  · rw [List.drop_length, List.take_length]
    exact ⟨rfl, fun _ => ⟨by have := hfit ws.length (Nat.le_refl _); rwa [List.take_length] at this, rfl⟩⟩
  · rw [List.drop_eq_getElem_cons h3, ← getD_get [] h3]
    have h22 : add1W bigN (ws.take i) (ws.getD i []) = (22, ws.take i) := by unfold add1W; rw [if_pos h4]
    simp only [addW, h22]
    rw [if_neg (by decide)]
    exact ⟨rfl, fun h => by simp at h⟩
  · rw [List.drop_eq_getElem_cons h3, ← getD_get [] h3]
    have hne : ws.take i ≠ [] := by
      intro h0
      have := congrArg List.length h0
      rw [List.length_take] at this
      simp only [List.length_nil] at this; omega
    have hlast : (ws.take i).getLastD [] = ws.getD (i - 1) [] := by
      rw [List.getLastD_eq_getLast?, List.getLast?_eq_getElem?, List.length_take, List.getElem?_take, if_pos (by omega), show min i ws.length - 1 = i - 1 from by omega, List.getD_eq_getElem?_getD]
    have h22 : add1W bigN (ws.take i) (ws.getD i []) = (180, ws.take i) := by unfold add1W; rw [if_neg (by omega), if_pos ⟨hne, by rw [hlast]; exact h6⟩]
    simp only [addW, h22]
    rw [if_neg (by decide)]
    exact ⟨rfl, fun h => by simp at h⟩
/-- the words of the example -/
def exW : Tl := [[99, 97, 116], [99, 97, 116, 115], [100, 111, 103], [100, 111, 103, 115]]
theorem ex_fit : Fit exW := by unfold Fit Up exW; decide +kernel
theorem ex_add : addW bigN [] exW = (0, exW) := addW_all (l := exW) (ws := []) ex_fit (by unfold exW bigN; decide)
theorem ex_aut : aut exW = [(false, [(99, 1), (100, 5)]), (false, [(97, 2)]), (false, [(116, 3)]), (true, [(115, 4)]), (true, []), (false, [(111, 6)]), (false, [(103, 3)])] := by decide +kernel

theorem wakes_w (w : World) :
    Ret Try.prog 13 (List.toArray []) w (fun v w' => v = .bool true ∧ Wk w w') := by
  refine enter Try.func13 rfl Try.ntmps13 rfl ?_
  refine sq (fun K1 hK1 => ?_)
  refine rg ?_
  refine p asg ?_
  refine nl ?_
  refine tn (hK1 _ _ ?_)
  refine sq (fun K2 hK2 => ?_)
  refine rg ?_
  refine e (bsL (L := exW.map str) so22 rfl rfl rfl rfl fun b4 w4 hb4 hN4 hB4 => ?_)
  have hS4 : Strs w4.heap (some ⟨b4, 0, none⟩) exW := Cells.of_blk ⟨_, hB4⟩
  refine e (cl c10 (built_w exW (some ⟨b4, 0, none⟩) 4 _ hS4 (by decide)) rfl fun v5 w5 hR5 => ?_)
  obtain ⟨hE5, aa, n, cc, rfl, _, hok⟩ := hR5
  rw [ex_add] at hok
  obtain ⟨svs, rfl, hA⟩ := hok rfl
  simp only at hA
  have hSR := hA.sr
  rw [ex_aut] at hSR
  have hlen : svs.length = 7 := hSR.len.symm
  rw [ex_add]
  have hE : Wk w w5 := Md.trans hN4.md hE5
  obtain ⟨g0, ea0, ec0, hq0, hp0, hc0⟩ := hSR.get (i := 0) (by omega)
  obtain ⟨g6, ea6, ec6, hq6, hp6, hc6⟩ := hSR.get (i := 6) (by omega)
  obtain ⟨g3, ea3, ec3, hq3, hp3, hc3⟩ := hSR.get (i := 3) (by omega)
  refine p mv ?_
  refine p (xt rfl rfl) ?_
  refine p (xt rfl rfl) ?_
  refine p asg ?_
  refine p asg ?_
  refine nl ?_
  refine tn (hK2 _ _ ?_)
  refine sq (fun K3 hK3 => ?_)
  refine rg ?_
  refine p mv ?_
  refine p (eqi rfl rfl) ?_
  refine p mv ?_
  refine gs (t := 10) rfl (fun hg10 => ?_) (fun h => absurd rfl h)
  refine pg rfl rfl rfl mv ?_
  refine pg rfl rfl rfl (lnl u23 rfl rfl) ?_
  refine pg rfl rfl rfl (eqi rfl rfl) ?_
  refine p (pkt rfl) ?_
  refine p mv ?_
  refine gs (t := 15) rfl (fun hg15 => ?_) (fun h => absurd (by omega) h)
  refine pg rfl rfl rfl mv ?_
  refine pg rfl rfl rfl (ia' es23 rfl rfl (by omega) (Cells.ok (hSR.cells) (sflat_ne (by omega)))) ?_
  refine pg rfl rfl rfl (fa fo40_1 rfl) ?_
  refine pg rfl rfl rfl (ld ag38 rfl (cel2 hSR.cells (i := 0) (c := 1) ((sflat_get hq0 (by decide)).trans rfl))) ?_
  refine pg rfl rfl rfl (lnl u38 rfl rfl) ?_
  refine pg rfl rfl rfl (eqi rfl rfl) ?_
  refine p (pkt rfl) ?_
  refine p mv ?_
  refine gs (t := 23) rfl (fun hg23 => ?_) (fun h => absurd rfl h)
  refine pg rfl rfl rfl mv ?_
  refine pg rfl rfl rfl (ia' es23 rfl rfl (by omega) (Cells.ok (hSR.cells) (sflat_ne (by omega)))) ?_
  refine pg rfl rfl rfl (fa fo40_1 rfl) ?_
  refine pg rfl rfl rfl (ld ag38 rfl (cel2 hSR.cells (i := 0) (c := 1) ((sflat_get hq0 (by decide)).trans rfl))) ?_
  refine pg rfl rfl rfl (ia' es38 rfl rfl (by decide) (Cells.ok (hc0) (by decide))) ?_
  refine pg rfl rfl rfl (fa fo42_1 rfl) ?_
  refine pg rfl rfl rfl (ld ag3 rfl (cel2 hc0 (i := 1) (c := 1) rfl)) ?_
  refine pg rfl rfl rfl (eqi rfl rfl) ?_
  refine p (pkt rfl) ?_
  refine p mv ?_
  refine gs (t := 33) rfl (fun hg33 => ?_) (fun h => absurd rfl h)
  refine pg rfl rfl rfl mv ?_
  refine pg rfl rfl rfl (ia' es23 rfl rfl (by omega) (Cells.ok (hSR.cells) (sflat_ne (by omega)))) ?_
  refine pg rfl rfl rfl (fa fo40_1 rfl) ?_
  refine pg rfl rfl rfl (ld ag38 rfl (cel2 hSR.cells (i := 6) (c := 1) ((sflat_get hq6 (by decide)).trans rfl))) ?_
  refine pg rfl rfl rfl (ia' es38 rfl rfl (by decide) (Cells.ok (hc6) (by decide))) ?_
  refine pg rfl rfl rfl (fa fo42_1 rfl) ?_
  refine pg rfl rfl rfl (ld ag3 rfl (cel2 hc6 (i := 0) (c := 1) rfl)) ?_
  refine pg rfl rfl rfl (eqi rfl rfl) ?_
  refine p (pkt rfl) ?_
  refine p mv ?_
  refine gs (t := 43) rfl (fun hg43 => ?_) (fun h => absurd rfl h)
  refine pg rfl rfl rfl mv ?_
  refine pg rfl rfl rfl (ia' es23 rfl rfl (by omega) (Cells.ok (hSR.cells) (sflat_ne (by omega)))) ?_
  refine pg rfl rfl rfl (fa fo40_0 rfl) ?_
  refine pg rfl rfl rfl (ld ag4 rfl (cel2 hSR.cells (i := 3) (c := 0) ((sflat_get hq3 (by decide)).trans rfl))) ?_
  refine p (pkt rfl) ?_
  refine p asg ?_
  refine nl ?_
  refine tn (hK3 _ _ ?_)
  refine rt ?_
  refine f1 rfl rfl ?_
  exact ⟨congrArg Value.bool hp3.symm, hE⟩
theorem builds_w (ws : Tl) (aw : Option Addr) (cw : Nat) (w : World) (hS : Strs w.heap aw ws) (hwl : ws.length + vol ws ≤ 1048576) :
    Ret Try.prog 3 (List.toArray [.slice aw ws.length cw]) w (fun v w' => v = .bool true ∧ Wk w w') := by
  refine enter Try.func3 rfl Try.ntmps3 rfl ?_
  refine sq (fun K1 hK1 => ?_)
  refine rg ?_
  refine p asg ?_
  refine nl ?_
  refine tn (hK1 _ _ ?_)
  refine sq (fun K2 hK2 => ?_)
  refine rg ?_
  refine p (mvt (.slice aw ws.length cw) rfl) ?_
  refine e (cl c11 (twin_w ws aw cw _ hS (by omega)) rfl fun v9 w9 hR9 => ?_)
  obtain ⟨hE9, ho9⟩ := hR9
  obtain ⟨a9, c9, rfl⟩ := own_slice ho9
  have hS9 : Strs w9.heap a9 ws := (own_cellsS ho9).2
  refine e (cl c10 (built_w ws a9 c9 _ hS9 (by omega)) rfl fun v10 w10 hR10 => ?_)
  obtain ⟨hE10, aa, n, cc, rfl, hno, hok⟩ := hR10
  have hE2 : Wk w w10 := Md.trans hE9 hE10
  refine p mv ?_
  refine p (xt rfl rfl) ?_
  refine p (xt rfl rfl) ?_
  refine p asg ?_
  refine p asg ?_
  refine nl ?_
  refine tn (hK2 _ _ ?_)
  refine sq (fun K3 hK3 => ?_)
  refine rg ?_
  refine p (mvt (.slice aw ws.length cw) rfl) ?_
  refine e (cl c12 (fault_w ws aw cw _ (hS.wk hE2) (by omega)) rfl fun v15 w15 hR15 => ?_)
  obtain ⟨hE15, fi, fe, rfl, hfa⟩ := hR15
  obtain ⟨hfe, hfe2⟩ := fault_addW hfa (by omega)
  have hE3 : Wk w w15 := Md.trans hE2 hE15
  refine p mv ?_
  refine p (xt rfl rfl) ?_
  refine p (xt rfl rfl) ?_
  refine p asg ?_
  refine p asg ?_
  refine nl ?_
  refine tn (hK3 _ _ ?_)
  refine sq (fun K4 hK4 => ?_)
  refine sq (fun K5 hK5 => ?_)
  refine rg ?_
  refine e (cl c13 (wakes_w _) rfl fun v18 w18 hR18 => ?_)
  obtain ⟨rfl, hE18⟩ := hR18
  have hE4 : Wk w w18 := Md.trans hE3 hE18
  refine p (no rfl) ?_
  refine p mv ?_
  refine gb (t := 20) rfl (fun h => absurd (h.symm.trans (rfl)) Bool.noConfusion) (fun hg20 => ?_)
  refine pg rfl rfl rfl mv ?_
  refine pg rfl rfl rfl mv ?_
  refine pg rfl rfl rfl (nei rfl rfl) ?_
  refine p (pkf rfl) ?_
  refine nl ?_
  refine tn (hK5 _ _ ?_)
  refine cd rfl (fun h => absurd h (fun h => h hfe)) (fun hc24 => ?_)
  refine skp ?_
  refine tn (hK4 _ _ ?_)
  refine sq (fun K6 hK6 => ?_)
  refine sq (fun K7 hK7 => ?_)
  refine rg ?_
  refine p mv ?_
  refine p (nei rfl rfl) ?_
  refine nl ?_
  refine tn (hK7 _ _ ?_)
  refine cd rfl (fun hc26 => ?_) (fun hc26 => ?_)
  · refine sq (fun K8 hK8 => ?_)
    have hn0 := hno (by rw [hfe]; omega)
    subst hn0
    refine rg ?_
    refine p mv ?_
    refine p (lnl u23 rfl rfl) ?_
    refine p (eqi rfl rfl) ?_
    refine p asg ?_
    refine nl ?_
    refine tn (hK8 _ _ ?_)
    refine rt ?_
    refine tr ?_
    refine f1 rfl rfl ?_
    exact ⟨bT rfl |>.symm, hE4⟩
  · refine skp ?_
    refine tn (hK6 _ _ ?_)
    refine sq (fun K8 hK8 => ?_)
    have hfe0 : fe = 0 := by omega
    obtain ⟨hfit, hws⟩ := hfe2 hfe0
    obtain ⟨svs, rfl, hA⟩ := hok (by rw [hfe]; exact hfe0)
    rw [hws] at hA
    refine rg ?_
    refine p mv ?_
    refine p (mvt (.slice aw ws.length cw) rfl) ?_
    refine e (cl c15 (automaton_w ws aw cw _ (hS.wk hE4) hfit (by omega) (by omega)) rfl fun v32 w32 hR32 => ?_)
    obtain ⟨hE32, svB, aB, cB, rfl, hoB, hsB⟩ := hR32
    obtain ⟨_, _, hvB, hSB⟩ := SR.of hoB hsB
    simp only [Value.slice.injEq, true_and] at hvB
    obtain ⟨rfl, rfl⟩ := hvB
    have hE5 : Wk w w32 := Md.trans hE4 hE32
    have hSA := hA.sr.wk (Md.trans (Md.trans hE15 hE18) hE32)
    have hbl := aut_small hfit
    refine e (cl c14 (same_w aa aB cc cB svs svB (aut ws) (auto ws) _ hSA hSB (by rw [← hSA.len]; have := hbl.1; omega) (by rw [← hSB.len, auto_aut]; have := hbl.1; omega) (fun p hp => by have := hbl.2 p hp; omega)) rfl fun v33 w33 hR33 => ?_)
    obtain ⟨rfl, hE33⟩ := hR33
    refine p asg ?_
    refine nl ?_
    refine tn (hK8 _ _ ?_)
    refine rt ?_
    refine f1 rfl rfl ?_
    exact ⟨(bT (auto_aut ws).symm).symm, Md.trans hE5 hE33⟩
end Go.Hb.LawA
