/-
  Walk of hornbooklaw18.DawgTwins: two builders in turns. No conditions but those that each theorem names.
-/
import Derived.Test.YtkgdlnnmkpgfdaaChecked
import Derived.Test.YtkgdlnnmkpgfdaaEff
import Derived.Test.YtkgdlnnmkpgfdaaRef08
import Derived.Test.YtkgdlnnmkpgfdaaVisit
import Derived.Test.YtkgdlnnmkpgfdaaReg
import Derived.Test.YtkgdlnnmkpgfdaaCut
import Derived.Test.YtkgdlnnmkpgfdaaBuild
import Derived.Test.YtkgdlnnmkpgfdaaAdd
import Derived.Test.YtkgdlnnmkpgfdaaAdds
import Derived.Test.YtkgdlnnmkpgfdaaAsked
import Derived.Test.YtkgdlnnmkpgfdaaNumb
import Derived.Test.YtkgdlnnmkpgfdaaFin
import Derived.Test.YtkgdlnnmkpgfdaaRfrz
import Derived.Test.YtkgdlnnmkpgfdaaSame
import Derived.Test.YtkgdlnnmkpgfdaaLawA
import Derived.Test.YtkgdlnnmkpgfdaaPlay
import Derived.Test.YtkgdlnnmkpgfdaaStep
import Derived.Test.YtkgdlnnmkpgfdaaPlays
import Derived.Test.YtkgdlnnmkpgfdaaStr
import Derived.Test.YtkgdlnnmkpgfdaaPure
import Derived.Test.YtkgdlnnmkpgfdaaDawg
import Derived.Test.YtkgdlnnmkpgfdaaVis
import Derived.Test.YtkgdlnnmkpgfdaaRow
import Derived.Test.YtkgdlnnmkpgfdaaNode
import Derived.Test.YtkgdlnnmkpgfdaaMap
import Derived.Test.YtkgdlnnmkpgfdaaAuto
import Derived.Test.YtkgdlnnmkpgfdaaLast
import Derived.Test.YtkgdlnnmkpgfdaaTag
import Derived.Test.YtkgdlnnmkpgfdaaFrz
import Derived.Test.YtkgdlnnmkpgfdaaSet
import Derived.Test.YtkgdlnnmkpgfdaaPost
import Derived.Test.YtkgdlnnmkpgfdaaBulk
import Derived.Test.YtkgdlnnmkpgfdaaOpens
set_option maxRecDepth 20000
set_option linter.unusedVariables false
namespace Go.Hb.Twins
open Go.Proofs
open Go.Hb.Ref08 Go.Hb.Visit Go.Hb.Reg Go.Hb.Cut Go.Hb.Build Go.Hb.Add Go.Hb.Adds Go.Hb.Asked Go.Hb.Numb Go.Hb.Fin Go.Hb.Rfrz Go.Hb.Same Go.Hb.LawA Go.Hb.Play Go.Hb.Step Go.Hb.Plays
theorem ag57 : aggN Try.prog 57 = some (some 2) := by kernel_rfl
theorem c13 : Callable Try.prog 13 := callable Try.func13 (by kernel_rfl) (by kernel_rfl)
theorem c21 : Callable Try.prog 21 := callable Try.func21 (by kernel_rfl) (by kernel_rfl)
theorem c25 : Callable Try.prog 25 := callable Try.func25 (by kernel_rfl) (by kernel_rfl)
theorem es52 : elemSize Try.prog 52 = some 2 := by kernel_rfl
theorem st55 : structOk Try.prog 55 = some ([(0, 1), (1, 1), (2, 1)], [.slice none 0 0, .int .i64 0, .int .i64 0]) := by kernel_rfl
theorem st57 : structOk Try.prog 57 = some ([(0, 1), (1, 1)], [.int .i64 0, .slice none 0 0]) := by kernel_rfl
theorem u45 : Try.prog.underlying 45 = some (.pointer 84) := by kernel_rfl
theorem u52 : Try.prog.underlying 52 = some (.slice 57) := by kernel_rfl

theorem drop_stay {ops : List (Int × Tl)} {i : Nat} (h : ops.length ≤ i) : oLen (ops.drop (i + 1)) = oLen (ops.drop i) ∧ oVol (ops.drop (i + 1)) = oVol (ops.drop i) := by
  rw [List.drop_eq_nil_of_le h, List.drop_eq_nil_of_le (by omega)]; exact ⟨rfl, rfl⟩

set_option maxHeartbeats 2000000 in
theorem twins_w (ops1 ops2 : List (Int × Tl)) (osv1 osv2 : List (Int × Value)) (a1 a2 : Option Addr) (cap1 cap2 : Nat) (w : World) (hO1 : OpR w a1 osv1 ops1) (hO2 : OpR w a2 osv2 ops2) (hl : oLen ops1 ≤ 1048576 ∧ oVol ops1 ≤ 1048576 ∧ oLen ops2 ≤ 1048576 ∧ oVol ops2 ≤ 1048576) (hol : ops1.length ≤ 1048576 ∧ ops2.length ≤ 1048576) :
    Ret Try.prog 9 (List.toArray [.slice a1 osv1.length cap1, .slice a2 osv2.length cap2]) w (fun v w' => v = .bool true ∧ Wk w w') := by
  have hlO1 := hO1.len
  have hlO2 := hO2.len
  refine enter Try.func9 rfl Try.ntmps9 rfl ?_
  refine sq (fun K1 hK1 => ?_)
  refine rg ?_
  refine p asg ?_
  refine nl ?_
  refine tn (hK1 _ _ ?_)
  refine sq (fun K2 hK2 => ?_)
  refine rg ?_
  refine e (cl c21 (new_w 30 _) rfl fun v13 w13 hR13 => ?_)
  obtain ⟨vb, e0, rfl, hE13, _, hnew⟩ := new_cases hR13
  obtain ⟨b, rfl, rfl, m, vp, pp, hD, h0, h1, h2, h3⟩ := hnew (by decide) (by decide)
  refine p mv ?_
  refine p (xt rfl rfl) ?_
  refine p (xt rfl rfl) ?_
  refine p asg ?_
  refine p asg ?_
  refine nl ?_
  refine tn (hK2 _ _ ?_)
  refine sq (fun K3 hK3 => ?_)
  refine rg ?_
  refine e (cl c21 (new_w 500 _) rfl fun v17 w17 hR17 => ?_)
  obtain ⟨vb2, e02, rfl, hE17, _, hnew2⟩ := new_cases hR17
  obtain ⟨c, rfl, rfl, m2, vp2, pp2, hD2, g0, g1, g2, g3⟩ := hnew2 (by decide) (by decide)
  have hE1 : Wk w w17 := Md.trans hE13 hE17
  refine p mv ?_
  refine p (xt rfl rfl) ?_
  refine p (xt rfl rfl) ?_
  refine p asg ?_
  refine p asg ?_
  refine nl ?_
  refine tn (hK3 _ _ ?_)
  refine sq (fun K4 hK4 => ?_)
  refine rg ?_
  refine p (bld (ps := [(1, .int .i64 30)]) (L := [.slice none 0 0, .int .i64 30, .int .i64 0]) st55 rfl (rfl)) ?_
  refine e (bxaT rfl fun bx w21 hbx hN21 hB21 => ?_)
  refine p (bld (ps := [(1, .int .i64 500)]) (L := [.slice none 0 0, .int .i64 500, .int .i64 0]) st55 rfl (rfl)) ?_
  refine e (bxaT rfl fun cx w23 hcx hN23 hB23 => ?_)
  have hs21 := hN21.size
  have hs23 := hN23.size
  have hs17 := hE17.size
  have hs13 := hE13.size
  obtain ⟨S1, hP10, hS10, hS1c⟩ := ps_new (w0 := w) hD (Md.trans hE17 (Md.trans hN21.md hN23.md)) (by omega) (Wk.blk hN23.md hB21) h0 h1 h2 h3 (by omega)
  obtain ⟨S2, hP20, hS20, hS2c⟩ := ps_new (w0 := w13) hD2 (Md.trans hN21.md hN23.md) (by omega) hB23 g0 g1 g2 g3 (by omega)
  have hd0 : ∀ k, S1 k → ¬ S2 k := fun k hk1 hk2 => by
    have p1 := hS20 k hk2
    rcases hS1c k hk1 with q1 | q1 <;> rcases hS2c k hk2 with q2 | q2 <;> omega
  have hE2 : Wk w w23 := Md.trans hE1 (Md.trans hN21.md hN23.md)
  refine p asg ?_
  refine p asg ?_
  refine nl ?_
  refine tn (hK4 _ _ ?_)
  refine sq (fun K5 hK5 => ?_)
  refine sq (fun K6 hK6 => ?_)
  refine rg ?_
  refine e (cl c13 (wakes_w _) rfl fun v24 w24 hR24 => ?_)
  obtain ⟨rfl, hE24⟩ := hR24
  have hE3 : Wk w w24 := Md.trans hE2 hE24
  have hP1s := hP10.md hE24 (fun _ _ x => x)
  have hP2s := hP20.md hE24 (fun _ _ x => x)
  refine p (no rfl) ?_
  refine p mv ?_
  refine gb (t := 26) rfl (fun h => absurd (h.symm.trans (rfl)) Bool.noConfusion) (fun hg26 => ?_)
  refine pg rfl rfl rfl mv ?_
  refine pg rfl rfl rfl (eqpn u45 rfl rfl) ?_
  refine p (pkf rfl) ?_
  refine p mv ?_
  refine gb (t := 30) rfl (fun h => absurd (h.symm.trans (rfl)) Bool.noConfusion) (fun hg30 => ?_)
  refine pg rfl rfl rfl mv ?_
  refine pg rfl rfl rfl (eqpn u45 rfl rfl) ?_
  refine p (pkf rfl) ?_
  refine nl ?_
  refine tn (hK6 _ _ ?_)
  refine cf (rfl) ?_
  refine skp ?_
  refine tn (hK5 _ _ ?_)
  refine sq (fun K7 hK7 => ?_)
  refine sq (fun K8 hK8 => ?_)
  refine rg ?_
  refine p asg ?_
  refine nl ?_
  refine tn (hK8 _ _ ?_)
  refine blk ?_
  refine lp (fun gm σ1 wL => ∃ (i : Nat) (ws1 ws2 : Tl) (st1 st2 : Int) (S1 S2 : Nat → Prop), (i ≤ osv1.length + osv2.length) ∧ (Wk w wL) ∧ (PS wL b bx 30 ws1 st1 S1) ∧ (PS wL c cx 500 ws2 st2 S2) ∧ (∀ k, S1 k → ¬ S2 k) ∧ (∀ k, S1 k → w.heap.size ≤ k) ∧ (∀ k, S2 k → w.heap.size ≤ k) ∧ (ws1.length + oLen (ops1.drop i) ≤ oLen ops1 ∧ vol ws1 + oVol (ops1.drop i) ≤ oVol ops1) ∧ (ws2.length + oLen (ops2.drop i) ≤ oLen ops2 ∧ vol ws2 + oVol (ops2.drop i) ≤ oVol ops2) ∧ (σ1 0 = .slice a1 osv1.length cap1) ∧ (σ1 1 = .slice a2 osv2.length cap2) ∧ (σ1 5 = .pointer (some ⟨b, 0, none⟩)) ∧ (σ1 7 = .pointer (some ⟨c, 0, none⟩)) ∧ (σ1 9 = .pointer (some ⟨bx, 0, none⟩)) ∧ (σ1 10 = .pointer (some ⟨cx, 0, none⟩)) ∧ (σ1 11 = .int .i64 i) ∧ (osv1.length + osv2.length - i = gm)) _ ⟨0, [], [], 0, 0, S1, S2, (by omega), hE3, hP1s, hP2s, hd0, hS10, (fun k h => (by have := hS20 k h; omega)), (by simp [vol]), (by simp [vol]), rfl, rfl, rfl, rfl, rfl, rfl, rfl, rfl⟩ ?_
  rintro gm σ1 wL ⟨i, ws1, ws2, st1, st2, S1, S2, hi, hE, hP1, hP2, hd, hS1, hS2, hl1, hl2, hs1_0, hs1_1, hs1_5, hs1_7, hs1_9, hs1_10, hs1_11, rfl⟩
  refine fx 0 hs1_0 (fx 1 hs1_1 (fx 5 hs1_5 (fx 7 hs1_7 (fx 9 hs1_9 (fx 10 hs1_10 (fx 11 hs1_11 ?_))))))
  refine sqc (fun σ2 wC9 => (i < osv1.length ∨ i < osv2.length) ∧ (wC9 = wL) ∧ (σ2 0 = .slice a1 osv1.length cap1) ∧ (σ2 1 = .slice a2 osv2.length cap2) ∧ (σ2 5 = .pointer (some ⟨b, 0, none⟩)) ∧ (σ2 7 = .pointer (some ⟨c, 0, none⟩)) ∧ (σ2 9 = .pointer (some ⟨bx, 0, none⟩)) ∧ (σ2 10 = .pointer (some ⟨cx, 0, none⟩)) ∧ (σ2 11 = .int .i64 i)) ?_ ?_
  · refine sq (fun K9 hK9 => ?_)
    refine rg ?_
    refine p (mvt (.int .i64 i) rfl) ?_
    refine p (mvt (.slice a1 osv1.length cap1) rfl) ?_
    refine p (lnl u52 rfl rfl) ?_
    refine p (lt rfl rfl) ?_
    refine p mv ?_
    refine gs (t := 38) rfl (fun hg38 => ?_) (fun hg38 => ?_)
    · refine sk rfl rfl rfl rfl ?_
      refine sk rfl rfl rfl rfl ?_
      refine sk rfl rfl rfl rfl ?_
      refine sk rfl rfl rfl rfl ?_
      refine p (pkt rfl) ?_
      refine nl ?_
      refine tn (hK9 _ _ ?_)
      refine ct rfl ?_
      refine skp ?_
      refine tn ?_
      exact ⟨(.inl (by omega)), rfl, rfl, rfl, rfl, rfl, rfl, rfl, rfl⟩
    · refine pg rfl rfl rfl (mvt (.int .i64 i) rfl) ?_
      refine pg rfl rfl rfl (mvt (.slice a2 osv2.length cap2) rfl) ?_
      refine pg rfl rfl rfl (lnl u52 rfl rfl) ?_
      refine pg rfl rfl rfl (lt rfl rfl) ?_
      refine p (pkf rfl) ?_
      refine nl ?_
      refine tn (hK9 _ _ ?_)
      refine cd rfl (fun hc43 => ?_) (fun hc43 => ?_)
      · refine skp ?_
        refine tn ?_
        exact ⟨(.inr (by omega)), rfl, rfl, rfl, rfl, rfl, rfl, rfl, rfl⟩
      · refine ext ?_
        refine te _ ?_
        refine te _ ?_
        refine be ?_
        refine tn (hK7 _ _ ?_)
        refine sq (fun K10 hK10 => ?_)
        refine rg ?_
        refine p (mvt (.pointer (some ⟨b, 0, none⟩)) rfl) ?_
        refine p (mvt (.pointer (some ⟨bx, 0, none⟩)) rfl) ?_
        refine p (bld (ps := [(0, .int .i64 3)]) (L := [.int .i64 3, .slice none 0 0]) st57 rfl (rfl)) ?_
        refine e (cl c25 (step_w b bx 30 ws1 st1 S1 3 [] none 0 _ hP1 (Cells.nil _ _) (fun h => absurd rfl h) (by have : vol [] = 0 := rfl; simp only [List.length_nil]; omega)) rfl fun v77 w77 hR77 => ?_)
        obtain ⟨rfl, hM77, S3, hP3, hS3⟩ := hR77
        have hE77 : Wk w w77 := Md.trans' hE hM77 (fun k hk h => by have := hS1 k h; omega)
        have hP2e := hP2.md hM77 (fun k h2 h1 => hd k h1 h2)
        refine p mv ?_
        refine gb (t := 78) rfl (fun hg78 => ?_) (fun h => absurd ((rfl).symm.trans h) Bool.noConfusion)
        refine pg rfl rfl rfl (mvt (.pointer (some ⟨c, 0, none⟩)) rfl) ?_
        refine pg rfl rfl rfl (mvt (.pointer (some ⟨cx, 0, none⟩)) rfl) ?_
        refine pg rfl rfl rfl (bld (ps := [(0, .int .i64 3)]) (L := [.int .i64 3, .slice none 0 0]) st57 rfl (rfl)) ?_
        refine eg rfl rfl rfl (cl c25 (step_w c cx 500 ws2 st2 S2 3 [] none 0 _ hP2e (Cells.nil _ _) (fun h => absurd rfl h) (by have : vol [] = 0 := rfl; simp only [List.length_nil]; omega)) rfl fun v82 w82 hR82 => ?_)
        obtain ⟨rfl, hM82, S4, hP4, hS4⟩ := hR82
        have hE82 : Wk w w82 := Md.trans' hE77 hM82 (fun k hk h => by have := hS2 k h; omega)
        refine p (pkt rfl) ?_
        refine p asg ?_
        refine nl ?_
        refine tn (hK10 _ _ ?_)
        refine rt ?_
        refine f1 rfl rfl ?_
        exact ⟨rfl, hE82⟩
  rintro σ2 wC9 ⟨hcs, hw9, hs2_0, hs2_1, hs2_5, hs2_7, hs2_9, hs2_10, hs2_11⟩
  refine fx 0 hs2_0 (fx 1 hs2_1 (fx 5 hs2_5 (fx 7 hs2_7 (fx 9 hs2_9 (fx 10 hs2_10 (fx 11 hs2_11 ?_))))))
  subst hw9
  refine sq (fun K9 hK9 => ?_)
  refine blk ?_
  refine sqc (fun σ3 wC11 => ∃ (ws1b : Tl) (st1b : Int) (S1b : Nat → Prop), (Wk w wC11) ∧ (PS wC11 b bx 30 ws1b st1b S1b) ∧ (PS wC11 c cx 500 ws2 st2 S2) ∧ (∀ k, S1b k → ¬ S2 k) ∧ (∀ k, S1b k → w.heap.size ≤ k) ∧ (ws1b.length + oLen (ops1.drop (i + 1)) ≤ oLen ops1 ∧ vol ws1b + oVol (ops1.drop (i + 1)) ≤ oVol ops1) ∧ (σ3 0 = .slice a1 osv1.length cap1) ∧ (σ3 1 = .slice a2 osv2.length cap2) ∧ (σ3 5 = .pointer (some ⟨b, 0, none⟩)) ∧ (σ3 7 = .pointer (some ⟨c, 0, none⟩)) ∧ (σ3 9 = .pointer (some ⟨bx, 0, none⟩)) ∧ (σ3 10 = .pointer (some ⟨cx, 0, none⟩)) ∧ (σ3 11 = .int .i64 i)) ?_ ?_
  · refine sq (fun K10 hK10 => ?_)
    refine rg ?_
    refine p (mvt (.int .i64 i) rfl) ?_
    refine p (mvt (.slice a1 osv1.length cap1) rfl) ?_
    refine p (lnl u52 rfl rfl) ?_
    refine p (lt rfl rfl) ?_
    refine p mv ?_
    refine gs (t := 50) rfl (fun hg50 => ?_) (fun hg50 => ?_)
    · obtain ⟨wa1, wc1, hq1, hSw1⟩ := hO1.get (i := i) (by omega)
      have hdr1 := oLen_drop (ops := ops1) (i := i) (by omega)
      refine pg rfl rfl rfl (mvt (.pointer (some ⟨b, 0, none⟩)) rfl) ?_
      refine pg rfl rfl rfl (mvt (.pointer (some ⟨bx, 0, none⟩)) rfl) ?_
      refine pg rfl rfl rfl (mvt (.slice a1 osv1.length cap1) rfl) ?_
      refine pg rfl rfl rfl (mvt (.int .i64 i) rfl) ?_
      refine pg rfl rfl rfl (ia' es52 rfl rfl (by omega) (Cells.ok ((hO1.wk hE).cells) (oflat_ne (by omega)))) ?_
      refine pg rfl rfl rfl (lda ag57 rfl rfl (show ∀ j, j < 2 → cel wC9.heap (bk a1) (fo a1 + i * 2 + j) = [Value.int .i64 (ops1.getD i dO).1, .slice wa1 (ops1.getD i dO).2.length wc1][j]? from oflat_cells (hO1.wk hE).cells hq1)) ?_
      refine eg rfl rfl rfl (cl c25 (step_w b bx 30 ws1 st1 S1 (ops1.getD i dO).1 (ops1.getD i dO).2 wa1 wc1 _ hP1 (hSw1.wk hE) (fun hne h => by have := hS1 _ h; have := hSw1.lt hne; omega) (by omega)) rfl fun v57 w57 hR57 => ?_)
      obtain ⟨rfl, hM57, S1n, hP1n, hS1n⟩ := hR57
      have hE57 : Wk w w57 := Md.trans' hE hM57 (fun k hk h => by have := hS1 k h; omega)
      have hlen1 := stepW_len (ops1.getD i dO).1 30 ws1 st1 (ops1.getD i dO).2
      have hP2n := hP2.md hM57 (fun k h2 h1 => hd k h1 h2)
      have hd1n : ∀ k, S1n k → ¬ S2 k := fun k h1 h2 => by
        rcases hS1n k h1 with h3 | h3
        · exact hd k h3 h2
        · have := hP2.lt k h2; omega
      have hS1nx : ∀ k, S1n k → w.heap.size ≤ k := fun k h => (hS1n k h).elim (hS1 k) (fun h => by have := hE.size; omega)
      refine pg rfl rfl rfl (no rfl) ?_
      refine p (pkt rfl) ?_
      refine nl ?_
      refine tn (hK10 _ _ ?_)
      refine cf (rfl) ?_
      refine skp ?_
      refine tn ?_
      exact ⟨_, _, S1n, hE57, hP1n, hP2n, hd1n, hS1nx, (by omega), rfl, rfl, rfl, rfl, rfl, rfl, rfl⟩
    · refine sk rfl rfl rfl rfl ?_
      refine sk rfl rfl rfl rfl ?_
      refine sk rfl rfl rfl rfl ?_
      refine sk rfl rfl rfl rfl ?_
      refine sk rfl rfl rfl rfl ?_
      refine sk rfl rfl rfl rfl ?_
      refine sk rfl rfl rfl rfl ?_
      refine sk rfl rfl rfl rfl ?_
      refine p (pkf rfl) ?_
      refine nl ?_
      refine tn (hK10 _ _ ?_)
      refine cf rfl ?_
      refine skp ?_
      refine tn ?_
      exact ⟨ws1, st1, S1, hE, hP1, hP2, hd, hS1, (by have := drop_stay (ops := ops1) (i := i) (by omega); omega), rfl, rfl, rfl, rfl, rfl, rfl, rfl⟩
  rintro σ3 wC11 ⟨ws1b, st1b, S1b, hE11, hP1b, hP2b, hd1, hS1b, hl1b, hs3_0, hs3_1, hs3_5, hs3_7, hs3_9, hs3_10, hs3_11⟩
  refine fx 0 hs3_0 (fx 1 hs3_1 (fx 5 hs3_5 (fx 7 hs3_7 (fx 9 hs3_9 (fx 10 hs3_10 (fx 11 hs3_11 ?_))))))
  refine sq (fun K10 hK10 => ?_)
  refine rg ?_
  refine p (mvt (.int .i64 i) rfl) ?_
  refine p (mvt (.slice a2 osv2.length cap2) rfl) ?_
  refine p (lnl u52 rfl rfl) ?_
  refine p (lt rfl rfl) ?_
  refine p mv ?_
  refine gs (t := 64) rfl (fun hg64 => ?_) (fun hg64 => ?_)
  · obtain ⟨wa2, wc2, hq2, hSw2⟩ := hO2.get (i := i) (by omega)
    have hdr2 := oLen_drop (ops := ops2) (i := i) (by omega)
    refine pg rfl rfl rfl (mvt (.pointer (some ⟨c, 0, none⟩)) rfl) ?_
    refine pg rfl rfl rfl (mvt (.pointer (some ⟨cx, 0, none⟩)) rfl) ?_
    refine pg rfl rfl rfl (mvt (.slice a2 osv2.length cap2) rfl) ?_
    refine pg rfl rfl rfl (mvt (.int .i64 i) rfl) ?_
    refine pg rfl rfl rfl (ia' es52 rfl rfl (by omega) (Cells.ok ((hO2.wk hE11).cells) (oflat_ne (by omega)))) ?_
    refine pg rfl rfl rfl (lda ag57 rfl rfl (show ∀ j, j < 2 → cel wC11.heap (bk a2) (fo a2 + i * 2 + j) = [Value.int .i64 (ops2.getD i dO).1, .slice wa2 (ops2.getD i dO).2.length wc2][j]? from oflat_cells (hO2.wk hE11).cells hq2)) ?_
    refine eg rfl rfl rfl (cl c25 (step_w c cx 500 ws2 st2 S2 (ops2.getD i dO).1 (ops2.getD i dO).2 wa2 wc2 _ hP2b (hSw2.wk hE11) (fun hne h => by have := hS2 _ h; have := hSw2.lt hne; omega) (by omega)) rfl fun v71 w71 hR71 => ?_)
    obtain ⟨rfl, hM71, S2n, hP2m, hS2n⟩ := hR71
    have hE71 : Wk w w71 := Md.trans' hE11 hM71 (fun k hk h => by have := hS2 k h; omega)
    have hlen2 := stepW_len (ops2.getD i dO).1 500 ws2 st2 (ops2.getD i dO).2
    have hP1m := hP1b.md hM71 (fun k h1 h2 => hd1 k h1 h2)
    have hd2n : ∀ k, S1b k → ¬ S2n k := fun k h1 h2 => by
      rcases hS2n k h2 with h3 | h3
      · exact hd1 k h1 h3
      · have := hP1b.lt k h1; omega
    have hS2nx : ∀ k, S2n k → w.heap.size ≤ k := fun k h => (hS2n k h).elim (hS2 k) (fun h => by have := hE11.size; omega)
    refine pg rfl rfl rfl (no rfl) ?_
    refine p (pkt rfl) ?_
    refine nl ?_
    refine tn (hK10 _ _ ?_)
    refine cf (rfl) ?_
    refine skp ?_
    refine bn ?_
    refine tn (hK9 _ _ ?_)
    refine rg ?_
    refine p (mvt (.int .i64 i) rfl) ?_
    refine p (adv ((i + 1 : Nat) : Int) rfl rfl (w64n (by omega) (by omega))) ?_
    refine p asg ?_
    refine nl ?_
    refine tn ?_
    exact ⟨_, by omega, i + 1, ws1b, _, st1b, _, S1b, S2n, (by omega), hE71, hP1m, hP2m, hd2n, hS1b, hS2nx, hl1b, (by omega), rfl, rfl, rfl, rfl, rfl, rfl, rfl, rfl⟩
  · refine sk rfl rfl rfl rfl ?_
    refine sk rfl rfl rfl rfl ?_
    refine sk rfl rfl rfl rfl ?_
    refine sk rfl rfl rfl rfl ?_
    refine sk rfl rfl rfl rfl ?_
    refine sk rfl rfl rfl rfl ?_
    refine sk rfl rfl rfl rfl ?_
    refine sk rfl rfl rfl rfl ?_
    refine p (pkf rfl) ?_
    refine nl ?_
    refine tn (hK10 _ _ ?_)
    refine cf rfl ?_
    refine skp ?_
    refine bn ?_
    refine tn (hK9 _ _ ?_)
    refine rg ?_
    refine p (mvt (.int .i64 i) rfl) ?_
    refine p (adv ((i + 1 : Nat) : Int) rfl rfl (w64n (by omega) (by omega))) ?_
    refine p asg ?_
    refine nl ?_
    refine tn ?_
    exact ⟨_, by omega, i + 1, ws1b, ws2, st1b, st2, S1b, S2, (by omega), hE11, hP1b, hP2b, hd1, hS1b, hS2, hl1b, (by have := drop_stay (ops := ops2) (i := i) (by omega); omega), rfl, rfl, rfl, rfl, rfl, rfl, rfl, rfl⟩
end Go.Hb.Twins
