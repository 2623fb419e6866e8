/-
  Walks of hornbookref08. No conditions but those that each theorem names.
-/
import Derived.Test.YtbfcjgfnlcbojaaChecked
import Derived.Test.YtbfcjgfnlcbojaaCore
import Derived.Test.YtbfcjgfnlcbojaaPlan
set_option maxRecDepth 20000
set_option linter.unusedVariables false
namespace Go.Hb.Ref08
open Go.Proofs
theorem ag9 : aggN Try.prog 9 = some none := by kernel_rfl
theorem c16 : Callable Try.prog 16 := callable Try.func16 (by kernel_rfl) (by kernel_rfl)
theorem c31 : Callable Try.prog 31 := callable Try.func31 (by kernel_rfl) (by kernel_rfl)
theorem c35 : Callable Try.prog 35 := callable Try.func35 (by kernel_rfl) (by kernel_rfl)
theorem es48 : elemSize Try.prog 48 = some 1 := by kernel_rfl
theorem so48 : sliceOk Try.prog 48 9 1 16 = true := by kernel_rfl
theorem u48 : Try.prog.underlying 48 = some (.slice 9) := by kernel_rfl
theorem wide : Try.prog.follows .mixedOrders = true := by kernel_rfl
theorem halve_w (l : Tl) (wd : List UInt8) (a : Option Addr) (cap : Nat) (w : World) (hS : Strs w.heap a l) (hu : l.Pairwise (fun x y => sless x y = true)) (hlen : l.length ≤ 137438953472) :
    Ret Try.prog 35 (List.toArray [.slice a l.length cap, str wd]) w (fun v w' => Wk w w' ∧ ∃ q : Nat, v = .int .i64 q ∧ q ≤ l.length ∧ (∀ i, i < q → sless (l.getD i []) wd = true) ∧ ∀ i, q ≤ i → i < l.length → sless (l.getD i []) wd = false) := by
  refine enter Try.func35 rfl Try.ntmps35 rfl ?_
  refine sq (fun K1 hK1 => ?_)
  refine rg ?_
  refine p asg ?_
  refine nl ?_
  refine tn (hK1 _ _ ?_)
  refine sq (fun K2 hK2 => ?_)
  refine rg ?_
  refine p asg ?_
  refine nl ?_
  refine tn (hK2 _ _ ?_)
  refine sq (fun K3 hK3 => ?_)
  refine rg ?_
  refine p (mvt (.slice a l.length cap) rfl) ?_
  refine p (lnl u48 rfl rfl) ?_
  refine p asg ?_
  refine nl ?_
  refine tn (hK3 _ _ ?_)
  refine sq (fun K4 hK4 => ?_)
  refine blk ?_
  refine lp (fun gm σ1 w1 => ∃ (lo hi : Nat), (lo ≤ hi) ∧ (hi ≤ l.length) ∧ (∀ i, i < lo → sless (l.getD i []) wd = true) ∧ (∀ i, hi ≤ i → i < l.length → sless (l.getD i []) wd = false) ∧ (Wk w w1) ∧ (σ1 0 = .slice a l.length cap) ∧ (σ1 1 = str wd) ∧ (σ1 5 = .int .i64 lo) ∧ (σ1 6 = .int .i64 hi) ∧ (hi - lo = gm)) _ ⟨0, l.length, (by omega), (by omega), (fun i hi => by omega), (fun i h1 h2 => by omega), (Md.refl _ _), rfl, rfl, rfl, rfl, rfl⟩ ?_
  rintro gm σ1 w1 ⟨lo, hi, h1, h2, h3, h4, hE, hs1_0, hs1_1, hs1_5, hs1_6, rfl⟩
  refine fx 0 hs1_0 (fx 1 hs1_1 (fx 5 hs1_5 (fx 6 hs1_6 ?_)))
  refine sq (fun K5 hK5 => ?_)
  refine sq (fun K6 hK6 => ?_)
  refine rg ?_
  refine p (mvt (.int .i64 lo) rfl) ?_
  refine p (mvt (.int .i64 hi) rfl) ?_
  refine p (lt rfl rfl) ?_
  refine nl ?_
  refine tn (hK6 _ _ ?_)
  refine cd rfl (fun hc12 => ?_) (fun hc12 => ?_)
  · refine skp ?_
    refine tn (hK5 _ _ ?_)
    refine blk ?_
    refine sq (fun K7 hK7 => ?_)
    refine rg ?_
    refine p (mvt (.int .i64 lo) rfl) ?_
    refine p (mvt (.int .i64 hi) rfl) ?_
    refine p (mvt (.int .i64 lo) rfl) ?_
    refine p (sb rfl rfl (wi64 (by omega))) ?_
    refine p (qu rfl rfl (by omega) (wi64 (by omega))) ?_
    refine p (adv ((lo + (hi - lo) / 2 : Nat) : Int) rfl rfl (w64n (by omega) (by omega))) ?_
    refine p asg ?_
    refine nl ?_
    refine tn (hK7 _ _ ?_)
    refine sq (fun K8 hK8 => ?_)
    refine rg ?_
    refine p (mvt (.slice a l.length cap) rfl) ?_
    refine p mv ?_
    refine p (ia' es48 rfl rfl (by omega) (Cells.ok (hS.wk hE) (ne_map (by omega)))) ?_
    refine p (ld ag9 rfl (Strs.get (i := lo + (hi - lo) / 2) (hS.wk hE) (by omega))) ?_
    refine p (mvt (str wd) rfl) ?_
    refine p (lts rfl rfl) ?_
    refine nl ?_
    refine tn (hK8 _ _ ?_)
    refine cb rfl (fun hc24 => ?_) (fun hc24 => ?_)
    · refine rg ?_
      refine p mv ?_
      refine p (ad rfl rfl (wi64 (by omega))) ?_
      refine p asg ?_
      refine nl ?_
      refine bn ?_
      refine tn ?_
      exact ⟨_, by omega, lo + (hi - lo) / 2 + 1, hi, (by omega), (by omega), (fun i hi => sless_lo hu (by omega) (by omega) hc24), h4, hE, rfl, rfl, rfl, rfl, rfl⟩
    · refine rg ?_
      refine p mv ?_
      refine p asg ?_
      refine nl ?_
      refine bn ?_
      refine tn ?_
      exact ⟨_, by omega, lo, lo + (hi - lo) / 2, (by omega), (by omega), h3, (fun i h1 h2 => sless_hi hu h1 h2 hc24), hE, rfl, rfl, rfl, rfl, rfl⟩
  · refine ext ?_
    refine te _ ?_
    refine te _ ?_
    refine be ?_
    refine tn (hK4 _ _ ?_)
    refine sq (fun K7 hK7 => ?_)
    refine rg ?_
    refine p (mvt (.int .i64 lo) rfl) ?_
    refine p (ast (.int .i64 lo) rfl) ?_
    refine nl ?_
    refine tn (hK7 _ _ ?_)
    refine rt ?_
    refine f1 rfl rfl ?_
    exact ⟨hE, lo, rfl, by omega, h3, fun i h5 h6 => h4 i (by omega) h6⟩
theorem has_w (l : Tl) (wd : List UInt8) (a : Option Addr) (cap : Nat) (w : World) (hS : Strs w.heap a l) (hu : l.Pairwise (fun x y => sless x y = true)) (hlen : l.length ≤ 137438953472) :
    Ret Try.prog 18 (List.toArray [.slice a l.length cap, str wd]) w (fun v w' => v = .bool (decide (wd ∈ l)) ∧ Wk w w') := by
  refine enter Try.func18 rfl Try.ntmps18 rfl ?_
  refine sq (fun K1 hK1 => ?_)
  refine rg ?_
  refine p asg ?_
  refine nl ?_
  refine tn (hK1 _ _ ?_)
  refine sq (fun K2 hK2 => ?_)
  refine rg ?_
  refine p (mvt (.slice a l.length cap) rfl) ?_
  refine p (mvt (str wd) rfl) ?_
  refine e (cl c35 (halve_w l wd a cap _ hS hu hlen) rfl fun v8 w8 hR8 => ?_)
  obtain ⟨hE, q, rfl, hq1, hq2, hq3⟩ := hR8
  refine p asg ?_
  refine nl ?_
  refine tn (hK2 _ _ ?_)
  refine sq (fun K3 hK3 => ?_)
  refine rg ?_
  refine p mv ?_
  refine p (mvt (.slice a l.length cap) rfl) ?_
  refine p (lnl u48 rfl rfl) ?_
  refine p (lt rfl rfl) ?_
  refine p mv ?_
  refine gs (t := 13) rfl (fun hg13 => ?_) (fun hg13 => ?_)
  · refine pg rfl rfl rfl (mvt (.slice a l.length cap) rfl) ?_
    refine pg rfl rfl rfl mv ?_
    refine pg rfl rfl rfl (ia' es48 rfl rfl (by omega) (Cells.ok (hS.wk hE) (ne_map (by omega)))) ?_
    refine pg rfl rfl rfl (ld ag9 rfl (Strs.get (i := q) (hS.wk hE) (by omega))) ?_
    refine pg rfl rfl rfl (mvt (str wd) rfl) ?_
    refine pg rfl rfl rfl (eqs rfl rfl) ?_
    refine p (pkt rfl) ?_
    refine p asg ?_
    refine nl ?_
    refine tn (hK3 _ _ ?_)
    refine rt ?_
    refine f1 rfl rfl ?_
    exact ⟨bv ((halve_mem hq2 hq3 hu).trans ⟨fun h => h.2, fun h => ⟨by omega, h⟩⟩).symm, hE⟩
  · refine sk rfl rfl rfl rfl ?_
    refine sk rfl rfl rfl rfl ?_
    refine sk rfl rfl rfl rfl ?_
    refine sk rfl rfl rfl rfl ?_
    refine sk rfl rfl rfl rfl ?_
    refine sk rfl rfl rfl rfl ?_
    refine p (pkf rfl) ?_
    refine p asg ?_
    refine nl ?_
    refine tn (hK3 _ _ ?_)
    refine rt ?_
    refine f1 rfl rfl ?_
    exact ⟨bF (fun h => by have := ((halve_mem hq2 hq3 hu).1 h).1; omega), hE⟩
set_option maxHeartbeats 1000000 in
theorem merge_w (la lb : Tl) (aa ab : Option Addr) (ka kb : Nat) (w : World) (hA : Strs w.heap aa la) (hB : Strs w.heap ab lb) (hua : la.Pairwise (fun x y => sless x y = true)) (hub : lb.Pairwise (fun x y => sless x y = true)) (hlen : la.length + lb.length ≤ 4294967296) :
    Ret Try.prog 31 (List.toArray [.slice aa la.length ka, .slice ab lb.length kb]) w (fun v w' => Wk w w' ∧ World.ownsRow w' w.heap.size 9 1 v (setS (la ++ lb)).length ((setS (la ++ lb)).map str)) := by
  refine enter Try.func31 rfl Try.ntmps31 rfl ?_
  refine sq (fun K1 hK1 => ?_)
  refine rg ?_
  refine p asg ?_
  refine nl ?_
  refine tn (hK1 _ _ ?_)
  refine sq (fun K2 hK2 => ?_)
  refine rg ?_
  refine p asg ?_
  refine nl ?_
  refine tn (hK2 _ _ ?_)
  refine sq (fun K3 hK3 => ?_)
  refine rg ?_
  refine p asg ?_
  refine nl ?_
  refine tn (hK3 _ _ ?_)
  refine sq (fun K4 hK4 => ?_)
  refine rg ?_
  refine p asg ?_
  refine nl ?_
  refine tn (hK4 _ _ ?_)
  refine sq (fun K5 hK5 => ?_)
  refine blk ?_
  refine lp (fun gm σ1 wL => ∃ (i j : Nat) (m : Tl) (v : Value), (i ≤ la.length) ∧ (j ≤ lb.length) ∧ (Wk w wL) ∧ (World.ownsRow wL w.heap.size 9 1 v m.length (m.map str)) ∧ (MG la lb i j m) ∧ (σ1 0 = .slice aa la.length ka) ∧ (σ1 1 = .slice ab lb.length kb) ∧ (σ1 5 = v) ∧ (σ1 6 = .int .i64 i) ∧ (σ1 7 = .int .i64 j) ∧ ((la.length - i) + (lb.length - j) = gm)) _ ⟨0, 0, [], .slice none 0 0, (by omega), (by omega), (Md.refl _ _), (World.ownsRow_nil _ _ _ _), (MG.zero _ _), rfl, rfl, rfl, rfl, rfl, rfl⟩ ?_
  rintro gm σ1 wL ⟨i, j, m, v, hi, hj, hE, ho, hmg, hs1_0, hs1_1, hs1_5, hs1_6, hs1_7, rfl⟩
  refine fx 0 hs1_0 (fx 1 hs1_1 (fx 5 hs1_5 (fx 6 hs1_6 (fx 7 hs1_7 ?_))))
  have hml := hmg.len
  refine sqc (fun σ2 wC5 => (i < la.length ∨ j < lb.length) ∧ (wC5 = wL) ∧ (σ2 0 = .slice aa la.length ka) ∧ (σ2 1 = .slice ab lb.length kb) ∧ (σ2 5 = v) ∧ (σ2 6 = .int .i64 i) ∧ (σ2 7 = .int .i64 j)) ?_ ?_
  · refine sq (fun K6 hK6 => ?_)
    refine rg ?_
    refine p (mvt (.int .i64 i) rfl) ?_
    refine p (mvt (.slice aa la.length ka) rfl) ?_
    refine p (lnl u48 rfl rfl) ?_
    refine p (lt rfl rfl) ?_
    refine p mv ?_
    refine gs (t := 12) rfl (fun hg12 => ?_) (fun hg12 => ?_)
    · refine sk rfl rfl rfl rfl ?_
      refine sk rfl rfl rfl rfl ?_
      refine sk rfl rfl rfl rfl ?_
      refine sk rfl rfl rfl rfl ?_
      refine p (pkt rfl) ?_
      refine nl ?_
      refine tn (hK6 _ _ ?_)
      refine ct rfl ?_
      refine skp ?_
      refine tn ?_
      exact ⟨(.inl (by omega)), rfl, rfl, rfl, rfl, rfl, rfl⟩
    · refine pg rfl rfl rfl (mvt (.int .i64 j) rfl) ?_
      refine pg rfl rfl rfl (mvt (.slice ab lb.length kb) rfl) ?_
      refine pg rfl rfl rfl (lnl u48 rfl rfl) ?_
      refine pg rfl rfl rfl (lt rfl rfl) ?_
      refine p (pkf rfl) ?_
      refine nl ?_
      refine tn (hK6 _ _ ?_)
      refine cd rfl (fun hc17 => ?_) (fun hc17 => ?_)
      · refine skp ?_
        refine tn ?_
        exact ⟨(.inr (by omega)), rfl, rfl, rfl, rfl, rfl, rfl⟩
      · refine ext ?_
        refine te _ ?_
        refine te _ ?_
        refine be ?_
        refine tn (hK5 _ _ ?_)
        refine sq (fun K7 hK7 => ?_)
        refine rg ?_
        refine p (mvt (v) rfl) ?_
        refine p (ast (v) rfl) ?_
        refine nl ?_
        refine tn (hK7 _ _ ?_)
        refine rt ?_
        refine f1 rfl rfl ?_
        refine ⟨hE, ?_⟩
        rw [← hmg.done (by omega) (by omega)]; exact ho
  rintro σ2 wC5 ⟨hcs, hw5, hs2_0, hs2_1, hs2_5, hs2_6, hs2_7⟩
  refine fx 0 hs2_0 (fx 1 hs2_1 (fx 5 hs2_5 (fx 6 hs2_6 (fx 7 hs2_7 ?_))))
  subst hw5
  refine blk ?_
  refine sqc (fun σ3 wC8 => (j < lb.length) ∧ (i < la.length → sless (la.getD i []) (lb.getD j []) = false) ∧ (Wk w wC8) ∧ (World.ownsRow wC8 w.heap.size 9 1 v m.length (m.map str)) ∧ (σ3 0 = .slice aa la.length ka) ∧ (σ3 1 = .slice ab lb.length kb) ∧ (σ3 5 = v) ∧ (σ3 6 = .int .i64 i) ∧ (σ3 7 = .int .i64 j)) ?_ ?_
  · refine sq (fun K6 hK6 => ?_)
    have hS5 : (fun w' => Wk wC5 w') wC5.drew := (Md.refl _ _).drew
    refine hst (fun w' => Wk wC5 w') wide hS5 ?_
    refine hp 0 rfl (by kernel_rfl) (fun _ _ => mvt (.int .i64 j) rfl) hS5 ?_
    refine hp 1 rfl (by kernel_rfl) (fun _ _ => mvt (.slice ab lb.length kb) rfl) hS5 ?_
    refine hp 2 rfl (by kernel_rfl) (fun _ _ => lnl u48 rfl rfl) hS5 ?_
    refine hp 3 rfl (by kernel_rfl) (fun _ _ => ge rfl rfl) hS5 ?_
    refine hp 4 rfl (by kernel_rfl) (fun _ _ => mv) hS5 ?_
    refine hgs (t := 22) rfl (fun hg22 => ?_) (fun hg22 => ?_)
    · refine hsk 5 rfl (by kernel_rfl) rfl rfl rfl rfl hS5 ?_
      refine hsk 6 rfl (by kernel_rfl) rfl rfl rfl rfl hS5 ?_
      refine hsk 7 rfl (by kernel_rfl) rfl rfl rfl rfl hS5 ?_
      refine hsk 8 rfl (by kernel_rfl) rfl rfl rfl rfl hS5 ?_
      refine hsk 9 rfl (by kernel_rfl) rfl rfl rfl rfl hS5 ?_
      refine hsku 10 rfl (by kernel_rfl) rfl rfl rfl hS5 ?_
      refine hsku 11 rfl (by kernel_rfl) rfl rfl rfl hS5 ?_
      refine hsku 12 rfl (by kernel_rfl) rfl rfl rfl hS5 ?_
      refine hsku 13 rfl (by kernel_rfl) rfl rfl rfl hS5 ?_
      refine hsku 14 rfl (by kernel_rfl) rfl rfl rfl hS5 ?_
      refine hsku 15 rfl (by kernel_rfl) rfl rfl rfl hS5 ?_
      refine hsku 16 rfl (by kernel_rfl) rfl rfl rfl hS5 ?_
      refine hsku 17 rfl (by kernel_rfl) rfl rfl rfl hS5 ?_
      refine hsku 18 rfl (by kernel_rfl) rfl rfl rfl hS5 ?_
      refine hsk 19 rfl (by kernel_rfl) rfl rfl rfl rfl hS5 ?_
      refine hp 20 rfl (by kernel_rfl) (fun _ _ => pkt rfl) hS5 ?_
      refine hn (by kernel_rfl) ?_
      refine tn (hK6 _ _ ?_)
      refine ct rfl ?_
      refine sq (fun K7 hK7 => ?_)
      refine rg ?_
      refine p (mvt (v) rfl) ?_
      refine p (mvt (.slice aa la.length ka) rfl) ?_
      refine p (mvt (.int .i64 i) rfl) ?_
      refine p (ia' es48 rfl rfl (by omega) (Cells.ok (hA.wk (hE.drew)) (ne_map (by omega)))) ?_
      refine p (ld ag9 rfl (Strs.get (i := i) (hA.wk (hE.drew)) (by omega))) ?_
      refine e (bs1 so48 rfl rfl fun b44 w44 hb44 hN44 hB44 => ?_)
      refine e (ap so48 (own_nw (own_nw ho (Md.refl _ _).drew) hN44.md) rfl (by have := hN44.size; have := hE.size; have h9 : wC5.drew.heap.size = wC5.heap.size := rfl; omega) rfl (Cells.of_blk hB44) (rfl) (rfl) (by omega) (by omega) fun v45 w45 ho45 hM45 hz45 hf45 => ?_)
      have hE45 := Wk.own (Md.trans hE.drew hN44.md) (own_nw (own_nw ho (Md.refl _ _).drew) hN44.md) hM45 (Nat.le_refl _)
      have ho45' : World.ownsRow w45 w.heap.size 9 1 v45 (m ++ [la.getD i []]).length ((m ++ [la.getD i []]).map str) := by rw [List.length_append, List.map_append]; exact ho45
      refine p asg ?_
      refine nl ?_
      refine tn (hK7 _ _ ?_)
      refine sq (fun K8 hK8 => ?_)
      refine rg ?_
      refine p (mvt (.int .i64 i) rfl) ?_
      refine p (adv ((i + 1 : Nat) : Int) rfl rfl (w64n (by omega) (by omega))) ?_
      refine p asg ?_
      refine nl ?_
      refine tn (hK8 _ _ ?_)
      refine ext ?_
      refine te _ ?_
      refine be ?_
      refine tn ?_
      exact ⟨_, by omega, i + 1, j, m ++ [la.getD i []], v45, (by omega), (by omega), hE45, ho45', (hmg.a hua (by omega) (fun h => by omega)), rfl, rfl, rfl, rfl, rfl, rfl⟩
    · refine hpg 5 rfl (by kernel_rfl) rfl rfl rfl (fun _ _ => mvt (.int .i64 i) rfl) hS5 ?_
      refine hpg 6 rfl (by kernel_rfl) rfl rfl rfl (fun _ _ => mvt (.slice aa la.length ka) rfl) hS5 ?_
      refine hpg 7 rfl (by kernel_rfl) rfl rfl rfl (fun _ _ => lnl u48 rfl rfl) hS5 ?_
      refine hpg 8 rfl (by kernel_rfl) rfl rfl rfl (fun _ _ => lt rfl rfl) hS5 ?_
      refine hpg 9 rfl (by kernel_rfl) rfl rfl rfl (fun _ _ => mv) hS5 ?_
      refine hgs (t := 27) rfl (fun hg27 => ?_) (fun hg27 => ?_)
      · refine hpg 10 rfl (by kernel_rfl) rfl rfl rfl (fun _ _ => mvt (.slice aa la.length ka) rfl) hS5 ?_
        refine hpg 11 rfl (by kernel_rfl) rfl rfl rfl (fun _ _ => mvt (.int .i64 i) rfl) hS5 ?_
        refine hpg 12 rfl (by kernel_rfl) rfl rfl rfl (fun _ _ => ia' es48 rfl rfl (by omega) (Cells.ok (hA.wk hE) (ne_map (by omega)))) hS5 ?_
        refine hpg 13 rfl (by kernel_rfl) rfl rfl rfl (fun w' hS => ld ag9 rfl (Wk.cel hS (Strs.get (i := i) (hA.wk hE) (by omega)))) hS5 ?_
        refine hpg 14 rfl (by kernel_rfl) rfl rfl rfl (fun _ _ => mvt (.slice ab lb.length kb) rfl) hS5 ?_
        refine hpg 15 rfl (by kernel_rfl) rfl rfl rfl (fun _ _ => mvt (.int .i64 j) rfl) hS5 ?_
        refine hpg 16 rfl (by kernel_rfl) rfl rfl rfl (fun _ _ => ia' es48 rfl rfl (by omega) (Cells.ok (hB.wk hE) (ne_map (by omega)))) hS5 ?_
        refine hpg 17 rfl (by kernel_rfl) rfl rfl rfl (fun w' hS => ld ag9 rfl (Wk.cel hS (Strs.get (i := j) (hB.wk hE) (by omega)))) hS5 ?_
        refine hpg 18 rfl (by kernel_rfl) rfl rfl rfl (fun _ _ => lts rfl rfl) hS5 ?_
        refine hpg 19 rfl (by kernel_rfl) rfl rfl rfl (fun _ _ => pkt rfl) hS5 ?_
        refine hp 20 rfl (by kernel_rfl) (fun _ _ => pkf rfl) hS5 ?_
        refine hn (by kernel_rfl) ?_
        refine tn (hK6 _ _ ?_)
        refine cb rfl (fun hc38 => ?_) (fun hc38 => ?_)
        · refine sq (fun K7 hK7 => ?_)
          refine rg ?_
          refine p (mvt (v) rfl) ?_
          refine p (mvt (.slice aa la.length ka) rfl) ?_
          refine p (mvt (.int .i64 i) rfl) ?_
          refine p (ia' es48 rfl rfl (by omega) (Cells.ok (hA.wk (hE.drew)) (ne_map (by omega)))) ?_
          refine p (ld ag9 rfl (Strs.get (i := i) (hA.wk (hE.drew)) (by omega))) ?_
          refine e (bs1 so48 rfl rfl fun b44 w44 hb44 hN44 hB44 => ?_)
          refine e (ap so48 (own_nw (own_nw ho (Md.refl _ _).drew) hN44.md) rfl (by have := hN44.size; have := hE.size; have h9 : wC5.drew.heap.size = wC5.heap.size := rfl; omega) rfl (Cells.of_blk hB44) (rfl) (rfl) (by omega) (by omega) fun v45 w45 ho45 hM45 hz45 hf45 => ?_)
          have hE45 := Wk.own (Md.trans hE.drew hN44.md) (own_nw (own_nw ho (Md.refl _ _).drew) hN44.md) hM45 (Nat.le_refl _)
          have ho45' : World.ownsRow w45 w.heap.size 9 1 v45 (m ++ [la.getD i []]).length ((m ++ [la.getD i []]).map str) := by rw [List.length_append, List.map_append]; exact ho45
          refine p asg ?_
          refine nl ?_
          refine tn (hK7 _ _ ?_)
          refine sq (fun K8 hK8 => ?_)
          refine rg ?_
          refine p (mvt (.int .i64 i) rfl) ?_
          refine p (adv ((i + 1 : Nat) : Int) rfl rfl (w64n (by omega) (by omega))) ?_
          refine p asg ?_
          refine nl ?_
          refine tn (hK8 _ _ ?_)
          refine ext ?_
          refine te _ ?_
          refine be ?_
          refine tn ?_
          exact ⟨_, by omega, i + 1, j, m ++ [la.getD i []], v45, (by omega), (by omega), hE45, ho45', (hmg.a hua (by omega) (fun _ => hc38)), rfl, rfl, rfl, rfl, rfl, rfl⟩
        · refine skp ?_
          refine tn ?_
          exact ⟨(by omega), (fun _ => hc38), hE.drew, (own_nw ho (Md.refl _ _).drew), rfl, rfl, rfl, rfl, rfl⟩
      · refine hsk 10 rfl (by kernel_rfl) rfl rfl rfl rfl hS5 ?_
        refine hsk 11 rfl (by kernel_rfl) rfl rfl rfl rfl hS5 ?_
        refine hsk 12 rfl (by kernel_rfl) rfl rfl rfl rfl hS5 ?_
        refine hsk 13 rfl (by kernel_rfl) rfl rfl rfl rfl hS5 ?_
        refine hsk 14 rfl (by kernel_rfl) rfl rfl rfl rfl hS5 ?_
        refine hsk 15 rfl (by kernel_rfl) rfl rfl rfl rfl hS5 ?_
        refine hsk 16 rfl (by kernel_rfl) rfl rfl rfl rfl hS5 ?_
        refine hsk 17 rfl (by kernel_rfl) rfl rfl rfl rfl hS5 ?_
        refine hsk 18 rfl (by kernel_rfl) rfl rfl rfl rfl hS5 ?_
        refine hpg 19 rfl (by kernel_rfl) rfl rfl rfl (fun _ _ => pkf rfl) hS5 ?_
        refine hp 20 rfl (by kernel_rfl) (fun _ _ => pkf rfl) hS5 ?_
        refine hn (by kernel_rfl) ?_
        refine tn (hK6 _ _ ?_)
        refine cf rfl ?_
        refine skp ?_
        refine tn ?_
        exact ⟨(by omega), (fun h => by omega), hE.drew, (own_nw ho (Md.refl _ _).drew), rfl, rfl, rfl, rfl, rfl⟩
  rintro σ3 wC8 ⟨hjl, hna, hE8, ho8, hs3_0, hs3_1, hs3_5, hs3_6, hs3_7⟩
  refine fx 0 hs3_0 (fx 1 hs3_1 (fx 5 hs3_5 (fx 6 hs3_6 (fx 7 hs3_7 ?_))))
  refine sqc (fun σ4 wC10 => ∃ (i2 : Nat), ((i2 = i ∧ (i < la.length → la.getD i [] ≠ lb.getD j [])) ∨ (i2 = i + 1 ∧ i < la.length ∧ la.getD i [] = lb.getD j [])) ∧ (Wk w wC10) ∧ (World.ownsRow wC10 w.heap.size 9 1 v m.length (m.map str)) ∧ (σ4 0 = .slice aa la.length ka) ∧ (σ4 1 = .slice ab lb.length kb) ∧ (σ4 5 = v) ∧ (σ4 6 = .int .i64 i2) ∧ (σ4 7 = .int .i64 j)) ?_ ?_
  · refine sq (fun K6 hK6 => ?_)
    have hS8 : (fun w' => Wk wC8 w') wC8.drew := (Md.refl _ _).drew
    refine hst (fun w' => Wk wC8 w') wide hS8 ?_
    refine hp 0 rfl (by kernel_rfl) (fun _ _ => mvt (.int .i64 i) rfl) hS8 ?_
    refine hp 1 rfl (by kernel_rfl) (fun _ _ => mvt (.slice aa la.length ka) rfl) hS8 ?_
    refine hp 2 rfl (by kernel_rfl) (fun _ _ => lnl u48 rfl rfl) hS8 ?_
    refine hp 3 rfl (by kernel_rfl) (fun _ _ => lt rfl rfl) hS8 ?_
    refine hp 4 rfl (by kernel_rfl) (fun _ _ => mv) hS8 ?_
    refine hgs (t := 52) rfl (fun hg52 => ?_) (fun hg52 => ?_)
    · refine hpg 5 rfl (by kernel_rfl) rfl rfl rfl (fun _ _ => mvt (.slice aa la.length ka) rfl) hS8 ?_
      refine hpg 6 rfl (by kernel_rfl) rfl rfl rfl (fun _ _ => mvt (.int .i64 i) rfl) hS8 ?_
      refine hpg 7 rfl (by kernel_rfl) rfl rfl rfl (fun _ _ => ia' es48 rfl rfl (by omega) (Cells.ok (hA.wk hE8) (ne_map (by omega)))) hS8 ?_
      refine hpg 8 rfl (by kernel_rfl) rfl rfl rfl (fun w' hS => ld ag9 rfl (Wk.cel hS (Strs.get (i := i) (hA.wk hE8) (by omega)))) hS8 ?_
      refine hpg 9 rfl (by kernel_rfl) rfl rfl rfl (fun _ _ => mvt (.slice ab lb.length kb) rfl) hS8 ?_
      refine hpg 10 rfl (by kernel_rfl) rfl rfl rfl (fun _ _ => mvt (.int .i64 j) rfl) hS8 ?_
      refine hpg 11 rfl (by kernel_rfl) rfl rfl rfl (fun _ _ => ia' es48 rfl rfl (by omega) (Cells.ok (hB.wk hE8) (ne_map (by omega)))) hS8 ?_
      refine hpg 12 rfl (by kernel_rfl) rfl rfl rfl (fun w' hS => ld ag9 rfl (Wk.cel hS (Strs.get (i := j) (hB.wk hE8) (by omega)))) hS8 ?_
      refine hpg 13 rfl (by kernel_rfl) rfl rfl rfl (fun _ _ => eqs rfl rfl) hS8 ?_
      refine hp 14 rfl (by kernel_rfl) (fun _ _ => pkt rfl) hS8 ?_
      refine hn (by kernel_rfl) ?_
      refine tn (hK6 _ _ ?_)
      refine cd rfl (fun hc62 => ?_) (fun hc62 => ?_)
      · refine rg ?_
        refine p (mvt (.int .i64 i) rfl) ?_
        refine p (adv ((i + 1 : Nat) : Int) rfl rfl (w64n (by omega) (by omega))) ?_
        refine p asg ?_
        refine nl ?_
        refine tn ?_
        exact ⟨i + 1, (.inr ⟨rfl, by omega, hc62⟩), hE8.drew, (own_nw ho8 (Md.refl _ _).drew), rfl, rfl, rfl, rfl, rfl⟩
      · refine skp ?_
        refine tn ?_
        exact ⟨i, (.inl ⟨rfl, fun _ => hc62⟩), hE8.drew, (own_nw ho8 (Md.refl _ _).drew), rfl, rfl, rfl, rfl, rfl⟩
    · refine hsk 5 rfl (by kernel_rfl) rfl rfl rfl rfl hS8 ?_
      refine hsk 6 rfl (by kernel_rfl) rfl rfl rfl rfl hS8 ?_
      refine hsk 7 rfl (by kernel_rfl) rfl rfl rfl rfl hS8 ?_
      refine hsk 8 rfl (by kernel_rfl) rfl rfl rfl rfl hS8 ?_
      refine hsk 9 rfl (by kernel_rfl) rfl rfl rfl rfl hS8 ?_
      refine hsk 10 rfl (by kernel_rfl) rfl rfl rfl rfl hS8 ?_
      refine hsk 11 rfl (by kernel_rfl) rfl rfl rfl rfl hS8 ?_
      refine hsk 12 rfl (by kernel_rfl) rfl rfl rfl rfl hS8 ?_
      refine hsk 13 rfl (by kernel_rfl) rfl rfl rfl rfl hS8 ?_
      refine hp 14 rfl (by kernel_rfl) (fun _ _ => pkf rfl) hS8 ?_
      refine hn (by kernel_rfl) ?_
      refine tn (hK6 _ _ ?_)
      refine cf rfl ?_
      refine skp ?_
      refine tn ?_
      exact ⟨i, (.inl ⟨rfl, fun h => by omega⟩), hE8.drew, (own_nw ho8 (Md.refl _ _).drew), rfl, rfl, rfl, rfl, rfl⟩
  rintro σ4 wC10 ⟨i2, hi2, hE10, ho10, hs4_0, hs4_1, hs4_5, hs4_6, hs4_7⟩
  refine fx 0 hs4_0 (fx 1 hs4_1 (fx 5 hs4_5 (fx 6 hs4_6 (fx 7 hs4_7 ?_))))
  have hi2l : i2 ≤ la.length ∧ i ≤ i2 := by rcases hi2 with h | h <;> omega
  refine sq (fun K6 hK6 => ?_)
  refine rg ?_
  refine p (mvt (v) rfl) ?_
  refine p (mvt (.slice ab lb.length kb) rfl) ?_
  refine p (mvt (.int .i64 j) rfl) ?_
  refine p (ia' es48 rfl rfl (by omega) (Cells.ok (hB.wk hE10) (ne_map (by omega)))) ?_
  refine p (ld ag9 rfl (Strs.get (i := j) (hB.wk hE10) (by omega))) ?_
  refine e (bs1 so48 rfl rfl fun b70 w70 hb70 hN70 hB70 => ?_)
  refine e (ap so48 (own_nw ho10 hN70.md) rfl (by have := hN70.size; have := hE10.size; omega) rfl (Cells.of_blk hB70) (rfl) (rfl) (by omega) (by omega) fun v71 w71 ho71 hM71 hz71 hf71 => ?_)
  have hE71 := Wk.own (Md.trans hE10 hN70.md) (own_nw ho10 hN70.md) hM71 (Nat.le_refl _)
  have ho71' : World.ownsRow w71 w.heap.size 9 1 v71 (m ++ [lb.getD j []]).length ((m ++ [lb.getD j []]).map str) := by rw [List.length_append, List.map_append]; exact ho71
  refine p asg ?_
  refine nl ?_
  refine tn (hK6 _ _ ?_)
  refine rg ?_
  refine p (mvt (.int .i64 j) rfl) ?_
  refine p (adv ((j + 1 : Nat) : Int) rfl rfl (w64n (by omega) (by omega))) ?_
  refine p asg ?_
  refine nl ?_
  refine bn ?_
  refine tn ?_
  exact ⟨_, by omega, i2, j + 1, m ++ [lb.getD j []], v71, (by omega), (by omega), hE71, ho71', (hmg.b hua hub hjl hna hi2), rfl, rfl, rfl, rfl, rfl, rfl⟩
theorem of_w (n : Nat) (l : Tl) (a : Option Addr) (cap : Nat) (w : World) (hln : l.length = n) (hS : Strs w.heap a l) (hcap : n ≤ cap) (hlen : n ≤ 1073741824) :
    Ret Try.prog 16 (List.toArray [.slice a n cap]) w (fun v w' => Wk w w' ∧ World.ownsRow w' w.heap.size 9 1 v (setS l).length ((setS l).map str)) := by
  induction n using Nat.strongRecOn generalizing l a cap w with
  | _ n ih =>
    refine enter Try.func16 rfl Try.ntmps16 rfl ?_
    refine sq (fun K1 hK1 => ?_)
    refine rg ?_
    refine p asg ?_
    refine nl ?_
    refine tn (hK1 _ _ ?_)
    refine sq (fun K2 hK2 => ?_)
    refine sq (fun K3 hK3 => ?_)
    refine rg ?_
    refine p (mvt (.slice a n cap) rfl) ?_
    refine p (lnl u48 rfl rfl) ?_
    refine p (eqi rfl rfl) ?_
    refine nl ?_
    refine tn (hK3 _ _ ?_)
    refine cd rfl (fun hc7 => ?_) (fun hc7 => ?_)
    · refine sq (fun K4 hK4 => ?_)
      refine rg ?_
      refine p asg ?_
      refine nl ?_
      refine tn (hK4 _ _ ?_)
      refine rt ?_
      refine tr ?_
      refine f1 rfl rfl ?_
      have h0 : l = [] := List.eq_nil_of_length_eq_zero (by omega)
      subst h0
      exact ⟨Md.refl _ _, World.ownsRow_nil _ _ _ _⟩
    · refine skp ?_
      refine tn (hK2 _ _ ?_)
      refine sq (fun K4 hK4 => ?_)
      refine sq (fun K5 hK5 => ?_)
      refine rg ?_
      refine p (mvt (.slice a n cap) rfl) ?_
      refine p (lnl u48 rfl rfl) ?_
      refine p (eqi rfl rfl) ?_
      refine nl ?_
      refine tn (hK5 _ _ ?_)
      refine cd rfl (fun hc10 => ?_) (fun hc10 => ?_)
      · refine sq (fun K6 hK6 => ?_)
        refine rg ?_
        refine p (mvt (.slice a n cap) rfl) ?_
        refine p (ia' es48 rfl rfl (by omega) (Cells.ok (hS) (ne_map (by omega)))) ?_
        refine p (ld ag9 rfl (Strs.get (i := 0) hS (by omega))) ?_
        refine e (bs1o so48 rfl rfl fun b14 w14 hb14 hN14 hB14 => ?_)
        refine p asg ?_
        refine nl ?_
        refine tn (hK6 _ _ ?_)
        refine rt ?_
        refine tr ?_
        refine f1 rfl rfl ?_
        obtain ⟨x, rfl⟩ : ∃ x, l = [x] := List.length_eq_one_iff.1 (by omega)
        exact ⟨hN14.md, hB14 _ (by omega)⟩
      · refine skp ?_
        refine tn (hK4 _ _ ?_)
        refine sq (fun K6 hK6 => ?_)
        refine rg ?_
        refine p (mvt (.slice a n cap) rfl) ?_
        refine p (mvt (.slice a n cap) rfl) ?_
        refine p (lnl u48 rfl rfl) ?_
        refine p (quv ((n / 2 : Nat) : Int) rfl rfl (by omega) (w64n (by omega) (by omega))) ?_
        refine p (sllh es48 rfl rfl (by omega)) ?_
        refine e (cl c16 (ih (n / 2) (by omega) (l.take (n / 2)) a cap _ (by rw [List.length_take]; omega) (hS.take _) (by omega) (by omega)) rfl fun v20 w20 hR20 => ?_)
        obtain ⟨hE20, ho20⟩ := hR20
        refine p asg ?_
        refine nl ?_
        refine tn (hK6 _ _ ?_)
        refine sq (fun K7 hK7 => ?_)
        refine rg ?_
        refine p (mvt (.slice a n cap) rfl) ?_
        refine p (mvt (.slice a n cap) rfl) ?_
        refine p (lnl u48 rfl rfl) ?_
        refine p (quv ((n / 2 : Nat) : Int) rfl rfl (by omega) (w64n (by omega) (by omega))) ?_
        refine p (slll es48 rfl rfl (by omega)) ?_
        refine e (cl c16 (ih (n - n / 2) (by omega) (l.drop (n / 2)) (shf a cap (n / 2) 1) (cap - n / 2) _ (by rw [List.length_drop]; omega) (Strs.wk (hS.drop (by omega)) hE20) (by omega) (by omega)) rfl fun v26 w26 hR26 => ?_)
        obtain ⟨hE26, ho26⟩ := hR26
        have ho20' := own_nw ho20 hE26
        have hl1 := setS_len (l.take (n / 2))
        have hl2 := setS_len (l.drop (n / 2))
        rw [List.length_take] at hl1
        rw [List.length_drop] at hl2
        obtain ⟨a1, c1, rfl⟩ := own_slice ho20'
        obtain ⟨a2, c2, rfl⟩ := own_slice ho26
        refine p asg ?_
        refine nl ?_
        refine tn (hK7 _ _ ?_)
        refine sq (fun K8 hK8 => ?_)
        refine rg ?_
        refine p mv ?_
        refine p mv ?_
        refine e (cl c31 (merge_w (setS (l.take (n / 2))) (setS (l.drop (n / 2))) a1 a2 c1 c2 _ (own_cellsS ho20').2 (own_cellsS ho26).2 (setS_up _) (setS_up _) (by omega)) rfl fun v29 w29 hR29 => ?_)
        obtain ⟨hE29, ho29⟩ := hR29
        have e : setS (setS (l.take (n / 2)) ++ setS (l.drop (n / 2))) = setS l := up_ext (setS_up _) (setS_up _) fun x => by
          rw [mem_setS, List.mem_append, mem_setS, mem_setS, mem_setS, ← List.mem_append, List.take_append_drop]
        rw [e] at ho29
        refine p asg ?_
        refine nl ?_
        refine tn (hK8 _ _ ?_)
        refine rt ?_
        refine f1 rfl rfl ?_
        exact ⟨Md.trans (Md.trans hE20 hE26) hE29, own_mono ho29 (by have := hE20.size; have := hE26.size; omega)⟩
end Go.Hb.Ref08
