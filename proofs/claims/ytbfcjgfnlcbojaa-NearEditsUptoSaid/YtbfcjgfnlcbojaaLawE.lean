/-
  Walks of hornbooklaw23: NearEdits. No conditions but those that each theorem names.
-/
import Derived.Test.YtbfcjgfnlcbojaaChecked
import Derived.Test.YtbfcjgfnlcbojaaEff
import Derived.Test.YtbfcjgfnlcbojaaVisit
import Derived.Test.YtbfcjgfnlcbojaaReg
import Derived.Test.YtbfcjgfnlcbojaaCut
import Derived.Test.YtbfcjgfnlcbojaaBuild
import Derived.Test.YtbfcjgfnlcbojaaAdd
import Derived.Test.YtbfcjgfnlcbojaaAdds
import Derived.Test.YtbfcjgfnlcbojaaNumb
import Derived.Test.YtbfcjgfnlcbojaaFin
import Derived.Test.YtbfcjgfnlcbojaaSame
import Derived.Test.YtbfcjgfnlcbojaaLawA
import Derived.Test.YtbfcjgfnlcbojaaDist
import Derived.Test.YtbfcjgfnlcbojaaShape
import Derived.Test.YtbfcjgfnlcbojaaCounts
import Derived.Test.YtbfcjgfnlcbojaaFind
import Derived.Test.YtbfcjgfnlcbojaaSortN
import Derived.Test.YtbfcjgfnlcbojaaSymm
import Derived.Test.YtbfcjgfnlcbojaaStable
import Derived.Test.YtbfcjgfnlcbojaaWithin
import Derived.Test.YtbfcjgfnlcbojaaLawN
import Derived.Test.YtbfcjgfnlcbojaaStr
import Derived.Test.YtbfcjgfnlcbojaaPure
import Derived.Test.YtbfcjgfnlcbojaaDawg
import Derived.Test.YtbfcjgfnlcbojaaVis
import Derived.Test.YtbfcjgfnlcbojaaRow
import Derived.Test.YtbfcjgfnlcbojaaNode
import Derived.Test.YtbfcjgfnlcbojaaMap
import Derived.Test.YtbfcjgfnlcbojaaAuto
import Derived.Test.YtbfcjgfnlcbojaaLast
import Derived.Test.YtbfcjgfnlcbojaaTag
import Derived.Test.YtbfcjgfnlcbojaaFrz
import Derived.Test.YtbfcjgfnlcbojaaPost
import Derived.Test.YtbfcjgfnlcbojaaBulk
import Derived.Test.YtbfcjgfnlcbojaaLate
import Derived.Test.YtbfcjgfnlcbojaaMake
import Derived.Test.YtbfcjgfnlcbojaaLev
import Derived.Test.YtbfcjgfnlcbojaaNum
import Derived.Test.YtbfcjgfnlcbojaaWalk
import Derived.Test.YtbfcjgfnlcbojaaSts
import Derived.Test.YtbfcjgfnlcbojaaNear
import Derived.Test.YtbfcjgfnlcbojaaSort
import Derived.Test.YtbfcjgfnlcbojaaStab
import Derived.Test.YtbfcjgfnlcbojaaClip
set_option maxRecDepth 20000
set_option linter.unusedVariables false
namespace Go.Hb.LawE
open Go.Proofs
open Go.Hb.Visit Go.Hb.Reg Go.Hb.Cut Go.Hb.Build Go.Hb.Add Go.Hb.Adds Go.Hb.Numb Go.Hb.Fin Go.Hb.Same Go.Hb.LawA Go.Hb.Dist Go.Hb.Shape Go.Hb.Counts Go.Hb.Find Go.Hb.SortN Go.Hb.Symm Go.Hb.Stable Go.Hb.Within Go.Hb.LawN
theorem ag3 : aggN Try.prog 3 = some none := by kernel_rfl
theorem ag5 : aggN Try.prog 5 = some none := by kernel_rfl
theorem ag9 : aggN Try.prog 9 = some none := by kernel_rfl
theorem by29_9 : byteOk Try.prog 29 5 9 = true := by kernel_rfl
theorem c8 : Callable Try.prog 8 := callable Try.func8 (by kernel_rfl) (by kernel_rfl)
theorem c9 : Callable Try.prog 9 := callable Try.func9 (by kernel_rfl) (by kernel_rfl)
theorem c10 : Callable Try.prog 10 := callable Try.func10 (by kernel_rfl) (by kernel_rfl)
theorem c12 : Callable Try.prog 12 := callable Try.func12 (by kernel_rfl) (by kernel_rfl)
theorem fo28_0 : fieldOff Try.prog 28 0 = some 0 := by kernel_rfl
theorem fo28_1 : fieldOff Try.prog 28 1 = some 1 := by kernel_rfl
theorem fo28_2 : fieldOff Try.prog 28 2 = some 2 := by kernel_rfl
theorem fo28_3 : fieldOff Try.prog 28 3 = some 3 := by kernel_rfl
theorem so29 : sliceOk Try.prog 29 5 1 1 = true := by kernel_rfl
theorem u9 : Try.prog.underlying 9 = some (.string) := by kernel_rfl
theorem wide : Try.prog.follows .mixedOrders = true := by kernel_rfl

theorem len_more {l : List UInt8} {k : Nat} {x : UInt8} (h : k ≤ l.length) : (l.take k ++ [x] ++ l.drop k).length = l.length + 1 := by simp; omega
theorem len_less {l : List UInt8} {k : Nat} (h : k < l.length) : (l.take k ++ l.drop (k + 1)).length + 1 = l.length := by simp; omega
theorem len_oth {l : List UInt8} {k : Nat} {x : UInt8} (h : k < l.length) : (l.take k ++ [x] ++ l.drop (k + 1)).length = l.length := by simp; omega

set_option maxHeartbeats 2000000 in
theorem edits_w (s0 s1 : List UInt8) (at_ : Int) (x : UInt8) (w : World) :
    Ret Try.prog 5 (List.toArray [.agg [str s0, str s1, .int .i64 at_, .int .u8 x.toNat].toArray]) w (fun v w' => v = .bool true ∧ Wk w w') := by
  have hl0 := cut_len s0
  have hl1 := cut_len s1
  have hmAB := dist_max (s0.take 2000) (s1.take 2000)
  refine enter Try.func5 rfl Try.ntmps5 rfl ?_
  refine sq (fun K1 hK1 => ?_)
  refine rg ?_
  refine e (bxa rfl fun b1 w1 hb1 hN1 hB1 => ?_)
  refine p asg ?_
  refine nl ?_
  refine tn (hK1 _ _ ?_)
  refine sq (fun K2 hK2 => ?_)
  have hS1 : (fun w' => Wk w1 w') w1.drew := (Md.refl _ _).drew
  refine hst (fun w' => Wk w1 w') wide hS1 ?_
  refine hp 0 rfl (by kernel_rfl) (fun _ _ => fa fo28_0 rfl) hS1 ?_
  refine hp 1 rfl (by kernel_rfl) (fun w' hS => ld ag9 rfl (Wk.cel hS (hB1.cel 0))) hS1 ?_
  refine hp 3 rfl (by kernel_rfl) (fun _ _ => fa fo28_1 rfl) hS1 ?_
  refine hp 4 rfl (by kernel_rfl) (fun w' hS => ld ag9 rfl (Wk.cel hS (hB1.cel 1))) hS1 ?_
  refine hp 6 rfl (by kernel_rfl) (fun _ _ => fa fo28_3 rfl) hS1 ?_
  refine hp 7 rfl (by kernel_rfl) (fun w' hS => ld ag5 rfl (Wk.cel hS (hB1.cel 3))) hS1 ?_
  refine he 2 rfl (by kernel_rfl) (cl c8 (cut_w s0 _) rfl fun v14 w14 hR14 => ?_)
  obtain ⟨rfl, hE14⟩ := hR14
  have hS1_2 : (fun w' => Wk w1 w') w14 := Md.trans hS1 hE14
  refine ⟨hS1_2, ?_⟩
  refine he 5 rfl (by kernel_rfl) (cl c8 (cut_w s1 _) rfl fun v17 w17 hR17 => ?_)
  obtain ⟨rfl, hE17⟩ := hR17
  have hS1_5 : (fun w' => Wk w1 w') w17 := Md.trans hS1_2 hE17
  refine ⟨hS1_5, ?_⟩
  refine hp 8 rfl (by kernel_rfl) (fun _ _ => asg) hS1_5 ?_
  refine hp 9 rfl (by kernel_rfl) (fun _ _ => asg) hS1_5 ?_
  refine hp 10 rfl (by kernel_rfl) (fun _ _ => asg) hS1_5 ?_
  refine hn (by kernel_rfl) ?_
  refine tn (hK2 _ _ ?_)
  refine sqc (fun σ1 wC => ∃ (k : Nat), (k ≤ (s0.take 2000).length) ∧ (Wk w wC) ∧ (σ1 3 = str (s0.take 2000)) ∧ (σ1 4 = str (s1.take 2000)) ∧ (σ1 5 = .int .u8 x.toNat) ∧ (σ1 6 = .int .i64 (k : Nat))) ?_ ?_
  · refine rg ?_
    refine p (fa fo28_2 rfl) ?_
    refine p (ld ag3 rfl ((hS1_5.B hB1).cel 2)) ?_
    refine p mv ?_
    refine p (lns u9 rfl rfl) ?_
    refine p (mn rfl rfl) ?_
    refine p (mx rfl rfl) ?_
    refine p asg ?_
    refine nl ?_
    refine tn ?_
    exact ⟨(max 0 (min at_ ((s0.take 2000).length : Int))).toNat, ((by omega)), (Md.trans hN1.md hS1_5), rfl, rfl, rfl, (iv (by omega))⟩
  rintro σ1 wC ⟨k, hk, hEC, hs1_3, hs1_4, hs1_5, hs1_6⟩
  refine fx 3 hs1_3 (fx 4 hs1_4 (fx 5 hs1_5 (fx 6 hs1_6 ?_)))
  refine sq (fun K3 hK3 => ?_)
  refine rg ?_
  refine p (mvt (str (s0.take 2000)) rfl) ?_
  refine p (mvt (str (s1.take 2000)) rfl) ?_
  refine e (cl c10 (dist_w (s0.take 2000) (s1.take 2000) _ (by omega) (by omega)) rfl fun v28 w28 hR28 => ?_)
  obtain ⟨rfl, hE28⟩ := hR28
  refine p asg ?_
  refine nl ?_
  refine tn (hK3 _ _ ?_)
  refine sq (fun K4 hK4 => ?_)
  have hS4 : (fun w' => Wk w28 w') w28.drew := (Md.refl _ _).drew
  refine hst (fun w' => Wk w28 w') wide hS4 ?_
  refine hp 0 rfl (by kernel_rfl) (fun _ _ => mvt (str (s0.take 2000)) rfl) hS4 ?_
  refine hp 1 rfl (by kernel_rfl) (fun _ _ => mvt (.int .i64 (k : Nat)) rfl) hS4 ?_
  refine hp 2 rfl (by kernel_rfl) (fun _ _ => slsh u9 rfl rfl (by omega)) hS4 ?_
  refine hp 3 rfl (by kernel_rfl) (fun _ _ => mvt (.int .u8 x.toNat) rfl) hS4 ?_
  refine hp 7 rfl (by kernel_rfl) (fun _ _ => mvt (str (s0.take 2000)) rfl) hS4 ?_
  refine hp 8 rfl (by kernel_rfl) (fun _ _ => mvt (.int .i64 (k : Nat)) rfl) hS4 ?_
  refine hp 9 rfl (by kernel_rfl) (fun _ _ => slsl u9 rfl rfl (by omega)) hS4 ?_
  refine he 4 rfl (by kernel_rfl) (bs1 so29 rfl rfl fun b33 w33 hb33 hN33 hB33 => ?_)
  have hS4_4 : (fun w' => Wk w28 w') w33 := Md.trans hS4 hN33.md
  refine ⟨hS4_4, ?_⟩
  refine he 5 rfl (by kernel_rfl) (wpo_run (cvbs by29_9 rfl (show Cells w33.heap (some ⟨b33, 0, none⟩) (U8 [x]) from Cells.of_blk hB33) (rfl)) ⟨hS4_4, ?_⟩)
  refine hp 6 rfl (by kernel_rfl) (fun _ _ => cc rfl rfl (by simp; omega)) hS4_4 ?_
  refine hp 10 rfl (by kernel_rfl) (fun _ _ => cc rfl rfl (by simp; omega)) hS4_4 ?_
  refine hp 11 rfl (by kernel_rfl) (fun _ _ => asg) hS4_4 ?_
  refine hn (by kernel_rfl) ?_
  refine tn (hK4 _ _ ?_)
  refine sq (fun K5 hK5 => ?_)
  refine sq (fun K6 hK6 => ?_)
  have hmore : dist (s0.take 2000) ((s0.take 2000).take k ++ [x] ++ (s0.take 2000).drop k) = 1 := by
    have := dist_more ((s0.take 2000).take k) ((s0.take 2000).drop k) x
    rwa [List.take_append_drop] at this
  have hlm : ((s0.take 2000).take k ++ [x] ++ (s0.take 2000).drop k).length = (s0.take 2000).length + 1 := len_more hk
  have hbs := dist_beside (m := ((s0.take 2000).take k ++ [x] ++ (s0.take 2000).drop k)) (a := (s0.take 2000)) (by omega) (s1.take 2000)
  have hEm : Wk w w33 := Md.trans (Md.trans hEC hE28) hS4_4
  refine rg ?_
  refine e (cl c9 (wakes_w _) rfl fun v40 w40 hR40 => ?_)
  obtain ⟨rfl, hE40⟩ := hR40
  refine p (no rfl) ?_
  refine p mv ?_
  refine gb (t := 42) rfl (fun h => absurd (h.symm.trans (rfl)) Bool.noConfusion) (fun hg42 => ?_)
  refine pg rfl rfl rfl (mvt (str (s0.take 2000)) rfl) ?_
  refine pg rfl rfl rfl mv ?_
  refine eg rfl rfl rfl (cl c10 (dist_w (s0.take 2000) ((s0.take 2000).take k ++ [x] ++ (s0.take 2000).drop k) _ (by omega) (by omega)) rfl fun v45 w45 hR45 => ?_)
  obtain ⟨rfl, hE45⟩ := hR45
  refine pg rfl rfl rfl (nei rfl rfl) ?_
  refine p (pkf rfl) ?_
  refine p mv ?_
  refine gs (t := 48) rfl (fun h => absurd h (fun h => h (by rw [hmore]; rfl))) (fun hg48 => ?_)
  refine pg rfl rfl rfl mv ?_
  refine pg rfl rfl rfl (mvt (str (s1.take 2000)) rfl) ?_
  refine eg rfl rfl rfl (cl c10 (dist_w ((s0.take 2000).take k ++ [x] ++ (s0.take 2000).drop k) (s1.take 2000) _ (by omega) (by omega)) rfl fun v51 w51 hR51 => ?_)
  obtain ⟨rfl, hE51⟩ := hR51
  refine pg rfl rfl rfl mv ?_
  refine eg rfl rfl rfl (cl c12 (beside_w _ _ _ (by omega) (by omega)) rfl fun v53 w53 hR53 => ?_)
  obtain ⟨rfl, hE53⟩ := hR53
  have hE53x : Wk w w53 := Md.trans (Md.trans (Md.trans (Md.trans hEm hE40) hE45) hE51) hE53
  refine pg rfl rfl rfl (no rfl) ?_
  refine p (pkf rfl) ?_
  refine nl ?_
  refine tn (hK6 _ _ ?_)
  refine cf (congrArg (fun b => Value.bool (!b)) (decide_eq_true (by omega))) ?_
  refine skp ?_
  refine tn (hK5 _ _ ?_)
  refine sq (fun K7 hK7 => ?_)
  refine sq (fun K8 hK8 => ?_)
  refine rg ?_
  refine p (mvt (.int .i64 (k : Nat)) rfl) ?_
  refine p (mvt (str (s0.take 2000)) rfl) ?_
  refine p (lns u9 rfl rfl) ?_
  refine p (eqi rfl rfl) ?_
  refine nl ?_
  refine tn (hK8 _ _ ?_)
  refine cd rfl (fun hc59 => ?_) (fun hc59 => ?_)
  · refine sq (fun K9 hK9 => ?_)
    refine rg ?_
    refine p asg ?_
    refine nl ?_
    refine tn (hK9 _ _ ?_)
    refine rt ?_
    refine tr ?_
    refine f1 rfl rfl ?_
    exact ⟨rfl, hE53x⟩
  · refine skp ?_
    refine tn (hK7 _ _ ?_)
    refine sq (fun K9 hK9 => ?_)
    have hsp : (s0.take 2000) = (s0.take 2000).take k ++ [(s0.take 2000).getD k 0] ++ (s0.take 2000).drop (k + 1) := by
      rw [← take_succ_getD (s0.take 2000) k 0 (by omega), List.take_append_drop]
    have hless : dist ((s0.take 2000).take k ++ (s0.take 2000).drop (k + 1)) (s0.take 2000) = 1 := by
      have := dist_more ((s0.take 2000).take k) ((s0.take 2000).drop (k + 1)) ((s0.take 2000).getD k 0)
      rwa [← hsp] at this
    have hlL : ((s0.take 2000).take k ++ (s0.take 2000).drop (k + 1)).length + 1 = (s0.take 2000).length := len_less (by omega)
    have hlO : ((s0.take 2000).take k ++ [x] ++ (s0.take 2000).drop (k + 1)).length = (s0.take 2000).length := len_oth (by omega)
    have hoth0 : dist (s0.take 2000) ((s0.take 2000).take k ++ [x] ++ (s0.take 2000).drop (k + 1)) = ch1 ((s0.take 2000).getD k 0) x := by
      have := dist_other ((s0.take 2000).take k) ((s0.take 2000).drop (k + 1)) x ((s0.take 2000).getD k 0)
      rwa [← hsp] at this
    have hc1 := ch1_le ((s0.take 2000).getD k 0) x
    have hb2 := dist_beside (m := ((s0.take 2000).take k ++ (s0.take 2000).drop (k + 1))) (a := (s0.take 2000)) (by rw [dist_comm]; omega) (s1.take 2000)
    have hb3 := dist_beside (m := ((s0.take 2000).take k ++ [x] ++ (s0.take 2000).drop (k + 1))) (a := (s0.take 2000)) (by omega) (s1.take 2000)
    have hS9 : (fun w' => Wk w53 w') w53.drew := (Md.refl _ _).drew
    refine hst (fun w' => Wk w53 w') wide hS9 ?_
    refine hp 0 rfl (by kernel_rfl) (fun _ _ => mvt (str (s0.take 2000)) rfl) hS9 ?_
    refine hp 1 rfl (by kernel_rfl) (fun _ _ => mvt (.int .i64 (k : Nat)) rfl) hS9 ?_
    refine hp 2 rfl (by kernel_rfl) (fun _ _ => slsh u9 rfl rfl (by omega)) hS9 ?_
    refine hp 3 rfl (by kernel_rfl) (fun _ _ => mvt (str (s0.take 2000)) rfl) hS9 ?_
    refine hp 4 rfl (by kernel_rfl) (fun _ _ => mvt (.int .i64 (k : Nat)) rfl) hS9 ?_
    refine hp 5 rfl (by kernel_rfl) (fun _ _ => adv ((k + 1 : Nat) : Int) rfl rfl (w64n (by omega) (by omega))) hS9 ?_
    refine hp 6 rfl (by kernel_rfl) (fun _ _ => slsl u9 rfl rfl (by omega)) hS9 ?_
    refine hp 7 rfl (by kernel_rfl) (fun _ _ => cc rfl rfl (by simp; omega)) hS9 ?_
    refine hp 8 rfl (by kernel_rfl) (fun _ _ => asg) hS9 ?_
    refine hn (by kernel_rfl) ?_
    refine tn (hK9 _ _ ?_)
    refine sq (fun K10 hK10 => ?_)
    have hS10 : (fun w' => Wk w53 w') w53.drew.drew := hS9.drew
    refine hst (fun w' => Wk w53 w') wide hS10 ?_
    refine hp 0 rfl (by kernel_rfl) (fun _ _ => mvt (str (s0.take 2000)) rfl) hS10 ?_
    refine hp 1 rfl (by kernel_rfl) (fun _ _ => mvt (.int .i64 (k : Nat)) rfl) hS10 ?_
    refine hp 2 rfl (by kernel_rfl) (fun _ _ => slsh u9 rfl rfl (by omega)) hS10 ?_
    refine hp 3 rfl (by kernel_rfl) (fun _ _ => mvt (.int .u8 x.toNat) rfl) hS10 ?_
    refine hp 7 rfl (by kernel_rfl) (fun _ _ => mvt (str (s0.take 2000)) rfl) hS10 ?_
    refine hp 8 rfl (by kernel_rfl) (fun _ _ => mvt (.int .i64 (k : Nat)) rfl) hS10 ?_
    refine hp 9 rfl (by kernel_rfl) (fun _ _ => adv ((k + 1 : Nat) : Int) rfl rfl (w64n (by omega) (by omega))) hS10 ?_
    refine hp 10 rfl (by kernel_rfl) (fun _ _ => slsl u9 rfl rfl (by omega)) hS10 ?_
    refine he 4 rfl (by kernel_rfl) (bs1 so29 rfl rfl fun b72 w72 hb72 hN72 hB72 => ?_)
    have hS10_4 : (fun w' => Wk w53 w') w72 := Md.trans hS10 hN72.md
    refine ⟨hS10_4, ?_⟩
    refine he 5 rfl (by kernel_rfl) (wpo_run (cvbs by29_9 rfl (show Cells w72.heap (some ⟨b72, 0, none⟩) (U8 [x]) from Cells.of_blk hB72) (rfl)) ⟨hS10_4, ?_⟩)
    refine hp 6 rfl (by kernel_rfl) (fun _ _ => cc rfl rfl (by simp; omega)) hS10_4 ?_
    refine hp 11 rfl (by kernel_rfl) (fun _ _ => cc rfl rfl (by simp; omega)) hS10_4 ?_
    refine hp 12 rfl (by kernel_rfl) (fun _ _ => asg) hS10_4 ?_
    refine hn (by kernel_rfl) ?_
    refine tn (hK10 _ _ ?_)
    refine sq (fun K11 hK11 => ?_)
    refine rg ?_
    refine p asg ?_
    refine nl ?_
    refine tn (hK11 _ _ ?_)
    refine sqc (fun σ2 wD => ∃ (wt : Nat), (dist (s0.take 2000) ((s0.take 2000).take k ++ [x] ++ (s0.take 2000).drop (k + 1)) = wt) ∧ (Wk w wD) ∧ (σ2 3 = str (s0.take 2000)) ∧ (σ2 4 = str (s1.take 2000)) ∧ (σ2 7 = .int .i64 (dist (s0.take 2000) (s1.take 2000) : Nat)) ∧ (σ2 9 = str ((s0.take 2000).take k ++ (s0.take 2000).drop (k + 1))) ∧ (σ2 10 = str ((s0.take 2000).take k ++ [x] ++ (s0.take 2000).drop (k + 1))) ∧ (σ2 11 = .int .i64 (wt : Nat))) ?_ ?_
    · refine sq (fun K12 hK12 => ?_)
      refine rg ?_
      refine p (mvt (str (s0.take 2000)) rfl) ?_
      refine p (mvt (.int .i64 (k : Nat)) rfl) ?_
      refine p (ixs u9 rfl rfl (by omega)) ?_
      refine p (mvt (.int .u8 x.toNat) rfl) ?_
      refine p (eqi rfl rfl) ?_
      refine nl ?_
      refine tn (hK12 _ _ ?_)
      refine cd rfl (fun hc84 => ?_) (fun hc84 => ?_)
      · have hch : ch1 ((s0.take 2000).getD k 0) x = 0 := if_pos (u8eq hc84)
        refine rg ?_
        refine p asg ?_
        refine nl ?_
        refine tn ?_
        exact ⟨0, ((by omega)), (Md.trans hE53x hS10_4), rfl, rfl, rfl, rfl, rfl, rfl⟩
      · have hch : ch1 ((s0.take 2000).getD k 0) x = 1 := if_neg (fun e => hc84 (by rw [show (s0.take 2000).getD (k : Int).toNat 0 = x from e]))
        refine skp ?_
        refine tn ?_
        exact ⟨1, ((by omega)), (Md.trans hE53x hS10_4), rfl, rfl, rfl, rfl, rfl, rfl⟩
    rintro σ2 wD ⟨wt, hoth, hED, hs2_3, hs2_4, hs2_7, hs2_9, hs2_10, hs2_11⟩
    refine fx 3 hs2_3 (fx 4 hs2_4 (fx 7 hs2_7 (fx 9 hs2_9 (fx 10 hs2_10 (fx 11 hs2_11 ?_)))))
    refine sq (fun K12 hK12 => ?_)
    refine rg ?_
    refine p (mvt (str ((s0.take 2000).take k ++ (s0.take 2000).drop (k + 1))) rfl) ?_
    refine p (mvt (str (s0.take 2000)) rfl) ?_
    refine e (cl c10 (dist_w ((s0.take 2000).take k ++ (s0.take 2000).drop (k + 1)) (s0.take 2000) _ (by omega) (by omega)) rfl fun v87 w87 hR87 => ?_)
    obtain ⟨rfl, hE87⟩ := hR87
    refine p (eqi rfl rfl) ?_
    refine p mv ?_
    refine gs (t := 89) rfl (fun hg89 => ?_) (fun h => absurd (by rw [hless]; rfl) h)
    refine pg rfl rfl rfl (mvt (str (s0.take 2000)) rfl) ?_
    refine pg rfl rfl rfl (mvt (str ((s0.take 2000).take k ++ [x] ++ (s0.take 2000).drop (k + 1))) rfl) ?_
    refine eg rfl rfl rfl (cl c10 (dist_w (s0.take 2000) ((s0.take 2000).take k ++ [x] ++ (s0.take 2000).drop (k + 1)) _ (by omega) (by omega)) rfl fun v92 w92 hR92 => ?_)
    obtain ⟨rfl, hE92⟩ := hR92
    refine pg rfl rfl rfl (mvt (.int .i64 (wt : Nat)) rfl) ?_
    refine pg rfl rfl rfl (eqi rfl rfl) ?_
    refine p (pkt rfl) ?_
    refine p mv ?_
    refine gs (t := 96) rfl (fun hg96 => ?_) (fun h => absurd (by rw [hoth]) h)
    refine pg rfl rfl rfl (mvt (str ((s0.take 2000).take k ++ (s0.take 2000).drop (k + 1))) rfl) ?_
    refine pg rfl rfl rfl (mvt (str (s1.take 2000)) rfl) ?_
    refine eg rfl rfl rfl (cl c10 (dist_w ((s0.take 2000).take k ++ (s0.take 2000).drop (k + 1)) (s1.take 2000) _ (by omega) (by omega)) rfl fun v99 w99 hR99 => ?_)
    obtain ⟨rfl, hE99⟩ := hR99
    refine pg rfl rfl rfl (mvt (.int .i64 (dist (s0.take 2000) (s1.take 2000) : Nat)) rfl) ?_
    refine eg rfl rfl rfl (cl c12 (beside_w _ _ _ (by omega) (by omega)) rfl fun v101 w101 hR101 => ?_)
    obtain ⟨rfl, hE101⟩ := hR101
    refine p (pkt rfl) ?_
    refine p mv ?_
    refine gb (t := 103) rfl (fun hg103 => ?_) (fun h => absurd ((decide_eq_true (by omega)).symm.trans h) Bool.noConfusion)
    refine pg rfl rfl rfl (mvt (str ((s0.take 2000).take k ++ [x] ++ (s0.take 2000).drop (k + 1))) rfl) ?_
    refine pg rfl rfl rfl (mvt (str (s1.take 2000)) rfl) ?_
    refine eg rfl rfl rfl (cl c10 (dist_w ((s0.take 2000).take k ++ [x] ++ (s0.take 2000).drop (k + 1)) (s1.take 2000) _ (by omega) (by omega)) rfl fun v106 w106 hR106 => ?_)
    obtain ⟨rfl, hE106⟩ := hR106
    refine pg rfl rfl rfl (mvt (.int .i64 (dist (s0.take 2000) (s1.take 2000) : Nat)) rfl) ?_
    refine eg rfl rfl rfl (cl c12 (beside_w _ _ _ (by omega) (by omega)) rfl fun v108 w108 hR108 => ?_)
    obtain ⟨rfl, hE108⟩ := hR108
    refine p (pkt rfl) ?_
    refine p asg ?_
    refine nl ?_
    refine tn (hK12 _ _ ?_)
    refine rt ?_
    refine f1 rfl rfl ?_
    exact ⟨congrArg Value.bool (decide_eq_true (by omega)), Md.trans hED (Md.trans (Md.trans (Md.trans (Md.trans (Md.trans (hE87) hE92) hE99) hE101) hE106) hE108)⟩
end Go.Hb.LawE
