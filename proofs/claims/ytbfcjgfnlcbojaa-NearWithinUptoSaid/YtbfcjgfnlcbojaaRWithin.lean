/-
  Walk of hornbookref23.Within. No conditions but those that each theorem names.
-/
import Derived.Test.YtbfcjgfnlcbojaaChecked
import Derived.Test.YtbfcjgfnlcbojaaCore
import Derived.Test.YtbfcjgfnlcbojaaVisit
import Derived.Test.YtbfcjgfnlcbojaaDist
import Derived.Test.YtbfcjgfnlcbojaaShape
import Derived.Test.YtbfcjgfnlcbojaaHeights
import Derived.Test.YtbfcjgfnlcbojaaCountsR
import Derived.Test.YtbfcjgfnlcbojaaNthR
import Derived.Test.YtbfcjgfnlcbojaaCounts
import Derived.Test.YtbfcjgfnlcbojaaFind
import Derived.Test.YtbfcjgfnlcbojaaSortN
import Derived.Test.YtbfcjgfnlcbojaaSymm
import Derived.Test.YtbfcjgfnlcbojaaStable
import Derived.Test.YtbfcjgfnlcbojaaWithin
import Derived.Test.YtbfcjgfnlcbojaaPlan
import Derived.Test.YtbfcjgfnlcbojaaNrp
import Derived.Test.YtbfcjgfnlcbojaaHgt
import Derived.Test.YtbfcjgfnlcbojaaIr
import Derived.Test.YtbfcjgfnlcbojaaArr
set_option maxRecDepth 20000
set_option linter.unusedVariables false
namespace Go.Hb.RWithin
open Go.Proofs
open Go.Hb.Visit Go.Hb.Dist Go.Hb.Shape Go.Hb.Heights Go.Hb.CountsR Go.Hb.NthR Go.Hb.Counts Go.Hb.Find Go.Hb.SortN Go.Hb.Symm Go.Hb.Stable Go.Hb.Within
theorem ag3 : aggN Try.prog 3 = some none := by kernel_rfl
theorem ag9 : aggN Try.prog 9 = some none := by kernel_rfl
theorem ag48 : aggN Try.prog 48 = some none := by kernel_rfl
theorem arr71 : arrN Try.prog 71 = some (4, 1) := by kernel_rfl
theorem c11 : Callable Try.prog 11 := callable Try.func11 (by kernel_rfl) (by kernel_rfl)
theorem c28 : Callable Try.prog 28 := callable Try.func28 (by kernel_rfl) (by kernel_rfl)
theorem c29 : Callable Try.prog 29 := callable Try.func29 (by kernel_rfl) (by kernel_rfl)
theorem c30 : Callable Try.prog 30 := callable Try.func30 (by kernel_rfl) (by kernel_rfl)
theorem cz48 : cellsN Try.prog 48 = some 1 := by kernel_rfl
theorem es48 : elemSize Try.prog 48 = some 1 := by kernel_rfl
theorem es54 : elemSize Try.prog 54 = some 1 := by kernel_rfl
theorem so39 : sliceOk Try.prog 39 46 2 24 = true := by kernel_rfl
theorem so48 : sliceOk Try.prog 48 9 1 16 = true := by kernel_rfl
theorem st46 : structOk Try.prog 46 = some ([(0, 1), (1, 1)], [.string ⟨⟨[]⟩⟩, .int .i64 0]) := by kernel_rfl
theorem u9 : Try.prog.underlying 9 = some (.string) := by kernel_rfl
theorem u39 : Try.prog.underlying 39 = some (.slice 46) := by kernel_rfl
theorem u48 : Try.prog.underlying 48 = some (.slice 9) := by kernel_rfl
theorem zs71 : zeroOf Try.prog 71 = some (some [.slice none 0 0, .slice none 0 0, .slice none 0 0, .slice none 0 0]) := by kernel_rfl

theorem list4 {vs : List Value} (h : vs.length = 4) : ∃ a b c d, vs = [a, b, c, d] := by
  match vs, h with
  | [a, b, c, d], _ => exact ⟨a, b, c, d, rfl⟩
theorem wrds_len {a : List EnI} {l : List Nat} (hS : Shp a l) : ∀ x ∈ wrds a 0, x.length ≤ 1048576 := by
  have key : ∀ (r i : Nat), i < a.length → l.idxOf i < r → ∀ x ∈ wrds a i, x.length ≤ l.idxOf i := by
    intro r
    induction r with
    | zero => intro i _ h; omega
    | succ r ih =>
      intro i hi hr x hx
      rw [hS.wrds' hi] at hx
      rcases List.mem_append.1 hx with hx | hx
      · split at hx
        · simp only [List.mem_singleton] at hx; subst hx; exact Nat.zero_le _
        · cases hx
      · obtain ⟨e, he, hx⟩ := List.mem_flatMap.1 hx
        obtain ⟨y, hy, rfl⟩ := List.mem_map.1 hx
        obtain ⟨_, h2, h3⟩ := hS.edge hi he
        have := ih _ h2 (by omega) y hy
        simp only [List.length_cons]; omega
  intro x hx
  have h1 := key _ 0 hS.pos (Nat.lt_succ_self _) x hx
  have h2 := hS.rk hS.pos
  have h3 := hS.le
  omega
theorem ring_stop {L : List Nr} {d i m : Nat} (h : m ≤ ((rings L d ++ (ring L d).take i).take m).length) : (rings L (d + 1)).take m = (rings L d ++ (ring L d).take i).take m := by
  have e : rings L (d + 1) = (rings L d ++ (ring L d).take i) ++ (ring L d).drop i := by rw [rings_succ, List.append_assoc, List.take_append_drop]
  rw [e, take_full h]
theorem ring_end {L : List Nr} {d i : Nat} (m : Nat) (h : (rgW L d).length ≤ i) : (rings L (d + 1)).take m = (rings L d ++ (ring L d).take i).take m := by
  rw [rings_succ, List.take_of_length_le (l := ring L d) (by rw [← rg_len]; exact h)]
theorem ring_more {L : List Nr} {d i m : Nat} {t : List UInt8} (ht : (rgW L d)[i]? = some t) (h : ((rings L d ++ (ring L d).take i).take m).length < m) : (rings L d ++ (ring L d).take (i + 1)).take m = (rings L d ++ (ring L d).take i).take m ++ [(t, d)] := by
  rw [take_some (ring_get ht), ← List.append_assoc, take_more h]
theorem found_root (a : List EnI) (ws : List UInt8) (k : Nat) : foundAt a ws k [] 0 = fnd ws k (wrds a 0) := by
  unfold foundAt; rw [show (wrds a 0).map ([] ++ ·) = wrds a 0 from by simp]
theorem ring_take {L : List Nr} {d i : Nat} {t : List UInt8} (h : (rgW L d)[i]? = some t) : (ring L d).take (i + 1) = (ring L d).take i ++ [(t, d)] := take_some (ring_get h)

set_option maxHeartbeats 2000000 in
theorem rwithin_w (a : List EnI) (aa : Option Addr) (cA : Nat) (ws : List UInt8) (k most : Int) (w : World) (hA : StI w.heap aa a) (hal : a.length ≤ 140737488355328) (hes : ∀ i, i < a.length → (stOf a i).2.length ≤ 1073741824) (hws : ws.length ≤ 1073741824) :
    Ret Try.prog 14 (List.toArray [.slice aa a.length cA, str ws, .int .i64 k, .int .i64 most]) w (fun v w' => ∃ nr, v = .tuple #[nr, .int .i64 (withE a ws k most).2] ∧ NrAt w'.heap nr (withE a ws k most).1 ∧ Wk w w') := by
  refine enter Try.func14 rfl Try.ntmps14 rfl ?_
  refine sq (fun K1 hK1 => ?_)
  refine rg ?_
  refine p asg ?_
  refine p asg ?_
  refine nl ?_
  refine tn (hK1 _ _ ?_)
  refine sq (fun K2 hK2 => ?_)
  refine rg ?_
  refine p (mvt (.slice aa a.length cA) rfl) ?_
  refine e (cl c28 (shapeR_w a aa cA _ hA hal hes) rfl fun v21 w21 hR21 => ?_)
  obtain ⟨rfl, hE21⟩ := hR21
  refine p asg ?_
  refine nl ?_
  refine tn (hK2 _ _ ?_)
  refine sq (fun K3 hK3 => ?_)
  refine sq (fun K4 hK4 => ?_)
  refine rg ?_
  refine p mv ?_
  refine p (nei rfl rfl) ?_
  refine nl ?_
  refine tn (hK4 _ _ ?_)
  refine cd rfl (fun hc23 => ?_) (fun hc23 => ?_)
  · have hsh : shaped a = false := by
      cases h : shaped a with
      | false => rfl
      | true => exact absurd (shE_ok h) (by omega)
    have hse := shE_no hsh
    refine sq (fun K5 hK5 => ?_)
    refine rg ?_
    refine p mv ?_
    refine p asg ?_
    refine p asg ?_
    refine nl ?_
    refine tn (hK5 _ _ ?_)
    refine rt ?_
    refine tr ?_
    refine f2 rfl rfl rfl ?_
    have hw : withE a ws k most = ([], 190) := with1 hsh
    exact ⟨.slice none 0 0, by show Value.tuple #[.slice none 0 0, .int .i64 (shE a)] = _; rw [hw, hse], by rw [hw]; exact NrAt.nil _, hE21⟩
  · have hsh : shaped a = true := by
      cases h : shaped a with
      | true => rfl
      | false => exact absurd (shE_no h) (by omega)
    obtain ⟨l, hS⟩ := shaped_shp hsh
    have hpos := hS.pos
    refine skp ?_
    refine tn (hK3 _ _ ?_)
    refine sq (fun K5 hK5 => ?_)
    refine sq (fun K6 hK6 => ?_)
    refine rg ?_
    refine p (mvt (str ws) rfl) ?_
    refine p (lns u9 rfl rfl) ?_
    refine p (gt rfl rfl) ?_
    refine nl ?_
    refine tn (hK6 _ _ ?_)
    refine cd rfl (fun hc27 => ?_) (fun hc27 => ?_)
    · refine sq (fun K7 hK7 => ?_)
      refine rg ?_
      refine p asg ?_
      refine p asg ?_
      refine nl ?_
      refine tn (hK7 _ _ ?_)
      refine rt ?_
      refine tr ?_
      refine f2 rfl rfl rfl ?_
      have hw : withE a ws k most = ([], 22) := with2 hsh (by omega)
      exact ⟨.slice none 0 0, by show Value.tuple #[.slice none 0 0, .int .i64 22] = _; rw [hw], by rw [hw]; exact NrAt.nil _, hE21⟩
    · refine skp ?_
      refine tn (hK5 _ _ ?_)
      refine sq (fun K7 hK7 => ?_)
      refine sq (fun K8 hK8 => ?_)
      refine rg ?_
      refine p (mvt (.int .i64 k) rfl) ?_
      refine p (lt rfl rfl) ?_
      refine p mv ?_
      refine gs (t := 30) rfl (fun hg30 => ?_) (fun hg30 => ?_)
      · refine sk rfl rfl rfl rfl ?_
        refine sk rfl rfl rfl rfl ?_
        refine p (pkt rfl) ?_
        refine nl ?_
        refine tn (hK8 _ _ ?_)
        refine ct rfl ?_
        refine sq (fun K9 hK9 => ?_)
        refine rg ?_
        refine p asg ?_
        refine p asg ?_
        refine nl ?_
        refine tn (hK9 _ _ ?_)
        refine rt ?_
        refine tr ?_
        refine f2 rfl rfl rfl ?_
        have hw : withE a ws k most = ([], 2) := with3 hsh (by omega) (by omega)
        exact ⟨.slice none 0 0, by show Value.tuple #[.slice none 0 0, .int .i64 2] = _; rw [hw], by rw [hw]; exact NrAt.nil _, hE21⟩
      · refine pg rfl rfl rfl (mvt (.int .i64 k) rfl) ?_
        refine pg rfl rfl rfl (gt rfl rfl) ?_
        refine p (pkf rfl) ?_
        refine nl ?_
        refine tn (hK8 _ _ ?_)
        refine cd rfl (fun hc33 => ?_) (fun hc33 => ?_)
        · refine sq (fun K9 hK9 => ?_)
          refine rg ?_
          refine p asg ?_
          refine p asg ?_
          refine nl ?_
          refine tn (hK9 _ _ ?_)
          refine rt ?_
          refine tr ?_
          refine f2 rfl rfl rfl ?_
          have hw : withE a ws k most = ([], 2) := with3 hsh (by omega) (by omega)
          exact ⟨.slice none 0 0, by show Value.tuple #[.slice none 0 0, .int .i64 2] = _; rw [hw], by rw [hw]; exact NrAt.nil _, hE21⟩
        · refine skp ?_
          refine tn (hK7 _ _ ?_)
          refine sq (fun K9 hK9 => ?_)
          refine rg ?_
          refine p (mvt (.slice aa a.length cA) rfl) ?_
          refine e (cl c29 (countsR_w a l aa cA _ hS (hA.wk hE21)) rfl fun v35 w35 hR35 => ?_)
          obtain ⟨hE35, hO35⟩ := hR35
          obtain ⟨ac, cC, rfl⟩ := own_slice hO35
          have hC35 := (own_cellsS hO35).2
          have hEw : Wk w w35 := Md.trans hE21 hE35
          refine p asg ?_
          refine nl ?_
          refine tn (hK9 _ _ ?_)
          refine sq (fun K10 hK10 => ?_)
          refine sq (fun K11 hK11 => ?_)
          refine rg ?_
          refine p mv ?_
          refine p (ia' es54 rfl rfl (by omega) (Cells.ok (hC35) (ne_tab (by omega)))) ?_
          refine p (ld ag3 rfl (tab_cel hC35 (i := 0) (by omega))) ?_
          refine p (gt rfl rfl) ?_
          refine nl ?_
          refine tn (hK11 _ _ ?_)
          refine cd rfl (fun hc39 => ?_) (fun hc39 => ?_)
          · refine sq (fun K12 hK12 => ?_)
            refine rg ?_
            refine p asg ?_
            refine p asg ?_
            refine nl ?_
            refine tn (hK12 _ _ ?_)
            refine rt ?_
            refine tr ?_
            refine f2 rfl rfl rfl ?_
            have hw : withE a ws k most = ([], 191) := with4 hsh (by omega) (by omega) (by omega)
            exact ⟨.slice none 0 0, by show Value.tuple #[.slice none 0 0, .int .i64 191] = _; rw [hw], by rw [hw]; exact NrAt.nil _, hEw⟩
          · refine skp ?_
            refine tn (hK10 _ _ ?_)
            refine sq (fun K12 hK12 => ?_)
            refine rg ?_
            refine e (alT zs71 fun b12 w12 hb12 hN12 hB12 => ?_)
            refine nl ?_
            refine tn (hK12 _ _ ?_)
            refine sq (fun K13 hK13 => ?_)
            refine sq (fun K14 hK14 => ?_)
            refine rg ?_
            refine p asg ?_
            refine nl ?_
            refine tn (hK14 _ _ ?_)
            refine blk ?_
            have hcl0 : cnt a 0 = (wrds a 0).length := by unfold cnt at hc39 ⊢; omega
            have hsm : (wrds a 0).length ≤ 65536 := by omega
            have hwl : ∀ x ∈ (wrds a 0), x.length ≤ 1048576 := wrds_len hS
            refine lp (fun gm σ1 wQ => ∃ (q : Nat) (vs : List Value), (q ≤ (wrds a 0).length) ∧ (Wk w35 wQ) ∧ ((wQ).heap[b12]? = some (.cells (vs).toArray 71 (0, 0))) ∧ (IR str 9 wQ w35.heap.size vs (tab 4 (rgW (fnd ws k.toNat ((wrds a 0).take q))))) ∧ (σ1 0 = .slice aa a.length cA) ∧ (σ1 1 = str ws) ∧ (σ1 2 = .int .i64 k) ∧ (σ1 3 = .int .i64 most) ∧ (σ1 11 = .slice ac a.length cC) ∧ (σ1 12 = .pointer (some ⟨b12, 0, none⟩)) ∧ (σ1 13 = .int .i64 (q : Nat)) ∧ ((wrds a 0).length - q = gm)) _ ⟨0, [.slice none 0 0, .slice none 0 0, .slice none 0 0, .slice none 0 0], (by omega), hN12.md, hB12, ((by rw [List.take_zero]; exact IR.nil.push.push.push.push)), rfl, rfl, rfl, rfl, rfl, rfl, rfl, rfl⟩ ?_
            rintro gm σ1 wQ ⟨q, vs, hq, hE1, hb, hIR, hs1_0, hs1_1, hs1_2, hs1_3, hs1_11, hs1_12, hs1_13, rfl⟩
            refine fx 0 hs1_0 (fx 1 hs1_1 (fx 2 hs1_2 (fx 3 hs1_3 (fx 11 hs1_11 (fx 12 hs1_12 (fx 13 hs1_13 ?_))))))
            refine sq (fun K15 hK15 => ?_)
            refine sq (fun K16 hK16 => ?_)
            have hcl : cnt a 0 = (wrds a 0).length := by unfold cnt at hc39 ⊢; omega
            refine rg ?_
            refine p (mvt (.int .i64 (q : Nat)) rfl) ?_
            refine p (mvt (.slice ac a.length cC) rfl) ?_
            refine p (ia' es54 rfl rfl (by omega) (Cells.ok (hC35.wk hE1) (ne_tab (by omega)))) ?_
            refine p (ld ag3 rfl (tab_cel (hC35.wk hE1) (i := 0) (by omega))) ?_
            refine p (lt rfl rfl) ?_
            refine nl ?_
            refine tn (hK16 _ _ ?_)
            refine cd rfl (fun hc44 => ?_) (fun hc44 => ?_)
            · refine skp ?_
              refine tn (hK15 _ _ ?_)
              refine sq (fun K17 hK17 => ?_)
              refine blk ?_
              refine sq (fun K18 hK18 => ?_)
              have hvl := hIR.len
              rw [tab_len] at hvl
              have hdm := dist_lens ws ((wrds a 0).getD q [])
              refine rg ?_
              refine p (mvt (.slice aa a.length cA) rfl) ?_
              refine p (mvt (.slice ac a.length cC) rfl) ?_
              refine p (mvt (.int .i64 (q : Nat)) rfl) ?_
              refine e (cl c30 (nth_w a l aa ac cA cC q _ hS (hA.wk (Md.trans hEw hE1)) (hC35.wk hE1) (by omega) (by omega)) rfl fun v51 w51 hR51 => ?_)
              obtain ⟨rfl, hE51⟩ := hR51
              have hE51x : Wk w35 w51 := Md.trans hE1 hE51
              have hb51 := hE51.blk hb
              have hIR51 := hIR.wk hE51
              refine p mv ?_
              refine p (xt rfl rfl) ?_
              refine p (xt rfl rfl) ?_
              refine p asg ?_
              refine p asg ?_
              refine nl ?_
              refine tn (hK18 _ _ ?_)
              refine sq (fun K19 hK19 => ?_)
              refine sq (fun K20 hK20 => ?_)
              have hll : ((wrds a 0).getD q []).length ≤ 1048576 := hwl _ (getD_mem (d := []) (show q < (wrds a 0).length by omega))
              refine rg ?_
              refine p mv ?_
              refine p (lns u9 rfl rfl) ?_
              refine p (mvt (str ws) rfl) ?_
              refine p (lns u9 rfl rfl) ?_
              refine p (mvt (.int .i64 k) rfl) ?_
              refine p (ad rfl rfl (wi64 (by omega))) ?_
              refine p (gt rfl rfl) ?_
              refine nl ?_
              refine tn (hK20 _ _ ?_)
              refine cd rfl (fun hc60 => ?_) (fun hc60 => ?_)
              · refine ext ?_
                refine te _ ?_
                refine be ?_
                refine tn (hK17 _ _ ?_)
                refine rg ?_
                refine p (mvt (.int .i64 (q : Nat)) rfl) ?_
                refine p (ad rfl rfl (wi64 (by omega))) ?_
                refine p asg ?_
                refine nl ?_
                refine tn ?_
                exact ⟨_, by omega, q + 1, vs, (by omega), hE51x, hb51, ((by rw [tab_ext (fun d _ => rg_no (by omega) (by omega) d)]; exact hIR51)), rfl, rfl, rfl, rfl, rfl, rfl, rfl, rfl⟩
              · refine skp ?_
                refine tn (hK19 _ _ ?_)
                refine sq (fun K21 hK21 => ?_)
                refine rg ?_
                refine p (mvt (str ws) rfl) ?_
                refine p mv ?_
                refine e (cl c11 (rdist_w ws ((wrds a 0).getD q []) _ hws (by omega)) rfl fun v63 w63 hR63 => ?_)
                obtain ⟨rfl, hE63⟩ := hR63
                have hE63x : Wk w35 w63 := Md.trans hE51x hE63
                have hb63 := hE63.blk hb51
                have hIR63 := hIR51.wk hE63
                refine p asg ?_
                refine nl ?_
                refine tn (hK21 _ _ ?_)
                refine sq (fun K22 hK22 => ?_)
                refine rg ?_
                refine p mv ?_
                refine p (mvt (.int .i64 k) rfl) ?_
                refine p (le rfl rfl) ?_
                refine nl ?_
                refine tn (hK22 _ _ ?_)
                refine cd rfl (fun hc66 => ?_) (fun hc66 => ?_)
                · obtain ⟨vj, hvj⟩ : ∃ vj, vs[dist ws ((wrds a 0).getD q [])]? = some vj := ⟨_, List.getElem?_eq_getElem (by omega)⟩
                  obtain ⟨aj, cj, hvj2, _⟩ := hIR51.get (j := dist ws ((wrds a 0).getD q [])) (by omega)
                  rw [hvj] at hvj2
                  have hlr : (rgW (fnd ws k.toNat ((wrds a 0).take q)) (dist ws ((wrds a 0).getD q []))).length ≤ 65536 := by
                    rw [rg_len]
                    unfold ring
                    refine Nat.le_trans (List.length_filter_le _ _) (Nat.le_trans (fnd_len _ _ _) ?_)
                    rw [List.length_take]; omega
                  refine rg ?_
                  refine p mv ?_
                  refine p mv ?_
                  refine p (iaa arr71 rfl rfl (by omega)) ?_
                  refine p (ld ag48 rfl (show _ = some vj from by rw [Int.toNat_natCast, Nat.zero_add, Nat.mul_one, Blk.cel ⟨_, hb63⟩]; exact hvj)) ?_
                  refine p mv ?_
                  refine e (bs1 so48 rfl rfl fun b72 w72 hb72 hN72 hB72 => ?_)
                  have hIR72 := hIR63.wk hN72.md
                  have hb72 := hN72.md.blk hb63
                  have hst72 := hIR72.st _ _ hvj
                  have hE72 : Wk w35 w72 := Md.trans hE63x hN72.md
                  refine e (ap so48 (hst72) rfl (hE72.size) rfl (Cells.of_blk hB72) (rfl) (rfl) (by rw [tab_getD _ _ (by omega)]; omega) (by rw [tab_getD _ _ (by omega)]; omega) fun v73 w73 ho73 hM73 hz73 hf73 => ?_)
                  have hb73 := hM73.blk hb72 (fun h => own_cellne' hst72 hb72 (by decide) h)
                  have hIR73 := hIR72.upd hvj ho73 hM73 hf73
                  rw [rg_set (by omega) (by omega) (by omega)] at hIR73
                  have hE73 : Wk w35 w73 := Wk.own hE72 hst72 hM73 (Nat.le_refl _)
                  refine p (iaa arr71 rfl rfl (by omega)) ?_
                  refine e (stT cz48 rfl rfl (own_one ho73) hb73 (by rw [hvl]; omega) fun w19 hM19 hB19 => ?_)
                  have hb19 : w19.heap[b12]? = some (.cells (vs.set (dist ws ((wrds a 0).getD q [])) v73).toArray 71 (0, 0)) := by rw [Int.toNat_natCast, Nat.zero_add, Nat.mul_one] at hB19; exact hB19
                  have hIR19 := hIR73.md hM19 (fun v n xs hv q hq hq2 => own_cellne' hv hb73 (by decide) (by rw [hq, hq2]))
                  have hE19 : Wk w35 w19 := Md.trans' hE73 hM19 (fun k hk h => by omega)
                  refine nl ?_
                  refine bn ?_
                  refine tn (hK17 _ _ ?_)
                  refine rg ?_
                  refine p (mvt (.int .i64 (q : Nat)) rfl) ?_
                  refine p (ad rfl rfl (wi64 (by omega))) ?_
                  refine p asg ?_
                  refine nl ?_
                  refine tn ?_
                  exact ⟨_, by omega, q + 1, vs.set (dist ws ((wrds a 0).getD q [])) v73, (by omega), hE19, hb19, hIR19, rfl, rfl, rfl, rfl, rfl, rfl, rfl, rfl⟩
                · refine skp ?_
                  refine bn ?_
                  refine tn (hK17 _ _ ?_)
                  refine rg ?_
                  refine p (mvt (.int .i64 (q : Nat)) rfl) ?_
                  refine p (ad rfl rfl (wi64 (by omega))) ?_
                  refine p asg ?_
                  refine nl ?_
                  refine tn ?_
                  exact ⟨_, by omega, q + 1, vs, (by omega), hE63x, hb63, ((by rw [tab_ext (fun d _ => rg_no (by omega) (by omega) d)]; exact hIR63)), rfl, rfl, rfl, rfl, rfl, rfl, rfl, rfl⟩
            · refine ext ?_
              refine te _ ?_
              refine te _ ?_
              refine be ?_
              refine tn (hK13 _ _ ?_)
              refine sq (fun K17 hK17 => ?_)
              refine rg ?_
              refine p asg ?_
              refine nl ?_
              refine tn (hK17 _ _ ?_)
              refine sq (fun K18 hK18 => ?_)
              refine sq (fun K19 hK19 => ?_)
              refine rg ?_
              refine p asg ?_
              refine nl ?_
              refine tn (hK19 _ _ ?_)
              refine blk ?_
              rw [show (wrds a 0).take q = (wrds a 0) from List.take_of_length_le (by omega)] at hIR
              have hvl4 := hIR.len
              rw [tab_len] at hvl4
              have hEQ := hE1
              have hFl : (fnd ws k.toNat (wrds a 0)).length ≤ 65536 := Nat.le_trans (fnd_len _ _ _) hsm
              refine lp (fun gm σ2 wP => ∃ (d : Nat) (oa : Option Addr) (on oc : Nat), (d ≤ k.toNat + 1) ∧ (Wk wQ wP) ∧ (on = ((rings (fnd ws k.toNat (wrds a 0)) d).take most.toNat).length) ∧ (World.ownsRow wP wQ.heap.size 46 2 (.slice oa on oc) on (nfl ((rings (fnd ws k.toNat (wrds a 0)) d).take most.toNat))) ∧ (σ2 0 = .slice aa a.length cA) ∧ (σ2 1 = str ws) ∧ (σ2 2 = .int .i64 k) ∧ (σ2 3 = .int .i64 most) ∧ (σ2 11 = .slice ac a.length cC) ∧ (σ2 12 = .pointer (some ⟨b12, 0, none⟩)) ∧ (σ2 17 = .slice oa on oc) ∧ (σ2 18 = .int .i64 (d : Nat)) ∧ (k.toNat + 1 - d = gm)) _ ⟨0, none, 0, 0, (by omega), (Md.refl _ _), ((by simp [rings])), ((by rw [show (rings (fnd ws k.toNat (wrds a 0)) 0).take most.toNat = [] from by simp [rings]]; exact World.ownsRow_nil _ _ _ _)), rfl, rfl, rfl, rfl, rfl, rfl, rfl, rfl, rfl⟩ ?_
              rintro gm σ2 wP ⟨d, oa, on, oc, hd, hE5, hon, ho5, hs2_0, hs2_1, hs2_2, hs2_3, hs2_11, hs2_12, hs2_17, hs2_18, rfl⟩
              refine fx 0 hs2_0 (fx 1 hs2_1 (fx 2 hs2_2 (fx 3 hs2_3 (fx 11 hs2_11 (fx 12 hs2_12 (fx 17 hs2_17 (fx 18 hs2_18 ?_)))))))
              refine sq (fun K20 hK20 => ?_)
              refine sq (fun K21 hK21 => ?_)
              refine rg ?_
              refine p (mvt (.int .i64 (d : Nat)) rfl) ?_
              refine p (mvt (.int .i64 k) rfl) ?_
              refine p (le rfl rfl) ?_
              refine nl ?_
              refine tn (hK21 _ _ ?_)
              refine cd rfl (fun hc77 => ?_) (fun hc77 => ?_)
              · refine skp ?_
                refine tn (hK20 _ _ ?_)
                refine sq (fun K22 hK22 => ?_)
                refine blk ?_
                refine sq (fun K23 hK23 => ?_)
                refine rg ?_
                refine p asg ?_
                refine nl ?_
                refine tn (hK23 _ _ ?_)
                refine blk ?_
                obtain ⟨aj, cj, hvd, hcd⟩ := hIR.get (j := d) (by omega)
                rw [tab_getD _ _ (by omega)] at hvd hcd
                have hrl : (rgW (fnd ws k.toNat (wrds a 0)) d).length ≤ 65536 := by
                  rw [rg_len]; unfold ring
                  exact Nat.le_trans (List.length_filter_le _ _) hFl
                refine lp (fun gm σ3 wR => ∃ (i : Nat) (oa2 : Option Addr) (on2_ oc2_ : Nat), (i ≤ (rgW (fnd ws k.toNat (wrds a 0)) d).length) ∧ (Wk wQ wR) ∧ (on2_ = ((rings (fnd ws k.toNat (wrds a 0)) d ++ (ring (fnd ws k.toNat (wrds a 0)) d).take i).take most.toNat).length) ∧ (World.ownsRow wR wQ.heap.size 46 2 (.slice oa2 on2_ oc2_) on2_ (nfl ((rings (fnd ws k.toNat (wrds a 0)) d ++ (ring (fnd ws k.toNat (wrds a 0)) d).take i).take most.toNat))) ∧ (σ3 0 = .slice aa a.length cA) ∧ (σ3 1 = str ws) ∧ (σ3 2 = .int .i64 k) ∧ (σ3 3 = .int .i64 most) ∧ (σ3 11 = .slice ac a.length cC) ∧ (σ3 12 = .pointer (some ⟨b12, 0, none⟩)) ∧ (σ3 17 = .slice oa2 on2_ oc2_) ∧ (σ3 18 = .int .i64 (d : Nat)) ∧ (σ3 19 = .int .i64 (i : Nat)) ∧ ((rgW (fnd ws k.toNat (wrds a 0)) d).length - i = gm)) _ ⟨0, oa, on, oc, (by omega), hE5, ((by rw [List.take_zero, List.append_nil]; exact hon)), ((by rw [List.take_zero, List.append_nil]; exact ho5)), rfl, rfl, rfl, rfl, rfl, rfl, rfl, rfl, rfl, rfl⟩ ?_
                rintro gm σ3 wR ⟨i, oa2, on2_, oc2_, hi, hE9, hon2, ho9, hs3_0, hs3_1, hs3_2, hs3_3, hs3_11, hs3_12, hs3_17, hs3_18, hs3_19, rfl⟩
                refine fx 0 hs3_0 (fx 1 hs3_1 (fx 2 hs3_2 (fx 3 hs3_3 (fx 11 hs3_11 (fx 12 hs3_12 (fx 17 hs3_17 (fx 18 hs3_18 (fx 19 hs3_19 ?_))))))))
                refine sq (fun K24 hK24 => ?_)
                refine sq (fun K25 hK25 => ?_)
                refine rg ?_
                refine p (mvt (.int .i64 (i : Nat)) rfl) ?_
                refine p (mvt (.int .i64 (d : Nat)) rfl) ?_
                refine p (iaa arr71 rfl rfl (by omega)) ?_
                refine p (ld ag48 rfl (show _ = some (Value.slice aj (rgW (fnd ws k.toNat (wrds a 0)) d).length cj) from by rw [Nat.zero_add, Nat.mul_one, Blk.cel ⟨_, hE9.blk hb⟩]; exact hvd)) ?_
                refine p (lnl u48 rfl rfl) ?_
                refine p (lt rfl rfl) ?_
                refine p mv ?_
                refine gs (t := 86) rfl (fun hg86 => ?_) (fun hg86 => ?_)
                · refine pg rfl rfl rfl (mvt (.slice oa2 on2_ oc2_) rfl) ?_
                  refine pg rfl rfl rfl (lnl u39 rfl rfl) ?_
                  refine pg rfl rfl rfl (mvt (.int .i64 most) rfl) ?_
                  refine pg rfl rfl rfl (lt rfl rfl) ?_
                  refine p (pkt rfl) ?_
                  refine nl ?_
                  refine tn (hK25 _ _ ?_)
                  refine cd rfl (fun hc91 => ?_) (fun hc91 => ?_)
                  · refine skp ?_
                    refine tn (hK24 _ _ ?_)
                    refine sq (fun K26 hK26 => ?_)
                    refine blk ?_
                    obtain ⟨t, hti⟩ : ∃ t, (rgW (fnd ws k.toNat (wrds a 0)) d)[i]? = some t := ⟨_, List.getElem?_eq_getElem (by omega)⟩
                    have hmo := ring_more (m := most.toNat) hti (by rw [← hon2]; omega)
                    have hon3 : on2_ ≤ 131072 := by
                      rw [hon2, List.length_take, List.length_append, List.length_take]
                      have := rings_len (fnd ws k.toNat (wrds a 0)) d
                      rw [rg_len] at hrl; omega
                    refine rg ?_
                    refine p (mvt (.slice oa2 on2_ oc2_) rfl) ?_
                    refine p (mvt (.int .i64 (d : Nat)) rfl) ?_
                    refine p (iaa arr71 rfl rfl (by omega)) ?_
                    refine p (ld ag48 rfl (show _ = some (Value.slice aj (rgW (fnd ws k.toNat (wrds a 0)) d).length cj) from by rw [Nat.zero_add, Nat.mul_one, Blk.cel ⟨_, hE9.blk hb⟩]; exact hvd)) ?_
                    refine p (mvt (.int .i64 (i : Nat)) rfl) ?_
                    refine p (ia' es48 rfl rfl (by omega) (Cells.ok (hcd.wk hE9) (ne_map (by omega)))) ?_
                    refine p (ld ag9 rfl ((hcd.wk hE9).at1 (i := i) (u := str t) (by rw [List.getElem?_map, hti]; rfl))) ?_
                    refine p (mvt (.int .i64 (d : Nat)) rfl) ?_
                    refine p (bld (ps := [(0, str t), (1, .int .i64 (d : Nat))]) (L := [str t, .int .i64 (d : Nat)]) st46 rfl (rfl)) ?_
                    refine e (bsa so39 rfl rfl rfl fun b103 w103 hb103 hN103 hB103 => ?_)
                    have hB103x : Blk w103.heap b103 [str t, .int .i64 (d : Nat)] := hB103
                    have hE103 : Wk wQ w103 := Md.trans hE9 hN103.md
                    refine e (ap so39 (own_nw ho9 hN103.md) rfl (hE103.size) rfl (Cells.of_blk hB103x) (rfl) (rfl) (by omega) (by omega) fun v104 w104 ho104 hM104 hz104 hf104 => ?_)
                    have hE104 := Wk.own hE103 (own_nw ho9 hN103.md) hM104 (Nat.le_refl _)
                    obtain ⟨on2, oc2, rfl⟩ := own_slice ho104
                    refine p asg ?_
                    refine nl ?_
                    refine bn ?_
                    refine tn (hK26 _ _ ?_)
                    refine rg ?_
                    refine p (mvt (.int .i64 (i : Nat)) rfl) ?_
                    refine p (ad rfl rfl (wi64 (by omega))) ?_
                    refine p asg ?_
                    refine nl ?_
                    refine tn ?_
                    exact ⟨_, by omega, i + 1, on2, on2_ + 1, oc2, (by omega), hE104, ((by rw [hmo, List.length_append, ← hon2]; rfl)), ((by rw [hmo, nfl_app]; exact ho104)), rfl, rfl, rfl, rfl, rfl, rfl, rfl, rfl, rfl, rfl⟩
                  · refine ext ?_
                    refine te _ ?_
                    refine te _ ?_
                    refine be ?_
                    refine bn ?_
                    refine tn (hK22 _ _ ?_)
                    refine rg ?_
                    refine p (mvt (.int .i64 (d : Nat)) rfl) ?_
                    refine p (ad rfl rfl (wi64 (by omega))) ?_
                    refine p asg ?_
                    refine nl ?_
                    refine tn ?_
                    exact ⟨_, by omega, d + 1, oa2, on2_, oc2_, (by omega), hE9, ((by rw [ring_stop (i := i) (by rw [← hon2]; omega)]; exact hon2)), ((by rw [ring_stop (i := i) (by rw [← hon2]; omega)]; exact ho9)), rfl, rfl, rfl, rfl, rfl, rfl, rfl, rfl, rfl⟩
                · refine sk rfl rfl rfl rfl ?_
                  refine sk rfl rfl rfl rfl ?_
                  refine sk rfl rfl rfl rfl ?_
                  refine sk rfl rfl rfl rfl ?_
                  refine p (pkf rfl) ?_
                  refine nl ?_
                  refine tn (hK25 _ _ ?_)
                  refine cf rfl ?_
                  refine ext ?_
                  refine te _ ?_
                  refine te _ ?_
                  refine be ?_
                  refine bn ?_
                  refine tn (hK22 _ _ ?_)
                  refine rg ?_
                  refine p (mvt (.int .i64 (d : Nat)) rfl) ?_
                  refine p (ad rfl rfl (wi64 (by omega))) ?_
                  refine p asg ?_
                  refine nl ?_
                  refine tn ?_
                  exact ⟨_, by omega, d + 1, oa2, on2_, oc2_, (by omega), hE9, ((by rw [ring_end (i := i) _ (by omega)]; exact hon2)), ((by rw [ring_end (i := i) _ (by omega)]; exact ho9)), rfl, rfl, rfl, rfl, rfl, rfl, rfl, rfl, rfl⟩
              · refine ext ?_
                refine te _ ?_
                refine te _ ?_
                refine be ?_
                refine tn (hK18 _ _ ?_)
                refine sq (fun K22 hK22 => ?_)
                rw [show d = k.toNat + 1 by omega, ← isort_rings (n := k.toNat + 1) (fun q hq => by have := (fnd_mem hq).2.2; omega)] at hon ho5
                refine rg ?_
                refine p (mvt (.slice oa on oc) rfl) ?_
                refine p (ast (.slice oa on oc) rfl) ?_
                refine p asg ?_
                refine nl ?_
                refine tn (hK22 _ _ ?_)
                refine rt ?_
                refine f2 rfl rfl rfl ?_
                have hw : withE a ws k most = ((isort (fnd ws k.toNat (wrds a 0))).take most.toNat, 0) := by rw [with5 hsh (by omega) (by omega) (by omega), found_root]
                refine ⟨.slice oa on oc, by show Value.tuple #[.slice oa on oc, .int .i64 0] = _; rw [hw], ?_, Md.trans hEw (Md.trans hEQ hE5)⟩
                rw [hw]
                exact ⟨oa, oc, by rw [hon], (own_cellsS ho5).2⟩
end Go.Hb.RWithin
