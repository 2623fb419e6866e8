/-
  Walk of near.Within. No conditions but those that each theorem names.
-/
import Derived.Test.YtbfcjgfnlcbojaaChecked
import Derived.Test.YtbfcjgfnlcbojaaCore
import Derived.Test.YtbfcjgfnlcbojaaDist
import Derived.Test.YtbfcjgfnlcbojaaShape
import Derived.Test.YtbfcjgfnlcbojaaCounts
import Derived.Test.YtbfcjgfnlcbojaaFind
import Derived.Test.YtbfcjgfnlcbojaaSortN
import Derived.Test.YtbfcjgfnlcbojaaSymm
import Derived.Test.YtbfcjgfnlcbojaaStable
import Derived.Test.YtbfcjgfnlcbojaaPlan
import Derived.Test.YtbfcjgfnlcbojaaNrp
set_option maxRecDepth 20000
set_option linter.unusedVariables false
namespace Go.Hb.Within
open Go.Proofs
open Go.Hb.Dist Go.Hb.Shape Go.Hb.Counts Go.Hb.Find Go.Hb.SortN Go.Hb.Symm Go.Hb.Stable
theorem ag35 : aggN Try.prog 35 = some none := by kernel_rfl
theorem c19 : Callable Try.prog 19 := callable Try.func19 (by kernel_rfl) (by kernel_rfl)
theorem c22 : Callable Try.prog 22 := callable Try.func22 (by kernel_rfl) (by kernel_rfl)
theorem c23 : Callable Try.prog 23 := callable Try.func23 (by kernel_rfl) (by kernel_rfl)
theorem c24 : Callable Try.prog 24 := callable Try.func24 (by kernel_rfl) (by kernel_rfl)
theorem c27 : Callable Try.prog 27 := callable Try.func27 (by kernel_rfl) (by kernel_rfl)
theorem es35 : elemSize Try.prog 35 = some 2 := by kernel_rfl
theorem fo63_4 : fieldOff Try.prog 63 4 = some 4 := by kernel_rfl
theorem st63 : structOk Try.prog 63 = some ([(0, 1), (1, 1), (2, 1), (3, 1), (4, 1)], [.slice none 0 0, .string ⟨⟨[]⟩⟩, .int .i64 0, .slice none 0 0, .slice none 0 0]) := by kernel_rfl
theorem u9 : Try.prog.underlying 9 = some (.string) := by kernel_rfl
theorem u35 : Try.prog.underlying 35 = some (.slice 45) := by kernel_rfl
theorem wide : Try.prog.follows .mixedOrders = true := by kernel_rfl

/-- what Within answers -/
def withE (a : List EnI) (ws : List UInt8) (k most : Int) : List Nr × Int :=
  if shaped a = false then ([], 190) else if 255 < ws.length then ([], 22) else if k < 0 ∨ 3 < k then ([], 2) else if 65536 < cnt a 0 then ([], 191)
  else ((isort (foundAt a ws k.toNat [] 0)).take most.toNat, 0)
theorem cntE_cases (a : List EnI) : (shaped a = false ∧ cntE a = (0, 190)) ∨ (shaped a = true ∧ cnt a 0 ≤ 1099511627776 ∧ cntE a = (((cnt a 0 : Nat) : Int), 0)) ∨ (shaped a = true ∧ 1099511627776 < cnt a 0 ∧ cntE a = (0, 191)) := by
  unfold cntE
  cases h : shaped a with
  | false => exact .inl ⟨rfl, rfl⟩
  | true =>
    rw [if_pos rfl]
    by_cases h1 : cnt a 0 ≤ 1099511627776
    · exact .inr (.inl ⟨rfl, h1, if_pos h1⟩)
    · exact .inr (.inr ⟨rfl, by omega, if_neg h1⟩)
section
variable {a : List EnI} {ws : List UInt8} {k most : Int}
theorem with1 (h : shaped a = false) : withE a ws k most = ([], 190) := by unfold withE; rw [if_pos h]
theorem with2 (h : shaped a = true) (h2 : 255 < ws.length) : withE a ws k most = ([], 22) := by unfold withE; rw [if_neg (by rw [h]; exact Bool.noConfusion), if_pos h2]
theorem with3 (h : shaped a = true) (h2 : ¬ 255 < ws.length) (h3 : k < 0 ∨ 3 < k) : withE a ws k most = ([], 2) := by unfold withE; rw [if_neg (by rw [h]; exact Bool.noConfusion), if_neg h2, if_pos h3]
theorem with4 (h : shaped a = true) (h2 : ¬ 255 < ws.length) (h3 : ¬ (k < 0 ∨ 3 < k)) (h4 : 65536 < cnt a 0) : withE a ws k most = ([], 191) := by unfold withE; rw [if_neg (by rw [h]; exact Bool.noConfusion), if_neg h2, if_neg h3, if_pos h4]
theorem with5 (h : shaped a = true) (h2 : ¬ 255 < ws.length) (h3 : ¬ (k < 0 ∨ 3 < k)) (h4 : ¬ 65536 < cnt a 0) : withE a ws k most = ((isort (foundAt a ws k.toNat [] 0)).take most.toNat, 0) := by unfold withE; rw [if_neg (by rw [h]; exact Bool.noConfusion), if_neg h2, if_neg h3, if_neg h4]
end
theorem nfl_take (l : List Nr) (n : Nat) : nfl (l.take n) = (nfl l).take (n * 2) := by
  have h : nfl l = nfl (l.take n) ++ nfl (l.drop n) := by rw [← nfl_app, List.take_append_drop]
  rcases Nat.lt_or_ge l.length n with h1 | h1
  · rw [List.take_of_length_le (by omega), List.take_of_length_le (by rw [nfl_len]; omega)]
  · have h2 := congrArg (List.take (n * 2)) h
    rw [List.take_append_of_le_length (by rw [nfl_len, List.length_take]; omega), List.take_of_length_le (l := nfl (l.take n)) (by rw [nfl_len, List.length_take]; omega)] at h2
    exact h2.symm
/-- a row of near words that can be read -/
def NrAt (h : Array Obj) (v : Value) (l : List Nr) : Prop := ∃ ad cp, v = .slice ad l.length cp ∧ Cells h ad (nfl l)
theorem NrAt.nil (h : Array Obj) : NrAt h (.slice none 0 0) [] := ⟨none, 0, rfl, Cells.nil _ _⟩
theorem NrAt.wk {w w' : World} {v : Value} {l : List Nr} (h : NrAt w.heap v l) (hm : Wk w w') : NrAt w'.heap v l := by
  obtain ⟨ad, cp, hv, hc⟩ := h; exact ⟨ad, cp, hv, hc.wk hm⟩

theorem clip_w (aD : Option Addr) (n cp : Nat) (w : World) (h : n ≤ cp) :
    Ret Try.prog 27 (List.toArray [.slice aD n cp]) w (fun v w' => v = .slice aD n n ∧ Wk w w') := by
  refine enter Try.func27 rfl Try.ntmps27 rfl ?_
  refine sq (fun K1 hK1 => ?_)
  refine rg ?_
  refine p asg ?_
  refine nl ?_
  refine tn (hK1 _ _ ?_)
  refine sq (fun K2 hK2 => ?_)
  refine rg ?_
  refine p (mvt (.slice aD n cp) rfl) ?_
  refine p (mvt (.slice aD n cp) rfl) ?_
  refine p (lnl u35 rfl rfl) ?_
  refine p (mvt (.slice aD n cp) rfl) ?_
  refine p (lnl u35 rfl rfl) ?_
  refine p (clp es35 rfl rfl rfl h) ?_
  refine p asg ?_
  refine nl ?_
  refine tn (hK2 _ _ ?_)
  refine rt ?_
  refine f1 rfl rfl ?_
  exact ⟨rfl, Md.refl _ _⟩
set_option maxHeartbeats 1000000 in
theorem within_w (a : List EnI) (aa : Option Addr) (cA : Nat) (ws : List UInt8) (k most : Int) (w : World) (hA : StI w.heap aa a) (hal : a.length ≤ 140737488355328) (hes : ∀ i, i < a.length → (stOf a i).2.length ≤ 1073741824) (hws : ws.length ≤ 1073741824) :
    Ret Try.prog 13 (List.toArray [.slice aa a.length cA, str ws, .int .i64 k, .int .i64 most]) w (fun v w' => ∃ nr, v = .tuple #[nr, .int .i64 (withE a ws k most).2] ∧ NrAt w'.heap nr (withE a ws k most).1 ∧ Wk w w') := by
  refine enter Try.func13 rfl Try.ntmps13 rfl ?_
  refine sq (fun K1 hK1 => ?_)
  refine rg ?_
  refine p asg ?_
  refine p asg ?_
  refine nl ?_
  refine tn (hK1 _ _ ?_)
  refine sq (fun K2 hK2 => ?_)
  refine rg ?_
  refine p (mvt (.slice aa a.length cA) rfl) ?_
  refine e (cl c22 (count_w a aa cA _ hA hal hes) rfl fun v15 w15 hR15 => ?_)
  obtain ⟨rfl, hE15⟩ := hR15
  have hcc := cntE_cases a
  refine p mv ?_
  refine p (xt rfl rfl) ?_
  refine p (xt rfl rfl) ?_
  refine p asg ?_
  refine p asg ?_
  refine nl ?_
  refine tn (hK2 _ _ ?_)
  refine sq (fun K3 hK3 => ?_)
  refine blk ?_
  refine sq (fun K4 hK4 => ?_)
  refine rg ?_
  refine p mv ?_
  refine p (eqi rfl rfl) ?_
  refine p asg ?_
  refine nl ?_
  refine tn (hK4 _ _ ?_)
  refine cd rfl (fun hc18 => ?_) (fun hc18 => ?_)
  · have hsh : shaped a = false := by
      rcases hcc with h | h | h
      · exact h.1
      · rw [h.2.2] at hc18; cases hc18
      · rw [h.2.2] at hc18; cases hc18
    refine sq (fun K5 hK5 => ?_)
    refine rg ?_
    refine p mv ?_
    refine p asg ?_
    refine p asg ?_
    refine nl ?_
    refine tn (hK5 _ _ ?_)
    refine rt ?_
    refine br ?_
    refine tr ?_
    refine f2 rfl rfl rfl ?_
    have hw : withE a ws k most = ([], 190) := with1 hsh
    exact ⟨.slice none 0 0, by show Value.tuple #[.slice none 0 0, .int .i64 (cntE a).2] = _; rw [hw, hc18], by rw [hw]; exact NrAt.nil _, hE15⟩
  · have hsh : shaped a = true := by
      rcases hcc with h | h | h
      · rw [h.2] at hc18; exact absurd rfl hc18
      · exact h.1
      · exact h.1
    refine sq (fun K5 hK5 => ?_)
    refine rg ?_
    refine p (mvt (str ws) rfl) ?_
    refine p (lns u9 rfl rfl) ?_
    refine p (gt rfl rfl) ?_
    refine p asg ?_
    refine nl ?_
    refine tn (hK5 _ _ ?_)
    refine cd rfl (fun hc22 => ?_) (fun hc22 => ?_)
    · refine sq (fun K6 hK6 => ?_)
      refine rg ?_
      refine p asg ?_
      refine p asg ?_
      refine nl ?_
      refine tn (hK6 _ _ ?_)
      refine rt ?_
      refine br ?_
      refine tr ?_
      refine f2 rfl rfl rfl ?_
      have hw : withE a ws k most = ([], 22) := with2 hsh (by omega)
      exact ⟨.slice none 0 0, by show Value.tuple #[.slice none 0 0, .int .i64 22] = _; rw [hw], by rw [hw]; exact NrAt.nil _, hE15⟩
    · refine sq (fun K6 hK6 => ?_)
      refine rg ?_
      refine p (mvt (.int .i64 k) rfl) ?_
      refine p (lt rfl rfl) ?_
      refine p mv ?_
      refine gs (t := 29) rfl (fun hg29 => ?_) (fun hg29 => ?_)
      · refine sk rfl rfl rfl rfl ?_
        refine sk rfl rfl rfl rfl ?_
        refine p (pkt rfl) ?_
        refine p asg ?_
        refine nl ?_
        refine tn (hK6 _ _ ?_)
        refine ct rfl ?_
        refine sq (fun K7 hK7 => ?_)
        refine rg ?_
        refine p asg ?_
        refine p asg ?_
        refine nl ?_
        refine tn (hK7 _ _ ?_)
        refine rt ?_
        refine br ?_
        refine tr ?_
        refine f2 rfl rfl rfl ?_
        have hw : withE a ws k most = ([], 2) := with3 hsh (by omega) (by omega)
        exact ⟨.slice none 0 0, by show Value.tuple #[.slice none 0 0, .int .i64 2] = _; rw [hw], by rw [hw]; exact NrAt.nil _, hE15⟩
      · refine pg rfl rfl rfl (mvt (.int .i64 k) rfl) ?_
        refine pg rfl rfl rfl (gt rfl rfl) ?_
        refine p (pkf rfl) ?_
        refine p asg ?_
        refine nl ?_
        refine tn (hK6 _ _ ?_)
        refine cd rfl (fun hc26 => ?_) (fun hc26 => ?_)
        · refine sq (fun K7 hK7 => ?_)
          refine rg ?_
          refine p asg ?_
          refine p asg ?_
          refine nl ?_
          refine tn (hK7 _ _ ?_)
          refine rt ?_
          refine br ?_
          refine tr ?_
          refine f2 rfl rfl rfl ?_
          have hw : withE a ws k most = ([], 2) := with3 hsh (by omega) (by omega)
          exact ⟨.slice none 0 0, by show Value.tuple #[.slice none 0 0, .int .i64 2] = _; rw [hw], by rw [hw]; exact NrAt.nil _, hE15⟩
        · refine sq (fun K7 hK7 => ?_)
          refine rg ?_
          refine p mv ?_
          refine p (nei rfl rfl) ?_
          refine p mv ?_
          refine gs (t := 36) rfl (fun hg36 => ?_) (fun hg36 => ?_)
          · refine sk rfl rfl rfl rfl ?_
            refine sk rfl rfl rfl rfl ?_
            refine p (pkt rfl) ?_
            refine p asg ?_
            refine nl ?_
            refine tn (hK7 _ _ ?_)
            refine ct rfl ?_
            refine sq (fun K8 hK8 => ?_)
            refine rg ?_
            refine p asg ?_
            refine p asg ?_
            refine nl ?_
            refine tn (hK8 _ _ ?_)
            refine rt ?_
            refine br ?_
            refine tr ?_
            refine f2 rfl rfl rfl ?_
            have hw : withE a ws k most = ([], 191) := with4 hsh (by omega) (by omega) (by
              rcases hcc with h | h | h
              · rw [h.1] at hsh; cases hsh
              · rw [h.2.2] at hg36; exact absurd rfl hg36
              · omega)
            exact ⟨.slice none 0 0, by show Value.tuple #[.slice none 0 0, .int .i64 191] = _; rw [hw], by rw [hw]; exact NrAt.nil _, hE15⟩
          · refine pg rfl rfl rfl mv ?_
            refine pg rfl rfl rfl (gt rfl rfl) ?_
            refine p (pkf rfl) ?_
            refine p asg ?_
            refine nl ?_
            refine tn (hK7 _ _ ?_)
            refine cd rfl (fun hc33 => ?_) (fun hc33 => ?_)
            · refine sq (fun K8 hK8 => ?_)
              refine rg ?_
              refine p asg ?_
              refine p asg ?_
              refine nl ?_
              refine tn (hK8 _ _ ?_)
              refine rt ?_
              refine br ?_
              refine tr ?_
              refine f2 rfl rfl rfl ?_
              have hw : withE a ws k most = ([], 191) := with4 hsh (by omega) (by omega) (by
                rcases hcc with h | h | h
                · rw [h.1] at hsh; cases hsh
                · rw [h.2.2] at hc33; simp only at hc33; omega
                · omega)
              exact ⟨.slice none 0 0, by show Value.tuple #[.slice none 0 0, .int .i64 191] = _; rw [hw], by rw [hw]; exact NrAt.nil _, hE15⟩
            · refine skp ?_
              refine bn ?_
              refine tn (hK3 _ _ ?_)
              refine sq (fun K8 hK8 => ?_)
              obtain ⟨l, hS⟩ := shaped_shp hsh
              have hcn : cnt a 0 ≤ 65536 := by
                rcases hcc with h | h | h
                · rw [h.1] at hsh; cases hsh
                · have h9 := h.2.2
                  rw [h9] at hc33; simp only at hc33; omega
                · have h9 := h.2.2
                  rw [h9] at hg36; simp at hg36
              refine rg ?_
              refine p (mvt (.slice aa a.length cA) rfl) ?_
              refine p (mvt (str ws) rfl) ?_
              refine p (mvt (.int .i64 k) rfl) ?_
              refine p (bld (ps := [(0, .slice aa a.length cA), (1, str ws), (2, .int .i64 k)]) (L := [.slice aa a.length cA, str ws, .int .i64 k, .slice none 0 0, .slice none 0 0]) st63 rfl (rfl)) ?_
              refine e (bxaT rfl fun b44 w44 hb44 hN44 hB44 => ?_)
              refine p asg ?_
              refine nl ?_
              refine tn (hK8 _ _ ?_)
              refine sq (fun K9 hK9 => ?_)
              refine rg ?_
              refine p mv ?_
              refine p (mvt (str ws) rfl) ?_
              refine e (cl c19 (begin_w ws _ (by omega)) rfl fun v47 w47 hR47 => ?_)
              obtain ⟨hE47, hr47⟩ := hR47
              obtain ⟨ar, cr, rfl, _⟩ := hr47.of
              have hE47x : Wk w15 w47 := Md.trans hN44.md hE47
              have hD47 : FD w47 w15.heap.size b44 aa a.length cA ws k.toNat (.slice none 0 0) (.slice none 0 0) [] [] := ⟨by rw [show ((k.toNat : Nat) : Int) = k by omega]; exact hE47.blk hB44, by omega, World.ownsRow_nil _ _ _ _, World.ownsRow_nil _ _ _ _⟩
              have hfl : (foundAt a ws k.toNat [] 0).length ≤ 65536 := by
                refine Nat.le_trans (fnd_len _ _ _) ?_
                rw [List.length_map]
                unfold cnt at hcn; omega
              have hpos := hS.pos
              have hsz44 := hN44.size
              refine e (cl c23 (fvisit_w (l.idxOf 0 + 1) a l aa cA ws k.toNat w15 b44 _ _ [] [] 0 ar cr _ hS (hA.wk hE15) hE47x hD47 (own_mono hr47 (by omega)) hpos (by omega) (by have := hS.rk hpos; simp only [List.length_nil]; omega) (by simp only [List.length_nil]; omega) hws (by omega)) rfl fun v48 w48 hR48 => ?_)
              obtain ⟨_, wv, ov, hD48, hM48, hf48⟩ := hR48
              rw [List.nil_append] at hD48
              obtain ⟨oa, oc, hov⟩ := own_slice hD48.ou
              have hE48 : Wk w15 w48 := Md.trans' hE47x hM48 (fun q h1 h2 => by have := (hD47.lt h2).1; omega)
              refine nl ?_
              refine tn (hK9 _ _ ?_)
              refine sq (fun K10 hK10 => ?_)
              refine rg ?_
              refine p mv ?_
              refine p (nc rfl) ?_
              refine p (fa fo63_4 rfl) ?_
              refine p (ld ag35 rfl (show _ = some (Value.slice oa (foundAt a ws k.toNat [] 0).length oc) from hov ▸ Blk.cel ⟨_, hD48.blk⟩ 4)) ?_
              refine e (cl c24 (sort_w (foundAt a ws k.toNat [] 0) w15.heap.size _ oc oa _ (hov ▸ hD48.ou) (by omega)) rfl fun v53 w53 hR53 => ?_)
              obtain ⟨_, hO53, hM53⟩ := hR53
              have hb53 := hM53.blk hD48.blk (fun h => own_cellne' (hov ▸ hD48.ou) hD48.blk (by decide) h)
              have hE53 : Wk w15 w53 := Wk.own hE48 (hov ▸ hD48.ou) hM53 (Nat.le_refl _)
              have hcap := (own_cellsS hO53).1
              refine nl ?_
              refine tn (hK10 _ _ ?_)
              refine sq (fun K11 hK11 => ?_)
              have hS13 : (fun w' => Wk w53 w') w53.drew := (Md.refl _ _).drew
              refine hst (fun w' => Wk w53 w') wide hS13 ?_
              refine hp 0 rfl (by kernel_rfl) (fun _ _ => mv) hS13 ?_
              refine hp 1 rfl (by kernel_rfl) (fun _ _ => nc rfl) hS13 ?_
              refine hp 2 rfl (by kernel_rfl) (fun _ _ => fa fo63_4 rfl) hS13 ?_
              refine hp 3 rfl (by kernel_rfl) (fun w' hS => ld ag35 rfl (Wk.cel hS (show _ = some (Value.slice oa (foundAt a ws k.toNat [] 0).length oc) from hov ▸ Blk.cel ⟨_, hb53⟩ 4))) hS13 ?_
              refine hp 4 rfl (by kernel_rfl) (fun _ _ => mvt (.int .i64 most) rfl) hS13 ?_
              refine hp 5 rfl (by kernel_rfl) (fun _ _ => mv) hS13 ?_
              refine hp 6 rfl (by kernel_rfl) (fun _ _ => nc rfl) hS13 ?_
              refine hp 7 rfl (by kernel_rfl) (fun _ _ => fa fo63_4 rfl) hS13 ?_
              refine hp 8 rfl (by kernel_rfl) (fun w' hS => ld ag35 rfl (Wk.cel hS (show _ = some (Value.slice oa (foundAt a ws k.toNat [] 0).length oc) from hov ▸ Blk.cel ⟨_, hb53⟩ 4))) hS13 ?_
              refine hp 9 rfl (by kernel_rfl) (fun _ _ => lnl u35 rfl rfl) hS13 ?_
              refine hp 10 rfl (by kernel_rfl) (fun _ _ => mn rfl rfl) hS13 ?_
              refine hp 11 rfl (by kernel_rfl) (fun _ _ => mx rfl rfl) hS13 ?_
              refine hp 12 rfl (by kernel_rfl) (fun _ _ => sllh es35 rfl rfl (by omega)) hS13 ?_
              refine he 13 rfl (by kernel_rfl) (cl c27 (clip_w oa _ oc _ (by omega)) rfl fun v67 w67 hR67 => ?_)
              obtain ⟨rfl, hE67⟩ := hR67
              have hS13_13 : (fun w' => Wk w53 w') w67 := Md.trans hS13 hE67
              refine ⟨hS13_13, ?_⟩
              refine hp 14 rfl (by kernel_rfl) (fun _ _ => asg) hS13_13 ?_
              refine hp 15 rfl (by kernel_rfl) (fun _ _ => asg) hS13_13 ?_
              refine hn (by kernel_rfl) ?_
              refine tn (hK11 _ _ ?_)
              refine rt ?_
              refine f2 rfl rfl rfl ?_
              have hw : withE a ws k most = ((isort (foundAt a ws k.toNat [] 0)).take most.toNat, 0) := with5 hsh (by omega) (by omega) (by omega)
              have hfl2 := isort_len (foundAt a ws k.toNat [] 0)
              refine ⟨.slice oa (max 0 (min most ((foundAt a ws k.toNat [] 0).length : Int))).toNat (max 0 (min most ((foundAt a ws k.toNat [] 0).length : Int))).toNat, by show Value.tuple #[.slice oa (max 0 (min most ((foundAt a ws k.toNat [] 0).length : Int))).toNat (max 0 (min most ((foundAt a ws k.toNat [] 0).length : Int))).toNat, .int .i64 0] = _; rw [hw], ?_, Md.trans hE15 (Md.trans hE53 hS13_13)⟩
              rw [hw]
              refine ⟨oa, _, by congr 1; rw [List.length_take]; omega, ?_⟩
              rw [nfl_take]
              exact ((own_cellsS hO53).2.wk hS13_13).take _
end Go.Hb.Within
