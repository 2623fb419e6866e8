/-
  Walk of hornbooklaw18.DawgPieces. No conditions but those that each theorem names.
-/
import Derived.Test.YtkgdlnnmkpgfdaaChecked
import Derived.Test.YtkgdlnnmkpgfdaaEff
import Derived.Test.YtkgdlnnmkpgfdaaRef08
import Derived.Test.YtkgdlnnmkpgfdaaVisit
import Derived.Test.YtkgdlnnmkpgfdaaReg
import Derived.Test.YtkgdlnnmkpgfdaaCut
import Derived.Test.YtkgdlnnmkpgfdaaBuild
import Derived.Test.YtkgdlnnmkpgfdaaAdd
import Derived.Test.YtkgdlnnmkpgfdaaAdds
import Derived.Test.YtkgdlnnmkpgfdaaAsked
import Derived.Test.YtkgdlnnmkpgfdaaNumb
import Derived.Test.YtkgdlnnmkpgfdaaFin
import Derived.Test.YtkgdlnnmkpgfdaaRfrz
import Derived.Test.YtkgdlnnmkpgfdaaSame
import Derived.Test.YtkgdlnnmkpgfdaaLawA
import Derived.Test.YtkgdlnnmkpgfdaaLawB
import Derived.Test.YtkgdlnnmkpgfdaaPlay
import Derived.Test.YtkgdlnnmkpgfdaaStep
import Derived.Test.YtkgdlnnmkpgfdaaPlays
import Derived.Test.YtkgdlnnmkpgfdaaStr
import Derived.Test.YtkgdlnnmkpgfdaaPure
import Derived.Test.YtkgdlnnmkpgfdaaDawg
import Derived.Test.YtkgdlnnmkpgfdaaVis
import Derived.Test.YtkgdlnnmkpgfdaaRow
import Derived.Test.YtkgdlnnmkpgfdaaNode
import Derived.Test.YtkgdlnnmkpgfdaaMap
import Derived.Test.YtkgdlnnmkpgfdaaAuto
import Derived.Test.YtkgdlnnmkpgfdaaLast
import Derived.Test.YtkgdlnnmkpgfdaaTag
import Derived.Test.YtkgdlnnmkpgfdaaFrz
import Derived.Test.YtkgdlnnmkpgfdaaSet
import Derived.Test.YtkgdlnnmkpgfdaaPost
import Derived.Test.YtkgdlnnmkpgfdaaBulk
import Derived.Test.YtkgdlnnmkpgfdaaOpens
set_option maxRecDepth 20000
set_option linter.unusedVariables false
namespace Go.Hb.Pieces
open Go.Proofs
open Go.Hb.Ref08 Go.Hb.Visit Go.Hb.Reg Go.Hb.Cut Go.Hb.Build Go.Hb.Add Go.Hb.Adds Go.Hb.Asked Go.Hb.Numb Go.Hb.Fin Go.Hb.Rfrz Go.Hb.Same Go.Hb.LawA Go.Hb.LawB Go.Hb.Play Go.Hb.Step Go.Hb.Plays
theorem ag9 : aggN Try.prog 9 = some none := by kernel_rfl
theorem c13 : Callable Try.prog 13 := callable Try.func13 (by kernel_rfl) (by kernel_rfl)
theorem c14 : Callable Try.prog 14 := callable Try.func14 (by kernel_rfl) (by kernel_rfl)
theorem c15 : Callable Try.prog 15 := callable Try.func15 (by kernel_rfl) (by kernel_rfl)
theorem c16 : Callable Try.prog 16 := callable Try.func16 (by kernel_rfl) (by kernel_rfl)
theorem c21 : Callable Try.prog 21 := callable Try.func21 (by kernel_rfl) (by kernel_rfl)
theorem c22 : Callable Try.prog 22 := callable Try.func22 (by kernel_rfl) (by kernel_rfl)
theorem c23 : Callable Try.prog 23 := callable Try.func23 (by kernel_rfl) (by kernel_rfl)
theorem es22 : elemSize Try.prog 22 = some 1 := by kernel_rfl
theorem so22 : sliceOk Try.prog 22 9 1 16 = true := by kernel_rfl
theorem u22 : Try.prog.underlying 22 = some (.slice 9) := by kernel_rfl
theorem u23 : Try.prog.underlying 23 = some (.slice 40) := by kernel_rfl
theorem u32 : Try.prog.underlying 32 = some (.slice 64) := by kernel_rfl
theorem u45 : Try.prog.underlying 45 = some (.pointer 84) := by kernel_rfl

theorem addPn_w (n : Nat) (b : Nat) (most : Int) (ws : Tl) (st : Int) (A : Nat → Prop) (l : Tl) (aw : Option Addr) (cw : Nat) (w : World) (hn : l.length = n) (hP : PB w b most ws st A) (hf : Fit ws) (hS : Strs w.heap aw l) (hsep : l.map str ≠ [] → ¬ A (bk aw)) (hl : ws.length + l.length ≤ 134217728) (hA : ∀ k, A k → k < w.heap.size) :
    Ret Try.prog 22 (List.toArray [.pointer (some ⟨b, 0, none⟩), .slice aw n cw]) w (fun v w' => v = .int .i64 (bookAdd most ws st l).1 ∧ Md A w w' ∧ ∃ A', PB w' b most (bookAdd most ws st l).2.1 (bookAdd most ws st l).2.2 A' ∧ (∀ k, A' k → A k ∨ w.heap.size ≤ k) ∧ (∀ k, A' k → k < w'.heap.size)) := by
  subst hn
  exact addP_w b most ws st A l aw cw w hP hf hS hsep hl hA
/-- a new builder -/
theorem pb_new {w : World} {b m pp n : Nat} {most : Int} {vp : Value} (hD : DB w b m most 0 0 [] false vp [pp] [] [⟨pp, .slice none 0 0, false, []⟩] []) (h0 : n ≤ b) (h1 : n ≤ m) (h2 : n ≤ pp) (h3 : ∀ k, vp.ownBlock = some k → n ≤ k) : ∃ A, PB w b most [] 0 A ∧ (∀ k, A k → n ≤ k) ∧ ∀ k, A k → k < w.heap.size :=
  ⟨_, .inl ⟨rfl, m, 0, vp, _, _, ba_new hD, fun k h => h⟩, al_new h0 h1 h2 h3, fun k h => BA.lt (ba_new hD) h⟩
theorem fit_take {ws : Tl} (h : Fit ws) (n : Nat) : Fit (ws.take n) := by
  have := h
  rw [← List.take_append_drop n ws] at this
  exact fit_pre this


theorem bookAdd_fit' {most st : Int} {ws l : Tl} (h : Fit ws) : Fit (bookAdd most ws st l).2.1 := by
  unfold bookAdd
  split
  · exact addW_fit h
  · exact h

set_option maxHeartbeats 2000000 in
theorem pieces_w (l : Tl) (n0 : Int) (a : Option Addr) (cap : Nat) (w : World) (hS : Strs w.heap a l) (hl : l.length + vol l ≤ 1048576) :
    Ret Try.prog 6 (List.toArray [.slice a l.length cap, .int .i64 n0]) w (fun v w' => v = .bool true ∧ Wk w w') := by
  refine enter Try.func6 rfl Try.ntmps6 rfl ?_
  refine sq (fun K1 hK1 => ?_)
  refine rg ?_
  refine p asg ?_
  refine nl ?_
  refine tn (hK1 _ _ ?_)
  refine sq (fun K2 hK2 => ?_)
  refine sq (fun K3 hK3 => ?_)
  refine rg ?_
  refine e (cl c13 (wakes_w _) rfl fun v15 w15 hR15 => ?_)
  obtain ⟨rfl, hE15⟩ := hR15
  refine p (no rfl) ?_
  refine nl ?_
  refine tn (hK3 _ _ ?_)
  refine cf (rfl) ?_
  refine skp ?_
  refine tn (hK2 _ _ ?_)
  refine sq (fun K4 hK4 => ?_)
  refine rg ?_
  refine p (mvt (.slice a l.length cap) rfl) ?_
  refine e (cl c16 (rising_w l a cap _ (hS.wk hE15) (by omega)) rfl fun v18 w18 hR18 => ?_)
  obtain ⟨hE18, ho18⟩ := hR18
  obtain ⟨a5, c5, rfl⟩ := own_slice ho18
  have hS5 : Strs w18.heap a5 (fitS l) := (own_cellsS ho18).2
  have hcap5 := (own_cellsS ho18).1
  have hfl := fitS_len l
  have hfv := fitS_vol l
  have hff := fitS_fit l
  have hpos := aut_pos hff
  have hbl := aut_small hff
  have hE1 : Wk w w18 := Md.trans hE15 hE18
  refine p asg ?_
  refine nl ?_
  refine tn (hK4 _ _ ?_)
  refine sqc (fun σ1 wC5 => ∃ (cn : Nat), (cn ≤ (fitS l).length) ∧ (wC5 = w18) ∧ (σ1 1 = .int .i64 cn) ∧ (σ1 5 = .slice a5 (fitS l).length c5)) ?_ ?_
  · refine rg ?_
    refine p (mvt (.int .i64 n0) rfl) ?_
    refine p mv ?_
    refine p (lnl u22 rfl rfl) ?_
    refine p (mn rfl rfl) ?_
    refine p (mx rfl rfl) ?_
    refine p asg ?_
    refine nl ?_
    refine tn ?_
    exact ⟨(max 0 (min n0 (fitS l).length)).toNat, (by omega), rfl, (iv (by omega)), rfl⟩
  rintro σ1 wC5 ⟨cn, hcn, hw5, hs1_1, hs1_5⟩
  refine fx 1 hs1_1 (fx 5 hs1_5 ?_)
  subst hw5
  refine sq (fun K5 hK5 => ?_)
  refine rg ?_
  refine p (mvt (.slice a5 (fitS l).length c5) rfl) ?_
  refine e (cl c15 (automaton_w (fitS l) a5 c5 _ hS5 hff (by omega) (by omega)) rfl fun v25 w25 hR25 => ?_)
  obtain ⟨hE25, svB, aB, cB, rfl, hoB, hsB⟩ := hR25
  obtain ⟨_, _, hvB, hSB⟩ := SR.of hoB hsB
  simp only [Value.slice.injEq, true_and] at hvB
  obtain ⟨rfl, rfl⟩ := hvB
  have hlB : svB.length = (aut (fitS l)).length := hsB.1.symm
  have hE2 : Wk w w25 := Md.trans hE1 hE25
  refine p asg ?_
  refine nl ?_
  refine tn (hK5 _ _ ?_)
  refine sq (fun K6 hK6 => ?_)
  refine sq (fun K7 hK7 => ?_)
  refine rg ?_
  refine p mv ?_
  refine p (lnl u32 rfl rfl) ?_
  refine p (gt rfl rfl) ?_
  refine nl ?_
  refine tn (hK7 _ _ ?_)
  refine cd rfl (fun hc28 => ?_) (fun hc28 => ?_)
  · refine sq (fun K8 hK8 => ?_)
    refine rg ?_
    refine p asg ?_
    refine nl ?_
    refine tn (hK8 _ _ ?_)
    refine rt ?_
    refine tr ?_
    refine f1 rfl rfl ?_
    exact ⟨rfl, hE2⟩
  · refine skp ?_
    refine tn (hK6 _ _ ?_)
    refine sq (fun K8 hK8 => ?_)
    refine sq (fun K9 hK9 => ?_)
    refine rg ?_
    refine p mv ?_
    refine nl ?_
    refine tn (hK9 _ _ ?_)
    refine blk ?_
    refine lp (fun gm σ2 wL => ∃ (k : Nat), (k ≤ 2) ∧ (Wk w25 wL) ∧ (σ2 1 = .int .i64 cn) ∧ (σ2 5 = .slice a5 (fitS l).length c5) ∧ (σ2 6 = .slice aB svB.length cB) ∧ (σ2 29 = .int .i64 k) ∧ (2 - k = gm)) _ ⟨0, (by omega), (Md.refl _ _), rfl, rfl, rfl, rfl, rfl⟩ ?_
    rintro gm σ2 wL ⟨k, hk, hE, hs2_1, hs2_5, hs2_6, hs2_29, rfl⟩
    refine fx 1 hs2_1 (fx 5 hs2_5 (fx 6 hs2_6 (fx 29 hs2_29 ?_)))
    have hS5L : Strs wL.heap a5 (fitS l) := (hS5.wk hE25).wk hE
    refine sq (fun K10 hK10 => ?_)
    refine rg ?_
    refine p (lt rfl rfl) ?_
    refine nl ?_
    refine tn (hK10 _ _ ?_)
    refine sq (fun K11 hK11 => ?_)
    refine cd rfl (fun hc30 => ?_) (fun hc30 => ?_)
    · refine skp ?_
      refine tn (hK11 _ _ ?_)
      refine sq (fun K12 hK12 => ?_)
      refine blk ?_
      refine sq (fun K13 hK13 => ?_)
      refine rg ?_
      refine p (mvt (.int .i64 k) rfl) ?_
      refine p (ast (.int .i64 k) rfl) ?_
      refine nl ?_
      refine tn (hK13 _ _ ?_)
      refine sq (fun K14 hK14 => ?_)
      refine rg ?_
      refine p (mvt (.slice aB svB.length cB) rfl) ?_
      refine p (lnl u32 rfl rfl) ?_
      refine p (mvt (.int .i64 k) rfl) ?_
      refine p (sbv ((svB.length - k : Nat) : Int) rfl rfl (w64n (by omega) (by omega))) ?_
      refine p (mx rfl rfl) ?_
      refine e (cl c21 (new_w (max 1 ((svB.length - k : Nat) : Int)) _) rfl fun v38 w38 hR38 => ?_)
      obtain ⟨vb, e0, rfl, hE38, _, hnew⟩ := new_cases hR38
      obtain ⟨b, rfl, rfl, m, vp, pp, hD, h0, h1, h2, h3⟩ := hnew (by omega) (by omega)
      obtain ⟨A0, hP0, hA0, hA0l⟩ := pb_new hD h0 h1 h2 h3
      refine p mv ?_
      refine p (xt rfl rfl) ?_
      refine p (xt rfl rfl) ?_
      refine p asg ?_
      refine p asg ?_
      refine nl ?_
      refine tn (hK14 _ _ ?_)
      refine sq (fun K15 hK15 => ?_)
      refine sq (fun K16 hK16 => ?_)
      refine rg ?_
      refine p mv ?_
      refine p (nei rfl rfl) ?_
      refine p mv ?_
      refine gs (t := 43) rfl (fun h => absurd h (fun h => h rfl)) (fun hg43 => ?_)
      refine pg rfl rfl rfl mv ?_
      refine pg rfl rfl rfl (eqpn u45 rfl rfl) ?_
      refine p (pkf rfl) ?_
      refine nl ?_
      refine tn (hK16 _ _ ?_)
      refine cf (rfl) ?_
      refine skp ?_
      refine tn (hK15 _ _ ?_)
      refine sq (fun K17 hK17 => ?_)
      refine rg ?_
      refine p mv ?_
      refine p (mvt (.slice a5 (fitS l).length c5) rfl) ?_
      refine p (mvt (.int .i64 cn) rfl) ?_
      refine p (sllh es22 rfl rfl (by omega)) ?_
      refine e (cl c22 (addPn_w cn b (max 1 ((svB.length - k : Nat) : Int)) ((fitS l).take 0) 0 A0 ((fitS l).take cn) a5 c5 _ (by rw [List.length_take]; omega) hP0 (fit_take hff 0) ((hS5L.wk hE38).take cn) (fun hne h => by have g1 := hA0 _ h; have g2 := Cells.lt hS5L (by intro h0; exact hne (by rw [List.map_take, h0, List.take_nil])); omega) (by rw [List.length_take, List.length_take]; omega) hA0l) rfl fun v51 w51 hR51 => ?_)
      obtain ⟨sti, wsi, hbk, hwl, hst⟩ := book_pre (most := (max 1 ((svB.length - k : Nat) : Int))) (ws := fitS l) (l := (fitS l).take cn) (j := 0) hff (by rw [List.drop_zero, List.length_take, Nat.min_eq_left hcn]) (Nat.zero_le _)
      rw [hbk] at hR51
      obtain ⟨rfl, hM51, A1, hP1, hA1, hA1l⟩ := hR51
      rw [List.length_take, Nat.min_eq_left hcn, Nat.zero_add] at hst hwl
      have hA1x : ∀ k, A1 k → wL.heap.size ≤ k := fun k h => (hA1 k h).elim (hA0 k) (fun h => by have := hE38.size; omega)
      have hE51 : Wk wL w51 := Md.trans' hE38 hM51 (fun k hk h => by have := hA0 k h; omega)
      have hfi1 : Fit wsi := by have h9 := bookAdd_fit' (most := (max 1 ((svB.length - k : Nat) : Int))) (st := 0) (l := (fitS l).take cn) (fit_take hff 0); rw [hbk] at h9; exact h9
      refine p asg ?_
      refine nl ?_
      refine tn (hK17 _ _ ?_)
      refine sq (fun K18 hK18 => ?_)
      refine sq (fun K19 hK19 => ?_)
      refine rg ?_
      refine p (mvt (.slice a5 (fitS l).length c5) rfl) ?_
      refine p (mvt (.int .i64 cn) rfl) ?_
      refine p (slll es22 rfl rfl (by omega)) ?_
      refine p (lnl u22 rfl rfl) ?_
      refine p mv ?_
      refine nl ?_
      refine tn (hK19 _ _ ?_)
      refine blk ?_
      refine lp (fun gm σ3 wM => ∃ (i : Nat) (wsi : Tl) (sti : Int) (A : Nat → Prop), (i ≤ (fitS l).length - cn) ∧ (Wk wL wM) ∧ (PB wM b (max 1 ((svB.length - k : Nat) : Int)) wsi sti A) ∧ (∀ k, A k → wL.heap.size ≤ k) ∧ (∀ k, A k → k < (wM).heap.size) ∧ (Fit wsi) ∧ (wsi.length ≤ cn + i) ∧ ((sti = 0 ∧ wsi = (fitS l).take (cn + i)) ∨ (sti = 181 ∧ (max 1 ((svB.length - k : Nat) : Int)) < ((aut (fitS l)).length : Int))) ∧ (σ3 1 = .int .i64 cn) ∧ (σ3 5 = .slice a5 (fitS l).length c5) ∧ (σ3 6 = .slice aB svB.length cB) ∧ (σ3 29 = .int .i64 k) ∧ (σ3 7 = .int .i64 k) ∧ (σ3 8 = .pointer (some ⟨b, 0, none⟩)) ∧ (σ3 9 = .int .i64 sti) ∧ (σ3 54 = .slice (shf a5 c5 cn 1) ((fitS l).length - cn) (c5 - cn)) ∧ (σ3 55 = .int .i64 ((fitS l).length - cn : Nat)) ∧ (σ3 56 = .int .i64 i) ∧ ((fitS l).length - cn - i = gm)) _ ⟨0, wsi, sti, A1, (by omega), hE51, hP1, hA1x, hA1l, hfi1, (by omega), hst, rfl, rfl, rfl, rfl, rfl, rfl, (iv (by first | rfl | omega)), rfl, (iv (by omega)), rfl, rfl⟩ ?_
      rintro gm σ3 wM ⟨i, wsi, sti, A, hi, hEi, hPi, hAi, hAl, hfi, hwl, hst, hs3_1, hs3_5, hs3_6, hs3_29, hs3_7, hs3_8, hs3_9, hs3_54, hs3_55, hs3_56, rfl⟩
      refine fx 1 hs3_1 (fx 5 hs3_5 (fx 6 hs3_6 (fx 29 hs3_29 (fx 7 hs3_7 (fx 8 hs3_8 (fx 9 hs3_9 (fx 54 hs3_54 (fx 55 hs3_55 (fx 56 hs3_56 ?_)))))))))
      refine sq (fun K20 hK20 => ?_)
      refine rg ?_
      refine p (lt rfl rfl) ?_
      refine nl ?_
      refine tn (hK20 _ _ ?_)
      refine sq (fun K21 hK21 => ?_)
      refine cd rfl (fun hc57 => ?_) (fun hc57 => ?_)
      · refine skp ?_
        refine tn (hK21 _ _ ?_)
        refine sq (fun K22 hK22 => ?_)
        refine blk ?_
        refine sq (fun K23 hK23 => ?_)
        refine rg ?_
        refine p (ia' es22 rfl rfl (by omega) (Cells.ok ((hS5L.wk hEi).drop (by omega)) (ne_map (by rw [List.length_drop]; omega)))) ?_
        refine p (ld ag9 rfl (Strs.get (i := i) ((hS5L.wk hEi).drop (cap := c5) (k := cn) (by omega)) (by rw [List.length_drop]; omega))) ?_
        refine p asg ?_
        refine nl ?_
        refine tn (hK23 _ _ ?_)
        refine sq (fun K24 hK24 => ?_)
        refine rg ?_
        refine p (mvt (.pointer (some ⟨b, 0, none⟩)) rfl) ?_
        refine p mv ?_
        refine e (bs1 so22 rfl rfl fun b62 w62 hb62 hN62 hB62 => ?_)
        have hB62x : Blk w62.heap b62 [str (((fitS l).drop cn).getD i [])] := hB62
        have hE62 : Wk wM w62 := hN62.md
        have hs62 := hN62.size
        refine e (cl c22 (addPn_w 1 b (max 1 ((svB.length - k : Nat) : Int)) wsi sti A [((fitS l).drop cn).getD i []] (some ⟨b62, 0, none⟩) 1 _ rfl (PB.wk hPi hE62) hfi (Cells.of_blk hB62x) (fun _ h => by have h9 := hAl _ h; simp only [bk] at h9; omega) (by simp only [List.length_singleton]; omega) (fun k hk => by have := hAl k hk; omega)) rfl fun v63 w63 hR63 => ?_)
        have hgd : [((fitS l).drop cn).getD i []] = (((fitS l).drop (cn + i)).take 1) := by
          have e : ((fitS l).drop cn).getD i [] = (fitS l).getD (cn + i) [] := by simp [List.getD_eq_getElem?_getD, List.getElem?_drop]
          rw [e, List.drop_eq_getElem_cons (show cn + i < (fitS l).length by omega), ← getD_get [] (show cn + i < (fitS l).length by omega)]; rfl
        obtain ⟨st2, ws2, hbk2, hwl2, hst2⟩ : ∃ st2 ws2, bookAdd (max 1 ((svB.length - k : Nat) : Int)) wsi sti [((fitS l).drop cn).getD i []] = (st2, ws2, st2) ∧ ws2.length ≤ cn + (i + 1) ∧ ((st2 = 0 ∧ ws2 = (fitS l).take (cn + (i + 1)) ∧ sti = 0) ∨ (st2 = 181 ∧ (max 1 ((svB.length - k : Nat) : Int)) < ((aut (fitS l)).length : Int))) := by
          rcases hst with ⟨rfl, rfl⟩ | ⟨rfl, h9⟩
          · obtain ⟨st2, ws2, g1, g2, g3⟩ := book_pre (most := (max 1 ((svB.length - k : Nat) : Int))) (ws := fitS l) (l := [((fitS l).drop cn).getD i []]) (j := cn + i) hff hgd (by omega)
            exact ⟨st2, ws2, g1, g2, g3.imp (fun h => ⟨h.1, h.2, rfl⟩) id⟩
          · exact ⟨181, wsi, by unfold bookAdd; rw [if_neg (by decide)], by omega, .inr ⟨rfl, h9⟩⟩
        rw [hbk2] at hR63
        obtain ⟨rfl, hM63, A2, hP2, hA2, hA2l⟩ := hR63
        have hA2x : ∀ k, A2 k → wL.heap.size ≤ k := fun k h => (hA2 k h).elim (hAi k) (fun h => by have := hEi.size; omega)
        have hE63 : Wk wL w63 := Md.trans' (Md.trans hEi hE62) hM63 (fun k hk h => by have := hAi k h; omega)
        have hfi2 : Fit ws2 := by have h9 := bookAdd_fit' (most := (max 1 ((svB.length - k : Nat) : Int))) (st := sti) (l := [((fitS l).drop cn).getD i []]) hfi; rw [hbk2] at h9; exact h9
        refine p asg ?_
        refine nl ?_
        refine tn (hK24 _ _ ?_)
        refine sq (fun K25 hK25 => ?_)
        refine rg ?_
        refine p (mvt (.int .i64 sti) rfl) ?_
        refine p (eqi rfl rfl) ?_
        refine nl ?_
        refine tn (hK25 _ _ ?_)
        refine cd rfl (fun hc65 => ?_) (fun hc65 => ?_)
        · refine rg ?_
          refine p mv ?_
          refine p asg ?_
          refine nl ?_
          refine bn ?_
          refine tn (hK22 _ _ ?_)
          refine rg ?_
          refine p (ad rfl rfl (wi64 (by omega))) ?_
          refine p mv ?_
          refine nl ?_
          refine tn ?_
          exact ⟨_, by omega, i + 1, ws2, st2, A2, (by omega), hE63, hP2, hA2x, hA2l, hfi2, hwl2, (hst2.imp (fun h => ⟨h.1, h.2.1⟩) id), rfl, rfl, rfl, rfl, rfl, rfl, (iv (by first | rfl | omega)), rfl, (iv (by omega)), rfl, rfl⟩
        · have h9s : sti = st2 := by
            rcases hst2 with h | h
            · exact absurd h.2.2 hc65
            · rcases hst with g | g
              · exact absurd g.1 hc65
              · omega
          refine skp ?_
          refine bn ?_
          refine tn (hK22 _ _ ?_)
          refine rg ?_
          refine p (ad rfl rfl (wi64 (by omega))) ?_
          refine p mv ?_
          refine nl ?_
          refine tn ?_
          exact ⟨_, by omega, i + 1, ws2, st2, A2, (by omega), hE63, hP2, hA2x, hA2l, hfi2, hwl2, (hst2.imp (fun h => ⟨h.1, h.2.1⟩) id), rfl, rfl, rfl, rfl, rfl, rfl, (iv (by first | rfl | omega)), rfl, (iv (by omega)), rfl, rfl⟩
      · refine ext ?_
        refine te _ ?_
        refine te _ ?_
        refine be ?_
        refine tn (hK18 _ _ ?_)
        refine sq (fun K22 hK22 => ?_)
        refine rg ?_
        refine p (mvt (.pointer (some ⟨b, 0, none⟩)) rfl) ?_
        refine e (cl c23 (finishP_w b (max 1 ((svB.length - k : Nat) : Int)) wsi sti A _ hPi hfi (by omega) hAl) rfl fun v70 w70 hR70 => ?_)
        obtain ⟨hM70, _, aa, nn_, cc, rfl, hno, hok⟩ := hR70
        have hE70 : Wk wL w70 := Md.trans' hEi hM70 (fun k hk h => by have := hAi k h; omega)
        have hci : cn + i = (fitS l).length := by clear hok hno; omega
        rw [hci, List.take_of_length_le (Nat.le_refl _)] at hst
        have hfin : ((max 1 ((svB.length - k : Nat) : Int)) < ((aut (fitS l)).length : Int) ∧ bookFin (max 1 ((svB.length - k : Nat) : Int)) wsi sti = (181, 181)) ∨ (¬ (max 1 ((svB.length - k : Nat) : Int)) < ((aut (fitS l)).length : Int) ∧ bookFin (max 1 ((svB.length - k : Nat) : Int)) wsi sti = (0, 182) ∧ wsi = fitS l ∧ sti = 0) := by
          rcases hst with ⟨rfl, rfl⟩ | ⟨rfl, h9⟩
          · unfold bookFin
            rw [if_pos rfl]
            by_cases h9 : (max 1 ((svB.length - k : Nat) : Int)) < ((aut (fitS l)).length : Int)
            · exact .inl ⟨h9, by rw [if_pos h9]⟩
            · exact .inr ⟨h9, by rw [if_neg h9], rfl, rfl⟩
          · exact .inl ⟨h9, by unfold bookFin; rw [if_neg (by decide)]⟩
        refine p mv ?_
        refine p (xt rfl rfl) ?_
        refine p (xt rfl rfl) ?_
        refine p asg ?_
        refine p asg ?_
        refine nl ?_
        refine tn (hK22 _ _ ?_)
        refine sq (fun K23 hK23 => ?_)
        refine sq (fun K24 hK24 => ?_)
        refine rg ?_
        refine p (mvt (.int .i64 k) rfl) ?_
        refine p (eqi rfl rfl) ?_
        refine p mv ?_
        refine gs (t := 75) rfl (fun hg75 => ?_) (fun hg75 => ?_)
        · refine pg rfl rfl rfl (mvt (.slice aB svB.length cB) rfl) ?_
          refine pg rfl rfl rfl (lnl u32 rfl rfl) ?_
          refine pg rfl rfl rfl (gt rfl rfl) ?_
          refine p (pkt rfl) ?_
          refine nl ?_
          refine tn (hK24 _ _ ?_)
          refine cd rfl (fun hc79 => ?_) (fun hc79 => ?_)
          · refine sq (fun K25 hK25 => ?_)
            clear hok
            have hf1 : bookFin (max 1 ((svB.length - k : Nat) : Int)) wsi sti = (181, 181) := by
              rcases hfin with h | h
              · exact h.2
              · exfalso; omega
            refine rg ?_
            refine p mv ?_
            refine p (lnl u23 rfl rfl) ?_
            refine p (eqi rfl rfl) ?_
            refine p mv ?_
            refine gs (t := 83) rfl (fun hg83 => ?_) (fun h => absurd (by have := hno (by rw [hf1]; decide); omega) h)
            refine pg rfl rfl rfl mv ?_
            refine pg rfl rfl rfl (eqi rfl rfl) ?_
            refine p (pkt rfl) ?_
            refine p mv ?_
            refine gs (t := 87) rfl (fun hg87 => ?_) (fun h => absurd (show (bookFin (max 1 ((svB.length - k : Nat) : Int)) wsi sti).1 = 181 by rw [hf1]) h)
            refine pg rfl rfl rfl (mvt (.int .i64 sti) rfl) ?_
            refine pg rfl rfl rfl (eqi rfl rfl) ?_
            refine pg rfl rfl rfl mv ?_
            refine gs (t := 90) rfl (fun hg90 => ?_) (fun hg90 => ?_)
            · refine sk rfl rfl rfl rfl ?_
              refine sk rfl rfl rfl rfl ?_
              refine pg rfl rfl rfl (pkt rfl) ?_
              refine p (pkt rfl) ?_
              refine p asg ?_
              refine nl ?_
              refine tn (hK25 _ _ ?_)
              refine rt ?_
              refine tr ?_
              refine br ?_
              refine tr ?_
              refine tr ?_
              refine br ?_
              refine tr ?_
              refine f1 rfl rfl ?_
              exact ⟨rfl, Md.trans (Md.trans hE2 hE) hE70⟩
            · refine pg rfl rfl rfl (mvt (.int .i64 sti) rfl) ?_
              refine pg rfl rfl rfl (eqi rfl rfl) ?_
              refine pg rfl rfl rfl (pkf rfl) ?_
              refine p (pkt rfl) ?_
              refine p asg ?_
              refine nl ?_
              refine tn (hK25 _ _ ?_)
              refine rt ?_
              refine tr ?_
              refine br ?_
              refine tr ?_
              refine tr ?_
              refine br ?_
              refine tr ?_
              refine f1 rfl rfl ?_
              refine ⟨(bT ?_).symm, Md.trans (Md.trans hE2 hE) hE70⟩
              rcases hst with h | h
              · exact absurd h.1 hg90
              · exact h.1
          · refine skp ?_
            refine tn (hK23 _ _ ?_)
            refine sq (fun K25 hK25 => ?_)
            obtain ⟨hf0, hw0, hs0⟩ : bookFin (max 1 ((svB.length - k : Nat) : Int)) wsi sti = (0, 182) ∧ wsi = fitS l ∧ sti = 0 := by
              rcases hfin with h | h
              · exfalso; clear hok hno; omega
              · exact ⟨h.2.1, h.2.2⟩
            obtain ⟨svs, rfl, hA9⟩ := hok (by rw [hf0])
            clear hok hno
            rw [hw0] at hA9
            refine rg ?_
            refine p (mvt (.int .i64 sti) rfl) ?_
            refine p (nei rfl rfl) ?_
            refine p mv ?_
            refine gs (t := 97) rfl (fun h => absurd h (fun h => h hs0)) (fun hg97 => ?_)
            refine pg rfl rfl rfl mv ?_
            refine pg rfl rfl rfl (nei rfl rfl) ?_
            refine p (pkf rfl) ?_
            refine p mv ?_
            refine gs (t := 101) rfl (fun h => absurd h (fun h => h (show (bookFin (max 1 ((svB.length - k : Nat) : Int)) wsi sti).1 = 0 by rw [hf0]))) (fun hg101 => ?_)
            refine pg rfl rfl rfl mv ?_
            refine pg rfl rfl rfl (mvt (.slice aB svB.length cB) rfl) ?_
            refine eg rfl rfl rfl (cl c14 (same_w aa aB cc cB svs svB (aut (fitS l)) (auto (fitS l)) _ hA9.sr ((hSB.wk hE).wk hE70) (by rw [← hA9.sr.len]; have := hbl.1; omega) (by have := hbl.1; omega) (fun p hp => by have := hbl.2 p hp; omega)) rfl fun v104 w104 hR104 => ?_)
            obtain ⟨rfl, hE104⟩ := hR104
            refine pg rfl rfl rfl (no rfl) ?_
            refine p (pkf rfl) ?_
            refine nl ?_
            refine tn (hK25 _ _ ?_)
            refine cf (congrArg (fun b => Value.bool (!b)) (decide_eq_true (auto_aut (fitS l)).symm)) ?_
            refine skp ?_
            refine bn ?_
            refine tn (hK12 _ _ ?_)
            refine rg ?_
            refine p (ad rfl rfl (wi64 (by omega))) ?_
            refine p mv ?_
            refine nl ?_
            refine tn ?_
            exact ⟨_, by omega, k + 1, (by omega), (Md.trans hE (Md.trans hE70 hE104)), rfl, rfl, rfl, rfl, rfl⟩
        · refine sk rfl rfl rfl rfl ?_
          refine sk rfl rfl rfl rfl ?_
          refine sk rfl rfl rfl rfl ?_
          refine p (pkf rfl) ?_
          refine nl ?_
          refine tn (hK24 _ _ ?_)
          refine cf rfl ?_
          refine skp ?_
          refine tn (hK23 _ _ ?_)
          refine sq (fun K25 hK25 => ?_)
          obtain ⟨hf0, hw0, hs0⟩ : bookFin (max 1 ((svB.length - k : Nat) : Int)) wsi sti = (0, 182) ∧ wsi = fitS l ∧ sti = 0 := by
            rcases hfin with h | h
            · exfalso; clear hok hno; omega
            · exact ⟨h.2.1, h.2.2⟩
          obtain ⟨svs, rfl, hA9⟩ := hok (by rw [hf0])
          clear hok hno
          rw [hw0] at hA9
          refine rg ?_
          refine p (mvt (.int .i64 sti) rfl) ?_
          refine p (nei rfl rfl) ?_
          refine p mv ?_
          refine gs (t := 97) rfl (fun h => absurd h (fun h => h hs0)) (fun hg97 => ?_)
          refine pg rfl rfl rfl mv ?_
          refine pg rfl rfl rfl (nei rfl rfl) ?_
          refine p (pkf rfl) ?_
          refine p mv ?_
          refine gs (t := 101) rfl (fun h => absurd h (fun h => h (show (bookFin (max 1 ((svB.length - k : Nat) : Int)) wsi sti).1 = 0 by rw [hf0]))) (fun hg101 => ?_)
          refine pg rfl rfl rfl mv ?_
          refine pg rfl rfl rfl (mvt (.slice aB svB.length cB) rfl) ?_
          refine eg rfl rfl rfl (cl c14 (same_w aa aB cc cB svs svB (aut (fitS l)) (auto (fitS l)) _ hA9.sr ((hSB.wk hE).wk hE70) (by rw [← hA9.sr.len]; have := hbl.1; omega) (by have := hbl.1; omega) (fun p hp => by have := hbl.2 p hp; omega)) rfl fun v104 w104 hR104 => ?_)
          obtain ⟨rfl, hE104⟩ := hR104
          refine pg rfl rfl rfl (no rfl) ?_
          refine p (pkf rfl) ?_
          refine nl ?_
          refine tn (hK25 _ _ ?_)
          refine cf (congrArg (fun b => Value.bool (!b)) (decide_eq_true (auto_aut (fitS l)).symm)) ?_
          refine skp ?_
          refine bn ?_
          refine tn (hK12 _ _ ?_)
          refine rg ?_
          refine p (ad rfl rfl (wi64 (by omega))) ?_
          refine p mv ?_
          refine nl ?_
          refine tn ?_
          exact ⟨_, by omega, k + 1, (by omega), (Md.trans hE (Md.trans hE70 hE104)), rfl, rfl, rfl, rfl, rfl⟩
    · refine ext ?_
      refine te _ ?_
      refine te _ ?_
      refine be ?_
      refine tn (hK8 _ _ ?_)
      refine sq (fun K12 hK12 => ?_)
      refine rg ?_
      refine p asg ?_
      refine nl ?_
      refine tn (hK12 _ _ ?_)
      refine rt ?_
      refine f1 rfl rfl ?_
      exact ⟨rfl, Md.trans hE2 hE⟩
end Go.Hb.Pieces
