/-
  Walks of hornbooklaw18: scripts of a builder, and of two. No conditions but those that each theorem names.
-/
import Derived.Test.YtkgdlnnmkpgfdaaChecked
import Derived.Test.YtkgdlnnmkpgfdaaEff
import Derived.Test.YtkgdlnnmkpgfdaaRef08
import Derived.Test.YtkgdlnnmkpgfdaaVisit
import Derived.Test.YtkgdlnnmkpgfdaaReg
import Derived.Test.YtkgdlnnmkpgfdaaCut
import Derived.Test.YtkgdlnnmkpgfdaaBuild
import Derived.Test.YtkgdlnnmkpgfdaaAdd
import Derived.Test.YtkgdlnnmkpgfdaaAdds
import Derived.Test.YtkgdlnnmkpgfdaaAsked
import Derived.Test.YtkgdlnnmkpgfdaaNumb
import Derived.Test.YtkgdlnnmkpgfdaaFin
import Derived.Test.YtkgdlnnmkpgfdaaRfrz
import Derived.Test.YtkgdlnnmkpgfdaaSame
import Derived.Test.YtkgdlnnmkpgfdaaLawA
import Derived.Test.YtkgdlnnmkpgfdaaPlay
import Derived.Test.YtkgdlnnmkpgfdaaStep
import Derived.Test.YtkgdlnnmkpgfdaaStr
import Derived.Test.YtkgdlnnmkpgfdaaPure
import Derived.Test.YtkgdlnnmkpgfdaaDawg
import Derived.Test.YtkgdlnnmkpgfdaaVis
import Derived.Test.YtkgdlnnmkpgfdaaRow
import Derived.Test.YtkgdlnnmkpgfdaaNode
import Derived.Test.YtkgdlnnmkpgfdaaMap
import Derived.Test.YtkgdlnnmkpgfdaaAuto
import Derived.Test.YtkgdlnnmkpgfdaaLast
import Derived.Test.YtkgdlnnmkpgfdaaTag
import Derived.Test.YtkgdlnnmkpgfdaaFrz
import Derived.Test.YtkgdlnnmkpgfdaaSet
import Derived.Test.YtkgdlnnmkpgfdaaPost
import Derived.Test.YtkgdlnnmkpgfdaaBulk
import Derived.Test.YtkgdlnnmkpgfdaaOpens
set_option maxRecDepth 20000
set_option linter.unusedVariables false
namespace Go.Hb.Plays
open Go.Proofs
open Go.Hb.Ref08 Go.Hb.Visit Go.Hb.Reg Go.Hb.Cut Go.Hb.Build Go.Hb.Add Go.Hb.Adds Go.Hb.Asked Go.Hb.Numb Go.Hb.Fin Go.Hb.Rfrz Go.Hb.Same Go.Hb.LawA Go.Hb.Play Go.Hb.Step
theorem ag57 : aggN Try.prog 57 = some (some 2) := by kernel_rfl
theorem c13 : Callable Try.prog 13 := callable Try.func13 (by kernel_rfl) (by kernel_rfl)
theorem c21 : Callable Try.prog 21 := callable Try.func21 (by kernel_rfl) (by kernel_rfl)
theorem c25 : Callable Try.prog 25 := callable Try.func25 (by kernel_rfl) (by kernel_rfl)
theorem cz57 : cellsN Try.prog 57 = some 2 := by kernel_rfl
theorem es52 : elemSize Try.prog 52 = some 2 := by kernel_rfl
theorem st55 : structOk Try.prog 55 = some ([(0, 1), (1, 1), (2, 1)], [.slice none 0 0, .int .i64 0, .int .i64 0]) := by kernel_rfl
theorem st57 : structOk Try.prog 57 = some ([(0, 1), (1, 1)], [.int .i64 0, .slice none 0 0]) := by kernel_rfl
theorem u45 : Try.prog.underlying 45 = some (.pointer 84) := by kernel_rfl
theorem u52 : Try.prog.underlying 52 = some (.slice 57) := by kernel_rfl
theorem zs57 : zeroOf Try.prog 57 = some (some [.int .i64 0, .slice none 0 0]) := by kernel_rfl

/-- the cells of a script -/
def oflat (l : List (Int × Value)) : List Value := l.flatMap fun q => [.int .i64 q.1, q.2]
/-- a script that can be read -/
structure OpR (w : World) (a : Option Addr) (osv : List (Int × Value)) (ops : List (Int × Tl)) : Prop where
  len : ops.length = osv.length
  cells : Cells w.heap a (oflat osv)
  st : ∀ (i : Nat) p q, ops[i]? = some p → osv[i]? = some q → p.1 = q.1 ∧ ∃ wa wc, q.2 = .slice wa p.2.length wc ∧ Strs w.heap wa p.2
theorem OpR.wk {w w' : World} {a : Option Addr} {osv : List (Int × Value)} {ops : List (Int × Tl)} (h : OpR w a osv ops) (hm : Wk w w') : OpR w' a osv ops :=
  ⟨h.len, h.cells.wk hm, fun i p q hp hq => let ⟨h1, wa, wc, h2, h3⟩ := h.st i p q hp hq; ⟨h1, wa, wc, h2, h3.wk hm⟩⟩
def dO : Int × Tl := (0, [])
theorem OpR.get {w : World} {a : Option Addr} {osv : List (Int × Value)} {ops : List (Int × Tl)} (h : OpR w a osv ops) {i : Nat} (hi : i < osv.length) : ∃ wa wc, osv[i]? = some ((ops.getD i dO).1, .slice wa (ops.getD i dO).2.length wc) ∧ Strs w.heap wa (ops.getD i dO).2 := by
  have h1 : ops[i]? = some (ops.getD i dO) := by rw [getD_get dO (by rw [h.len]; exact hi), List.getElem?_eq_getElem (by rw [h.len]; exact hi)]
  obtain ⟨g1, wa, wc, g2, g3⟩ := h.st i _ osv[i] h1 (List.getElem?_eq_getElem hi)
  refine ⟨wa, wc, ?_, g3⟩
  rw [List.getElem?_eq_getElem hi, ← g2, g1]
theorem oflat_cells {h : Array Obj} {a : Option Addr} {l : List (Int × Value)} {i : Nat} {c : Int} {q : Value} (hc : Cells h a (oflat l)) (hl : l[i]? = some (c, q)) : ∀ j, j < 2 → Hb.cel h (bk a) (fo a + i * 2 + j) = [Value.int .i64 c, q][j]? :=
  flat_cells (f := fun e : Int × Value => [Value.int .i64 e.1, e.2]) (m := 2) (fun _ => rfl) hc hl
theorem oflat_ne {l : List (Int × Value)} (h : 0 < l.length) : oflat l ≠ [] := flat_ne (f := fun e : Int × Value => [Value.int .i64 e.1, e.2]) (m := 2) (fun _ => rfl) (by decide) h
/-- how many words a script has, and how long they are -/
def oLen (ops : List (Int × Tl)) : Nat := (ops.map fun p => p.2.length).sum
def oVol (ops : List (Int × Tl)) : Nat := (ops.map fun p => vol p.2).sum
theorem oLen_drop {ops : List (Int × Tl)} {i : Nat} (h : i < ops.length) : oLen (ops.drop i) = (ops.getD i dO).2.length + oLen (ops.drop (i + 1)) ∧ oVol (ops.drop i) = vol (ops.getD i dO).2 + oVol (ops.drop (i + 1)) := by
  rw [List.drop_eq_getElem_cons h, ← getD_get dO h]; simp [oLen, oVol]
/-- a builder and its book, both new -/
theorem ps_new {w0 w w' : World} {b m pp bx : Nat} {most : Int} {vp : Value} (hD : DB w b m most 0 0 [] false vp [pp] [] [⟨pp, .slice none 0 0, false, []⟩] []) (hE : Wk w w') (hbx : w.heap.size ≤ bx) (hB : w'.heap[bx]? = some (.cells [Value.slice none 0 0, .int .i64 most, .int .i64 0].toArray 55 (0, 0)))
    (h0 : w0.heap.size ≤ b) (h1 : w0.heap.size ≤ m) (h2 : w0.heap.size ≤ pp) (h3 : ∀ k, vp.ownBlock = some k → w0.heap.size ≤ k) (h4 : w0.heap.size ≤ w.heap.size) :
    ∃ S, PS w' b bx most [] 0 S ∧ (∀ k, S k → w0.heap.size ≤ k) ∧ ∀ k, S k → k < w.heap.size ∨ k = bx := by
  have hBA := ba_new hD
  have hal := al_new h0 h1 h2 h3
  refine ⟨fun k => AL b m vp [] [⟨pp, .slice none 0 0, false, []⟩] k ∨ k = bx, ⟨⟨_, .slice none 0 0, PB.wk (.inl ⟨rfl, m, 0, vp, _, _, hBA, fun k h => h⟩) hE, fun k h => .inl h, ⟨hB, World.ownsRow_nil _ _ _ _⟩, fun k h => ?_, fun k h hk => ?_⟩, fit_nil, fun k h => ?_⟩, fun k h => ?_, fun k h => h.imp (fun h => BA.lt hBA h) id⟩
  · rcases h with h | h
    · exact .inr h
    · simp [Value.ownBlock] at h
  · have := BA.lt hBA h
    rcases hk with hk | hk
    · omega
    · simp [Value.ownBlock] at hk
  · rcases h with h | h
    · have := BA.lt hBA h; have := hE.size; omega
    · rw [h]; exact Blk.lt ⟨_, hB⟩
  · rcases h with h | h
    · exact hal k h
    · omega


theorem new_cases {most : Int} {w w' : World} {v : Value} (h : ((most < 1 ∨ 1048576 < most) ∧ v = .tuple #[.pointer none, .int .i64 2] ∧ Wk w w') ∨ (1 ≤ most ∧ most ≤ 1048576 ∧ ∃ b m vp pp, v = .tuple #[.pointer (some ⟨b, 0, none⟩), .int .i64 0] ∧ DB w' b m most 0 0 [] false vp [pp] [] [⟨pp, .slice none 0 0, false, []⟩] [] ∧ Wk w w' ∧ w.heap.size ≤ b ∧ w.heap.size ≤ m ∧ w.heap.size ≤ pp ∧ ∀ k, vp.ownBlock = some k → w.heap.size ≤ k)) :
    ∃ (vb : Option Addr) (e0 : Int), v = .tuple #[.pointer vb, .int .i64 e0] ∧ Wk w w' ∧ ((most < 1 ∨ 1048576 < most) → vb = none ∧ e0 = 2) ∧ (1 ≤ most → most ≤ 1048576 → ∃ b, vb = some ⟨b, 0, none⟩ ∧ e0 = 0 ∧ ∃ m vp pp, DB w' b m most 0 0 [] false vp [pp] [] [⟨pp, .slice none 0 0, false, []⟩] [] ∧ w.heap.size ≤ b ∧ w.heap.size ≤ m ∧ w.heap.size ≤ pp ∧ ∀ k, vp.ownBlock = some k → w.heap.size ≤ k) := by
  rcases h with ⟨h1, rfl, h2⟩ | ⟨h1, h2, b, m, vp, pp, rfl, h3, h4, h5, h6, h7, h8⟩
  · exact ⟨none, 2, rfl, h2, fun _ => ⟨rfl, rfl⟩, fun h3 h4 => by omega⟩
  · exact ⟨_, 0, rfl, h4, fun h => by omega, fun _ _ => ⟨b, rfl, rfl, m, vp, pp, h3, h5, h6, h7, h8⟩⟩

set_option maxHeartbeats 2000000 in
theorem plays_w (most : Int) (ops : List (Int × Tl)) (osv : List (Int × Value)) (a : Option Addr) (cap : Nat) (w : World) (hO : OpR w a osv ops) (hl : oLen ops ≤ 1048576 ∧ oVol ops ≤ 1048576) (hol : ops.length ≤ 1048576) :
    Ret Try.prog 8 (List.toArray [.int .i64 most, .slice a osv.length cap]) w (fun v w' => v = .bool true ∧ Wk w w') := by
  have hlO := hO.len
  refine enter Try.func8 rfl Try.ntmps8 rfl ?_
  refine sq (fun K1 hK1 => ?_)
  refine rg ?_
  refine p asg ?_
  refine nl ?_
  refine tn (hK1 _ _ ?_)
  refine sq (fun K2 hK2 => ?_)
  refine rg ?_
  refine p (mvt (.int .i64 most) rfl) ?_
  refine e (cl c21 (new_w most _) rfl fun v12 w12 hR12 => ?_)
  obtain ⟨vb, e0, rfl, hE12, hne0, hnew⟩ := new_cases hR12
  refine p mv ?_
  refine p (xt rfl rfl) ?_
  refine p (xt rfl rfl) ?_
  refine p asg ?_
  refine p asg ?_
  refine nl ?_
  refine tn (hK2 _ _ ?_)
  refine sq (fun K3 hK3 => ?_)
  refine sq (fun K4 hK4 => ?_)
  refine rg ?_
  refine e (cl c13 (wakes_w _) rfl fun v15 w15 hR15 => ?_)
  obtain ⟨rfl, hE15⟩ := hR15
  have hE1 : Wk w w15 := Md.trans hE12 hE15
  refine p (no rfl) ?_
  refine nl ?_
  refine tn (hK4 _ _ ?_)
  refine cf (rfl) ?_
  refine skp ?_
  refine tn (hK3 _ _ ?_)
  refine sq (fun K5 hK5 => ?_)
  refine sq (fun K6 hK6 => ?_)
  refine rg ?_
  refine p (mvt (.int .i64 most) rfl) ?_
  refine p (lt rfl rfl) ?_
  refine p mv ?_
  refine gs (t := 19) rfl (fun hg19 => ?_) (fun hg19 => ?_)
  · obtain ⟨rfl, rfl⟩ := hne0 (.inl hg19)
    refine sk rfl rfl rfl rfl ?_
    refine sk rfl rfl rfl rfl ?_
    refine p (pkt rfl) ?_
    refine nl ?_
    refine tn (hK6 _ _ ?_)
    refine ct rfl ?_
    refine sq (fun K7 hK7 => ?_)
    refine rg ?_
    refine p mv ?_
    refine p (eqpn u45 rfl rfl) ?_
    refine p mv ?_
    refine gb (t := 25) rfl (fun hg25 => ?_) (fun h => absurd ((rfl).symm.trans h) Bool.noConfusion)
    refine pg rfl rfl rfl mv ?_
    refine pg rfl rfl rfl (eqi rfl rfl) ?_
    refine p (pkt rfl) ?_
    refine p asg ?_
    refine nl ?_
    refine tn (hK7 _ _ ?_)
    refine rt ?_
    refine tr ?_
    refine f1 rfl rfl ?_
    exact ⟨rfl, hE1⟩
  · refine pg rfl rfl rfl (mvt (.int .i64 most) rfl) ?_
    refine pg rfl rfl rfl (gt rfl rfl) ?_
    refine p (pkf rfl) ?_
    refine nl ?_
    refine tn (hK6 _ _ ?_)
    refine cd rfl (fun hc22 => ?_) (fun hc22 => ?_)
    · obtain ⟨rfl, rfl⟩ := hne0 (.inr hc22)
      refine sq (fun K7 hK7 => ?_)
      refine rg ?_
      refine p mv ?_
      refine p (eqpn u45 rfl rfl) ?_
      refine p mv ?_
      refine gb (t := 25) rfl (fun hg25 => ?_) (fun h => absurd ((rfl).symm.trans h) Bool.noConfusion)
      refine pg rfl rfl rfl mv ?_
      refine pg rfl rfl rfl (eqi rfl rfl) ?_
      refine p (pkt rfl) ?_
      refine p asg ?_
      refine nl ?_
      refine tn (hK7 _ _ ?_)
      refine rt ?_
      refine tr ?_
      refine f1 rfl rfl ?_
      exact ⟨rfl, hE1⟩
    · refine skp ?_
      refine tn (hK5 _ _ ?_)
      refine sq (fun K7 hK7 => ?_)
      refine sq (fun K8 hK8 => ?_)
      obtain ⟨b, rfl, rfl, m, vp, pp, hD, h0, h1, h2, h3⟩ := hnew (by omega) (by omega)
      refine rg ?_
      refine p mv ?_
      refine p (eqpn u45 rfl rfl) ?_
      refine p mv ?_
      refine gb (t := 31) rfl (fun h => absurd (h.symm.trans (rfl)) Bool.noConfusion) (fun hg31 => ?_)
      refine pg rfl rfl rfl mv ?_
      refine pg rfl rfl rfl (nei rfl rfl) ?_
      refine p (pkf rfl) ?_
      refine nl ?_
      refine tn (hK8 _ _ ?_)
      refine cd rfl (fun h => absurd h (fun h => h rfl)) (fun hc34 => ?_)
      refine skp ?_
      refine tn (hK7 _ _ ?_)
      refine sq (fun K9 hK9 => ?_)
      refine rg ?_
      refine p (mvt (.int .i64 most) rfl) ?_
      refine p (bld (ps := [(1, .int .i64 most)]) (L := [.slice none 0 0, .int .i64 most, .int .i64 0]) st55 rfl (rfl)) ?_
      refine e (bxaT rfl fun bx w37 hbx hN37 hB37 => ?_)
      obtain ⟨S0, hP0, hS0, _⟩ := ps_new (w0 := w) hD (Md.trans hE15 hN37.md) (by have := hE15.size; omega) hB37 h0 h1 h2 h3 (by have := hE12.size; omega)
      have hE2 : Wk w w37 := Md.trans hE1 hN37.md
      refine p asg ?_
      refine nl ?_
      refine tn (hK9 _ _ ?_)
      refine sq (fun K10 hK10 => ?_)
      refine sq (fun K11 hK11 => ?_)
      refine rg ?_
      refine p (mvt (.slice a osv.length cap) rfl) ?_
      refine p (lnl u52 rfl rfl) ?_
      refine p mv ?_
      refine nl ?_
      refine tn (hK11 _ _ ?_)
      refine blk ?_
      refine lp (fun gm σ1 wL => ∃ (i : Nat) (wsi : Tl) (sti : Int) (Si : Nat → Prop), (i ≤ osv.length) ∧ (Wk w wL) ∧ (PS wL b bx most wsi sti Si) ∧ (∀ k, Si k → w.heap.size ≤ k) ∧ (wsi.length + oLen (ops.drop i) ≤ oLen ops ∧ vol wsi + oVol (ops.drop i) ≤ oVol ops) ∧ (σ1 5 = .pointer (some ⟨b, 0, none⟩)) ∧ (σ1 7 = .pointer (some ⟨bx, 0, none⟩)) ∧ (σ1 38 = .slice a osv.length cap) ∧ (σ1 39 = .int .i64 osv.length) ∧ (σ1 40 = .int .i64 i) ∧ (osv.length - i = gm)) _ ⟨0, [], 0, S0, (by omega), hE2, hP0, hS0, (by simp [vol]), rfl, rfl, rfl, rfl, rfl, rfl⟩ ?_
      rintro gm σ1 wL ⟨i, wsi, sti, Si, hi, hE, hP, hSi, hli, hs1_5, hs1_7, hs1_38, hs1_39, hs1_40, rfl⟩
      refine fx 5 hs1_5 (fx 7 hs1_7 (fx 38 hs1_38 (fx 39 hs1_39 (fx 40 hs1_40 ?_))))
      refine sq (fun K12 hK12 => ?_)
      refine rg ?_
      refine p (lt rfl rfl) ?_
      refine nl ?_
      refine tn (hK12 _ _ ?_)
      refine sq (fun K13 hK13 => ?_)
      refine cd rfl (fun hc41 => ?_) (fun hc41 => ?_)
      · refine skp ?_
        refine tn (hK13 _ _ ?_)
        refine sq (fun K14 hK14 => ?_)
        refine blk ?_
        refine sq (fun K15 hK15 => ?_)
        obtain ⟨wa, wc, hq, hSw⟩ := hO.get (i := i) (by omega)
        have hdr := oLen_drop (ops := ops) (i := i) (by omega)
        refine rg ?_
        refine p (ia' es52 rfl rfl (by omega) (Cells.ok ((hO.wk hE).cells) (oflat_ne (by omega)))) ?_
        refine p (lda ag57 rfl rfl (show ∀ j, j < 2 → cel wL.heap (bk a) (fo a + i * 2 + j) = [Value.int .i64 (ops.getD i dO).1, .slice wa (ops.getD i dO).2.length wc][j]? from oflat_cells (hO.wk hE).cells hq)) ?_
        refine e (alT zs57 fun b9 w9 hb9 hN9 hB9 => ?_)
        refine e (staT cz57 rfl rfl rfl rfl hB9 (by simp) fun w11 hM11 hB11 => ?_)
        have hB11x : Blk w11.heap b9 [Value.int .i64 (ops.getD i dO).1, .slice wa (ops.getD i dO).2.length wc] := ⟨_, hB11⟩
        have hE11 : Wk wL w11 := Md.trans' hN9.md hM11 (fun k hk h => by omega)
        have hE11x : Wk w w11 := Md.trans hE hE11
        refine nl ?_
        refine tn (hK15 _ _ ?_)
        refine sq (fun K16 hK16 => ?_)
        refine rg ?_
        refine p (mvt (.pointer (some ⟨b, 0, none⟩)) rfl) ?_
        refine p (mvt (.pointer (some ⟨bx, 0, none⟩)) rfl) ?_
        refine p (lda ag57 rfl rfl (show ∀ j, j < 2 → cel w11.heap b9 (0 + j) = [Value.int .i64 (ops.getD i dO).1, .slice wa (ops.getD i dO).2.length wc][j]? from fun j _ => hB11x.cel0 j)) ?_
        refine e (cl c25 (step_w b bx most wsi sti Si (ops.getD i dO).1 (ops.getD i dO).2 wa wc _ (hP.md hE11 (fun _ _ x => x)) (hSw.wk hE11x) (fun hne h => by have := hSi _ h; have := hSw.lt hne; omega) (by omega)) rfl fun v47 w47 hR47 => ?_)
        obtain ⟨rfl, hM47, S2, hP2, hS2⟩ := hR47
        have hE47 : Wk w w47 := Md.trans' hE11x hM47 (fun k hk h => by have := hSi k h; omega)
        have hlen2 := stepW_len (ops.getD i dO).1 most wsi sti (ops.getD i dO).2
        have hS2x : ∀ k, S2 k → w.heap.size ≤ k := fun k h => by
          rcases hS2 k h with h | h
          · exact hSi k h
          · have := hE11x.size; omega
        refine p (no rfl) ?_
        refine nl ?_
        refine tn (hK16 _ _ ?_)
        refine cf (rfl) ?_
        refine skp ?_
        refine bn ?_
        refine tn (hK14 _ _ ?_)
        refine rg ?_
        refine p (ad rfl rfl (wi64 (by omega))) ?_
        refine p mv ?_
        refine nl ?_
        refine tn ?_
        exact ⟨_, by omega, i + 1, _, _, S2, (by omega), hE47, hP2, hS2x, (by omega), rfl, rfl, rfl, rfl, rfl, rfl⟩
      · refine ext ?_
        refine te _ ?_
        refine te _ ?_
        refine be ?_
        refine tn (hK10 _ _ ?_)
        refine sq (fun K14 hK14 => ?_)
        refine rg ?_
        refine p (mvt (.pointer (some ⟨b, 0, none⟩)) rfl) ?_
        refine p (mvt (.pointer (some ⟨bx, 0, none⟩)) rfl) ?_
        refine p (bld (ps := [(0, .int .i64 2)]) (L := [.int .i64 2, .slice none 0 0]) st57 rfl (rfl)) ?_
        refine e (cl c25 (step_w b bx most wsi sti Si 2 [] none 0 _ hP (Cells.nil _ _) (fun h => absurd rfl h) (by have : vol [] = 0 := rfl; simp only [List.length_nil]; omega)) rfl fun v53 w53 hR53 => ?_)
        obtain ⟨rfl, hM53, S3, hP3, hS3⟩ := hR53
        have hE53 : Wk w w53 := Md.trans' hE hM53 (fun k hk h => by have := hSi k h; omega)
        have hS3x : ∀ k, S3 k → w.heap.size ≤ k := fun k h => (hS3 k h).elim (hSi k) (fun h => by have := hE.size; omega)
        have hl3 := stepW_len 2 most wsi sti []
        refine p mv ?_
        refine gb (t := 54) rfl (fun hg54 => ?_) (fun h => absurd ((rfl).symm.trans h) Bool.noConfusion)
        refine pg rfl rfl rfl (mvt (.pointer (some ⟨b, 0, none⟩)) rfl) ?_
        refine pg rfl rfl rfl (mvt (.pointer (some ⟨bx, 0, none⟩)) rfl) ?_
        refine pg rfl rfl rfl (bld (ps := [(0, .int .i64 3)]) (L := [.int .i64 3, .slice none 0 0]) st57 rfl (rfl)) ?_
        refine eg rfl rfl rfl (cl c25 (step_w b bx most _ _ S3 3 [] none 0 _ hP3 (Cells.nil _ _) (fun h => absurd rfl h) (by have : vol [] = 0 := rfl; simp only [List.length_nil] at *; omega)) rfl fun v58 w58 hR58 => ?_)
        obtain ⟨rfl, hM58, S4, hP4, hS4⟩ := hR58
        have hE58 : Wk w w58 := Md.trans' hE53 hM58 (fun k hk h => by have := hS3x k h; omega)
        have hS4x : ∀ k, S4 k → w.heap.size ≤ k := fun k h => (hS4 k h).elim (hS3x k) (fun h => by have := hE53.size; omega)
        have hl4 := stepW_len 3 most (stepW 2 most wsi sti []) (stepS 2 most wsi sti []) []
        refine p (pkt rfl) ?_
        refine p mv ?_
        refine gb (t := 60) rfl (fun hg60 => ?_) (fun h => absurd ((rfl).symm.trans h) Bool.noConfusion)
        refine pg rfl rfl rfl (mvt (.pointer (some ⟨b, 0, none⟩)) rfl) ?_
        refine pg rfl rfl rfl (mvt (.pointer (some ⟨bx, 0, none⟩)) rfl) ?_
        refine pg rfl rfl rfl (bld (ps := [(0, .int .i64 2)]) (L := [.int .i64 2, .slice none 0 0]) st57 rfl (rfl)) ?_
        refine eg rfl rfl rfl (cl c25 (step_w b bx most _ _ S4 2 [] none 0 _ hP4 (Cells.nil _ _) (fun h => absurd rfl h) (by have : vol [] = 0 := rfl; simp only [List.length_nil] at *; omega)) rfl fun v64 w64 hR64 => ?_)
        obtain ⟨rfl, hM64, S5, hP5, hS5⟩ := hR64
        have hE64 : Wk w w64 := Md.trans' hE58 hM64 (fun k hk h => by have := hS4x k h; omega)
        refine p (pkt rfl) ?_
        refine p asg ?_
        refine nl ?_
        refine tn (hK14 _ _ ?_)
        refine rt ?_
        refine f1 rfl rfl ?_
        exact ⟨rfl, hE64⟩

theorem opR_of {W : World} {v : Value} {ops : List (Int × Tl)} (h : RS 2 (fun W cs (x : Int × Tl) => ∃ c0 c1, cs = c0 ++ c1 ∧ c0.length = 1 ∧ (c0 = [.int .i64 x.1] ∧ (Lit.int .i64 x.1).wf = true) ∧ RS 1 (fun _ cs (x : List UInt8) => cs = [str x]) W c1 x.2) W [v] ops) : ∃ a osv c, v = .slice a osv.length c ∧ OpR W a osv ops := by
  obtain ⟨a, c, L, hv, hl, hc, hcap, hx⟩ := h
  simp only [List.cons.injEq, and_true] at hv
  have hx' : ∀ (i : Nat) l x, L[i]? = some l → ops[i]? = some x → ∃ u, l = [.int .i64 x.1, u] ∧ ∃ wa wc, u = .slice wa x.2.length wc ∧ Strs W.heap wa x.2 := fun i l x h1 h2 => by
    obtain ⟨hlen, c0, c1, rfl, h3, ⟨rfl, _⟩, h4⟩ := hx i l x h1 h2
    have h5 : c1.length = 1 := by simpa using hlen
    obtain ⟨u, rfl⟩ := List.length_eq_one_iff.1 h5
    obtain ⟨wa, wc, h6, h7, _⟩ := strs_of h4
    exact ⟨u, rfl, wa, wc, h6, h7⟩
  let osv : List (Int × Value) := (L.zip ops).map fun q => (q.2.1, q.1.getD 1 .nilFunc)
  have hol : osv.length = ops.length := by simp only [osv, List.length_map, List.length_zip]; omega
  have hoi : ∀ (i : Nat) p q, ops[i]? = some p → osv[i]? = some q → ∃ l, L[i]? = some l ∧ q = (p.1, l.getD 1 .nilFunc) := fun i p q hp hq => by
    simp only [osv, List.getElem?_map, Option.map_eq_some_iff] at hq
    obtain ⟨z, hz, rfl⟩ := hq
    rw [List.getElem?_zip_eq_some] at hz
    rw [hp] at hz
    obtain ⟨h1, h2⟩ := hz
    cases h2
    exact ⟨z.1, h1, rfl⟩
  have hfl : oflat osv = L.flatten := by
    have key : ∀ (L : List (List Value)) (ops : List (Int × Tl)), L.length = ops.length → (∀ (i : Nat) l x, L[i]? = some l → ops[i]? = some x → ∃ u, l = [.int .i64 x.1, u]) → oflat ((L.zip ops).map fun q => (q.2.1, q.1.getD 1 .nilFunc)) = L.flatten := by
      intro L
      induction L with
      | nil => intro ops _ _; rfl
      | cons l L ih =>
        intro ops h hx
        cases ops with
        | nil => simp at h
        | cons o ops =>
          obtain ⟨u, hu⟩ := hx 0 l o rfl rfl
          have := ih ops (by simpa using h) (fun i l x h1 h2 => hx (i + 1) l x (by simpa using h1) (by simpa using h2))
          simp only [oflat, List.zip_cons_cons, List.map_cons, List.flatMap_cons, List.flatten_cons] at this ⊢
          rw [this, hu]; rfl
    exact key L ops hl (fun i l x h1 h2 => by obtain ⟨u, h3, _⟩ := hx' i l x h1 h2; exact ⟨u, h3⟩)
  refine ⟨a, osv, c, by rw [hol]; exact hv, hol.symm, by rw [hfl]; exact hc, fun i p q hp hq => ?_⟩
  obtain ⟨l, h1, rfl⟩ := hoi i p q hp hq
  obtain ⟨u, rfl, wa, wc, h2, h3⟩ := hx' i l p h1 hp
  exact ⟨rfl, wa, wc, h2, h3⟩
theorem op_bulk (ops : List (Int × Tl)) : (ops.map fun x => 1 + ((x.2.map fun y => y.length + 1).sum + 1) + 1).sum = 3 * ops.length + oLen ops + oVol ops := by
  induction ops with
  | nil => rfl
  | cons a l ih => simp only [bulk_sum, oLen, oVol, List.map_cons, List.sum_cons, List.length_cons] at ih ⊢; omega

end Go.Hb.Plays
