/-
  Walk of hornbooklaw18.step: one call of a builder, as the document has it. No conditions but those that each theorem names.
-/
import Derived.Test.YtkgdlnnmkpgfdaaChecked
import Derived.Test.YtkgdlnnmkpgfdaaEff
import Derived.Test.YtkgdlnnmkpgfdaaRef08
import Derived.Test.YtkgdlnnmkpgfdaaVisit
import Derived.Test.YtkgdlnnmkpgfdaaReg
import Derived.Test.YtkgdlnnmkpgfdaaCut
import Derived.Test.YtkgdlnnmkpgfdaaBuild
import Derived.Test.YtkgdlnnmkpgfdaaAdd
import Derived.Test.YtkgdlnnmkpgfdaaAdds
import Derived.Test.YtkgdlnnmkpgfdaaAsked
import Derived.Test.YtkgdlnnmkpgfdaaNumb
import Derived.Test.YtkgdlnnmkpgfdaaFin
import Derived.Test.YtkgdlnnmkpgfdaaRfrz
import Derived.Test.YtkgdlnnmkpgfdaaSame
import Derived.Test.YtkgdlnnmkpgfdaaLawA
import Derived.Test.YtkgdlnnmkpgfdaaPlay
import Derived.Test.YtkgdlnnmkpgfdaaStr
import Derived.Test.YtkgdlnnmkpgfdaaPure
import Derived.Test.YtkgdlnnmkpgfdaaDawg
import Derived.Test.YtkgdlnnmkpgfdaaVis
import Derived.Test.YtkgdlnnmkpgfdaaRow
import Derived.Test.YtkgdlnnmkpgfdaaNode
import Derived.Test.YtkgdlnnmkpgfdaaMap
import Derived.Test.YtkgdlnnmkpgfdaaAuto
import Derived.Test.YtkgdlnnmkpgfdaaLast
import Derived.Test.YtkgdlnnmkpgfdaaTag
import Derived.Test.YtkgdlnnmkpgfdaaFrz
import Derived.Test.YtkgdlnnmkpgfdaaSet
set_option maxRecDepth 20000
set_option linter.unusedVariables false
namespace Go.Hb.Step
open Go.Proofs
open Go.Hb.Ref08 Go.Hb.Visit Go.Hb.Reg Go.Hb.Cut Go.Hb.Build Go.Hb.Add Go.Hb.Adds Go.Hb.Asked Go.Hb.Numb Go.Hb.Fin Go.Hb.Rfrz Go.Hb.Same Go.Hb.LawA Go.Hb.Play
theorem ag3 : aggN Try.prog 3 = some none := by kernel_rfl
theorem ag22 : aggN Try.prog 22 = some none := by kernel_rfl
theorem c11 : Callable Try.prog 11 := callable Try.func11 (by kernel_rfl) (by kernel_rfl)
theorem c14 : Callable Try.prog 14 := callable Try.func14 (by kernel_rfl) (by kernel_rfl)
theorem c15 : Callable Try.prog 15 := callable Try.func15 (by kernel_rfl) (by kernel_rfl)
theorem c22 : Callable Try.prog 22 := callable Try.func22 (by kernel_rfl) (by kernel_rfl)
theorem c23 : Callable Try.prog 23 := callable Try.func23 (by kernel_rfl) (by kernel_rfl)
theorem c24 : Callable Try.prog 24 := callable Try.func24 (by kernel_rfl) (by kernel_rfl)
theorem c36 : Callable Try.prog 36 := callable Try.func36 (by kernel_rfl) (by kernel_rfl)
theorem c37 : Callable Try.prog 37 := callable Try.func37 (by kernel_rfl) (by kernel_rfl)
theorem cz3 : cellsN Try.prog 3 = some 1 := by kernel_rfl
theorem fo55_0 : fieldOff Try.prog 55 0 = some 0 := by kernel_rfl
theorem fo55_1 : fieldOff Try.prog 55 1 = some 1 := by kernel_rfl
theorem fo55_2 : fieldOff Try.prog 55 2 = some 2 := by kernel_rfl
theorem fo57_0 : fieldOff Try.prog 57 0 = some 0 := by kernel_rfl
theorem fo57_1 : fieldOff Try.prog 57 1 = some 1 := by kernel_rfl
theorem u23 : Try.prog.underlying 23 = some (.slice 40) := by kernel_rfl
theorem u32 : Try.prog.underlying 32 = some (.slice 64) := by kernel_rfl
theorem wide : Try.prog.follows .mixedOrders = true := by kernel_rfl

theorem own_new2 {w : World} {B t cap : Nat} {a : Option Addr} {svs : List (Bool × Value)} (h : w.ownsRow B t 2 (.slice a svs.length cap) svs.length (sflat svs)) (hne : svs ≠ []) : B ≤ bk a ∧ bk a < w.heap.size :=
  own_new h (sflat_ne (List.length_pos_iff.2 hne))
theorem sts_new {E : Nat} {w : World} {B : Nat} {sts : List Ent} {svs : List (Bool × Value)} (h : StsT E w B sts svs) {q : Bool × Value} (hq : q ∈ svs) {ea : Option Addr} {n ec : Nat} (he : q.2 = .slice ea n ec) (hn : n ≠ 0) : B ≤ bk ea ∧ bk ea < w.heap.size := by
  obtain ⟨i, hi, rfl⟩ := List.mem_iff_getElem.1 hq
  obtain ⟨_, h2⟩ := h.2 i _ _ (List.getElem?_eq_getElem (by rw [h.1]; exact hi)) (List.getElem?_eq_getElem hi)
  rw [he] at h2
  obtain ⟨_, _, hv⟩ := own_slice h2
  simp only [Value.slice.injEq] at hv
  obtain ⟨_, rfl, _⟩ := hv
  exact own_new h2 (eflat_ne (by omega))
theorem bT' {p : Prop} [Decidable p] (h : p) : Value.bool (decide p) = Value.bool true := by rw [decide_eq_true h]
/-- a builder and its book -/
structure PS (w : World) (b bx : Nat) (most : Int) (ws : Tl) (st : Int) (S : Nat → Prop) : Prop where
  ex : ∃ A vw, PB w b most ws st A ∧ (∀ k, A k → S k) ∧ BkAt w bx most ws st vw ∧ (∀ k, BF2 bx vw k → S k) ∧ ∀ k, A k → ¬ BF2 bx vw k
  fit : Fit ws
  lt : ∀ k, S k → k < w.heap.size
theorem PS.md {F : Nat → Prop} {w w' : World} {b bx : Nat} {most st : Int} {ws : Tl} {S : Nat → Prop} (h : PS w b bx most ws st S) (hM : Md F w w') (hF : ∀ k, S k → ¬ F k) : PS w' b bx most ws st S := by
  obtain ⟨A, vw, h1, h2, h3, h4, h5⟩ := h.ex
  exact ⟨⟨A, vw, PB.md h1 hM (fun k hk => hF k (h2 k hk)), h2, BkAt.md h3 hM (fun k hk => hF k (h4 k hk)), h4, h5⟩, h.fit, fun k hk => Nat.lt_of_lt_of_le (h.lt k hk) hM.size⟩
/-- the words and the state behind a call -/
def stepW (kind most : Int) (ws : Tl) (st : Int) (l : Tl) : Tl := if kind = 1 then (bookAdd most ws st l).2.1 else ws
def stepS (kind most : Int) (ws : Tl) (st : Int) (l : Tl) : Int := if kind = 1 then (bookAdd most ws st l).2.2 else if kind = 3 then (bookFin most ws st).2 else st
theorem stepW_len (kind most : Int) (ws : Tl) (st : Int) (l : Tl) : (stepW kind most ws st l).length ≤ ws.length + l.length ∧ vol (stepW kind most ws st l) ≤ vol ws + vol l := by
  unfold stepW bookAdd
  split
  · split
    · have := addW_len most l ws
      exact ⟨this.1, this.2.1⟩
    · simp only; omega
  · omega
theorem bookAdd_fit {most st : Int} {ws l : Tl} (h : Fit ws) : Fit (bookAdd most ws st l).2.1 := by
  unfold bookAdd
  split
  · exact addW_fit h
  · exact h
/-- the document's add, in any state -/
theorem bookAdd_w (bx : Nat) (most : Int) (ws l : Tl) (st : Int) (vw : Value) (al_ : Option Addr) (cl_ : Nat) (w : World) (hB : BkAt w bx most ws st vw) (hf : Fit ws) (hS : Strs w.heap al_ l) (hsep : l.map str ≠ [] → ¬ BF2 bx vw (bk al_)) (hl : ws.length + l.length ≤ 1048576 ∧ vol ws + vol l ≤ 1048576) :
    Ret Try.prog 36 (List.toArray [.pointer (some ⟨bx, 0, none⟩), .slice al_ l.length cl_]) w (fun v w' => v = .int .i64 (bookAdd most ws st l).1 ∧ Md (BF2 bx vw) w w' ∧ ∃ vw', BkAt w' bx most (bookAdd most ws st l).2.1 (bookAdd most ws st l).2.2 vw' ∧ ∀ k, BF2 bx vw' k → BF2 bx vw k ∨ w.heap.size ≤ k) := by
  unfold bookAdd
  by_cases h0 : st = 0
  · subst h0
    rw [if_pos rfl]
    exact bookAdd0_w bx most ws l vw al_ cl_ w hB hf hS hsep hl
  · rw [if_neg h0]
    refine (bookAdd_done bx most ws st vw _ w hB h0).mono fun v w' ⟨h1, h2⟩ => ?_
    subst h2
    exact ⟨h1, Md.refl _ _, vw, hB, fun k hk => .inl hk⟩

set_option maxHeartbeats 2000000 in
theorem step_w (b bx : Nat) (most : Int) (ws : Tl) (st : Int) (S : Nat → Prop) (kind : Int) (l : Tl) (aw : Option Addr) (cw : Nat) (w : World) (hP : PS w b bx most ws st S) (hS : Strs w.heap aw l) (hsep : l.map str ≠ [] → ¬ S (bk aw)) (hl : ws.length + l.length ≤ 1048576 ∧ vol ws + vol l ≤ 1048576) :
    Ret Try.prog 25 (List.toArray [.pointer (some ⟨b, 0, none⟩), .pointer (some ⟨bx, 0, none⟩), .agg [.int .i64 kind, .slice aw l.length cw].toArray]) w (fun v w' => v = .bool true ∧ Md S w w' ∧ ∃ S', PS w' b bx most (stepW kind most ws st l) (stepS kind most ws st l) S' ∧ ∀ k, S' k → S k ∨ w.heap.size ≤ k) := by
  obtain ⟨A, vw, hPB, hAS, hBk, hBS, hdis⟩ := hP.ex
  have hfit := hP.fit
  refine enter Try.func25 rfl Try.ntmps25 rfl ?_
  refine sq (fun K1 hK1 => ?_)
  refine rg ?_
  refine e (bxa rfl fun b5 w5 hb5 hN5 hB5 => ?_)
  have hE5 : Wk w w5 := hN5.md
  have hb5x : Blk w5.heap b5 [.int .i64 kind, .slice aw l.length cw] := hB5
  have hPB5 := PB.wk hPB hE5
  have hBk5 := BkAt.wk hBk hE5
  have hlt := hP.lt
  have hs5 := hN5.size
  obtain ⟨av, cv, hvw⟩ := own_slice hBk.row
  refine p asg ?_
  refine nl ?_
  refine tn (hK1 _ _ ?_)
  refine sq (fun K2 hK2 => ?_)
  refine sq (fun K3 hK3 => ?_)
  refine rg ?_
  refine p (fa fo57_0 rfl) ?_
  refine p (ld ag3 rfl (hb5x.cel 0)) ?_
  refine nl ?_
  refine tn (hK3 _ _ ?_)
  refine blk ?_
  refine sq (fun K4 hK4 => ?_)
  refine rg ?_
  refine p (eqi rfl rfl) ?_
  refine p asg ?_
  refine nl ?_
  refine tn (hK4 _ _ ?_)
  refine cd rfl (fun hc12 => ?_) (fun hc12 => ?_)
  · refine sq (fun K5 hK5 => ?_)
    have hS5_ : Strs w5.heap aw l := hS.wk hE5
    have hS3 : (fun w' => cel w'.heap b5 1 = some (.slice aw l.length cw)) w5.drew := hb5x.cel 1
    refine hst (fun w' => cel w'.heap b5 1 = some (.slice aw l.length cw)) wide hS3 ?_
    refine hp 0 rfl (by kernel_rfl) (fun _ _ => mvt (.pointer (some ⟨b, 0, none⟩)) rfl) hS3 ?_
    refine hp 1 rfl (by kernel_rfl) (fun _ _ => fa fo57_1 rfl) hS3 ?_
    refine hp 2 rfl (by kernel_rfl) (fun w' hS => ld ag22 rfl (hS)) hS3 ?_
    refine hp 5 rfl (by kernel_rfl) (fun _ _ => mvt (.pointer (some ⟨bx, 0, none⟩)) rfl) hS3 ?_
    refine hp 6 rfl (by kernel_rfl) (fun _ _ => fa fo57_1 rfl) hS3 ?_
    refine hp 7 rfl (by kernel_rfl) (fun w' hS => ld ag22 rfl (hS)) hS3 ?_
    refine he 3 rfl (by kernel_rfl) (cl c11 (twin_w l aw cw _ ((hS5_.wk (Md.refl _ _).drew)) (by omega)) rfl fun v17 w17 hR17 => ?_)
    obtain ⟨hE17, ho17⟩ := hR17
    obtain ⟨a9, c9, rfl⟩ := own_slice ho17
    have hE17x : Wk w w17 := Md.trans hE5.drew hE17
    have hs17 := hE17.size
    have hd5 : w5.drew.heap.size = w5.heap.size := rfl
    have hS3_3 : (fun w' => cel w'.heap b5 1 = some (.slice aw l.length cw)) w17 := Wk.cel hE17 hS3
    refine ⟨hS3_3, ?_⟩
    refine he 4 rfl (by kernel_rfl) (cl c22 (addP_w b most ws st A l a9 c9 _ (PB.wk hPB hE17x) hfit (own_cellsS ho17).2 (fun hne h => by have h1 := hlt _ (hAS _ h); have h2 := own_new ho17 hne; omega) (by omega) (fun k hk => by have := hlt k (hAS k hk); omega)) rfl fun v18 w18 hR18 => ?_)
    obtain ⟨rfl, hM18, A1, hPB1, hA1, hA1l⟩ := hR18
    have hs18 := hM18.size
    have hBk1 := BkAt.md (BkAt.wk hBk hE17x) hM18 (fun k hk h => hdis k h hk)
    have hM18x : Md S w w18 := Md.trans' (hE17x.mono (fun _ _ h => h.elim)) hM18 (fun k _ h => hAS k h)
    have hS3_4 : (fun w' => cel w'.heap b5 1 = some (.slice aw l.length cw)) w18 := hM18.cel hS3_3 (fun h => by have := hlt _ (hAS _ h); omega)
    refine ⟨hS3_4, ?_⟩
    refine he 8 rfl (by kernel_rfl) (cl c36 (bookAdd_w bx most ws l st vw aw cw _ hBk1 hfit (Cells.md hS hM18x hsep) (fun hne h => hsep hne (hBS _ h)) hl) rfl fun v22 w22 hR22 => ?_)
    obtain ⟨rfl, hM22, vw2, hBk2, hB2⟩ := hR22
    have hPB2 := PB.md hPB1 hM22 (fun k hk h => by
      rcases hA1 k hk with h2 | h2
      · exact hdis k h2 h
      · have := hlt k (hBS k h); omega)
    have hM22x : Md S w w22 := Md.trans' hM18x hM22 (fun k _ h => hBS k h)
    have hS3_8 : (fun w' => cel w'.heap b5 1 = some (.slice aw l.length cw)) w22 := hM22.cel hS3_4 (fun h => by have := hlt _ (hBS _ h); omega)
    refine ⟨hS3_8, ?_⟩
    refine hp 9 rfl (by kernel_rfl) (fun _ _ => eqi rfl rfl) hS3_8 ?_
    refine hp 10 rfl (by kernel_rfl) (fun _ _ => asg) hS3_8 ?_
    refine hn (by kernel_rfl) ?_
    refine tn (hK5 _ _ ?_)
    refine rt ?_
    refine br ?_
    refine tr ?_
    refine f1 rfl rfl ?_
    refine ⟨(bT rfl).symm, hM22x, fun k => A1 k ∨ BF2 bx vw2 k, ⟨⟨A1, vw2, ?_, fun k h => .inl h, ?_, fun k h => .inr h, fun k h1 h2 => ?_⟩, ?_, fun k h => ?_⟩, fun k h => ?_⟩
    · unfold stepW stepS; rw [if_pos hc12, if_pos hc12]; exact hPB2
    · unfold stepW stepS; rw [if_pos hc12, if_pos hc12]; exact hBk2
    · rcases hB2 k h2 with h3 | h3
      · rcases hA1 k h1 with h4 | h4
        · exact hdis k h4 h3
        · have := hlt k (hBS k h3); omega
      · have := hA1l k h1; omega
    · unfold stepW; rw [if_pos hc12]; exact bookAdd_fit hfit
    · rcases h with h | h
      · have := hA1l k h; have := hM22.size; omega
      · exact BkAt.lt hBk2 h
    · rcases h with h | h
      · rcases hA1 k h with h2 | h2
        · exact .inl (hAS k h2)
        · exact .inr (by omega)
      · rcases hB2 k h with h2 | h2
        · exact .inl (hBS k h2)
        · exact .inr (by omega)
  · refine sq (fun K5 hK5 => ?_)
    refine rg ?_
    refine p (eqi rfl rfl) ?_
    refine p asg ?_
    refine nl ?_
    refine tn (hK5 _ _ ?_)
    refine cd rfl (fun hc24 => ?_) (fun hc24 => ?_)
    · refine sq (fun K6 hK6 => ?_)
      refine rg ?_
      refine p (mvt (.pointer (some ⟨b, 0, none⟩)) rfl) ?_
      refine e (cl c24 (frozenP_w b most ws st A _ hPB5) rfl fun v27 w27 hR27 => ?_)
      obtain ⟨hw27, rfl⟩ := hR27
      subst w27
      refine p (mvt (.pointer (some ⟨bx, 0, none⟩)) rfl) ?_
      refine e (cl c37 (bookFrozen_w bx most ws st vw _ hBk5 hfit (by omega)) rfl fun v29 w29 hR29 => ?_)
      obtain ⟨rfl, hE29⟩ := hR29
      refine p (eqi rfl rfl) ?_
      refine p asg ?_
      refine nl ?_
      refine tn (hK6 _ _ ?_)
      refine rt ?_
      refine br ?_
      refine tr ?_
      refine f1 rfl rfl ?_
      have e1 : stepW kind most ws st l = ws := by unfold stepW; rw [if_neg hc12]
      have e2 : stepS kind most ws st l = st := by unfold stepS; rw [if_neg hc12, if_neg (by omega)]
      have hE := Md.trans hE5 hE29
      rw [e1, e2]
      exact ⟨(bT rfl).symm, hE.mono (fun _ _ h => h.elim), S, hP.md hE (fun _ _ x => x), fun k h => .inl h⟩
    · refine sq (fun K6 hK6 => ?_)
      refine rg ?_
      refine p (eqi rfl rfl) ?_
      refine p asg ?_
      refine nl ?_
      refine tn (hK6 _ _ ?_)
      refine cd rfl (fun hc31 => ?_) (fun hc31 => ?_)
      · refine sq (fun K7 hK7 => ?_)
        refine rg ?_
        refine p (mvt (.pointer (some ⟨b, 0, none⟩)) rfl) ?_
        refine e (cl c23 (finishP_w b most ws st A _ hPB5 hfit (by omega) (fun k hk => by have := hlt k (hAS k hk); omega)) rfl fun v35 w35 hR35 => ?_)
        obtain ⟨hM35, hPB3, aa, nn_, cc, rfl, hno, hok⟩ := hR35
        have hBk3 := BkAt.md hBk5 hM35 (fun k hk h => hdis k h hk)
        have hs35 := hM35.size
        have hM35x : Md S w w35 := Md.trans' (hE5.mono (fun _ _ h => h.elim)) hM35 (fun k _ h => hAS k h)
        have hbk3 : Blk w35.heap bx [vw, .int .i64 most, .int .i64 st] := ⟨_, hBk3.blk⟩
        refine p mv ?_
        refine p (xt rfl rfl) ?_
        refine p (xt rfl rfl) ?_
        refine p asg ?_
        refine p asg ?_
        refine nl ?_
        refine tn (hK7 _ _ ?_)
        refine sq (fun K8 hK8 => ?_)
        refine sq (fun K9 hK9 => ?_)
        refine rg ?_
        refine p (mvt (.pointer (some ⟨bx, 0, none⟩)) rfl) ?_
        refine p (nc rfl) ?_
        refine p (fa fo55_2 rfl) ?_
        refine p (ld ag3 rfl (hbk3.cel 2)) ?_
        refine p (nei rfl rfl) ?_
        refine nl ?_
        refine tn (hK9 _ _ ?_)
        refine cd rfl (fun hc42 => ?_) (fun hc42 => ?_)
        · refine sq (fun K10 hK10 => ?_)
          have hfne : (bookFin most ws st).1 ≠ 0 := by unfold bookFin; rw [if_neg hc42]; exact hc42
          refine rg ?_
          refine p mv ?_
          refine p (lnl u23 rfl rfl) ?_
          refine p (eqi rfl rfl) ?_
          refine p mv ?_
          refine gs (t := 46) rfl (fun hg46 => ?_) (fun h => absurd (by have := hno hfne; omega) h)
          refine pg rfl rfl rfl mv ?_
          refine pg rfl rfl rfl (mvt (.pointer (some ⟨bx, 0, none⟩)) rfl) ?_
          refine pg rfl rfl rfl (nc rfl) ?_
          refine pg rfl rfl rfl (fa fo55_2 rfl) ?_
          refine pg rfl rfl rfl (ld ag3 rfl (hbk3.cel 2)) ?_
          refine pg rfl rfl rfl (eqi rfl rfl) ?_
          refine p (pkt rfl) ?_
          refine p asg ?_
          refine nl ?_
          refine tn (hK10 _ _ ?_)
          refine rt ?_
          refine tr ?_
          refine br ?_
          refine tr ?_
          refine f1 rfl rfl ?_
          have e1 : stepW kind most ws st l = ws := by unfold stepW; rw [if_neg hc12]
          have e2 : bookFin most ws st = (st, st) := by unfold bookFin; rw [if_neg hc42]
          have e3 : stepS kind most ws st l = st := by unfold stepS; rw [if_neg hc12, if_pos hc31, e2]
          rw [e1, e3]
          rw [e2] at hPB3
          exact ⟨bT' (by rw [e2]), hM35x, S, ⟨⟨A, vw, hPB3, hAS, hBk3, hBS, hdis⟩, hfit, fun k h => by have := hlt k h; omega⟩, fun k h => .inl h⟩
        · refine skp ?_
          refine tn (hK8 _ _ ?_)
          refine sq (fun K10 hK10 => ?_)
          have hst0 : st = 0 := by omega
          subst hst0
          subst hvw
          have hBk30 := hBk3
          have hbk30 : Blk w35.heap bx [(.slice av ws.length cv), .int .i64 most, .int .i64 (0 : Int)] := ⟨_, hBk30.blk⟩
          refine rg ?_
          refine p (mvt (.pointer (some ⟨bx, 0, none⟩)) rfl) ?_
          refine p (nc rfl) ?_
          refine p (fa fo55_0 rfl) ?_
          refine p (ld ag22 rfl (hbk30.cel 0)) ?_
          refine e (cl c15 (automaton_w ws av cv _ (own_cellsS hBk30.row).2 hfit (by omega) (by omega)) rfl fun v58 w58 hR58 => ?_)
          obtain ⟨hE58, svB, aB, cB, rfl, hoB, hsB⟩ := hR58
          obtain ⟨_, _, hvB, hSB⟩ := SR.of hoB hsB
          simp only [Value.slice.injEq, true_and] at hvB
          obtain ⟨rfl, rfl⟩ := hvB
          have hlB : svB.length = (aut ws).length := hsB.1.symm
          have hbk4 := Wk.B hE58 hbk30
          have hBk4 := BkAt.wk hBk30 hE58
          have hs58 := hE58.size
          have hbl := aut_small hfit
          refine p asg ?_
          refine nl ?_
          refine tn (hK10 _ _ ?_)
          refine sq (fun K11 hK11 => ?_)
          refine sq (fun K12 hK12 => ?_)
          refine rg ?_
          refine p mv ?_
          refine p (lnl u32 rfl rfl) ?_
          refine p (mvt (.pointer (some ⟨bx, 0, none⟩)) rfl) ?_
          refine p (nc rfl) ?_
          refine p (fa fo55_1 rfl) ?_
          refine p (ld ag3 rfl (hbk4.cel 1)) ?_
          refine p (gt rfl rfl) ?_
          refine nl ?_
          refine tn (hK12 _ _ ?_)
          refine cd rfl (fun hc65 => ?_) (fun hc65 => ?_)
          · refine sq (fun K13 hK13 => ?_)
            refine rg ?_
            refine p (mvt (.pointer (some ⟨bx, 0, none⟩)) rfl) ?_
            refine p (nc rfl) ?_
            refine p (fa fo55_2 rfl) ?_
            refine e (stT cz3 rfl rfl rfl hBk4.blk (by simp) fun w12 hM12 hB12 => ?_)
            refine nl ?_
            refine tn (hK13 _ _ ?_)
            refine sq (fun K14 hK14 => ?_)
            have hfin1 : bookFin most ws 0 = (181, 181) := by unfold bookFin; rw [if_pos rfl, if_pos (by omega)]
            refine rg ?_
            refine p mv ?_
            refine p (lnl u23 rfl rfl) ?_
            refine p (eqi rfl rfl) ?_
            refine p mv ?_
            refine gs (t := 72) rfl (fun hg72 => ?_) (fun h => absurd (by have := hno (by rw [hfin1]; decide); omega) h)
            refine pg rfl rfl rfl mv ?_
            refine pg rfl rfl rfl (eqi rfl rfl) ?_
            refine p (pkt rfl) ?_
            refine p asg ?_
            refine nl ?_
            refine tn (hK14 _ _ ?_)
            refine rt ?_
            refine tr ?_
            refine br ?_
            refine tr ?_
            refine f1 rfl rfl ?_
            have e1 : stepW kind most ws 0 l = ws := by unfold stepW; rw [if_neg hc12]
            have e3 : stepS kind most ws 0 l = 181 := by unfold stepS; rw [if_neg hc12, if_pos hc31, hfin1]
            rw [e1, e3]
            rw [hfin1] at hPB3
            have hbn : ∀ k, A k → ¬ k = bx := fun k h1 h2 => hdis k h1 (.inl h2)
            exact ⟨bT' (by rw [hfin1]), Md.trans' (Md.trans' hM35x hE58 (fun _ _ h => h.elim)) hM12 (fun k _ h => h ▸ hBS bx (.inl rfl)), S, ⟨⟨A, _, PB.md (PB.wk hPB3 hE58) hM12 hbn, hAS, ⟨hB12, own_md hBk4.row hM12 (fun k hk h => own_cellne hBk4.row hBk4.blk (by decide) (h ▸ hk))⟩, hBS, hdis⟩, hfit, fun k h => by have := hlt k h; have := hM12.size; omega⟩, fun k h => .inl h⟩
          · refine skp ?_
            refine tn (hK11 _ _ ?_)
            refine sq (fun K13 hK13 => ?_)
            refine rg ?_
            refine p (mvt (.pointer (some ⟨bx, 0, none⟩)) rfl) ?_
            refine p (nc rfl) ?_
            refine p (fa fo55_2 rfl) ?_
            refine e (stT cz3 rfl rfl rfl hBk4.blk (by simp) fun w14 hM14 hB14 => ?_)
            have hfin0 : bookFin most ws 0 = (0, 182) := by unfold bookFin; rw [if_pos rfl, if_neg (by omega)]
            rw [hfin0] at hok hPB3
            obtain ⟨svs, rfl, hA⟩ := hok rfl
            have hE14 : Md (fun k => k = bx) w35 w14 := Md.trans' (hE58.mono (fun _ _ h => h.elim)) hM14 (fun k _ h => h)
            have hSA := hA.sr
            have hSA2 : SR w14 aa svs (aut ws) := hSA.md hE14 (fun hne h => by
                have h1 := own_new2 hA.1 hne
                have h2 := hlt bx (hBS bx (.inl rfl))
                omega) (fun q hq ea n ec he hn h => by
                have h1 := sts_new hA.2.1 hq he hn
                have h2 := hlt bx (hBS bx (.inl rfl))
                omega)
            have hSB2 : SR w14 aB svB (auto ws) := hSB.md hM14 (fun hne h => by
                have h1 := own_new2 hoB hne
                have h2 := hlt bx (hBS bx (.inl rfl))
                omega) (fun q hq ea n ec he hn h => by
                have h1 := sts_new hsB hq he hn
                have h2 := hlt bx (hBS bx (.inl rfl))
                omega)
            refine nl ?_
            refine tn (hK13 _ _ ?_)
            refine sq (fun K14 hK14 => ?_)
            refine rg ?_
            refine p mv ?_
            refine p (eqi rfl rfl) ?_
            refine p mv ?_
            refine gs (t := 81) rfl (fun hg81 => ?_) (fun h => absurd (show (bookFin most ws 0).1 = 0 by rw [hfin0]) h)
            refine pg rfl rfl rfl mv ?_
            refine pg rfl rfl rfl mv ?_
            refine eg rfl rfl rfl (cl c14 (same_w aa aB cc cB svs svB (aut ws) (auto ws) _ hSA2 hSB2 (by rw [← hSA.len]; have := hbl.1; omega) (by have := hbl.1; omega) (fun p hp => by have := hbl.2 p hp; omega)) rfl fun v84 w84 hR84 => ?_)
            obtain ⟨rfl, hE84⟩ := hR84
            refine p (pkt rfl) ?_
            refine p asg ?_
            refine nl ?_
            refine tn (hK14 _ _ ?_)
            refine rt ?_
            refine br ?_
            refine tr ?_
            refine f1 rfl rfl ?_
            have e1 : stepW kind most ws 0 l = ws := by unfold stepW; rw [if_neg hc12]
            have e3 : stepS kind most ws 0 l = 182 := by unfold stepS; rw [if_neg hc12, if_pos hc31, hfin0]
            rw [e1, e3]
            have hbn : ∀ k, A k → ¬ k = bx := fun k h1 h2 => hdis k h1 (.inl h2)
            have hM14x : Md S w w14 := Md.trans' (Md.trans' hM35x hE58 (fun _ _ h => h.elim)) hM14 (fun k _ h => h ▸ hBS bx (.inl rfl))
            exact ⟨(bT (auto_aut ws).symm).symm, Md.trans' hM14x hE84 (fun _ _ h => h.elim), S, ⟨⟨A, _, PB.wk (PB.md (PB.wk hPB3 hE58) hM14 hbn) hE84, hAS, BkAt.wk ⟨hB14, own_md hBk4.row hM14 (fun k hk h => own_cellne hBk4.row hBk4.blk (by decide) (h ▸ hk))⟩ hE84, hBS, hdis⟩, hfit, fun k h => by have := hlt k h; have := hM14.size; have := hE84.size; omega⟩, fun k h => .inl h⟩
      · refine skp ?_
        refine bn ?_
        refine tn (hK2 _ _ ?_)
        refine sq (fun K7 hK7 => ?_)
        refine rg ?_
        refine p asg ?_
        refine nl ?_
        refine tn (hK7 _ _ ?_)
        refine rt ?_
        refine f1 rfl rfl ?_
        have e1 : stepW kind most ws st l = ws := by unfold stepW; rw [if_neg hc12]
        have e2 : stepS kind most ws st l = st := by unfold stepS; rw [if_neg hc12, if_neg hc31]
        rw [e1, e2]
        exact ⟨rfl, hE5.mono (fun _ _ h => h.elim), S, hP.md hE5 (fun _ _ x => x), fun k h => .inl h⟩
end Go.Hb.Step
