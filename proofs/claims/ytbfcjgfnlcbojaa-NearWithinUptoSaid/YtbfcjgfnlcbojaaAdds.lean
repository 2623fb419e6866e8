/-
  Walk of package dawg: words added. No conditions but those that each theorem names.
-/
import Derived.Test.YtbfcjgfnlcbojaaChecked
import Derived.Test.YtbfcjgfnlcbojaaCore
import Derived.Test.YtbfcjgfnlcbojaaWords
import Derived.Test.YtbfcjgfnlcbojaaRef18
import Derived.Test.YtbfcjgfnlcbojaaVisit
import Derived.Test.YtbfcjgfnlcbojaaReg
import Derived.Test.YtbfcjgfnlcbojaaCut
import Derived.Test.YtbfcjgfnlcbojaaBuild
import Derived.Test.YtbfcjgfnlcbojaaAdd
import Derived.Test.YtbfcjgfnlcbojaaPlan
set_option maxRecDepth 20000
set_option linter.unusedVariables false
namespace Go.Hb.Adds
open Go.Proofs
open Go.Hb.Words Go.Hb.Ref18 Go.Hb.Visit Go.Hb.Reg Go.Hb.Cut Go.Hb.Build Go.Hb.Add
theorem ag9 : aggN Try.prog 9 = some none := by kernel_rfl
theorem c42 : Callable Try.prog 42 := callable Try.func42 (by kernel_rfl) (by kernel_rfl)
theorem c43 : Callable Try.prog 43 := callable Try.func43 (by kernel_rfl) (by kernel_rfl)
theorem es48 : elemSize Try.prog 48 = some 1 := by kernel_rfl
theorem u48 : Try.prog.underlying 48 = some (.slice 9) := by kernel_rfl

/-- all blocks of a builder -/
def AL (b m : Nat) (vp : Value) (fz pa : List FN) (k : Nat) : Prop := FB b m vp pa k ∨ ∃ x ∈ fz, k = x.p ∨ x.ev.ownBlock = some k
/-- a builder in memory that takes words -/
structure BA (w : World) (b m : Nat) (most st cnt : Int) (vp : Value) (fz pa : List FN) (x : AB) : Prop where
  db : DB w b m most st cnt x.last x.any vp (pa.map FN.p) fz pa x.last
  s : x.s = (fz.map ent, pa.map ent)
  good : GoodX x
theorem BA.plen {w : World} {b m : Nat} {most st cnt : Int} {vp : Value} {fz pa : List FN} {x : AB} (h : BA w b m most st cnt vp fz pa x) : pa.length = x.last.length + 1 := by
  have := h.good.len
  rw [h.s] at this
  simpa using this
theorem BA.K {w : World} {b m : Nat} {most st cnt : Int} {vp : Value} {fz pa : List FN} {x : AB} (h : BA w b m most st cnt vp fz pa x) : ∀ y ∈ pa, y.es.length ≤ 256 := fun y hy => by
  obtain ⟨i, hi, rfl⟩ := List.mem_iff_getElem.1 hy
  have := h.good.g.rp i (ent pa[i]) (by rw [h.s, List.getElem?_map, List.getElem?_eq_getElem hi]; rfl)
  exact ris_len this.1
theorem AL.of {b m : Nat} {vp vp' : Value} {fz pa fz' pa' : List FN} {n : Nat} (h1 : ∀ k, FB b m vp' pa' k → FB b m vp pa k ∨ n ≤ k) (h2 : ∀ x ∈ fz', x ∈ fz ∨ ∃ y ∈ pa, pe y = pe x) : ∀ k, AL b m vp' fz' pa' k → AL b m vp fz pa k ∨ n ≤ k := by
  rintro k (h | ⟨x, hx, h⟩)
  · exact (h1 k h).imp .inl id
  · rcases h2 x hx with h3 | ⟨y, hy, he⟩
    · exact .inl (.inr ⟨x, h3, h⟩)
    · refine .inl (.inl (.inr (.inr (.inr ⟨y, hy, ?_⟩))))
      rcases h with h | h
      · exact .inl (h.trans (congrArg Prod.fst he).symm)
      · exact .inr ((congrArg (fun q : Nat × Value => q.2.ownBlock) he).trans h)
theorem BA.lt {w : World} {b m : Nat} {most st cnt : Int} {vp : Value} {fz pa : List FN} {x : AB} (h : BA w b m most st cnt vp fz pa x) {k : Nat} (hk : AL b m vp fz pa k) : k < w.heap.size := by
  have hn : ∀ (p : Nat) (ev : Value) (f : Bool) (es : List (UInt8 × Nat)) (id : Nat), NdAt w p ev f es id → (k = p ∨ ev.ownBlock = some k) → k < w.heap.size := fun p ev f es id hN hk => by
    rcases hk with rfl | hk
    · exact hN.B.lt
    · exact (own_lt hN.row hk).2
  rcases hk with (rfl | rfl | hk | ⟨x, hx, hk⟩) | ⟨x, hx, hk⟩
  · exact Blk.lt ⟨_, h.db.blk⟩
  · exact h.db.map.lt
  · exact (own_lt h.db.path hk).2
  · obtain ⟨i, hi, rfl⟩ := List.mem_iff_getElem.1 hx
    exact hn _ _ _ _ _ (h.db.hpa i _ (List.getElem?_eq_getElem hi)).1 hk
  · obtain ⟨i, hi, rfl⟩ := List.mem_iff_getElem.1 hx
    exact hn _ _ _ _ _ (h.db.hfz i _ (List.getElem?_eq_getElem hi)).1 hk
theorem BA.wk {w w' : World} {b m : Nat} {most st cnt : Int} {vp : Value} {fz pa : List FN} {x : AB} (h : BA w b m most st cnt vp fz pa x) (hm : Wk w w') : BA w' b m most st cnt vp fz pa x := ⟨db_wk h.db hm, h.s, h.good⟩
/-- one word more, in terms of plain builders -/
theorem add1_w (b m : Nat) (most cnt : Int) (wd : List UInt8) (x : AB) (vp : Value) (fz pa : List FN) (w : World) (hB : BA w b m most 0 cnt vp fz pa x) (hfl : fz.length ≤ 68719476736) :
    Ret Try.prog 43 (List.toArray [.pointer (some ⟨b, 0, none⟩), str wd]) w (fun v w' => v = .int .i64 (add1 most x wd).1 ∧ ∃ vp' fz' pa', BA w' b m most (if (add1 most x wd).1 = 181 then 181 else 0) cnt vp' fz' pa' (add1 most x wd).2 ∧ Md (AL b m vp fz pa) w w' ∧ (∀ k, AL b m vp' fz' pa' k → AL b m vp fz pa k ∨ w.heap.size ≤ k) ∧ fz'.length ≤ fz.length + 255 ∧ ((add1 most x wd).1 = 0 ∨ (add1 most x wd).1 = 22 ∨ (add1 most x wd).1 = 180 ∨ (add1 most x wd).1 = 181)) := by
  refine (add_w b m 256 most cnt x.last wd x.any vp fz pa w hB.db hB.plen hB.good.l255 hfl hB.K (by omega)).mono fun v w' h => ?_
  rcases h with ⟨h1, rfl, rfl⟩ | ⟨h1, h2, h3, rfl, rfl⟩ | ⟨h1, h2, vp', fz', pa', rfl, h3, h4, h5, h6, h7, h8⟩
  · rw [add1_22 h1]
    refine ⟨rfl, vp, fz, pa, ?_, Md.refl _ _, fun k h => .inl h, by omega, Or.inr (Or.inl rfl)⟩
    rw [if_neg (show ¬ ((22 : Int) = 181) by decide)]; exact hB
  · rw [add1_180 h1 h2 h3]
    refine ⟨rfl, vp, fz, pa, ?_, Md.refl _ _, fun k h => .inl h, by omega, Or.inr (Or.inr (Or.inl rfl))⟩
    rw [if_neg (show ¬ ((180 : Int) = 181) by decide)]; exact hB
  · have hg := add_good hB.good h1 h2
    have hgr := add_grow (wd := wd) hB.good
    rw [hB.s, h5] at hg hgr
    simp only [List.length_map] at hgr
    rw [add1_ok h1 h2, hB.s, h5]
    simp only [List.length_map]
    refine ⟨trivial, vp', fz', pa', ⟨?_, rfl, hg⟩, h6.mono (fun k _ h => .inl h), AL.of h7 h8, hgr, ?_⟩
    · by_cases hm : most < (fz'.length : Int)
      · rw [if_pos hm] at h3 ⊢; exact h3
      · rw [if_neg hm] at h3 ⊢; exact h3
    · by_cases hm : most < (fz'.length : Int)
      · rw [if_pos hm]; exact .inr (.inr (.inr rfl))
      · rw [if_neg hm]; exact .inl rfl

theorem adds_nil (vl : Value) (w : World) :
    Ret Try.prog 33 (List.toArray [.pointer none, vl]) w (fun v w' => v = .int .i64 1 ∧ w' = w) := by
  refine enter Try.func33 rfl Try.ntmps33 rfl ?_
  refine sq (fun K1 hK1 => ?_)
  refine rg ?_
  refine p asg ?_
  refine nl ?_
  refine tn (hK1 _ _ ?_)
  refine sq (fun K2 hK2 => ?_)
  refine sq (fun K3 hK3 => ?_)
  refine rg ?_
  refine p (mvt (.pointer none) rfl) ?_
  refine e (cl c42 (ready_nil _) rfl fun v10 w10 hR10 => ?_)
  obtain ⟨rfl, rfl⟩ := hR10
  refine p asg ?_
  refine nl ?_
  refine tn (hK3 _ _ ?_)
  refine sq (fun K4 hK4 => ?_)
  refine rg ?_
  refine p mv ?_
  refine p (nei rfl rfl) ?_
  refine nl ?_
  refine tn (hK4 _ _ ?_)
  refine cd rfl (fun hc12 => ?_) (fun h => absurd (by decide) h)
  refine sq (fun K5 hK5 => ?_)
  refine rg ?_
  refine p mv ?_
  refine p asg ?_
  refine nl ?_
  refine tn (hK5 _ _ ?_)
  refine rt ?_
  refine tr ?_
  refine f1 rfl rfl ?_
  exact ⟨rfl, rfl⟩
theorem adds_done (b : Nat) (st : Int) (vl : Value) (w : World) (hb : cel w.heap b 5 = some (.int .i64 st)) (hst : st ≠ 0) :
    Ret Try.prog 33 (List.toArray [.pointer (some ⟨b, 0, none⟩), vl]) w (fun v w' => v = .int .i64 st ∧ w' = w) := by
  refine enter Try.func33 rfl Try.ntmps33 rfl ?_
  refine sq (fun K1 hK1 => ?_)
  refine rg ?_
  refine p asg ?_
  refine nl ?_
  refine tn (hK1 _ _ ?_)
  refine sq (fun K2 hK2 => ?_)
  refine sq (fun K3 hK3 => ?_)
  refine rg ?_
  refine p (mvt (.pointer (some ⟨b, 0, none⟩)) rfl) ?_
  refine e (cl c42 (ready_w b st _ hb) rfl fun v10 w10 hR10 => ?_)
  obtain ⟨rfl, rfl⟩ := hR10
  refine p asg ?_
  refine nl ?_
  refine tn (hK3 _ _ ?_)
  refine sq (fun K4 hK4 => ?_)
  refine rg ?_
  refine p mv ?_
  refine p (nei rfl rfl) ?_
  refine nl ?_
  refine tn (hK4 _ _ ?_)
  refine cd rfl (fun hc12 => ?_) (fun h => absurd hst h)
  refine sq (fun K5 hK5 => ?_)
  refine rg ?_
  refine p mv ?_
  refine p asg ?_
  refine nl ?_
  refine tn (hK5 _ _ ?_)
  refine rt ?_
  refine tr ?_
  refine f1 rfl rfl ?_
  exact ⟨rfl, rfl⟩
theorem adds_w (b m : Nat) (most cnt : Int) (x : AB) (vp : Value) (fz pa : List FN) (ws : Tl) (aw : Option Addr) (cw : Nat) (w : World) (hB : BA w b m most 0 cnt vp fz pa x) (hS : Strs w.heap aw ws) (hsep : ws.map str ≠ [] → ¬ AL b m vp fz pa (bk aw)) (hfl : fz.length + 255 * ws.length ≤ 68719476736) (hwl : ws.length ≤ 137438953472) :
    Ret Try.prog 33 (List.toArray [.pointer (some ⟨b, 0, none⟩), .slice aw ws.length cw]) w (fun v w' => v = .int .i64 (addL most x ws).1 ∧ ∃ vp' fz' pa', BA w' b m most (if (addL most x ws).1 = 181 then 181 else 0) cnt vp' fz' pa' (addL most x ws).2 ∧ Md (AL b m vp fz pa) w w' ∧ (∀ k, AL b m vp' fz' pa' k → AL b m vp fz pa k ∨ w.heap.size ≤ k) ∧ fz'.length ≤ fz.length + 255 * ws.length) := by
  have hb0 : Blk w.heap b [.int .i64 most, str x.last, .bool x.any, vp, .map (some m), .int .i64 (0 : Int), .int .i64 cnt] := ⟨_, hB.db.blk⟩
  refine enter Try.func33 rfl Try.ntmps33 rfl ?_
  refine sq (fun K1 hK1 => ?_)
  refine rg ?_
  refine p asg ?_
  refine nl ?_
  refine tn (hK1 _ _ ?_)
  refine sq (fun K2 hK2 => ?_)
  refine sq (fun K3 hK3 => ?_)
  refine rg ?_
  refine p (mvt (.pointer (some ⟨b, 0, none⟩)) rfl) ?_
  refine e (cl c42 (ready_w b 0 _ (hb0.cel 5)) rfl fun v10 w10 hR10 => ?_)
  obtain ⟨rfl, hw10⟩ := hR10
  subst w10
  refine p asg ?_
  refine nl ?_
  refine tn (hK3 _ _ ?_)
  refine sq (fun K4 hK4 => ?_)
  refine rg ?_
  refine p mv ?_
  refine p (nei rfl rfl) ?_
  refine nl ?_
  refine tn (hK4 _ _ ?_)
  refine cd rfl (fun h => absurd h (by decide)) (fun hc12 => ?_)
  refine skp ?_
  refine tn (hK2 _ _ ?_)
  refine sq (fun K5 hK5 => ?_)
  refine sq (fun K6 hK6 => ?_)
  refine rg ?_
  refine p (mvt (.slice aw ws.length cw) rfl) ?_
  refine p (lnl u48 rfl rfl) ?_
  refine p mv ?_
  refine nl ?_
  refine tn (hK6 _ _ ?_)
  refine blk ?_
  refine lp (fun gm σ1 wL => ∃ (i : Nat) (xi : AB) (vpi : Value) (fzi pai : List FN), (i ≤ ws.length) ∧ (addL most x ws = addL most xi (ws.drop i)) ∧ (BA wL b m most 0 cnt vpi fzi pai xi) ∧ (Md (AL b m vp fz pa) w wL) ∧ (∀ k, AL b m vpi fzi pai k → AL b m vp fz pa k ∨ w.heap.size ≤ k) ∧ (fzi.length + 255 * (ws.length - i) ≤ fz.length + 255 * ws.length) ∧ (σ1 0 = .pointer (some ⟨b, 0, none⟩)) ∧ (σ1 14 = .slice aw ws.length cw) ∧ (σ1 15 = .int .i64 ws.length) ∧ (σ1 16 = .int .i64 i) ∧ (ws.length - i = gm)) _ ⟨0, x, vp, fz, pa, (by omega), (by rw [List.drop_zero]), hB, (Md.refl _ _), (fun k h => .inl h), (by omega), rfl, rfl, rfl, rfl, rfl⟩ ?_
  rintro gm σ1 wL ⟨i, xi, vpi, fzi, pai, hi1, hadd, hBi, hMi, hFi, hfi, hs1_0, hs1_14, hs1_15, hs1_16, rfl⟩
  refine fx 0 hs1_0 (fx 14 hs1_14 (fx 15 hs1_15 (fx 16 hs1_16 ?_)))
  have hSi : Strs wL.heap aw ws := Cells.md hS hMi hsep
  refine sq (fun K7 hK7 => ?_)
  refine rg ?_
  refine p (lt rfl rfl) ?_
  refine nl ?_
  refine tn (hK7 _ _ ?_)
  refine sq (fun K8 hK8 => ?_)
  refine cd rfl (fun hc17 => ?_) (fun hc17 => ?_)
  · refine skp ?_
    refine tn (hK8 _ _ ?_)
    refine sq (fun K9 hK9 => ?_)
    refine blk ?_
    refine sq (fun K10 hK10 => ?_)
    refine rg ?_
    refine p (ia' es48 rfl rfl (by omega) (Cells.ok (hSi) (ne_map (by omega)))) ?_
    refine p (ld ag9 rfl (Strs.get (i := i) hSi (by omega))) ?_
    refine p asg ?_
    refine nl ?_
    refine tn (hK10 _ _ ?_)
    refine sq (fun K11 hK11 => ?_)
    refine rg ?_
    refine p (mvt (.pointer (some ⟨b, 0, none⟩)) rfl) ?_
    refine p mv ?_
    refine e (cl c43 (add1_w b m most cnt (ws.getD i []) xi vpi fzi pai _ hBi (by omega)) rfl fun v22 w22 hR22 => ?_)
    obtain ⟨rfl, vp2, fz2, pa2, hB2, hM2, hF2, hl2, hv2⟩ := hR22
    have hadd2 := addL_snoc (by omega) hadd
    have hM2' : Md (AL b m vp fz pa) w w22 := Md.trans' hMi hM2 (fun k hk h => (hFi k h).resolve_right (by omega))
    have hF2' : ∀ k, AL b m vp2 fz2 pa2 k → AL b m vp fz pa k ∨ w.heap.size ≤ k := fun k hk => by
      rcases hF2 k hk with h | h
      · exact hFi k h
      · exact .inr (by have := hMi.size; omega)
    refine p asg ?_
    refine nl ?_
    refine tn (hK11 _ _ ?_)
    refine sq (fun K12 hK12 => ?_)
    refine rg ?_
    refine p mv ?_
    refine p (nei rfl rfl) ?_
    refine nl ?_
    refine tn (hK12 _ _ ?_)
    refine cd rfl (fun hc24 => ?_) (fun hc24 => ?_)
    · refine sq (fun K13 hK13 => ?_)
      refine rg ?_
      refine p mv ?_
      refine p asg ?_
      refine nl ?_
      refine tn (hK13 _ _ ?_)
      refine rt ?_
      refine br ?_
      refine tr ?_
      refine tr ?_
      refine br ?_
      refine tr ?_
      refine f1 rfl rfl ?_
      rw [hadd2, if_neg hc24]
      exact ⟨rfl, vp2, fz2, pa2, hB2, hM2', hF2', by omega⟩
    · refine skp ?_
      refine bn ?_
      refine tn (hK9 _ _ ?_)
      refine rg ?_
      refine p (ad rfl rfl (wi64 (by omega))) ?_
      refine p mv ?_
      refine nl ?_
      refine tn ?_
      exact ⟨_, by omega, i + 1, (add1 most xi (ws.getD i [])).2, vp2, fz2, pa2, (by omega), (by rw [hadd2, if_pos (by omega)]), (by rw [if_neg (by omega)] at hB2; exact hB2), hM2', hF2', (by omega), rfl, rfl, rfl, rfl, rfl⟩
  · refine ext ?_
    refine te _ ?_
    refine te _ ?_
    refine be ?_
    refine tn (hK5 _ _ ?_)
    refine sq (fun K9 hK9 => ?_)
    refine rg ?_
    refine p asg ?_
    refine nl ?_
    refine tn (hK9 _ _ ?_)
    refine rt ?_
    refine f1 rfl rfl ?_
    rw [hadd, List.drop_eq_nil_of_le (by omega)]
    exact ⟨rfl, vpi, fzi, pai, hBi, hMi, hFi, by omega⟩
end Go.Hb.Adds
