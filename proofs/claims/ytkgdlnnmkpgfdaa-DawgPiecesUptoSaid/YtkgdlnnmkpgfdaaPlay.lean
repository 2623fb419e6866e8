/-
  Walks of hornbooklaw18: a builder and what the document keeps of it. No conditions but those that each theorem names.
-/
import Derived.Test.YtkgdlnnmkpgfdaaChecked
import Derived.Test.YtkgdlnnmkpgfdaaEff
import Derived.Test.YtkgdlnnmkpgfdaaRef08
import Derived.Test.YtkgdlnnmkpgfdaaVisit
import Derived.Test.YtkgdlnnmkpgfdaaReg
import Derived.Test.YtkgdlnnmkpgfdaaCut
import Derived.Test.YtkgdlnnmkpgfdaaBuild
import Derived.Test.YtkgdlnnmkpgfdaaAdd
import Derived.Test.YtkgdlnnmkpgfdaaAdds
import Derived.Test.YtkgdlnnmkpgfdaaAsked
import Derived.Test.YtkgdlnnmkpgfdaaNumb
import Derived.Test.YtkgdlnnmkpgfdaaFin
import Derived.Test.YtkgdlnnmkpgfdaaRfrz
import Derived.Test.YtkgdlnnmkpgfdaaSame
import Derived.Test.YtkgdlnnmkpgfdaaLawA
import Derived.Test.YtkgdlnnmkpgfdaaStr
import Derived.Test.YtkgdlnnmkpgfdaaPure
import Derived.Test.YtkgdlnnmkpgfdaaDawg
import Derived.Test.YtkgdlnnmkpgfdaaVis
import Derived.Test.YtkgdlnnmkpgfdaaRow
import Derived.Test.YtkgdlnnmkpgfdaaNode
import Derived.Test.YtkgdlnnmkpgfdaaMap
import Derived.Test.YtkgdlnnmkpgfdaaAuto
import Derived.Test.YtkgdlnnmkpgfdaaLast
import Derived.Test.YtkgdlnnmkpgfdaaTag
import Derived.Test.YtkgdlnnmkpgfdaaFrz
import Derived.Test.YtkgdlnnmkpgfdaaSet
set_option maxRecDepth 20000
set_option linter.unusedVariables false
namespace Go.Hb.Play
open Go.Proofs
open Go.Hb.Ref08 Go.Hb.Visit Go.Hb.Reg Go.Hb.Cut Go.Hb.Build Go.Hb.Add Go.Hb.Adds Go.Hb.Asked Go.Hb.Numb Go.Hb.Fin Go.Hb.Rfrz Go.Hb.Same Go.Hb.LawA
theorem ag3 : aggN Try.prog 3 = some none := by kernel_rfl
theorem ag9 : aggN Try.prog 9 = some none := by kernel_rfl
theorem ag22 : aggN Try.prog 22 = some none := by kernel_rfl
theorem c15 : Callable Try.prog 15 := callable Try.func15 (by kernel_rfl) (by kernel_rfl)
theorem c31 : Callable Try.prog 31 := callable Try.func31 (by kernel_rfl) (by kernel_rfl)
theorem c48 : Callable Try.prog 48 := callable Try.func48 (by kernel_rfl) (by kernel_rfl)
theorem cz3 : cellsN Try.prog 3 = some 1 := by kernel_rfl
theorem cz22 : cellsN Try.prog 22 = some 1 := by kernel_rfl
theorem es22 : elemSize Try.prog 22 = some 1 := by kernel_rfl
theorem fo55_0 : fieldOff Try.prog 55 0 = some 0 := by kernel_rfl
theorem fo55_1 : fieldOff Try.prog 55 1 = some 1 := by kernel_rfl
theorem fo55_2 : fieldOff Try.prog 55 2 = some 2 := by kernel_rfl
theorem fo84_6 : fieldOff Try.prog 84 6 = some 6 := by kernel_rfl
theorem so22 : sliceOk Try.prog 22 9 1 16 = true := by kernel_rfl
theorem u9 : Try.prog.underlying 9 = some (.string) := by kernel_rfl
theorem u22 : Try.prog.underlying 22 = some (.slice 9) := by kernel_rfl
theorem u32 : Try.prog.underlying 32 = some (.slice 64) := by kernel_rfl
theorem wide : Try.prog.follows .mixedOrders = true := by kernel_rfl
theorem frozen_done (b : Nat) (st cnt : Int) (w : World) (h5 : cel w.heap b 5 = some (.int .i64 st)) (h6 : st = 182 → cel w.heap b 6 = some (.int .i64 cnt)) (hst : st ≠ 0) :
    Ret Try.prog 24 (List.toArray [.pointer (some ⟨b, 0, none⟩)]) w (fun v w' => w' = w ∧ v = .int .i64 (if st = 182 then cnt else 0)) := by
  refine enter Try.func24 rfl Try.ntmps24 rfl ?_
  refine sq (fun K1 hK1 => ?_)
  refine rg ?_
  refine p asg ?_
  refine nl ?_
  refine tn (hK1 _ _ ?_)
  refine sq (fun K2 hK2 => ?_)
  refine sq (fun K3 hK3 => ?_)
  refine rg ?_
  refine p (mvt (.pointer (some ⟨b, 0, none⟩)) rfl) ?_
  refine e (cl c31 (ready_w b st _ h5) rfl fun v4 w4 hR4 => ?_)
  obtain ⟨rfl, hw4⟩ := hR4
  subst w4
  refine nl ?_
  refine tn (hK3 _ _ ?_)
  refine blk ?_
  refine sq (fun K4 hK4 => ?_)
  refine rg ?_
  refine p (eqi rfl rfl) ?_
  refine p asg ?_
  refine nl ?_
  refine tn (hK4 _ _ ?_)
  refine cd rfl (fun h => absurd h hst) (fun hc5 => ?_)
  refine sq (fun K5 hK5 => ?_)
  refine rg ?_
  refine p (eqi rfl rfl) ?_
  refine p asg ?_
  refine nl ?_
  refine tn (hK5 _ _ ?_)
  refine cd rfl (fun hc12 => ?_) (fun hc12 => ?_)
  · refine sq (fun K6 hK6 => ?_)
    refine rg ?_
    refine p (mvt (.pointer (some ⟨b, 0, none⟩)) rfl) ?_
    refine p (nc rfl) ?_
    refine p (fa fo84_6 rfl) ?_
    refine p (ld ag3 rfl (h6 hc12)) ?_
    refine p asg ?_
    refine nl ?_
    refine tn (hK6 _ _ ?_)
    refine rt ?_
    refine br ?_
    refine tr ?_
    refine f1 rfl rfl ?_
    exact ⟨rfl, by rw [if_pos hc12]; rfl⟩
  · refine skp ?_
    refine bn ?_
    refine tn (hK2 _ _ ?_)
    refine sq (fun K6 hK6 => ?_)
    refine rg ?_
    refine p asg ?_
    refine nl ?_
    refine tn (hK6 _ _ ?_)
    refine rt ?_
    refine f1 rfl rfl ?_
    exact ⟨rfl, by rw [if_neg hc12]; rfl⟩

theorem DB.md {F : Nat → Prop} {w w' : World} {b m : Nat} {most st cnt : Int} {last : List UInt8} {any : Bool} {vp : Value} {row : List Nat} {fz pa : List FN} {cs : List UInt8} (hD : DB w b m most st cnt last any vp row fz pa cs) (hM : Md F w w') (hF : ∀ k, AL b m vp fz pa k → ¬ F k) : DB w' b m most st cnt last any vp row fz pa cs :=
  ⟨hM.blk hD.blk (hF _ (.inl (.inl rfl))), hD.map.md hM (hF _ (.inl (.inr (.inl rfl)))), own_md hD.path hM (fun k hk => hF k (.inl (.inr (.inr (.inl hk))))),
   fun j x hx => ⟨(hD.hfz j x hx).1.md hM (hF _ (.inr ⟨x, List.mem_of_getElem? hx, .inl rfl⟩)) (fun k hk => hF k (.inr ⟨x, List.mem_of_getElem? hx, .inr hk⟩)), (hD.hfz j x hx).2⟩, hD.nd,
   fun i x hx => ⟨(hD.hpa i x hx).1.md hM (hF _ (.inl (.inr (.inr (.inr ⟨x, List.mem_of_getElem? hx, .inl rfl⟩))))) (fun k hk => hF k (.inl (.inr (.inr (.inr ⟨x, List.mem_of_getElem? hx, .inr hk⟩))))), (hD.hpa i x hx).2⟩, hD.sep⟩
theorem BA.md {F : Nat → Prop} {w w' : World} {b m : Nat} {most st cnt : Int} {vp : Value} {fz pa : List FN} {x : AB} (h : BA w b m most st cnt vp fz pa x) (hM : Md F w w') (hF : ∀ k, AL b m vp fz pa k → ¬ F k) : BA w' b m most st cnt vp fz pa x := ⟨DB.md h.db hM hF, h.s, h.good⟩
/-- the kinds of a builder's blocks -/
theorem BA.tags {w : World} {b m : Nat} {most st cnt : Int} {vp : Value} {fz pa : List FN} {x : AB} (h : BA w b m most st cnt vp fz pa x) : TF w [86, 1, 81, 91, 99] (AL b m vp fz pa) := by
  have hn : ∀ (p : Nat) (ev : Value) (f : Bool) (es : List (UInt8 × Nat)) (id k : Nat), NdAt w p ev f es id → (k = p ∨ ev.ownBlock = some k) → List.contains [86, 1, 81, 91, 99] (tag w k) = true := fun p ev f es id k hN hk => by
    rcases hk with rfl | hk
    · rw [tag_cells hN.blk]; rfl
    · rw [tag_own hN.row hk]; rfl
  rintro k ((rfl | rfl | hk | ⟨y, hy, hk⟩) | ⟨y, hy, hk⟩)
  · rw [tag_cells h.db.blk]; rfl
  · rw [tag_map h.db.map]; rfl
  · rw [tag_own h.db.path hk]; rfl
  · obtain ⟨i, hi, rfl⟩ := List.mem_iff_getElem.1 hy
    exact hn _ _ _ _ _ _ (h.db.hpa i _ (List.getElem?_eq_getElem hi)).1 hk
  · obtain ⟨i, hi, rfl⟩ := List.mem_iff_getElem.1 hy
    exact hn _ _ _ _ _ _ (h.db.hfz i _ (List.getElem?_eq_getElem hi)).1 hk
/-- a builder in memory, by its words and its state; its blocks are among A -/
def PB (w : World) (b : Nat) (most : Int) (ws : Tl) (st : Int) (A : Nat → Prop) : Prop :=
  (st = 0 ∧ ∃ m cnt vp fz pa, BA w b m most 0 cnt vp fz pa (bldW ws) ∧ ∀ k, AL b m vp fz pa k → A k) ∨
  ((st = 181 ∨ st = 182) ∧ cel w.heap b 5 = some (.int .i64 st) ∧ (st = 182 → cel w.heap b 6 = some (.int .i64 ((aut ws).length : Nat))) ∧ A b)
theorem PB.md {F A : Nat → Prop} {w w' : World} {b : Nat} {most st : Int} {ws : Tl} (h : PB w b most ws st A) (hM : Md F w w') (hF : ∀ k, A k → ¬ F k) : PB w' b most ws st A := by
  rcases h with ⟨h0, m, cnt, vp, fz, pa, hB, hA⟩ | ⟨h0, h5, h6, hA⟩
  · exact .inl ⟨h0, m, cnt, vp, fz, pa, BA.md hB hM (fun k hk => hF k (hA k hk)), hA⟩
  · exact .inr ⟨h0, hM.cel h5 (hF b hA), fun h => hM.cel (h6 h) (hF b hA), hA⟩
theorem PB.wk {A : Nat → Prop} {w w' : World} {b : Nat} {most st : Int} {ws : Tl} (h : PB w b most ws st A) (hM : Wk w w') : PB w' b most ws st A := PB.md h hM (fun _ _ x => x)
theorem ba_fz {w : World} {b m : Nat} {most st cnt : Int} {vp : Value} {fz pa : List FN} {ws : Tl} (h : BA w b m most st cnt vp fz pa (bldW ws)) : fz.length = frozenN ws := by
  have := congrArg (fun q : List Ent × List Ent => q.1.length) h.s
  simp only [List.length_map] at this
  exact this.symm
/-- the blocks of a builder that is dead or done, or at work: those of A that are its own -/
theorem addP_w (b : Nat) (most : Int) (ws : Tl) (st : Int) (A : Nat → Prop) (l : Tl) (aw : Option Addr) (cw : Nat) (w : World) (hP : PB w b most ws st A) (hf : Fit ws) (hS : Strs w.heap aw l) (hsep : l.map str ≠ [] → ¬ A (bk aw)) (hl : ws.length + l.length ≤ 134217728) (hA : ∀ k, A k → k < w.heap.size) :
    Ret Try.prog 22 (List.toArray [.pointer (some ⟨b, 0, none⟩), .slice aw l.length cw]) w (fun v w' => v = .int .i64 (bookAdd most ws st l).1 ∧ Md A w w' ∧ ∃ A', PB w' b most (bookAdd most ws st l).2.1 (bookAdd most ws st l).2.2 A' ∧ (∀ k, A' k → A k ∨ w.heap.size ≤ k) ∧ (∀ k, A' k → k < w'.heap.size)) := by
  rcases hP with ⟨rfl, m, cnt, vp, fz, pa, hB, hAL⟩ | ⟨h0, h5, h6, hAb⟩
  · have hfz := ba_fz hB
    have hfl := frozen_le hf
    refine (adds_w b m most cnt (bldW ws) vp fz pa l aw cw w hB hS (fun hne h => hsep hne (hAL _ h)) (by omega) (by omega)).mono fun v w' ⟨h1, vp', fz', pa', h2, h3, h4, h5⟩ => ?_
    rw [addL_bld] at h1 h2
    simp only at h1 h2
    refine ⟨h1.trans (by unfold bookAdd; rw [if_pos rfl]), h3.mono (fun k _ h => hAL k h), fun k => (AL b m vp' fz' pa' k) ∨ k = b, ?_, ?_, ?_⟩
    · unfold bookAdd
      rw [if_pos rfl]
      simp only
      by_cases h181 : (addW most ws l).1 = 181
      · rw [if_pos h181] at h2 ⊢
        have hb : Blk w'.heap b _ := ⟨_, h2.db.blk⟩
        exact .inr ⟨.inl rfl, hb.cel 5, fun h => by simp at h, .inr rfl⟩
      · rw [if_neg h181] at h2 ⊢
        exact .inl ⟨rfl, m, cnt, vp', fz', pa', h2, fun k hk => .inl hk⟩
    · rintro k (hk | rfl)
      · exact (h4 k hk).imp (hAL k) id
      · exact .inl (hAL _ (.inl (.inl rfl)))
    · rintro k (hk | rfl)
      · exact BA.lt h2 hk
      · exact BA.lt h2 (.inl (.inl rfl))
  · have hne : st ≠ 0 := by rcases h0 with rfl | rfl <;> decide
    refine (adds_done b st _ w h5 hne).mono fun v w' ⟨h1, h2⟩ => ?_
    subst h2
    unfold bookAdd
    rw [if_neg hne]
    exact ⟨h1, Md.refl _ _, A, .inr ⟨h0, h5, h6, hAb⟩, fun k hk => .inl hk, hA⟩
/-- how many states are told frozen -/
def bookFz (ws : Tl) (st : Int) : Int := if st = 0 then (frozenN ws : Int) else if st = 182 then ((aut ws).length : Int) else 0
theorem frozenP_w (b : Nat) (most : Int) (ws : Tl) (st : Int) (A : Nat → Prop) (w : World) (hP : PB w b most ws st A) :
    Ret Try.prog 24 (List.toArray [.pointer (some ⟨b, 0, none⟩)]) w (fun v w' => w' = w ∧ v = .int .i64 (bookFz ws st)) := by
  rcases hP with ⟨rfl, m, cnt, vp, fz, pa, hB, hAL⟩ | ⟨h0, h5, h6, hAb⟩
  · refine (frozen_w b m most 0 cnt _ _ vp _ fz pa _ w hB.db).mono fun v w' ⟨h1, h2⟩ => ⟨h1, h2.trans ?_⟩
    unfold bookFz
    rw [if_pos rfl, if_pos rfl, ba_fz hB]
  · refine (frozen_done b st ((aut ws).length : Nat) w h5 h6 (by rcases h0 with rfl | rfl <;> decide)).mono fun v w' ⟨h1, h2⟩ => ⟨h1, h2.trans ?_⟩
    unfold bookFz
    rw [if_neg (show ¬ st = 0 by rcases h0 with rfl | rfl <;> decide)]
/-- a builder's end, by the words and the state -/
def bookFin (most : Int) (ws : Tl) (st : Int) : Int × Int := if st = 0 then (if most < ((aut ws).length : Int) then (181, 181) else (0, 182)) else (st, st)
theorem finishP_w (b : Nat) (most : Int) (ws : Tl) (st : Int) (A : Nat → Prop) (w : World) (hP : PB w b most ws st A) (hf : Fit ws) (hl : ws.length ≤ 134217728) (hA : ∀ k, A k → k < w.heap.size) :
    Ret Try.prog 23 (List.toArray [.pointer (some ⟨b, 0, none⟩)]) w (fun v w' => Md A w w' ∧ PB w' b most ws (bookFin most ws st).2 A ∧ ∃ aa n cc, v = .tuple #[.slice aa n cc, .int .i64 (bookFin most ws st).1] ∧ ((bookFin most ws st).1 ≠ 0 → n = 0) ∧ ((bookFin most ws st).1 = 0 → ∃ svs, n = svs.length ∧ AutV w' w.heap.size aa cc svs (aut ws))) := by
  rcases hP with ⟨rfl, m, cnt, vp, fz, pa, hB, hAL⟩ | ⟨h0, h5, h6, hAb⟩
  · have hfz := ba_fz hB
    have hfl := frozen_le hf
    obtain ⟨hfin1, hfin2⟩ := fin_aut hf
    refine (finish_w b m most cnt (bldW ws) vp fz pa w hB (by omega)).mono fun v w' ⟨h1, h2⟩ => ⟨h1.mono (fun k _ h => hAL k h), ?_⟩
    rw [hfin1, hfin2] at h2
    unfold bookFin
    rw [if_pos rfl]
    have hAb := hAL b (.inl (.inl rfl))
    rcases h2 with ⟨h2, rfl, h3, h4⟩ | ⟨h2, va, rfl, h3, h4, h5⟩
    · rw [if_pos h2]
      exact ⟨.inr ⟨.inl rfl, h3, fun h => by simp at h, hAb⟩, none, 0, 0, rfl, fun _ => rfl, fun h => by simp at h⟩
    · rw [if_neg h2]
      obtain ⟨aa, cc, svs, rfl, h6⟩ := Aut.v h3
      exact ⟨.inr ⟨.inr rfl, h4, fun _ => h5, hAb⟩, aa, svs.length, cc, rfl, fun h => absurd rfl h, fun _ => ⟨svs, rfl, h6⟩⟩
  · have hne : st ≠ 0 := by rcases h0 with rfl | rfl <;> decide
    refine (finish_done b st w h5 hne).mono fun v w' ⟨h1, h2⟩ => ?_
    subst h2
    unfold bookFin
    rw [if_neg hne]
    exact ⟨Md.refl _ _, .inr ⟨h0, h5, h6, hAb⟩, none, 0, 0, h1, fun _ => rfl, fun h => absurd h hne⟩
/-- what the document keeps, in memory -/
structure BkAt (w : World) (bx : Nat) (most : Int) (ws : Tl) (st : Int) (vw : Value) : Prop where
  blk : w.heap[bx]? = some (.cells [vw, .int .i64 most, .int .i64 st].toArray 55 (0, 0))
  row : w.ownsRow 0 9 1 vw ws.length (ws.map str)
def BF2 (bx : Nat) (vw : Value) (k : Nat) : Prop := k = bx ∨ vw.ownBlock = some k
theorem BkAt.md {F : Nat → Prop} {w w' : World} {bx : Nat} {most st : Int} {ws : Tl} {vw : Value} (h : BkAt w bx most ws st vw) (hM : Md F w w') (hF : ∀ k, BF2 bx vw k → ¬ F k) : BkAt w' bx most ws st vw :=
  ⟨hM.blk h.blk (hF _ (.inl rfl)), own_md h.row hM (fun k hk => hF k (.inr hk))⟩
theorem BkAt.wk {w w' : World} {bx : Nat} {most st : Int} {ws : Tl} {vw : Value} (h : BkAt w bx most ws st vw) (hM : Wk w w') : BkAt w' bx most ws st vw := BkAt.md h hM (fun _ _ x => x)
theorem BkAt.lt {w : World} {bx : Nat} {most st : Int} {ws : Tl} {vw : Value} (h : BkAt w bx most ws st vw) {k : Nat} (hk : BF2 bx vw k) : k < w.heap.size := by
  rcases hk with rfl | hk
  · exact Blk.lt ⟨_, h.blk⟩
  · exact (own_lt h.row hk).2

theorem bookFrozen_w (bx : Nat) (most : Int) (ws : Tl) (st : Int) (vw : Value) (w : World) (hB : BkAt w bx most ws st vw) (hf : Fit ws) (hl : ws.length ≤ 1048576 ∧ vol ws ≤ 1048576) :
    Ret Try.prog 37 (List.toArray [.pointer (some ⟨bx, 0, none⟩)]) w (fun v w' => v = .int .i64 (bookFz ws st) ∧ Wk w w') := by
  obtain ⟨aw, cw, rfl⟩ := own_slice hB.row
  have hb : Blk w.heap bx [(.slice aw ws.length cw), .int .i64 most, .int .i64 st] := ⟨_, hB.blk⟩
  refine enter Try.func37 rfl Try.ntmps37 rfl ?_
  refine sq (fun K1 hK1 => ?_)
  refine rg ?_
  refine p asg ?_
  refine nl ?_
  refine tn (hK1 _ _ ?_)
  refine sq (fun K2 hK2 => ?_)
  refine sq (fun K3 hK3 => ?_)
  refine rg ?_
  refine p (mvt (.pointer (some ⟨bx, 0, none⟩)) rfl) ?_
  refine p (nc rfl) ?_
  refine p (fa fo55_2 rfl) ?_
  refine p (ld ag3 rfl (hb.cel 2)) ?_
  refine nl ?_
  refine tn (hK3 _ _ ?_)
  refine blk ?_
  refine sq (fun K4 hK4 => ?_)
  refine rg ?_
  refine p (eqi rfl rfl) ?_
  refine p asg ?_
  refine nl ?_
  refine tn (hK4 _ _ ?_)
  refine cd rfl (fun hc7 => ?_) (fun hc7 => ?_)
  · refine sq (fun K5 hK5 => ?_)
    refine rg ?_
    refine p (mvt (.pointer (some ⟨bx, 0, none⟩)) rfl) ?_
    refine p (nc rfl) ?_
    refine p (fa fo55_0 rfl) ?_
    refine p (ld ag22 rfl (hb.cel 0)) ?_
    refine e (cl c48 (refFrozen_w ws aw cw _ (own_cellsS hB.row).2 hf (by omega)) rfl fun v13 w13 hR13 => ?_)
    obtain ⟨rfl, hE13⟩ := hR13
    refine p asg ?_
    refine nl ?_
    refine tn (hK5 _ _ ?_)
    refine rt ?_
    refine br ?_
    refine tr ?_
    refine f1 rfl rfl ?_
    exact ⟨by unfold bookFz; rw [if_pos (by omega)]; rfl, hE13⟩
  · refine sq (fun K5 hK5 => ?_)
    refine rg ?_
    refine p (eqi rfl rfl) ?_
    refine p asg ?_
    refine nl ?_
    refine tn (hK5 _ _ ?_)
    refine cd rfl (fun hc14 => ?_) (fun hc14 => ?_)
    · refine sq (fun K6 hK6 => ?_)
      refine rg ?_
      refine p (mvt (.pointer (some ⟨bx, 0, none⟩)) rfl) ?_
      refine p (nc rfl) ?_
      refine p (fa fo55_0 rfl) ?_
      refine p (ld ag22 rfl (hb.cel 0)) ?_
      refine e (cl c15 (automaton_w ws aw cw _ (own_cellsS hB.row).2 hf (by omega) (by omega)) rfl fun v20 w20 hR20 => ?_)
      obtain ⟨hE20, svB, aB, cB, rfl, hoB, hsB⟩ := hR20
      refine p (lnl u32 rfl rfl) ?_
      refine p asg ?_
      refine nl ?_
      refine tn (hK6 _ _ ?_)
      refine rt ?_
      refine br ?_
      refine tr ?_
      refine f1 rfl rfl ?_
      exact ⟨by unfold bookFz; rw [if_neg (by omega), if_pos (by omega)]; exact congrArg (fun n : Nat => Value.int .i64 n) hsB.1.symm, hE20⟩
    · refine skp ?_
      refine bn ?_
      refine tn (hK2 _ _ ?_)
      refine sq (fun K6 hK6 => ?_)
      refine rg ?_
      refine p asg ?_
      refine nl ?_
      refine tn (hK6 _ _ ?_)
      refine rt ?_
      refine f1 rfl rfl ?_
      exact ⟨by unfold bookFz; rw [if_neg (by omega), if_neg (by omega)]; rfl, Md.refl _ _⟩

theorem le_last {a b : List UInt8} (h : (sless a b || decide (a = b)) = false) : sless b a = true := le_F h
theorem last_get {ws : Tl} (h : ws ≠ []) : ws.getD (ws.length - 1) [] = ws.getLastD [] := by
  have h0 : 0 < ws.length := by cases ws <;> simp_all
  rw [getD_get [] (by omega), List.getLastD_eq_getLast?, List.getLast?_eq_getElem?, List.getElem?_eq_getElem (by omega), Option.getD_some]

theorem bookAdd_done (bx : Nat) (most : Int) (ws : Tl) (st : Int) (vw vl : Value) (w : World) (hB : BkAt w bx most ws st vw) (hst : st ≠ 0) :
    Ret Try.prog 36 (List.toArray [.pointer (some ⟨bx, 0, none⟩), vl]) w (fun v w' => v = .int .i64 st ∧ w' = w) := by
  have hb : Blk w.heap bx [vw, .int .i64 most, .int .i64 st] := ⟨_, hB.blk⟩
  refine enter Try.func36 rfl Try.ntmps36 rfl ?_
  refine sq (fun K1 hK1 => ?_)
  refine rg ?_
  refine p asg ?_
  refine nl ?_
  refine tn (hK1 _ _ ?_)
  refine sq (fun K2 hK2 => ?_)
  refine sq (fun K3 hK3 => ?_)
  refine rg ?_
  refine p (mvt (.pointer (some ⟨bx, 0, none⟩)) rfl) ?_
  refine p (nc rfl) ?_
  refine p (fa fo55_2 rfl) ?_
  refine p (ld ag3 rfl (hb.cel 2)) ?_
  refine p (nei rfl rfl) ?_
  refine nl ?_
  refine tn (hK3 _ _ ?_)
  refine cd rfl (fun hc12 => ?_) (fun h => absurd hst h)
  refine sq (fun K4 hK4 => ?_)
  refine rg ?_
  refine p (mvt (.pointer (some ⟨bx, 0, none⟩)) rfl) ?_
  refine p (nc rfl) ?_
  refine p (fa fo55_2 rfl) ?_
  refine p (ld ag3 rfl (hb.cel 2)) ?_
  refine p asg ?_
  refine nl ?_
  refine tn (hK4 _ _ ?_)
  refine rt ?_
  refine tr ?_
  refine f1 rfl rfl ?_
  exact ⟨rfl, rfl⟩
set_option maxHeartbeats 1000000 in
theorem bookAdd0_w (bx : Nat) (most : Int) (ws l : Tl) (vw : Value) (al_ : Option Addr) (cl_ : Nat) (w : World) (hB : BkAt w bx most ws 0 vw) (hf : Fit ws) (hS : Strs w.heap al_ l) (hsep : l.map str ≠ [] → ¬ BF2 bx vw (bk al_)) (hl : ws.length + l.length ≤ 1048576 ∧ vol ws + vol l ≤ 1048576) :
    Ret Try.prog 36 (List.toArray [.pointer (some ⟨bx, 0, none⟩), .slice al_ l.length cl_]) w (fun v w' => v = .int .i64 (addW most ws l).1 ∧ Md (BF2 bx vw) w w' ∧ ∃ vw', BkAt w' bx most (addW most ws l).2 (if (addW most ws l).1 = 181 then 181 else 0) vw' ∧ ∀ k, BF2 bx vw' k → BF2 bx vw k ∨ w.heap.size ≤ k) := by
  have hb : Blk w.heap bx [vw, .int .i64 most, .int .i64 (0 : Int)] := ⟨_, hB.blk⟩
  refine enter Try.func36 rfl Try.ntmps36 rfl ?_
  refine sq (fun K1 hK1 => ?_)
  refine rg ?_
  refine p asg ?_
  refine nl ?_
  refine tn (hK1 _ _ ?_)
  refine sq (fun K2 hK2 => ?_)
  refine sq (fun K3 hK3 => ?_)
  refine rg ?_
  refine p (mvt (.pointer (some ⟨bx, 0, none⟩)) rfl) ?_
  refine p (nc rfl) ?_
  refine p (fa fo55_2 rfl) ?_
  refine p (ld ag3 rfl (hb.cel 2)) ?_
  refine p (nei rfl rfl) ?_
  refine nl ?_
  refine tn (hK3 _ _ ?_)
  refine cd rfl (fun h => absurd h (by decide)) (fun hc12 => ?_)
  refine skp ?_
  refine tn (hK2 _ _ ?_)
  refine sq (fun K4 hK4 => ?_)
  refine sq (fun K5 hK5 => ?_)
  refine rg ?_
  refine p (mvt (.slice al_ l.length cl_) rfl) ?_
  refine p (lnl u22 rfl rfl) ?_
  refine p mv ?_
  refine nl ?_
  refine tn (hK5 _ _ ?_)
  refine blk ?_
  refine lp (fun gm σ1 wL => ∃ (i : Nat) (wsi : Tl) (vwi : Value), (i ≤ l.length) ∧ (addW most ws l = addW most wsi (l.drop i)) ∧ (BkAt wL bx most wsi 0 vwi) ∧ (Fit wsi) ∧ (Md (BF2 bx vw) w wL) ∧ (∀ k, BF2 bx vwi k → BF2 bx vw k ∨ w.heap.size ≤ k) ∧ (wsi.length + (l.length - i) ≤ ws.length + l.length ∧ vol wsi + vol (l.drop i) ≤ vol ws + vol l) ∧ (σ1 0 = .pointer (some ⟨bx, 0, none⟩)) ∧ (σ1 17 = .slice al_ l.length cl_) ∧ (σ1 18 = .int .i64 l.length) ∧ (σ1 19 = .int .i64 i) ∧ (l.length - i = gm)) _ ⟨0, ws, vw, (by omega), (by rw [List.drop_zero]), hB, hf, (Md.refl _ _), (fun k h => .inl h), (by rw [List.drop_zero]; omega), rfl, rfl, rfl, rfl, rfl⟩ ?_
  rintro gm σ1 wL ⟨i, wsi, vwi, hi, hadd, hBi, hfi, hMi, hFi, hli, hs1_0, hs1_17, hs1_18, hs1_19, rfl⟩
  refine fx 0 hs1_0 (fx 17 hs1_17 (fx 18 hs1_18 (fx 19 hs1_19 ?_)))
  have hSi : Strs wL.heap al_ l := Cells.md hS hMi hsep
  obtain ⟨av, cv, rfl⟩ := own_slice hBi.row
  have hbi : Blk wL.heap bx [(.slice av wsi.length cv), .int .i64 most, .int .i64 (0 : Int)] := ⟨_, hBi.blk⟩
  refine sq (fun K6 hK6 => ?_)
  refine rg ?_
  refine p (lt rfl rfl) ?_
  refine nl ?_
  refine tn (hK6 _ _ ?_)
  refine sq (fun K7 hK7 => ?_)
  refine cd rfl (fun hc20 => ?_) (fun hc20 => ?_)
  · refine skp ?_
    refine tn (hK7 _ _ ?_)
    refine sq (fun K8 hK8 => ?_)
    refine blk ?_
    refine sq (fun K9 hK9 => ?_)
    refine rg ?_
    refine p (ia' es22 rfl rfl (by omega) (Cells.ok (hSi) (ne_map (by omega)))) ?_
    refine p (ld ag9 rfl (Strs.get (i := i) hSi (by omega))) ?_
    refine p asg ?_
    refine nl ?_
    refine tn (hK9 _ _ ?_)
    refine sq (fun K10 hK10 => ?_)
    refine sq (fun K11 hK11 => ?_)
    refine rg ?_
    refine p mv ?_
    refine p (lns u9 rfl rfl) ?_
    refine p (gt rfl rfl) ?_
    refine nl ?_
    refine tn (hK11 _ _ ?_)
    refine cd rfl (fun hc25 => ?_) (fun hc25 => ?_)
    · refine sq (fun K12 hK12 => ?_)
      refine rg ?_
      refine p asg ?_
      refine nl ?_
      refine tn (hK12 _ _ ?_)
      refine rt ?_
      refine tr ?_
      refine br ?_
      refine tr ?_
      refine tr ?_
      refine br ?_
      refine tr ?_
      refine f1 rfl rfl ?_
      have hadd2 := addW_snoc (by omega) hadd
      rw [add1W_22 (by omega), if_neg (show ¬ ((22 : Int) = 0) by decide)] at hadd2
      rw [hadd2]
      exact ⟨rfl, hMi, _, hBi, hFi⟩
    · refine skp ?_
      refine tn (hK10 _ _ ?_)
      refine sqc (fun σ2 wC => ((l.getD i []).length ≤ 255) ∧ (wsi ≠ [] → sless (wsi.getLastD []) (l.getD i []) = true) ∧ (wC = wL) ∧ (σ2 0 = .pointer (some ⟨bx, 0, none⟩)) ∧ (σ2 6 = str (l.getD i [])) ∧ (σ2 17 = .slice al_ l.length cl_) ∧ (σ2 18 = .int .i64 l.length) ∧ (σ2 19 = .int .i64 i)) ?_ ?_
      · refine sq (fun K12 hK12 => ?_)
        refine rg ?_
        refine p (mvt (.pointer (some ⟨bx, 0, none⟩)) rfl) ?_
        refine p (nc rfl) ?_
        refine p (fa fo55_0 rfl) ?_
        refine p (ld ag22 rfl (hbi.cel 0)) ?_
        refine p (lnl u22 rfl rfl) ?_
        refine p asg ?_
        refine nl ?_
        refine tn (hK12 _ _ ?_)
        refine sq (fun K13 hK13 => ?_)
        refine rg ?_
        refine p mv ?_
        refine p (gt rfl rfl) ?_
        refine p mv ?_
        refine gs (t := 33) rfl (fun hg33 => ?_) (fun hg33 => ?_)
        · refine pg rfl rfl rfl mv ?_
          refine pg rfl rfl rfl (mvt (.pointer (some ⟨bx, 0, none⟩)) rfl) ?_
          refine pg rfl rfl rfl (nc rfl) ?_
          refine pg rfl rfl rfl (fa fo55_0 rfl) ?_
          refine pg rfl rfl rfl (ld ag22 rfl (hbi.cel 0)) ?_
          refine pg rfl rfl rfl mv ?_
          refine pg rfl rfl rfl (sbv ((wsi.length - 1 : Nat) : Int) rfl rfl (w64n (by omega) (by omega))) ?_
          refine pg rfl rfl rfl (ia' es22 rfl rfl (by omega) (Cells.ok ((own_cellsS hBi.row).2) (ne_map (by omega)))) ?_
          refine pg rfl rfl rfl (ld ag9 rfl (Strs.get (i := wsi.length - 1) (own_cellsS hBi.row).2 (by omega))) ?_
          refine pg rfl rfl rfl (les rfl rfl) ?_
          refine p (pkt rfl) ?_
          refine nl ?_
          refine tn (hK13 _ _ ?_)
          refine cb rfl (fun hc44 => ?_) (fun hc44 => ?_)
          · refine sq (fun K14 hK14 => ?_)
            refine rg ?_
            refine p asg ?_
            refine nl ?_
            refine tn (hK14 _ _ ?_)
            refine rt ?_
            refine tr ?_
            refine br ?_
            refine tr ?_
            refine tr ?_
            refine br ?_
            refine tr ?_
            refine f1 rfl rfl ?_
            have hadd2 := addW_snoc (by omega) hadd
            have hne : wsi ≠ [] := by rintro rfl; simp at hg33
            rw [add1W_180 (by omega) hne (by rw [← last_get hne]; exact le_T hc44), if_neg (show ¬ ((180 : Int) = 0) by decide)] at hadd2
            rw [hadd2]
            exact ⟨rfl, hMi, _, hBi, hFi⟩
          · refine skp ?_
            refine tn ?_
            exact ⟨(by omega), (fun hne => (by rw [← last_get hne]; exact le_last hc44)), rfl, rfl, rfl, rfl, rfl, rfl⟩
        · refine sk rfl rfl rfl rfl ?_
          refine sk rfl rfl rfl rfl ?_
          refine sk rfl rfl rfl rfl ?_
          refine sk rfl rfl rfl rfl ?_
          refine sk rfl rfl rfl rfl ?_
          refine sk rfl rfl rfl rfl ?_
          refine sk rfl rfl rfl rfl ?_
          refine sk rfl rfl rfl rfl ?_
          refine sk rfl rfl rfl rfl ?_
          refine sk rfl rfl rfl rfl ?_
          refine p (pkf rfl) ?_
          refine nl ?_
          refine tn (hK13 _ _ ?_)
          refine cf rfl ?_
          refine skp ?_
          refine tn ?_
          exact ⟨(by omega), (fun hne => absurd (List.length_pos_iff.2 hne) (by omega)), rfl, rfl, rfl, rfl, rfl, rfl⟩
      rintro σ2 wC ⟨h255, hris, hw11, hs2_0, hs2_6, hs2_17, hs2_18, hs2_19⟩
      refine fx 0 hs2_0 (fx 6 hs2_6 (fx 17 hs2_17 (fx 18 hs2_18 (fx 19 hs2_19 ?_))))
      subst hw11
      refine sq (fun K12 hK12 => ?_)
      refine rg ?_
      refine p (mvt (.pointer (some ⟨bx, 0, none⟩)) rfl) ?_
      refine p (mvt (.pointer (some ⟨bx, 0, none⟩)) rfl) ?_
      refine p (nc rfl) ?_
      refine p (fa fo55_0 rfl) ?_
      refine p (ld ag22 rfl (hbi.cel 0)) ?_
      refine p (mvt (str (l.getD i [])) rfl) ?_
      refine e (bs1 so22 rfl rfl fun b51 w51 hb51 hN51 hB51 => ?_)
      refine e (ap so22 (own_nw hBi.row hN51.md) rfl (Nat.zero_le _) rfl (Cells.of_blk hB51) (rfl) (rfl) (by omega) (by omega) fun v52 w52 ho52 hM52 hz52 hf52 => ?_)
      have hc52 := hM52.blk (Wk.blk hN51.md hBi.blk) (own_cellne (own_nw hBi.row hN51.md) (Wk.blk hN51.md hBi.blk) (by decide))
      refine p (nc rfl) ?_
      refine p (fa fo55_0 rfl) ?_
      refine e (stT cz22 rfl rfl (own_one ho52) hc52 (by simp) fun w11 hM11 hB11 => ?_)
      have ho11 : World.ownsRow w11 0 9 1 v52 (wsi ++ [l.getD i []]).length ((wsi ++ [l.getD i []]).map str) := by
        rw [List.length_append, List.map_append]; exact own_md ho52 hM11 (fun k hk h => own_cellne ho52 hc52 (by decide) (h ▸ hk))
      have hB11' : BkAt w11 bx most (wsi ++ [l.getD i []]) 0 v52 := ⟨hB11, ho11⟩
      have hM1x : Md (BF2 bx (.slice av wsi.length cv)) wC w11 := Md.trans' (Md.trans' (hN51.md.mono (fun _ _ h => h.elim)) hM52 (fun k _ h => .inr h)) hM11 (fun k _ h => .inl h)
      have hM2x : Md (BF2 bx vw) w w11 := Md.trans' hMi hM1x (fun k hk h => (hFi k h).resolve_right (by omega))
      have hF11 : ∀ k, BF2 bx v52 k → BF2 bx vw k ∨ w.heap.size ≤ k := fun k hk => by
        rcases hk with hk | hk
        · exact .inl (.inl hk)
        · rcases hf52 k hk with h | h
          · exact hFi k (.inr h)
          · exact .inr (by have := hMi.size; have := hN51.size; omega)
      have hok1 := add1W_ok (most := most) (ws := wsi) (w := l.getD i []) (by omega) hris
      have hfit1 : Fit (wsi ++ [l.getD i []]) := by
        have h9 := add1W_fit (most := most) (w := l.getD i []) hfi
        rw [hok1] at h9; exact h9
      have hv1 := vol_append wsi [l.getD i []]
      have hv2 := vol_take (l := l) (i := i) (by omega)
      have hv3 : vol [l.getD i []] = (l.getD i []).length := by simp [vol]
      obtain ⟨a12, c12, rfl⟩ := own_slice ho11
      have hb11 : Blk w11.heap bx [(.slice a12 (wsi ++ [l.getD i []]).length c12), .int .i64 most, .int .i64 (0 : Int)] := ⟨_, hB11⟩
      have hadd2 := addW_snoc (by omega) hadd
      rw [hok1] at hadd2
      refine nl ?_
      refine tn (hK12 _ _ ?_)
      refine sq (fun K13 hK13 => ?_)
      have hS12 : (fun w' => cel w'.heap bx 0 = some (.slice a12 (wsi ++ [l.getD i []]).length c12) ∧ cel w'.heap bx 1 = some (.int .i64 most)) w11.drew := ⟨hb11.cel 0, hb11.cel 1⟩
      refine hst (fun w' => cel w'.heap bx 0 = some (.slice a12 (wsi ++ [l.getD i []]).length c12) ∧ cel w'.heap bx 1 = some (.int .i64 most)) wide hS12 ?_
      refine hp 0 rfl (by kernel_rfl) (fun _ _ => mvt (.pointer (some ⟨bx, 0, none⟩)) rfl) hS12 ?_
      refine hp 1 rfl (by kernel_rfl) (fun _ _ => nc rfl) hS12 ?_
      refine hp 2 rfl (by kernel_rfl) (fun _ _ => fa fo55_0 rfl) hS12 ?_
      refine hp 3 rfl (by kernel_rfl) (fun w' hS => ld ag22 rfl (hS.1)) hS12 ?_
      refine hp 5 rfl (by kernel_rfl) (fun _ _ => mvt (.pointer (some ⟨bx, 0, none⟩)) rfl) hS12 ?_
      refine hp 6 rfl (by kernel_rfl) (fun _ _ => nc rfl) hS12 ?_
      refine hp 7 rfl (by kernel_rfl) (fun _ _ => fa fo55_1 rfl) hS12 ?_
      refine hp 8 rfl (by kernel_rfl) (fun w' hS => ld ag3 rfl (hS.2)) hS12 ?_
      refine he 4 rfl (by kernel_rfl) (cl c48 (refFrozen_w (wsi ++ [l.getD i []]) a12 c12 _ (Strs.wk (own_cellsS ho11).2 (Md.refl _ _).drew) hfit1 (by simp; omega)) rfl fun v59 w59 hR59 => ?_)
      obtain ⟨rfl, hE59⟩ := hR59
      have hE12 : Wk w11 w59 := Md.trans (Md.refl _ _).drew hE59
      have hB12 := BkAt.wk hB11' hE12
      have hM3x : Md (BF2 bx vw) w w59 := Md.trans' hM2x hE12 (fun _ _ h => h.elim)
      have hS12_4 : (fun w' => cel w'.heap bx 0 = some (.slice a12 (wsi ++ [l.getD i []]).length c12) ∧ cel w'.heap bx 1 = some (.int .i64 most)) w59 := ⟨Wk.cel hE59 hS12.1, Wk.cel hE59 hS12.2⟩
      refine ⟨hS12_4, ?_⟩
      refine hp 9 rfl (by kernel_rfl) (fun _ _ => gt rfl rfl) hS12_4 ?_
      refine hn (by kernel_rfl) ?_
      refine tn (hK13 _ _ ?_)
      refine cd rfl (fun hc64 => ?_) (fun hc64 => ?_)
      · refine sq (fun K14 hK14 => ?_)
        refine rg ?_
        refine p (mvt (.pointer (some ⟨bx, 0, none⟩)) rfl) ?_
        refine p (nc rfl) ?_
        refine p (fa fo55_2 rfl) ?_
        refine e (stT cz3 rfl rfl rfl hB12.blk (by simp) fun w13 hM13 hB13 => ?_)
        have hb13 : Blk w13.heap bx _ := ⟨_, hB13⟩
        refine nl ?_
        refine tn (hK14 _ _ ?_)
        refine sq (fun K15 hK15 => ?_)
        refine rg ?_
        refine p (mvt (.pointer (some ⟨bx, 0, none⟩)) rfl) ?_
        refine p (nc rfl) ?_
        refine p (fa fo55_2 rfl) ?_
        refine p (ld ag3 rfl ((hb13.cel 2).trans rfl)) ?_
        refine p asg ?_
        refine nl ?_
        refine tn (hK15 _ _ ?_)
        refine rt ?_
        refine br ?_
        refine tr ?_
        refine tr ?_
        refine br ?_
        refine tr ?_
        refine f1 rfl rfl ?_
        rw [if_pos hc64, if_neg (show ¬ ((181 : Int) = 0) by decide)] at hadd2
        rw [hadd2]
        exact ⟨rfl, Md.trans' hM3x hM13 (fun k _ h => .inl h), _, ⟨hB13, own_md hB12.row hM13 (fun k hk h => own_cellne hB12.row hB12.blk (by decide) (h ▸ hk))⟩, hF11⟩
      · refine skp ?_
        refine bn ?_
        refine tn (hK8 _ _ ?_)
        refine rg ?_
        refine p (ad rfl rfl (wi64 (by omega))) ?_
        refine p mv ?_
        refine nl ?_
        refine tn ?_
        exact ⟨_, by omega, i + 1, wsi ++ [l.getD i []], (.slice a12 (wsi ++ [l.getD i []]).length c12), (by omega), (by rw [hadd2, if_neg hc64, if_pos rfl]), hB12, hfit1, hM3x, hF11, (by simp only [List.length_append, List.length_singleton]; rw [hv1]; omega), rfl, rfl, rfl, rfl, rfl⟩
  · refine ext ?_
    refine te _ ?_
    refine te _ ?_
    refine be ?_
    refine tn (hK4 _ _ ?_)
    refine sq (fun K8 hK8 => ?_)
    refine rg ?_
    refine p asg ?_
    refine nl ?_
    refine tn (hK8 _ _ ?_)
    refine rt ?_
    refine f1 rfl rfl ?_
    rw [hadd, List.drop_eq_nil_of_le (by omega)]
    exact ⟨rfl, hMi, _, hBi, hFi⟩
end Go.Hb.Play
