/-
  Walk of hornbooklaw18.DawgKeeps. No conditions but those that each theorem names.
-/
import Derived.Test.YtkgdlnnmkpgfdaaChecked
import Derived.Test.YtkgdlnnmkpgfdaaEff
import Derived.Test.YtkgdlnnmkpgfdaaRef08
import Derived.Test.YtkgdlnnmkpgfdaaVisit
import Derived.Test.YtkgdlnnmkpgfdaaReg
import Derived.Test.YtkgdlnnmkpgfdaaCut
import Derived.Test.YtkgdlnnmkpgfdaaBuild
import Derived.Test.YtkgdlnnmkpgfdaaAdd
import Derived.Test.YtkgdlnnmkpgfdaaAdds
import Derived.Test.YtkgdlnnmkpgfdaaAsked
import Derived.Test.YtkgdlnnmkpgfdaaNumb
import Derived.Test.YtkgdlnnmkpgfdaaFin
import Derived.Test.YtkgdlnnmkpgfdaaRfrz
import Derived.Test.YtkgdlnnmkpgfdaaSame
import Derived.Test.YtkgdlnnmkpgfdaaLawA
import Derived.Test.YtkgdlnnmkpgfdaaLawB
import Derived.Test.YtkgdlnnmkpgfdaaStr
import Derived.Test.YtkgdlnnmkpgfdaaPure
import Derived.Test.YtkgdlnnmkpgfdaaDawg
import Derived.Test.YtkgdlnnmkpgfdaaVis
import Derived.Test.YtkgdlnnmkpgfdaaRow
import Derived.Test.YtkgdlnnmkpgfdaaNode
import Derived.Test.YtkgdlnnmkpgfdaaMap
import Derived.Test.YtkgdlnnmkpgfdaaAuto
import Derived.Test.YtkgdlnnmkpgfdaaLast
import Derived.Test.YtkgdlnnmkpgfdaaTag
import Derived.Test.YtkgdlnnmkpgfdaaFrz
import Derived.Test.YtkgdlnnmkpgfdaaSet
import Derived.Test.YtkgdlnnmkpgfdaaPost
import Derived.Test.YtkgdlnnmkpgfdaaBulk
import Derived.Test.YtkgdlnnmkpgfdaaOpens
set_option maxRecDepth 20000
set_option linter.unusedVariables false
namespace Go.Hb.Keeps
open Go.Proofs
open Go.Hb.Ref08 Go.Hb.Visit Go.Hb.Reg Go.Hb.Cut Go.Hb.Build Go.Hb.Add Go.Hb.Adds Go.Hb.Asked Go.Hb.Numb Go.Hb.Fin Go.Hb.Rfrz Go.Hb.Same Go.Hb.LawA Go.Hb.LawB
theorem ag3 : aggN Try.prog 3 = some none := by kernel_rfl
theorem ag9 : aggN Try.prog 9 = some none := by kernel_rfl
theorem ag38 : aggN Try.prog 38 = some none := by kernel_rfl
theorem ag42 : aggN Try.prog 42 = some (some 2) := by kernel_rfl
theorem c10 : Callable Try.prog 10 := callable Try.func10 (by kernel_rfl) (by kernel_rfl)
theorem c11 : Callable Try.prog 11 := callable Try.func11 (by kernel_rfl) (by kernel_rfl)
theorem c13 : Callable Try.prog 13 := callable Try.func13 (by kernel_rfl) (by kernel_rfl)
theorem c14 : Callable Try.prog 14 := callable Try.func14 (by kernel_rfl) (by kernel_rfl)
theorem c15 : Callable Try.prog 15 := callable Try.func15 (by kernel_rfl) (by kernel_rfl)
theorem c16 : Callable Try.prog 16 := callable Try.func16 (by kernel_rfl) (by kernel_rfl)
theorem c22 : Callable Try.prog 22 := callable Try.func22 (by kernel_rfl) (by kernel_rfl)
theorem c23 : Callable Try.prog 23 := callable Try.func23 (by kernel_rfl) (by kernel_rfl)
theorem c24 : Callable Try.prog 24 := callable Try.func24 (by kernel_rfl) (by kernel_rfl)
theorem cz42 : cellsN Try.prog 42 = some 2 := by kernel_rfl
theorem es22 : elemSize Try.prog 22 = some 1 := by kernel_rfl
theorem es23 : elemSize Try.prog 23 = some 2 := by kernel_rfl
theorem es38 : elemSize Try.prog 38 = some 2 := by kernel_rfl
theorem fo40_1 : fieldOff Try.prog 40 1 = some 1 := by kernel_rfl
theorem fo42_1 : fieldOff Try.prog 42 1 = some 1 := by kernel_rfl
theorem so22 : sliceOk Try.prog 22 9 1 16 = true := by kernel_rfl
theorem so38 : sliceOk Try.prog 38 42 2 16 = true := by kernel_rfl
theorem st42 : structOk Try.prog 42 = some ([(0, 1), (1, 1)], [.int .u8 0, .int .i64 0]) := by kernel_rfl
theorem u5 : Try.prog.underlying 5 = some (.int .u8) := by kernel_rfl
theorem u22 : Try.prog.underlying 22 = some (.slice 9) := by kernel_rfl
theorem u23 : Try.prog.underlying 23 = some (.slice 40) := by kernel_rfl
theorem u38 : Try.prog.underlying 38 = some (.slice 42) := by kernel_rfl
theorem us3 : (Try.prog.underlying 3).isSome = true := by kernel_rfl
theorem wide : Try.prog.follows .mixedOrders = true := by kernel_rfl
theorem zs42 : zeroOf Try.prog 42 = some (some [.int .u8 0, .int .i64 0]) := by kernel_rfl

/-- the blocks of the edges -/
def FE (svs : List (Bool × Value)) (k : Nat) : Prop := ∃ q ∈ svs, q.2.ownBlock = some k
/-- how many edges of a state have been written over: all below state i, k of it -/
def dd (i k j : Nat) : Nat := if j < i then 300 else if j = i then k else 0
theorem dd_i (i k : Nat) : dd i k i = k := by simp [dd]
theorem dd_ne {i k k' j : Nat} (h : j ≠ i) : dd i k j = dd i k' j := by simp [dd, h]
/-- states whose edges are still owned, the first of them written over -/
def EK (w : World) (B : Nat) (sts : List Ent) (svs : List (Bool × Value)) (d : Nat → Nat) : Prop := ∀ (i : Nat) q, svs[i]? = some q → ∃ r, w.ownsRow B 42 2 q.2 (sts.getD i dE).2.length r ∧ ∀ k, k < (sts.getD i dE).2.length → ∃ z y : Int, r[k * 2]? = some (.int .u8 z) ∧ r[k * 2 + 1]? = some (.int .i64 y) ∧ (k < d i → y = -1 - (i : Int))
variable {w w' : World} {B : Nat} {sts : List Ent} {svs : List (Bool × Value)} {d d' : Nat → Nat}
theorem EK.of (h : StsT 42 w B sts svs) : EK w B sts svs (dd 0 0) := fun i q hq => by
  have hi : i < svs.length := (List.getElem?_eq_some_iff.1 hq).1
  obtain ⟨_, h2⟩ := h.2 i (sts.getD i dE) q (by rw [getD_get dE (by rw [h.1]; exact hi), List.getElem?_eq_getElem (by rw [h.1]; exact hi)]) hq
  refine ⟨_, h2, fun k hk => ?_⟩
  have he := List.getElem?_eq_getElem hk
  refine ⟨_, _, (eflat_get he (c := 0) (by decide)).trans rfl, (eflat_get he (c := 1) (by decide)).trans rfl, fun h => ?_⟩
  unfold dd at h
  rw [if_neg (Nat.not_lt_zero _), ite_self] at h
  exact absurd h (Nat.not_lt_zero _)
theorem EK.md {F : Nat → Prop} (h : EK w B sts svs d) (hm : Md F w w') (hf : ∀ k, FE svs k → ¬ F k) : EK w' B sts svs d := fun i q hq =>
  let ⟨r, h1, h2⟩ := h i q hq
  ⟨r, own_md h1 hm (fun k hk => hf k ⟨q, List.mem_of_getElem? hq, hk⟩), h2⟩
theorem EK.wk (h : EK w B sts svs d) (hm : Wk w w') : EK w' B sts svs d := h.md hm (fun _ _ x => x)
theorem EK.mono (h : EK w B sts svs d) (hd : ∀ i k, k < (sts.getD i dE).2.length → k < d' i → k < d i) : EK w B sts svs d' := fun i q hq =>
  let ⟨r, h1, h2⟩ := h i q hq
  ⟨r, h1, fun k hk => let ⟨z, y, a, b, c⟩ := h2 k hk; ⟨z, y, a, b, fun h => c (hd i k hk h)⟩⟩
theorem EK.step {i m : Nat} (h : EK w B sts svs (dd i m)) (hm : (sts.getD i dE).2.length ≤ m) : EK w B sts svs (dd (i + 1) 0) := h.mono fun j k hk hd => by
  unfold dd at hd ⊢
  by_cases h1 : j < i
  · rw [if_pos (by omega)] at hd; rw [if_pos h1]; exact hd
  · by_cases h2 : j = i
    · subst h2; rw [if_neg h1, if_pos rfl]; omega
    · rw [if_neg (by omega)] at hd; split at hd <;> omega
theorem sepV_ne {i j k : Nat} {p q : Bool × Value} (h : sepV svs) (hj : j ≠ i) (hp : svs[j]? = some p) (hq : svs[i]? = some q) (h1 : p.2.ownBlock = some k) (h2 : q.2.ownBlock = some k) : False := by
  obtain ⟨hjl, rfl⟩ := List.getElem?_eq_some_iff.1 hp
  obtain ⟨hil, rfl⟩ := List.getElem?_eq_some_iff.1 hq
  have h := List.pairwise_iff_getElem.1 h
  rcases Nat.lt_or_gt_of_ne hj with hlt | hlt
  · exact h j i hjl hil hlt k h1 h2
  · exact h i j hil hjl hlt k h2 h1
theorem EK.upd {i : Nat} {q : Bool × Value} {r' : List Value} (h : EK w B sts svs d) (hsep : sepV svs) (hi : svs[i]? = some q) (hm : Md (fun k => q.2.ownBlock = some k) w w') (hr : w'.ownsRow B 42 2 q.2 (sts.getD i dE).2.length r')
    (h' : ∀ k, k < (sts.getD i dE).2.length → ∃ z y : Int, r'[k * 2]? = some (.int .u8 z) ∧ r'[k * 2 + 1]? = some (.int .i64 y) ∧ (k < d' i → y = -1 - (i : Int))) (hd : ∀ j, j ≠ i → d' j = d j) : EK w' B sts svs d' := fun j p hp => by
  by_cases hj : j = i
  · subst hj; rw [hi] at hp; cases hp; exact ⟨r', hr, h'⟩
  · obtain ⟨r, h1, h2⟩ := h j p hp
    refine ⟨r, own_md h1 hm (fun k hk hk' => sepV_ne hsep hj hp hi hk hk'), fun k hk => ?_⟩
    rw [hd j hj]; exact h2 k hk
theorem EK.app {vl : Value} {nl : Nat} (h : EK w B sts svs d) (hk : ∀ B0 v0 n0 xs0, w.ownsRow B0 42 2 v0 n0 xs0 → (v0.ownBlock = vl.ownBlock → n0 ≤ nl) → w'.ownsRow B0 42 2 v0 n0 xs0) (hs : ∀ (j : Nat) q, svs[j]? = some q → q.2.ownBlock = vl.ownBlock → (sts.getD j dE).2.length ≤ nl) : EK w' B sts svs d := fun j q hq =>
  let ⟨r, h1, h2⟩ := h j q hq
  ⟨r, hk _ _ _ _ h1 (hs j q hq), h2⟩
theorem ek_side {i : Nat} {q : Bool × Value} {vl : Value} (h : EK w B sts svs d) (hsep : sepV svs) (hq : svs[i]? = some q) (hvl : ∀ k, vl.ownBlock = some k → q.2.ownBlock = some k ∨ w.heap.size ≤ k) (j : Nat) (p : Bool × Value) (hp : svs[j]? = some p) (he : p.2.ownBlock = vl.ownBlock) : (sts.getD j dE).2.length ≤ (sts.getD i dE).2.length := by
  obtain ⟨r, hr, _⟩ := h j p hp
  cases hb : p.2.ownBlock with
  | none =>
    obtain ⟨_, _, _, _, _, _, h0⟩ := own_cells hr
    have h1 := hr.1
    rw [h0 hb] at h1
    simp only [List.length_nil] at h1
    omega
  | some k =>
    rcases hvl k (he ▸ hb) with h1 | h1
    · by_cases hji : j = i
      · subst hji; exact Nat.le_refl _
      · exact (sepV_ne hsep hji hp hq hb h1).elim
    · have := (own_lt hr hb).2; omega
theorem row_set {r : List Value} {m k i : Nat} {z0 : Int} (hl : r.length = m * 2) (hk : k < m) (h : ∀ j, j < m → ∃ z y : Int, r[j * 2]? = some (.int .u8 z) ∧ r[j * 2 + 1]? = some (.int .i64 y) ∧ (j < k → y = -1 - (i : Int))) :
    ∀ j, j < m → ∃ z y : Int, (r.take (k * 2) ++ [Value.int .u8 z0, .int .i64 (-1 - (i : Int))] ++ r.drop (k * 2 + 2))[j * 2]? = some (.int .u8 z) ∧ (r.take (k * 2) ++ [Value.int .u8 z0, .int .i64 (-1 - (i : Int))] ++ r.drop (k * 2 + 2))[j * 2 + 1]? = some (.int .i64 y) ∧ (j < k + 1 → y = -1 - (i : Int)) := by
  intro j hj
  obtain ⟨z, y, a1, a2, a3⟩ := h j hj
  rcases Nat.lt_trichotomy j k with h1 | h1 | h1
  · refine ⟨z, y, ?_, ?_, fun _ => a3 h1⟩
    · rw [List.append_assoc, List.getElem?_append_left (by rw [List.length_take]; omega), List.getElem?_take, if_pos (by omega)]; exact a1
    · rw [List.append_assoc, List.getElem?_append_left (by rw [List.length_take]; omega), List.getElem?_take, if_pos (by omega)]; exact a2
  · subst h1
    refine ⟨z0, _, ?_, ?_, fun _ => rfl⟩
    · rw [List.append_assoc, List.getElem?_append_right (by rw [List.length_take]; omega), List.length_take, Nat.min_eq_left (by omega), Nat.sub_self]; rfl
    · rw [List.append_assoc, List.getElem?_append_right (by rw [List.length_take]; omega), List.length_take, Nat.min_eq_left (by omega), show j * 2 + 1 - j * 2 = 1 by omega]; rfl
  · have e : ∀ c, c < 2 → (r.take (k * 2) ++ [Value.int .u8 z0, .int .i64 (-1 - (i : Int))] ++ r.drop (k * 2 + 2))[j * 2 + c]? = r[j * 2 + c]? := fun c hc => by
      rw [List.append_assoc, List.getElem?_append_right (by rw [List.length_take]; omega), List.length_take, Nat.min_eq_left (by omega), List.getElem?_append_right (by simp only [List.length_cons, List.length_nil]; omega), List.getElem?_drop]
      congr 1
      simp only [List.length_cons, List.length_nil]; omega
    exact ⟨z, y, (e 0 (by decide)).trans a1, (e 1 (by decide)).trans a2, fun h => by omega⟩
theorem StsT.keep {E : Nat} {F : Nat → Prop} (h : StsT E w B sts svs) (hm : Md F w w') (hf : ∀ k, B ≤ k → k < w.heap.size → ¬ F k) : StsT E w' B sts svs :=
  ⟨h.1, fun i p q hp hq => let ⟨h1, h2⟩ := h.2 i p q hp hq; ⟨h1, own_md h2 hm (fun k hk => hf k (own_lt h2 hk).1 (own_lt h2 hk).2)⟩⟩
theorem sr_own {E t size c : Nat} {aa : Option Addr} (h : w.ownsRow B t size (.slice aa svs.length c) svs.length (sflat svs)) (hs : StsT E w B sts svs) : SR w aa svs sts := by
  obtain ⟨_, _, hv, h1⟩ := SR.of h hs
  simp only [Value.slice.injEq, true_and] at hv
  obtain ⟨rfl, rfl⟩ := hv
  exact h1
theorem sr_keep {E t size c : Nat} {aa : Option Addr} {F : Nat → Prop} (h : w.ownsRow B t size (.slice aa svs.length c) svs.length (sflat svs)) (hs : StsT E w B sts svs) (hm : Md F w w') (hf : ∀ k, B ≤ k → k < w.heap.size → ¬ F k) : SR w' aa svs sts :=
  sr_own (own_md h hm (fun k hk => hf k (own_lt h hk).1 (own_lt h hk).2)) (StsT.keep hs hm hf)
theorem ne_len {r : List Value} {m : Nat} (h : r.length = m * 2) (hm : 0 < m) : r ≠ [] := by
  rintro rfl; simp only [List.length_nil] at h; omega
/-- what Build answers at a number of words -/
theorem builtn_w (n : Nat) (ws : Tl) (aw : Option Addr) (cw : Nat) (w : World) (hn : ws.length = n) (hS : Strs w.heap aw ws) (hf : addW bigN [] ws = (0, ws)) (hwl : ws.length ≤ 134217728) :
    Ret Try.prog 10 (List.toArray [.slice aw n cw]) w (fun v w' => Wk w w' ∧ ∃ aa svs cc, v = .tuple #[.slice aa svs.length cc, .int .i64 0] ∧ AutV w' w.heap.size aa cc svs (aut ws)) := by
  subst hn
  refine (built_w ws aw cw w hS hwl).mono fun v w' ⟨h1, aa, n, cc, hv, _, hok⟩ => ⟨h1, ?_⟩
  rw [hf] at hok hv
  obtain ⟨svs, rfl, hA⟩ := hok rfl
  exact ⟨aa, svs, cc, hv, hA⟩
/-- the words, and two that do not rise -/
def moW (ws : Tl) : Tl := ws ++ [[122, 122], [122, 121]]
theorem moW_take (ws : Tl) : (moW ws).take ws.length = ws := by unfold moW; rw [List.take_append_of_le_length (Nat.le_refl _), List.take_length]
theorem moW_len (ws : Tl) : (moW ws).length = ws.length + 2 := by unfold moW; rw [List.length_append]; rfl
theorem moW_lt {ws : Tl} {i : Nat} (h : i < ws.length) : (moW ws).getD i [] = ws.getD i [] := by
  unfold moW; rw [List.getD_eq_getElem?_getD, List.getD_eq_getElem?_getD, List.getElem?_append_left h]
theorem moW_at (ws : Tl) (c : Nat) : (moW ws).getD (ws.length + c) [] = [[122, 122], [122, 121]].getD c [] := by
  unfold moW; rw [List.getD_eq_getElem?_getD, List.getElem?_append_right (by omega), Nat.add_sub_cancel_left, List.getD_eq_getElem?_getD]

set_option maxHeartbeats 1000000 in
theorem keeps_w (l : Tl) (a : Option Addr) (cap : Nat) (w : World) (hS : Strs w.heap a l) (hl : l.length + vol l ≤ 1048576) :
    Ret Try.prog 7 (List.toArray [.slice a l.length cap]) w (fun v w' => v = .bool true ∧ Wk w w') := by
  refine enter Try.func7 rfl Try.ntmps7 rfl ?_
  refine sq (fun K1 hK1 => ?_)
  refine rg ?_
  refine p asg ?_
  refine nl ?_
  refine tn (hK1 _ _ ?_)
  refine sq (fun K2 hK2 => ?_)
  refine rg ?_
  refine p asg ?_
  refine nl ?_
  refine tn (hK2 _ _ ?_)
  refine sq (fun K3 hK3 => ?_)
  refine rg ?_
  refine p mv ?_
  refine e (cl c23 (finish_nil _) rfl fun v23 w23 hR23 => ?_)
  obtain ⟨rfl, hw23⟩ := hR23
  subst w23
  refine p mv ?_
  refine p (xt rfl rfl) ?_
  refine p (xt rfl rfl) ?_
  refine p asg ?_
  refine p asg ?_
  refine nl ?_
  refine tn (hK3 _ _ ?_)
  refine sq (fun K4 hK4 => ?_)
  refine sq (fun K5 hK5 => ?_)
  refine rg ?_
  refine e (cl c13 (wakes_w _) rfl fun v26 w26 hR26 => ?_)
  obtain ⟨rfl, hE26⟩ := hR26
  refine p (no rfl) ?_
  refine p mv ?_
  refine gb (t := 28) rfl (fun h => absurd (h.symm.trans (rfl)) Bool.noConfusion) (fun hg28 => ?_)
  refine pg rfl rfl rfl mv ?_
  refine eg rfl rfl rfl (bs1 so22 rfl rfl fun b30 w30 hb30 hN30 hB30 => ?_)
  refine eg rfl rfl rfl (cl c22 (adds_nil _ _) rfl fun v31 w31 hR31 => ?_)
  obtain ⟨rfl, hw31⟩ := hR31
  subst w31
  refine pg rfl rfl rfl (nei rfl rfl) ?_
  refine p (pkf rfl) ?_
  refine p mv ?_
  refine gs (t := 34) rfl (fun h => absurd h (fun h => h rfl)) (fun hg34 => ?_)
  refine pg rfl rfl rfl mv ?_
  refine eg rfl rfl rfl (cl c24 (frozen_nil _) rfl fun v36 w36 hR36 => ?_)
  obtain ⟨rfl, hw36⟩ := hR36
  subst w36
  have hE30 : Wk w w30 := Md.trans hE26 hN30.md
  refine pg rfl rfl rfl (nei rfl rfl) ?_
  refine p (pkf rfl) ?_
  refine p mv ?_
  refine gs (t := 39) rfl (fun h => absurd h (fun h => h rfl)) (fun hg39 => ?_)
  refine pg rfl rfl rfl mv ?_
  refine pg rfl rfl rfl (nei rfl rfl) ?_
  refine p (pkf rfl) ?_
  refine nl ?_
  refine tn (hK5 _ _ ?_)
  refine cd rfl (fun h => absurd h (fun h => h rfl)) (fun hc42 => ?_)
  refine skp ?_
  refine tn (hK4 _ _ ?_)
  refine sq (fun K6 hK6 => ?_)
  refine rg ?_
  refine p (mvt (.slice a l.length cap) rfl) ?_
  refine e (cl c16 (rising_w l a cap _ (hS.wk hE30) (by omega)) rfl fun v44 w44 hR44 => ?_)
  obtain ⟨hE44, ho44⟩ := hR44
  obtain ⟨a6, c6, rfl⟩ := own_slice ho44
  have hS6 : Strs w44.heap a6 (fitS l) := (own_cellsS ho44).2
  have hfl := fitS_len l
  have hfv := fitS_vol l
  have hff := fitS_fit l
  have hbl := aut_small hff
  have hml := moW_len (fitS l)
  have hE1 : Wk w w44 := Md.trans hE30 hE44
  refine p asg ?_
  refine nl ?_
  refine tn (hK6 _ _ ?_)
  refine sq (fun K7 hK7 => ?_)
  refine rg ?_
  refine p mv ?_
  refine e (cl c11 (twin_w (fitS l) a6 c6 _ hS6 (by omega)) rfl fun v46 w46 hR46 => ?_)
  obtain ⟨hE46, ho46⟩ := hR46
  refine e (bsL (L := [str [122, 122], str [122, 121]]) so22 rfl rfl rfl rfl fun b47 w47 hb47 hN47 hB47 => ?_)
  refine e (ap so22 (own_nw ho46 hN47.md) rfl (by have := hN47.size; have := hE46.size; omega) rfl (Cells.of_blk ⟨_, hB47⟩) (rfl) (rfl) (by omega) (by omega) fun v48 w48 ho48 hM48 hz48 hf48 => ?_)
  have hE48 : Wk w44 w48 := Wk.own (Md.trans hE46 hN47.md) (own_nw ho46 hN47.md) hM48 (Nat.le_refl _)
  have ho48x : World.ownsRow w48 w44.heap.size 9 1 v48 ((fitS l).length + 2) ((moW (fitS l)).map str) := by unfold moW; rw [List.map_append]; exact ho48
  obtain ⟨a7, c7, rfl⟩ := own_slice ho48x
  have hS7 : Strs w48.heap a7 (moW (fitS l)) := (own_cellsS ho48x).2
  have hc7 := (own_cellsS ho48x).1
  have hS6b := hS6.wk hE48
  refine p asg ?_
  refine nl ?_
  refine tn (hK7 _ _ ?_)
  refine sq (fun K8 hK8 => ?_)
  refine rg ?_
  refine p mv ?_
  refine e (cl c15 (automaton_w (fitS l) a6 c6 _ hS6b hff (by omega) (by omega)) rfl fun v50 w50 hR50 => ?_)
  obtain ⟨hE50, svW, aW, cW, rfl, hoW, hsW⟩ := hR50
  have hE2 : Wk w w50 := Md.trans (Md.trans hE1 hE48) hE50
  have hS7b := hS7.wk hE50
  have hS7t : Strs w50.heap a7 (fitS l) := by have := Strs.take hS7b (fitS l).length; rwa [moW_take] at this
  refine p asg ?_
  refine nl ?_
  refine tn (hK8 _ _ ?_)
  refine sq (fun K9 hK9 => ?_)
  refine rg ?_
  refine p mv ?_
  refine p mv ?_
  refine p (lnl u22 rfl rfl) ?_
  refine p (sllh es22 rfl rfl (by omega)) ?_
  refine e (cl c10 (builtn_w (fitS l).length (fitS l) a7 c7 _ rfl hS7t (addW_fitS l (by omega)) (by omega)) rfl fun v56 w56 hR56 => ?_)
  obtain ⟨hE56, aA, svA, cA, rfl, hAA⟩ := hR56
  have hsepA := hAA.2.2
  have hFE : ∀ k, FE svA k → w50.heap.size ≤ k ∧ k < w56.heap.size := fun k ⟨q, hq, hk⟩ => by
    obtain ⟨j, hj, rfl⟩ := List.mem_iff_getElem.1 hq
    obtain ⟨r, hr, _⟩ := EK.of hAA.2.1 j _ (List.getElem?_eq_getElem hj)
    exact own_lt hr hk
  have hNF : ∀ k, (Value.slice aA svA.length cA).ownBlock = some k → ¬ FE svA k := fun k h1 ⟨q, hq, hk⟩ => by
    obtain ⟨j, hj, rfl⟩ := List.mem_iff_getElem.1 hq
    obtain ⟨r, hr, _⟩ := EK.of hAA.2.1 j _ (List.getElem?_eq_getElem hj)
    have h9 := (tag_own hAA.1 h1).symm.trans (tag_own hr hk)
    exact absurd h9 (by decide)
  have hlA : (aut (fitS l)).length = svA.length := hAA.2.1.1
  refine p mv ?_
  refine p (xt rfl rfl) ?_
  refine p (xt rfl rfl) ?_
  refine p asg ?_
  refine p asg ?_
  refine nl ?_
  refine tn (hK9 _ _ ?_)
  refine sq (fun K10 hK10 => ?_)
  refine rg ?_
  refine p mv ?_
  refine p mv ?_
  refine p (lnl u22 rfl rfl) ?_
  refine p (sllh es22 rfl rfl (by omega)) ?_
  refine e (cl c10 (builtn_w (fitS l).length (fitS l) a7 c7 _ rfl (hS7t.wk hE56) (addW_fitS l (by omega)) (by omega)) rfl fun v64 w64 hR64 => ?_)
  obtain ⟨hE64, aB, svB, cB, rfl, hBB⟩ := hR64
  have hlB : (aut (fitS l)).length = svB.length := hBB.2.1.1
  have hE3 : Wk w w64 := Md.trans (Md.trans hE2 hE56) hE64
  have hSA : SR w64 aA svA (aut (fitS l)) := hAA.sr.wk hE64
  have hSB : SR w64 aB svB (aut (fitS l)) := hBB.sr
  have hSW := sr_own hoW hsW
  have hSW64 := hSW.wk (Md.trans hE56 hE64)
  have hlW : (aut (fitS l)).length = svW.length := hsW.1
  have hoA1 := own_nw hAA.1 hE64
  have hEK0 : EK w64 w50.heap.size (aut (fitS l)) svA (dd 0 0) := (EK.of hAA.2.1).wk hE64
  refine p mv ?_
  refine p (xt rfl rfl) ?_
  refine p (xt rfl rfl) ?_
  refine p asg ?_
  refine p asg ?_
  refine nl ?_
  refine tn (hK10 _ _ ?_)
  refine sq (fun K11 hK11 => ?_)
  refine sq (fun K12 hK12 => ?_)
  refine rg ?_
  refine p mv ?_
  refine p (lnl u22 rfl rfl) ?_
  refine p mv ?_
  refine nl ?_
  refine tn (hK12 _ _ ?_)
  refine blk ?_
  refine lp (fun gm σ1 wL => ∃ (i : Nat), (i ≤ (fitS l).length) ∧ (Wk w64 wL) ∧ (σ1 6 = .slice a6 (fitS l).length c6) ∧ (σ1 7 = .slice a7 ((fitS l).length + 2) c7) ∧ (σ1 8 = .slice aW svW.length cW) ∧ (σ1 9 = .slice aA svA.length cA) ∧ (σ1 11 = .slice aB svB.length cB) ∧ (σ1 68 = .int .i64 (fitS l).length) ∧ (σ1 69 = .int .i64 i) ∧ ((fitS l).length - i = gm)) _ ⟨0, (by omega), (Md.refl _ _), rfl, rfl, rfl, rfl, rfl, rfl, rfl, rfl⟩ ?_
  rintro gm σ1 wL ⟨i, hi, hE, hs1_6, hs1_7, hs1_8, hs1_9, hs1_11, hs1_68, hs1_69, rfl⟩
  refine fx 6 hs1_6 (fx 7 hs1_7 (fx 8 hs1_8 (fx 9 hs1_9 (fx 11 hs1_11 (fx 68 hs1_68 (fx 69 hs1_69 ?_))))))
  refine sq (fun K13 hK13 => ?_)
  refine rg ?_
  refine p (lt rfl rfl) ?_
  refine nl ?_
  refine tn (hK13 _ _ ?_)
  refine sq (fun K14 hK14 => ?_)
  refine cd rfl (fun hc70 => ?_) (fun hc70 => ?_)
  · refine skp ?_
    refine tn (hK14 _ _ ?_)
    refine sq (fun K15 hK15 => ?_)
    refine blk ?_
    refine sq (fun K16 hK16 => ?_)
    refine rg ?_
    refine p (mvt (.int .i64 i) rfl) ?_
    refine p (ast (.int .i64 i) rfl) ?_
    refine nl ?_
    refine tn (hK16 _ _ ?_)
    refine sq (fun K17 hK17 => ?_)
    have hS13 : (fun w' => Wk wL w') wL.drew := (Md.refl _ _).drew
    refine hst (fun w' => Wk wL w') wide hS13 ?_
    refine hp 0 rfl (by kernel_rfl) (fun _ _ => mvt (.slice a7 ((fitS l).length + 2) c7) rfl) hS13 ?_
    refine hp 1 rfl (by kernel_rfl) (fun _ _ => mvt (.int .i64 i) rfl) hS13 ?_
    refine hp 2 rfl (by kernel_rfl) (fun _ _ => ia' es22 rfl rfl (by omega) (Cells.ok ((hS7b.wk (Md.trans hE56 hE64)).wk hE) (ne_map (by omega)))) hS13 ?_
    refine hp 3 rfl (by kernel_rfl) (fun w' hS => ld ag9 rfl (Wk.cel hS (Strs.get (i := i) ((hS7b.wk (Md.trans hE56 hE64)).wk hE) (by omega)))) hS13 ?_
    refine hp 4 rfl (by kernel_rfl) (fun _ _ => mvt (.slice a6 (fitS l).length c6) rfl) hS13 ?_
    refine hp 5 rfl (by kernel_rfl) (fun _ _ => mvt (.int .i64 i) rfl) hS13 ?_
    refine hp 6 rfl (by kernel_rfl) (fun _ _ => ia' es22 rfl rfl (by omega) (Cells.ok (((hS6b.wk hE50).wk (Md.trans hE56 hE64)).wk hE) (ne_map (by omega)))) hS13 ?_
    refine hp 7 rfl (by kernel_rfl) (fun w' hS => ld ag9 rfl (Wk.cel hS (Strs.get (i := i) (((hS6b.wk hE50).wk (Md.trans hE56 hE64)).wk hE) (by omega)))) hS13 ?_
    refine hp 8 rfl (by kernel_rfl) (fun _ _ => nes rfl rfl) hS13 ?_
    refine hn (by kernel_rfl) ?_
    refine tn (hK17 _ _ ?_)
    refine cd rfl (fun h => absurd h (fun h => h (moW_lt (by omega)))) (fun hc80 => ?_)
    refine skp ?_
    refine bn ?_
    refine tn (hK15 _ _ ?_)
    refine rg ?_
    refine p (ad rfl rfl (wi64 (by omega))) ?_
    refine p mv ?_
    refine nl ?_
    refine tn ?_
    exact ⟨_, by omega, i + 1, (by omega), hE.drew, rfl, rfl, rfl, rfl, rfl, rfl, rfl, rfl⟩
  · refine ext ?_
    refine te _ ?_
    refine te _ ?_
    refine be ?_
    refine tn (hK11 _ _ ?_)
    refine sq (fun K15 hK15 => ?_)
    refine sq (fun K16 hK16 => ?_)
    have hS7c := (hS7b.wk (Md.trans hE56 hE64)).wk hE
    refine rg ?_
    refine p (mvt (.slice a7 ((fitS l).length + 2) c7) rfl) ?_
    refine p (mvt (.slice a6 (fitS l).length c6) rfl) ?_
    refine p (lnl u22 rfl rfl) ?_
    refine p (ia' es22 rfl rfl (by omega) (Cells.ok (hS7c) (ne_map (by omega)))) ?_
    refine p (ld ag9 rfl (Strs.get (i := (fitS l).length) hS7c (by omega))) ?_
    refine p (nes rfl rfl) ?_
    refine p mv ?_
    refine gs (t := 88) rfl (fun h => absurd h (fun h => h (moW_at _ 0))) (fun hg88 => ?_)
    refine pg rfl rfl rfl (mvt (.slice a7 ((fitS l).length + 2) c7) rfl) ?_
    refine pg rfl rfl rfl (mvt (.slice a6 (fitS l).length c6) rfl) ?_
    refine pg rfl rfl rfl (lnl u22 rfl rfl) ?_
    refine pg rfl rfl rfl (adv (((fitS l).length + 1 : Nat) : Int) rfl rfl (w64n (by omega) (by omega))) ?_
    refine pg rfl rfl rfl (ia' es22 rfl rfl (by omega) (Cells.ok (hS7c) (ne_map (by omega)))) ?_
    refine pg rfl rfl rfl (ld ag9 rfl (Strs.get (i := (fitS l).length + 1) hS7c (by omega))) ?_
    refine pg rfl rfl rfl (nes rfl rfl) ?_
    refine p (pkf rfl) ?_
    refine p mv ?_
    refine gs (t := 97) rfl (fun h => absurd h (fun h => h (moW_at _ 1))) (fun hg97 => ?_)
    refine pg rfl rfl rfl (mvt (.slice aA svA.length cA) rfl) ?_
    refine pg rfl rfl rfl (mvt (.slice aW svW.length cW) rfl) ?_
    refine eg rfl rfl rfl (cl c14 (same_w aA aW cA cW svA svW (aut (fitS l)) (auto (fitS l)) _ (hSA.wk hE) (hSW64.wk hE) (by omega) (by omega) (fun p hp => by have := hbl.2 p hp; omega)) rfl fun v100 w100 hR100 => ?_)
    obtain ⟨rfl, hE100⟩ := hR100
    refine pg rfl rfl rfl (no rfl) ?_
    refine p (pkf rfl) ?_
    refine p mv ?_
    refine gb (t := 103) rfl (fun h => absurd (h.symm.trans (congrArg (fun b : Bool => (!b)) (decide_eq_true (auto_aut (fitS l)).symm))) Bool.noConfusion) (fun hg103 => ?_)
    refine pg rfl rfl rfl (mvt (.slice aB svB.length cB) rfl) ?_
    refine pg rfl rfl rfl (mvt (.slice aW svW.length cW) rfl) ?_
    refine eg rfl rfl rfl (cl c14 (same_w aB aW cB cW svB svW (aut (fitS l)) (auto (fitS l)) _ ((hSB.wk hE).wk hE100) ((hSW64.wk hE).wk hE100) (by omega) (by omega) (fun p hp => by have := hbl.2 p hp; omega)) rfl fun v106 w106 hR106 => ?_)
    obtain ⟨rfl, hE106⟩ := hR106
    have hE106x : Wk w64 w106 := Md.trans (Md.trans hE hE100) hE106
    refine pg rfl rfl rfl (no rfl) ?_
    refine p (pkf rfl) ?_
    refine nl ?_
    refine tn (hK16 _ _ ?_)
    refine cf (congrArg (fun b => Value.bool (!b)) (decide_eq_true (auto_aut (fitS l)).symm)) ?_
    refine skp ?_
    refine tn (hK15 _ _ ?_)
    refine sq (fun K17 hK17 => ?_)
    refine sq (fun K18 hK18 => ?_)
    refine rg ?_
    refine p (mvt (.slice aA svA.length cA) rfl) ?_
    refine p (lnl u23 rfl rfl) ?_
    refine p mv ?_
    refine nl ?_
    refine tn (hK18 _ _ ?_)
    refine blk ?_
    refine lp (fun gm σ2 wA => ∃ (i : Nat), (i ≤ svA.length) ∧ (EK wA w50.heap.size (aut (fitS l)) svA (dd i 0)) ∧ (Md (FE svA) w64 wA) ∧ (σ2 8 = .slice aW svW.length cW) ∧ (σ2 9 = .slice aA svA.length cA) ∧ (σ2 11 = .slice aB svB.length cB) ∧ (σ2 110 = .int .i64 svA.length) ∧ (σ2 111 = .int .i64 i) ∧ (svA.length - i = gm)) _ ⟨0, (by omega), (hEK0.wk hE106x), (Md.mono hE106x (fun _ _ x => x.elim)), rfl, rfl, rfl, rfl, rfl, rfl⟩ ?_
    rintro gm σ2 wA ⟨i, hi, hEKi, hMi, hs2_8, hs2_9, hs2_11, hs2_110, hs2_111, rfl⟩
    refine fx 8 hs2_8 (fx 9 hs2_9 (fx 11 hs2_11 (fx 110 hs2_110 (fx 111 hs2_111 ?_))))
    refine sq (fun K19 hK19 => ?_)
    refine rg ?_
    refine p (lt rfl rfl) ?_
    refine nl ?_
    refine tn (hK19 _ _ ?_)
    refine sq (fun K20 hK20 => ?_)
    refine cd rfl (fun hc112 => ?_) (fun hc112 => ?_)
    · refine skp ?_
      refine tn (hK20 _ _ ?_)
      refine sq (fun K21 hK21 => ?_)
      refine blk ?_
      refine sq (fun K22 hK22 => ?_)
      refine rg ?_
      refine p (mvt (.int .i64 i) rfl) ?_
      refine p (ast (.int .i64 i) rfl) ?_
      refine nl ?_
      refine tn (hK22 _ _ ?_)
      refine sq (fun K23 hK23 => ?_)
      obtain ⟨⟨fi, vi⟩, hqi⟩ : ∃ q, svA[i]? = some q := ⟨_, List.getElem?_eq_getElem (by omega)⟩
      obtain ⟨ri, hori, hri⟩ := hEKi i _ hqi
      obtain ⟨ei, xi, rfl⟩ := own_slice hori
      have hoa := own_md hoA1 hMi hNF
      have hcA := (own_cellsS hoa).2
      have hmi := hbl.2 _ (getD_mem (d := dE) (show i < (aut (fitS l)).length by omega))
      have hlri := hori.1
      refine rg ?_
      refine p (mvt (.slice aA svA.length cA) rfl) ?_
      refine p (mvt (.int .i64 i) rfl) ?_
      refine p (ia' es23 rfl rfl (by omega) (Cells.ok (hcA) (sflat_ne (by omega)))) ?_
      refine p (fa fo40_1 rfl) ?_
      refine p (ld ag38 rfl (cel2 hcA (i := i) (c := 1) ((sflat_get hqi (by decide)).trans rfl))) ?_
      refine p (lnl u38 rfl rfl) ?_
      refine p mv ?_
      refine nl ?_
      refine tn (hK23 _ _ ?_)
      refine blk ?_
      refine lp (fun gm σ3 wB => ∃ (k : Nat), (k ≤ ((aut (fitS l)).getD i dE).2.length) ∧ (EK wB w50.heap.size (aut (fitS l)) svA (dd i k)) ∧ (Md (FE svA) w64 wB) ∧ (σ3 8 = .slice aW svW.length cW) ∧ (σ3 9 = .slice aA svA.length cA) ∧ (σ3 11 = .slice aB svB.length cB) ∧ (σ3 110 = .int .i64 svA.length) ∧ (σ3 111 = .int .i64 i) ∧ (σ3 14 = .int .i64 i) ∧ (σ3 119 = .int .i64 ((aut (fitS l)).getD i dE).2.length) ∧ (σ3 120 = .int .i64 k) ∧ (((aut (fitS l)).getD i dE).2.length - k = gm)) _ ⟨0, (by omega), hEKi, hMi, rfl, rfl, rfl, rfl, rfl, rfl, rfl, rfl, rfl⟩ ?_
      rintro gm σ3 wB ⟨k, hk, hEKk, hMk, hs3_8, hs3_9, hs3_11, hs3_110, hs3_111, hs3_14, hs3_119, hs3_120, rfl⟩
      refine fx 8 hs3_8 (fx 9 hs3_9 (fx 11 hs3_11 (fx 110 hs3_110 (fx 111 hs3_111 (fx 14 hs3_14 (fx 119 hs3_119 (fx 120 hs3_120 ?_)))))))
      refine sq (fun K24 hK24 => ?_)
      refine rg ?_
      refine p (lt rfl rfl) ?_
      refine nl ?_
      refine tn (hK24 _ _ ?_)
      refine sq (fun K25 hK25 => ?_)
      refine cd rfl (fun hc121 => ?_) (fun hc121 => ?_)
      · refine skp ?_
        refine tn (hK25 _ _ ?_)
        refine sq (fun K26 hK26 => ?_)
        refine blk ?_
        refine sq (fun K27 hK27 => ?_)
        refine rg ?_
        refine p (mvt (.int .i64 k) rfl) ?_
        refine p (ast (.int .i64 k) rfl) ?_
        refine nl ?_
        refine tn (hK27 _ _ ?_)
        obtain ⟨⟨fi, vi⟩, hqi⟩ : ∃ q, svA[i]? = some q := ⟨_, List.getElem?_eq_getElem (by omega)⟩
        obtain ⟨ri, hori, hri⟩ := hEKk i _ hqi
        obtain ⟨ei, xi, rfl⟩ := own_slice hori
        have hoa := own_md hoA1 hMk hNF
        have hcA := (own_cellsS hoa).2
        have hmi := hbl.2 _ (getD_mem (d := dE) (show i < (aut (fitS l)).length by omega))
        have hlri := hori.1
        refine rg ?_
        refine p (mvt (.slice aA svA.length cA) rfl) ?_
        refine p (mvt (.int .i64 i) rfl) ?_
        refine p (ia' es23 rfl rfl (by omega) (Cells.ok (hcA) (sflat_ne (by omega)))) ?_
        refine p (fa fo40_1 rfl) ?_
        refine p (ld ag38 rfl (cel2 hcA (i := i) (c := 1) ((sflat_get hqi (by decide)).trans rfl))) ?_
        refine p (mvt (.int .i64 k) rfl) ?_
        refine p (mvt (.int .i64 i) rfl) ?_
        refine p (cvw u5 us3 rfl (rfl)) ?_
        refine p (mvt (.int .i64 i) rfl) ?_
        refine p (sb rfl rfl (wi64 (by omega))) ?_
        refine p (bld (ps := [(0, .int .u8 (IntKind.u8.wrap i)), (1, .int .i64 (-1 - (i : Int)))]) (L := [.int .u8 (IntKind.u8.wrap i), .int .i64 (-1 - (i : Int))]) st42 rfl (rfl)) ?_
        refine p (ia' es38 rfl rfl (by omega) (Cells.ok ((own_cellsS hori).2) (ne_len hlri (by omega)))) ?_
        refine e (stoa (j := k) hori cz42 rfl rfl rfl rfl rfl (by omega) (by decide) fun w24 hM24 ho24 => ?_)
        have hEK24 : EK w24 w50.heap.size (aut (fitS l)) svA (dd i (k + 1)) := EK.upd hEKk hsepA hqi hM24 ho24 (by rw [dd_i]; exact row_set hlri (by omega) (by rw [dd_i] at hri; exact hri)) (fun j hj => dd_ne hj)
        have hMd24 : Md (FE svA) w64 w24 := Md.trans' hMk hM24 (fun k _ h => ⟨_, List.mem_of_getElem? hqi, h⟩)
        refine nl ?_
        refine bn ?_
        refine tn (hK26 _ _ ?_)
        refine rg ?_
        refine p (ad rfl rfl (wi64 (by omega))) ?_
        refine p mv ?_
        refine nl ?_
        refine tn ?_
        exact ⟨_, by omega, k + 1, (by omega), hEK24, hMd24, rfl, rfl, rfl, rfl, rfl, rfl, rfl, rfl, rfl⟩
      · refine ext ?_
        refine te _ ?_
        refine te _ ?_
        refine be ?_
        refine bn ?_
        refine tn (hK21 _ _ ?_)
        refine rg ?_
        refine p (ad rfl rfl (wi64 (by omega))) ?_
        refine p mv ?_
        refine nl ?_
        refine tn ?_
        exact ⟨_, by omega, i + 1, (by omega), (EK.step hEKk (by omega)), hMk, rfl, rfl, rfl, rfl, rfl, rfl⟩
    · refine ext ?_
      refine te _ ?_
      refine te _ ?_
      refine be ?_
      refine tn (hK17 _ _ ?_)
      refine sq (fun K21 hK21 => ?_)
      refine sq (fun K22 hK22 => ?_)
      refine rg ?_
      refine p (mvt (.slice aA svA.length cA) rfl) ?_
      refine p (lnl u23 rfl rfl) ?_
      refine p mv ?_
      refine nl ?_
      refine tn (hK22 _ _ ?_)
      refine blk ?_
      refine lp (fun gm σ4 wC => ∃ (i : Nat), (i ≤ svA.length) ∧ (EK wC w50.heap.size (aut (fitS l)) svA (dd svA.length 0)) ∧ (Md (FE svA) w64 wC) ∧ (σ4 8 = .slice aW svW.length cW) ∧ (σ4 9 = .slice aA svA.length cA) ∧ (σ4 11 = .slice aB svB.length cB) ∧ (σ4 138 = .int .i64 svA.length) ∧ (σ4 139 = .int .i64 i) ∧ (svA.length - i = gm)) _ ⟨0, (by omega), (EK.mono hEKi (fun j k _ h => by rw [show i = svA.length by omega]; exact h)), hMi, rfl, rfl, rfl, rfl, rfl, rfl⟩ ?_
      rintro gm σ4 wC ⟨i, hi, hEKb, hMb, hs4_8, hs4_9, hs4_11, hs4_138, hs4_139, rfl⟩
      refine fx 8 hs4_8 (fx 9 hs4_9 (fx 11 hs4_11 (fx 138 hs4_138 (fx 139 hs4_139 ?_))))
      refine sq (fun K23 hK23 => ?_)
      refine rg ?_
      refine p (lt rfl rfl) ?_
      refine nl ?_
      refine tn (hK23 _ _ ?_)
      refine sq (fun K24 hK24 => ?_)
      refine cd rfl (fun hc140 => ?_) (fun hc140 => ?_)
      · refine skp ?_
        refine tn (hK24 _ _ ?_)
        refine sq (fun K25 hK25 => ?_)
        refine blk ?_
        refine sq (fun K26 hK26 => ?_)
        refine rg ?_
        refine p (mvt (.int .i64 i) rfl) ?_
        refine p (ast (.int .i64 i) rfl) ?_
        refine nl ?_
        refine tn (hK26 _ _ ?_)
        refine sq (fun K27 hK27 => ?_)
        obtain ⟨⟨fi, vi⟩, hqi⟩ : ∃ q, svA[i]? = some q := ⟨_, List.getElem?_eq_getElem (by omega)⟩
        obtain ⟨ri, hori, hri⟩ := hEKb i _ hqi
        obtain ⟨ei, xi, rfl⟩ := own_slice hori
        have hoa := own_md hoA1 hMb hNF
        have hcA := (own_cellsS hoa).2
        have hmi := hbl.2 _ (getD_mem (d := dE) (show i < (aut (fitS l)).length by omega))
        have hlri := hori.1
        refine rg ?_
        refine p (mvt (.slice aA svA.length cA) rfl) ?_
        refine p (mvt (.int .i64 i) rfl) ?_
        refine p (ia' es23 rfl rfl (by omega) (Cells.ok (hcA) (sflat_ne (by omega)))) ?_
        refine p (fa fo40_1 rfl) ?_
        refine p (ld ag38 rfl (cel2 hcA (i := i) (c := 1) ((sflat_get hqi (by decide)).trans rfl))) ?_
        refine p asg ?_
        refine nl ?_
        refine tn (hK27 _ _ ?_)
        refine sq (fun K28 hK28 => ?_)
        refine sq (fun K29 hK29 => ?_)
        refine rg ?_
        refine p mv ?_
        refine nl ?_
        refine tn (hK29 _ _ ?_)
        refine blk ?_
        refine lp (fun gm σ5 wD => ∃ (c : Nat) (ak : Option Addr) (ca : Nat) (xl : List Value), (c ≤ 5) ∧ (EK wD w50.heap.size (aut (fitS l)) svA (dd svA.length 0)) ∧ (Md (FE svA) w64 wD) ∧ (World.ownsRow wD w50.heap.size 42 2 (.slice ak (((aut (fitS l)).getD i dE).2.length + c) ca) (((aut (fitS l)).getD i dE).2.length + c) xl) ∧ (∀ k, (Value.slice ak (((aut (fitS l)).getD i dE).2.length + c) ca).ownBlock = some k → (Value.slice ei ((aut (fitS l)).getD i dE).2.length xi).ownBlock = some k ∨ w64.heap.size ≤ k) ∧ (σ5 8 = .slice aW svW.length cW) ∧ (σ5 9 = .slice aA svA.length cA) ∧ (σ5 11 = .slice aB svB.length cB) ∧ (σ5 138 = .int .i64 svA.length) ∧ (σ5 139 = .int .i64 i) ∧ (σ5 17 = .slice ak (((aut (fitS l)).getD i dE).2.length + c) ca) ∧ (σ5 147 = .int .i64 c) ∧ (5 - c = gm)) _ ⟨0, ei, xi, ri, (by omega), hEKb, hMb, hori, (fun k h => .inl h), rfl, rfl, rfl, rfl, rfl, rfl, rfl, rfl⟩ ?_
        rintro gm σ5 wD ⟨c, ak, ca, xl, hc, hEKc, hMc, hol, hvl, hs5_8, hs5_9, hs5_11, hs5_138, hs5_139, hs5_17, hs5_147, rfl⟩
        refine fx 8 hs5_8 (fx 9 hs5_9 (fx 11 hs5_11 (fx 138 hs5_138 (fx 139 hs5_139 (fx 17 hs5_17 (fx 147 hs5_147 ?_))))))
        refine sq (fun K30 hK30 => ?_)
        refine rg ?_
        refine p (lt rfl rfl) ?_
        refine nl ?_
        refine tn (hK30 _ _ ?_)
        refine sq (fun K31 hK31 => ?_)
        refine cd rfl (fun hc148 => ?_) (fun hc148 => ?_)
        · refine skp ?_
          refine tn (hK31 _ _ ?_)
          refine sq (fun K32 hK32 => ?_)
          refine blk ?_
          refine rg ?_
          refine p (mvt (.slice ak (((aut (fitS l)).getD i dE).2.length + c) ca) rfl) ?_
          refine p (bld (ps := [(1, .int .i64 7777)]) (L := [.int .u8 0, .int .i64 7777]) st42 rfl (rfl)) ?_
          refine e (bsa so38 rfl rfl rfl fun b151 w151 hb151 hN151 hB151 => ?_)
          refine e (apk so38 (own_nw hol hN151.md) rfl (by have := hN151.size; have := hMc.size; have := hE56.size; have := hE64.size; omega) rfl (Cells.of_blk hB151) (rfl) (rfl) (by omega) (by omega) fun v152 w152 ho152 hk152 hM152 hf152 => ?_)
          obtain ⟨a9, c9, rfl⟩ := own_slice ho152
          have hsz := hN151.size
          have hszc := hMc.size
          have hEK152 : EK w152 w50.heap.size (aut (fitS l)) svA (dd svA.length 0) := EK.app (hEKc.wk hN151.md) hk152 (fun j q hj he => Nat.le_trans (ek_side hEK0 hsepA hqi hvl j q hj he) (Nat.le_add_right _ _))
          have hM152x : Md (FE svA) w64 w152 := Md.trans' (Md.trans' hMc hN151.md (fun _ _ h => h.elim)) hM152 (fun k hk h => (hvl k h).elim (fun h => ⟨_, List.mem_of_getElem? hqi, h⟩) (fun h => by omega))
          have hvl2 : ∀ k, (Value.slice a9 (((aut (fitS l)).getD i dE).2.length + c + 1) c9).ownBlock = some k → (Value.slice ei ((aut (fitS l)).getD i dE).2.length xi).ownBlock = some k ∨ w64.heap.size ≤ k := fun k h => (hf152 k h).elim (hvl k) (fun h => .inr (by omega))
          refine p asg ?_
          refine nl ?_
          refine bn ?_
          refine tn (hK32 _ _ ?_)
          refine rg ?_
          refine p (ad rfl rfl (wi64 (by omega))) ?_
          refine p mv ?_
          refine nl ?_
          refine tn ?_
          exact ⟨_, by omega, c + 1, a9, c9, _, (by omega), hEK152, hM152x, ho152, hvl2, rfl, rfl, rfl, rfl, rfl, rfl, rfl, rfl⟩
        · refine ext ?_
          refine te _ ?_
          refine te _ ?_
          refine be ?_
          refine tn (hK28 _ _ ?_)
          refine sq (fun K32 hK32 => ?_)
          refine rg ?_
          refine p (mvt (.slice ak (((aut (fitS l)).getD i dE).2.length + c) ca) rfl) ?_
          refine p (lnl u38 rfl rfl) ?_
          refine p (lt rfl rfl) ?_
          refine nl ?_
          refine tn (hK32 _ _ ?_)
          refine cd rfl (fun h => absurd h (by omega)) (fun hc156 => ?_)
          refine skp ?_
          refine bn ?_
          refine tn (hK25 _ _ ?_)
          refine rg ?_
          refine p (ad rfl rfl (wi64 (by omega))) ?_
          refine p mv ?_
          refine nl ?_
          refine tn ?_
          exact ⟨_, by omega, i + 1, (by omega), hEKc, hMc, rfl, rfl, rfl, rfl, rfl, rfl⟩
      · refine ext ?_
        refine te _ ?_
        refine te _ ?_
        refine be ?_
        refine tn (hK21 _ _ ?_)
        refine sq (fun K25 hK25 => ?_)
        refine sq (fun K26 hK26 => ?_)
        refine rg ?_
        refine p (mvt (.slice aA svA.length cA) rfl) ?_
        refine p (lnl u23 rfl rfl) ?_
        refine p mv ?_
        refine nl ?_
        refine tn (hK26 _ _ ?_)
        refine blk ?_
        refine lp (fun gm σ6 wG => ∃ (i : Nat), (i ≤ svA.length) ∧ (EK wG w50.heap.size (aut (fitS l)) svA (dd svA.length 0)) ∧ (Md (FE svA) w64 wG) ∧ (σ6 8 = .slice aW svW.length cW) ∧ (σ6 9 = .slice aA svA.length cA) ∧ (σ6 11 = .slice aB svB.length cB) ∧ (σ6 159 = .int .i64 svA.length) ∧ (σ6 160 = .int .i64 i) ∧ (svA.length - i = gm)) _ ⟨0, (by omega), hEKb, hMb, rfl, rfl, rfl, rfl, rfl, rfl⟩ ?_
        rintro gm σ6 wG ⟨i, hi, hEKz, hMz, hs6_8, hs6_9, hs6_11, hs6_159, hs6_160, rfl⟩
        refine fx 8 hs6_8 (fx 9 hs6_9 (fx 11 hs6_11 (fx 159 hs6_159 (fx 160 hs6_160 ?_))))
        refine sq (fun K27 hK27 => ?_)
        refine rg ?_
        refine p (lt rfl rfl) ?_
        refine nl ?_
        refine tn (hK27 _ _ ?_)
        refine sq (fun K28 hK28 => ?_)
        refine cd rfl (fun hc161 => ?_) (fun hc161 => ?_)
        · refine skp ?_
          refine tn (hK28 _ _ ?_)
          refine sq (fun K29 hK29 => ?_)
          refine blk ?_
          refine sq (fun K30 hK30 => ?_)
          refine rg ?_
          refine p (mvt (.int .i64 i) rfl) ?_
          refine p (ast (.int .i64 i) rfl) ?_
          refine nl ?_
          refine tn (hK30 _ _ ?_)
          refine sq (fun K31 hK31 => ?_)
          obtain ⟨⟨fi, vi⟩, hqi⟩ : ∃ q, svA[i]? = some q := ⟨_, List.getElem?_eq_getElem (by omega)⟩
          obtain ⟨ri, hori, hri⟩ := hEKz i _ hqi
          obtain ⟨ei, xi, rfl⟩ := own_slice hori
          have hoa := own_md hoA1 hMz hNF
          have hcA := (own_cellsS hoa).2
          have hmi := hbl.2 _ (getD_mem (d := dE) (show i < (aut (fitS l)).length by omega))
          have hlri := hori.1
          refine rg ?_
          refine p (mvt (.slice aA svA.length cA) rfl) ?_
          refine p (mvt (.int .i64 i) rfl) ?_
          refine p (ia' es23 rfl rfl (by omega) (Cells.ok (hcA) (sflat_ne (by omega)))) ?_
          refine p (fa fo40_1 rfl) ?_
          refine p (ld ag38 rfl (cel2 hcA (i := i) (c := 1) ((sflat_get hqi (by decide)).trans rfl))) ?_
          refine p (lnl u38 rfl rfl) ?_
          refine p mv ?_
          refine nl ?_
          refine tn (hK31 _ _ ?_)
          refine blk ?_
          refine lp (fun gm σ7 wH => ∃ (k : Nat), (k ≤ ((aut (fitS l)).getD i dE).2.length) ∧ (EK wH w50.heap.size (aut (fitS l)) svA (dd svA.length 0)) ∧ (Md (FE svA) w64 wH) ∧ (σ7 8 = .slice aW svW.length cW) ∧ (σ7 9 = .slice aA svA.length cA) ∧ (σ7 11 = .slice aB svB.length cB) ∧ (σ7 159 = .int .i64 svA.length) ∧ (σ7 160 = .int .i64 i) ∧ (σ7 18 = .int .i64 i) ∧ (σ7 167 = .slice ei ((aut (fitS l)).getD i dE).2.length xi) ∧ (σ7 168 = .int .i64 ((aut (fitS l)).getD i dE).2.length) ∧ (σ7 169 = .int .i64 k) ∧ (((aut (fitS l)).getD i dE).2.length - k = gm)) _ ⟨0, (by omega), hEKz, hMz, rfl, rfl, rfl, rfl, rfl, rfl, rfl, rfl, rfl, rfl⟩ ?_
          rintro gm σ7 wH ⟨k, hk, hEKe, hMe, hs7_8, hs7_9, hs7_11, hs7_159, hs7_160, hs7_18, hs7_167, hs7_168, hs7_169, rfl⟩
          refine fx 8 hs7_8 (fx 9 hs7_9 (fx 11 hs7_11 (fx 159 hs7_159 (fx 160 hs7_160 (fx 18 hs7_18 (fx 167 hs7_167 (fx 168 hs7_168 (fx 169 hs7_169 ?_))))))))
          refine sq (fun K32 hK32 => ?_)
          refine rg ?_
          refine p (lt rfl rfl) ?_
          refine nl ?_
          refine tn (hK32 _ _ ?_)
          refine sq (fun K33 hK33 => ?_)
          refine cd rfl (fun hc170 => ?_) (fun hc170 => ?_)
          · refine skp ?_
            refine tn (hK33 _ _ ?_)
            refine sq (fun K34 hK34 => ?_)
            refine blk ?_
            refine sq (fun K35 hK35 => ?_)
            obtain ⟨rj, horj, hrj⟩ := hEKe i _ hqi
            have hlrj := horj.1
            obtain ⟨z, y, hz1, hz2, hz3⟩ := hrj k (by omega)
            obtain rfl := hz3 (by unfold dd; rw [if_pos (by omega)]; omega)
            refine rg ?_
            refine p (ia' es38 rfl rfl (by omega) (Cells.ok ((own_cellsS horj).2) (ne_len hlrj (by omega)))) ?_
            refine p (lda ag42 rfl rfl (show ∀ j, j < 2 → cel wH.heap (bk ei) (fo ei + k * 2 + j) = [Value.int .u8 z, .int .i64 (-1 - (i : Int))][j]? from fun j hj => by rcases (show j = 0 ∨ j = 1 by omega) with rfl | rfl; exact cel2 (c := 0) (own_cellsS horj).2 hz1; exact cel2 (c := 1) (own_cellsS horj).2 hz2)) ?_
            refine e (alT zs42 fun b20 w20 hb20 hN20 hB20 => ?_)
            refine e (staT cz42 rfl rfl rfl rfl hB20 (by simp) fun w43 hM43 hB43 => ?_)
            have hB43x : Blk w43.heap b20 [Value.int .u8 z, .int .i64 (-1 - (i : Int))] := ⟨_, hB43⟩
            have hsz20 := hN20.size
            have hE43 : Wk wH w43 := Md.trans' hN20.md hM43 (fun k hk h => by omega)
            have hEK43 := hEKe.wk hE43
            have hM43x : Md (FE svA) w64 w43 := Md.trans' hMe hE43 (fun _ _ h => h.elim)
            refine nl ?_
            refine tn (hK35 _ _ ?_)
            refine sq (fun K36 hK36 => ?_)
            refine rg ?_
            refine p (fa fo42_1 rfl) ?_
            refine p (ld ag3 rfl (hB43x.cel 1)) ?_
            refine p (mvt (.int .i64 i) rfl) ?_
            refine p (sb rfl rfl (wi64 (by omega))) ?_
            refine p (nei rfl rfl) ?_
            refine nl ?_
            refine tn (hK36 _ _ ?_)
            refine cd rfl (fun h => absurd h (fun h => h rfl)) (fun hc177 => ?_)
            refine skp ?_
            refine bn ?_
            refine tn (hK34 _ _ ?_)
            refine rg ?_
            refine p (ad rfl rfl (wi64 (by omega))) ?_
            refine p mv ?_
            refine nl ?_
            refine tn ?_
            exact ⟨_, by omega, k + 1, (by omega), hEK43, hM43x, rfl, rfl, rfl, rfl, rfl, rfl, rfl, rfl, rfl, rfl⟩
          · refine ext ?_
            refine te _ ?_
            refine te _ ?_
            refine be ?_
            refine bn ?_
            refine tn (hK29 _ _ ?_)
            refine rg ?_
            refine p (ad rfl rfl (wi64 (by omega))) ?_
            refine p mv ?_
            refine nl ?_
            refine tn ?_
            exact ⟨_, by omega, i + 1, (by omega), hEKe, hMe, rfl, rfl, rfl, rfl, rfl, rfl⟩
        · refine ext ?_
          refine te _ ?_
          refine te _ ?_
          refine be ?_
          refine tn (hK25 _ _ ?_)
          refine sq (fun K29 hK29 => ?_)
          have hSBz := sr_keep hBB.1 hBB.2.1 hMz (fun k h1 _ h2 => by have := hFE k h2; omega)
          have hSWz := sr_keep hoW hsW (Md.trans (Md.mono (Md.trans hE56 hE64) (fun _ _ x => x.elim)) hMz) (fun k _ h1 h2 => by have := hFE k h2; omega)
          have hEz : Wk w wG := Md.trans' hE3 hMz (fun k hk h => by have := hFE k h; have := hE2.size; omega)
          refine rg ?_
          refine p (mvt (.slice aB svB.length cB) rfl) ?_
          refine p (mvt (.slice aW svW.length cW) rfl) ?_
          refine e (cl c14 (same_w aB aW cB cW svB svW (aut (fitS l)) (auto (fitS l)) _ hSBz hSWz (by omega) (by omega) (fun p hp => by have := hbl.2 p hp; omega)) rfl fun v182 w182 hR182 => ?_)
          obtain ⟨rfl, hE182⟩ := hR182
          refine p asg ?_
          refine nl ?_
          refine tn (hK29 _ _ ?_)
          refine rt ?_
          refine f1 rfl rfl ?_
          exact ⟨bT (auto_aut (fitS l)).symm |>.symm, Md.trans hEz hE182⟩
end Go.Hb.Keeps
