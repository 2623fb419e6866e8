/-
  The walk of hornbookref18.visit, and of Automaton. No conditions but those that each theorem names.
-/
import Derived.Test.YtkgdlnnmkpgfdaaChecked
import Derived.Test.YtkgdlnnmkpgfdaaEff
import Derived.Test.YtkgdlnnmkpgfdaaRef06
import Derived.Test.YtkgdlnnmkpgfdaaRef18
import Derived.Test.YtkgdlnnmkpgfdaaStr
import Derived.Test.YtkgdlnnmkpgfdaaPure
import Derived.Test.YtkgdlnnmkpgfdaaDawg
import Derived.Test.YtkgdlnnmkpgfdaaVis
import Derived.Test.YtkgdlnnmkpgfdaaRow
import Derived.Test.YtkgdlnnmkpgfdaaTag
set_option maxRecDepth 20000
set_option linter.unusedVariables false
namespace Go.Hb.Visit
open Go.Proofs
open Go.Hb.Ref06 Go.Hb.Ref18
theorem ag3 : aggN Try.prog 3 = some none := by kernel_rfl
theorem ag9 : aggN Try.prog 9 = some none := by kernel_rfl
theorem ag22 : aggN Try.prog 22 = some none := by kernel_rfl
theorem ag32 : aggN Try.prog 32 = some none := by kernel_rfl
theorem ag67 : aggN Try.prog 67 = some none := by kernel_rfl
theorem c27 : Callable Try.prog 27 := callable Try.func27 (by kernel_rfl) (by kernel_rfl)
theorem c38 : Callable Try.prog 38 := callable Try.func38 (by kernel_rfl) (by kernel_rfl)
theorem c39 : Callable Try.prog 39 := callable Try.func39 (by kernel_rfl) (by kernel_rfl)
theorem c40 : Callable Try.prog 40 := callable Try.func40 (by kernel_rfl) (by kernel_rfl)
theorem cz32 : cellsN Try.prog 32 = some 1 := by kernel_rfl
theorem cz64 : cellsN Try.prog 64 = some 2 := by kernel_rfl
theorem es22 : elemSize Try.prog 22 = some 1 := by kernel_rfl
theorem es32 : elemSize Try.prog 32 = some 2 := by kernel_rfl
theorem es67 : elemSize Try.prog 67 = some 1 := by kernel_rfl
theorem fo69_0 : fieldOff Try.prog 69 0 = some 0 := by kernel_rfl
theorem fo69_1 : fieldOff Try.prog 69 1 = some 1 := by kernel_rfl
theorem fo71_0 : fieldOff Try.prog 71 0 = some 0 := by kernel_rfl
theorem fo71_1 : fieldOff Try.prog 71 1 = some 1 := by kernel_rfl
theorem fo71_2 : fieldOff Try.prog 71 2 = some 3 := by kernel_rfl
theorem so22 : sliceOk Try.prog 22 9 1 16 = true := by kernel_rfl
theorem so32 : sliceOk Try.prog 32 64 2 32 = true := by kernel_rfl
theorem so62 : sliceOk Try.prog 62 65 2 16 = true := by kernel_rfl
theorem st64 : structOk Try.prog 64 = some ([(0, 1), (1, 1)], [.bool false, .slice none 0 0]) := by kernel_rfl
theorem st65 : structOk Try.prog 65 = some ([(0, 1), (1, 1)], [.int .u8 0, .int .i64 0]) := by kernel_rfl
theorem st71 : structOk Try.prog 71 = some ([(0, 1), (1, 2), (3, 1)], [.slice none 0 0, .slice none 0 0, .slice none 0 0, .slice none 0 0]) := by kernel_rfl
theorem u9 : Try.prog.underlying 9 = some (.string) := by kernel_rfl
theorem u22 : Try.prog.underlying 22 = some (.slice 9) := by kernel_rfl
theorem u32 : Try.prog.underlying 32 = some (.slice 64) := by kernel_rfl
theorem wide : Try.prog.follows .mixedOrders = true := by kernel_rfl

/-- the cells of an automaton's edges -/
def eflat (l : List (UInt8 × Nat)) : List Value := l.flatMap fun e => [.int .u8 e.1.toNat, .int .i64 e.2]
/-- the cells of states -/
def sflat (l : List (Bool × Value)) : List Value := l.flatMap fun p => [.bool p.1, p.2]
theorem eflat_app (a b : List (UInt8 × Nat)) : eflat (a ++ b) = eflat a ++ eflat b := by simp [eflat]
theorem sflat_app (a b : List (Bool × Value)) : sflat (a ++ b) = sflat a ++ sflat b := by simp [sflat]
/-- states lie in these values -/
def StsT (E : Nat) (w : World) (B : Nat) (sts : List (Bool × List (UInt8 × Nat))) (svs : List (Bool × Value)) : Prop :=
  sts.length = svs.length ∧ ∀ (i : Nat) p q, sts[i]? = some p → svs[i]? = some q → p.1 = q.1 ∧ w.ownsRow B E 2 q.2 p.2.length (eflat p.2)
abbrev Sts := StsT 65
theorem StsT.app {E : Nat} {w : World} {B : Nat} {sts : List (Bool × List (UInt8 × Nat))} {svs : List (Bool × Value)} (h : StsT E w B sts svs) : StsT E w B (sts ++ [(false, [])]) (svs ++ [(false, .slice none 0 0)]) := by
  refine ⟨by simp [h.1], fun i p q hp hq => ?_⟩
  by_cases hi : i < sts.length
  · rw [List.getElem?_append_left hi] at hp
    rw [List.getElem?_append_left (by rw [← h.1]; exact hi)] at hq
    exact h.2 i p q hp hq
  · rw [List.getElem?_append_right (by omega)] at hp
    rw [List.getElem?_append_right (by rw [← h.1]; omega)] at hq
    rw [← h.1] at hq
    by_cases h0 : i - sts.length = 0
    · rw [h0] at hp hq
      simp only [List.getElem?_cons_zero, Option.some.injEq] at hp hq
      subst hp hq
      exact ⟨rfl, World.ownsRow_nil _ _ _ _⟩
    · rw [List.getElem?_eq_none (by simp; omega)] at hp; cases hp
theorem StsT.set {E : Nat} {w : World} {B n : Nat} {sts : List (Bool × List (UInt8 × Nat))} {svs : List (Bool × Value)} {f : Bool} {es : List (UInt8 × Nat)} {v : Value} (h : StsT E w B sts svs) (ho : w.ownsRow B E 2 v es.length (eflat es)) : StsT E w B (sts.set n (f, es)) (svs.set n (f, v)) := by
  refine ⟨by simp [h.1], fun i p q hp hq => ?_⟩
  rw [List.getElem?_set] at hp hq
  by_cases hi : n = i
  · rw [if_pos hi] at hp hq
    split at hp
    · split at hq
      · simp only [Option.some.injEq] at hp hq; subst hp hq; exact ⟨rfl, ho⟩
      · cases hq
    · cases hp
  · rw [if_neg hi] at hp hq; exact h.2 i p q hp hq
theorem mem_ix {α : Type} {l : List α} {i : Nat} {a : α} (h : l[i]? = some a) : a ∈ l := List.mem_of_getElem? h
theorem StsT.md {E : Nat} {F : Nat → Prop} {w w' : World} {B : Nat} {sts : List (Bool × List (UInt8 × Nat))} {svs : List (Bool × Value)} (h : StsT E w B sts svs) (hm : Md F w w') (hf : ∀ p ∈ svs, ∀ k, p.2.ownBlock = some k → ¬ F k) : StsT E w' B sts svs :=
  ⟨h.1, fun i p q hp hq => ⟨(h.2 i p q hp hq).1, own_md (h.2 i p q hp hq).2 hm (hf q (mem_ix hq))⟩⟩
theorem StsT.row {E : Nat} {w : World} {B : Nat} {sts : List (Bool × List (UInt8 × Nat))} {svs : List (Bool × Value)} (h : StsT E w B sts svs) {q : Bool × Value} (hq : q ∈ svs) : ∃ n xs, w.ownsRow B E 2 q.2 n xs := by
  obtain ⟨i, hi, rfl⟩ := List.mem_iff_getElem.1 hq
  exact ⟨_, _, (h.2 i _ _ (List.getElem?_eq_getElem (by rw [h.1]; exact hi)) (List.getElem?_eq_getElem hi)).2⟩
theorem StsT.mdT {E : Nat} {F : Nat → Prop} {w w' : World} {L : List Nat} {B : Nat} {sts : List (Bool × List (UInt8 × Nat))} {svs : List (Bool × Value)} (h : StsT E w B sts svs) (hm : Md F w w') (hT : TF w L F) (hl : L.contains (E + 2) = false) : StsT E w' B sts svs :=
  h.md hm (fun p hp k hk => by obtain ⟨n, xs, ho⟩ := h.row hp; exact hT.no (tag_own ho hk) hl)
theorem StsT.app1 {E : Nat} {w : World} {B : Nat} {f : Bool} {sts : List (Bool × List (UInt8 × Nat))} {svs : List (Bool × Value)} (h : StsT E w B sts svs) : StsT E w B (sts ++ [(f, [])]) (svs ++ [(f, .slice none 0 0)]) := by
  have h1 := (h.app).set (n := sts.length) (f := f) (es := []) (World.ownsRow_nil _ _ _ _)
  rw [List.set_append_right _ _ (Nat.le_refl _), h.1, List.set_append_right _ _ (Nat.le_refl _)] at h1
  simpa using h1
/-- the blocks of a builder of automata -/
def FV (b : Nat) (vr vn vs : Value) (k : Nat) : Prop := k = b ∨ vr.ownBlock = some k ∨ vn.ownBlock = some k ∨ vs.ownBlock = some k
/-- a builder of automata, as it lies in memory -/
structure VB (w : World) (b : Nat) (wv vr vn vs : Value) (s : VS) (tb : List (List UInt8 × Nat)) (svs : List (Bool × Value)) : Prop where
  blk : Blk w.heap b [wv, vr, vn, vs]
  tab : Tb s.known tb
  rr : w.ownsRow (b + 1) 9 1 vr (tb.map Prod.fst).length ((tb.map Prod.fst).map str)
  rn : w.ownsRow (b + 1) 3 1 vn (tb.map Prod.fst).length ((tb.map Prod.snd).map (fun n : Nat => Value.int .i64 n))
  rs : w.ownsRow (b + 1) 64 2 vs svs.length (sflat svs)
  sts : Sts w (b + 1) s.sts svs
  len : s.sts.length = s.known.length
theorem VB.md {F : Nat → Prop} {w w' : World} {b : Nat} {wv vr vn vs : Value} {s : VS} {tb : List (List UInt8 × Nat)} {svs : List (Bool × Value)} (h : VB w b wv vr vn vs s tb svs) (hm : Md F w w') (hf : ∀ k, FV b vr vn vs k → ¬ F k) (hs : ∀ p ∈ svs, ∀ k, p.2.ownBlock = some k → ¬ F k) : VB w' b wv vr vn vs s tb svs :=
  ⟨hm.B h.blk (hf _ (.inl rfl)), h.tab, own_md h.rr hm fun k hk => hf k (.inr (.inl hk)), own_md h.rn hm fun k hk => hf k (.inr (.inr (.inl hk))), own_md h.rs hm fun k hk => hf k (.inr (.inr (.inr hk))), h.sts.md hm hs, h.len⟩
theorem VB.wk {w w' : World} {b : Nat} {wv vr vn vs : Value} {s : VS} {tb : List (List UInt8 × Nat)} {svs : List (Bool × Value)} (h : VB w b wv vr vn vs s tb svs) (hm : Wk w w') : VB w' b wv vr vn vs s tb svs := h.md hm (fun _ _ x => x) (fun _ _ _ _ x => x)
/-- the edges of states lie in no block of the builder's own -/
theorem VB.off {w : World} {b : Nat} {wv vr vn vs : Value} {s : VS} {tb : List (List UInt8 × Nat)} {svs : List (Bool × Value)} (h : VB w b wv vr vn vs s tb svs) {B n k : Nat} {v : Value} {xs : List Value} (ho : w.ownsRow B 65 2 v n xs) (hB : b < B) (hk : v.ownBlock = some k) : ¬ FV b vr vn vs k := by
  rintro (rfl | h1 | h1 | h1)
  · have := own_lt ho hk; omega
  · exact own_ne ho h.rr (by decide) hk h1
  · exact own_ne ho h.rn (by decide) hk h1
  · exact own_ne ho h.rs (by decide) hk h1
theorem VB.lt {w : World} {b : Nat} {wv vr vn vs : Value} {s : VS} {tb : List (List UInt8 × Nat)} {svs : List (Bool × Value)} (h : VB w b wv vr vn vs s tb svs) {k : Nat} (hk : FV b vr vn vs k) : b ≤ k ∧ k < w.heap.size := by
  have hb := h.blk.lt
  rcases hk with rfl | hk | hk | hk
  · exact ⟨Nat.le_refl _, hb⟩
  · have := own_lt h.rr hk; omega
  · have := own_lt h.rn hk; omega
  · have := own_lt h.rs hk; omega
theorem VB.slt {w : World} {b : Nat} {wv vr vn vs : Value} {s : VS} {tb : List (List UInt8 × Nat)} {svs : List (Bool × Value)} (h : VB w b wv vr vn vs s tb svs) {p : Bool × Value} (hp : p ∈ svs) {k : Nat} (hk : p.2.ownBlock = some k) : b < k ∧ k < w.heap.size := by
  obtain ⟨n, xs, ho⟩ := h.sts.row hp
  have := own_lt ho hk; omega
theorem VB.soff {w : World} {b : Nat} {wv vr vn vs : Value} {s : VS} {tb : List (List UInt8 × Nat)} {svs : List (Bool × Value)} (h : VB w b wv vr vn vs s tb svs) {p : Bool × Value} (hp : p ∈ svs) {k : Nat} (hk : p.2.ownBlock = some k) : ¬ FV b vr vn vs k :=
  let ⟨_, _, ho⟩ := h.sts.row hp; h.off ho (Nat.lt_succ_self b) hk
theorem set_mid {α : Type} (l : List α) (x y : α) (m : List α) : ((l ++ [x]) ++ m).set l.length y = l ++ y :: m := by
  rw [List.append_assoc, List.set_append_right _ _ (Nat.le_refl _), Nat.sub_self]; rfl

set_option maxHeartbeats 800000 in
theorem visit_w (b : Nat) (ws : Tl) (aw : Option Addr) (cw f : Nat) (lo hi d : Nat) (s : VS) (vr vn vs : Value) (tb : List (List UInt8 × Nat)) (svs : List (Bool × Value)) (w : World) (hV : VB w b (.slice aw ws.length cw) vr vn vs s tb svs) (hS : Strs w.heap aw ws) (hbw : ws.map str ≠ [] → bk aw < b) (hlo : lo ≤ hi) (hhi : hi ≤ ws.length) (hd : ∀ i, lo ≤ i → i < hi → d ≤ (ws.getD i []).length ∧ (ws.getD i []).length ≤ 255) (hpw : (rng ws lo hi d).Pairwise (fun x y => sless x y = true)) (hf0 : 0 < f) (hf : ∀ i, lo ≤ i → i < hi → (ws.getD i []).length < f + d) (hk : s.known.length + 1 + vol (rng ws lo hi d) ≤ 137438953472) (hwl : ws.length ≤ 137438953472) (hd2 : d ≤ 256) :
    Ret Try.prog 27 (List.toArray [.pointer (some ⟨b, 0, none⟩), .int .i64 lo, .int .i64 hi, .int .i64 d]) w (fun v w' => v = .int .i64 (vis f (rng ws lo hi d) s).1 ∧ ∃ vr' vn' vs' tb' nsv, VB w' b (.slice aw ws.length cw) vr' vn' vs' (vis f (rng ws lo hi d) s).2 tb' (svs ++ nsv) ∧ Md (FV b vr vn vs) w w' ∧ (∀ k, FV b vr' vn' vs' k → FV b vr vn vs k ∨ w.heap.size ≤ k) ∧ (∀ p ∈ nsv, ∀ k, p.2.ownBlock = some k → w.heap.size ≤ k) ∧ (vis f (rng ws lo hi d) s).2.known.length ≤ s.known.length + 1 + vol (rng ws lo hi d)) := by
  induction f generalizing lo hi d s vr vn vs tb svs w with
  | zero => omega
  | succ f ih =>
    refine enter Try.func27 rfl Try.ntmps27 rfl ?_
    refine sq (fun K1 hK1 => ?_)
    obtain ⟨ar, cr, rfl⟩ := own_slice hV.rr
    obtain ⟨an, cn, rfl⟩ := own_slice hV.rn
    obtain ⟨sa, sc, rfl⟩ := own_slice hV.rs
    have hml : (tb.map Prod.fst).length = tb.length := List.length_map ..
    have hml2 : (tb.map Prod.snd).length = tb.length := List.length_map ..
    have htl := hV.tab.len
    have hsl := hV.sts.1
    have hskn := hV.len
    have hbl := hV.blk.lt
    have hSm : ∀ w', Md (FV b (Value.slice ar (tb.map Prod.fst).length cr) (Value.slice an (tb.map Prod.fst).length cn) (Value.slice sa svs.length sc)) w w' → Strs w'.heap aw ws := fun w' hm => Cells.md hS hm (fun hne hF => by have := hbw hne; have := (hV.lt hF).1; omega)
    refine rg ?_
    refine p asg ?_
    refine nl ?_
    refine tn (hK1 _ _ ?_)
    refine sq (fun K2 hK2 => ?_)
    refine rg ?_
    refine p (mvt (.pointer (some ⟨b, 0, none⟩)) rfl) ?_
    refine p (nc rfl) ?_
    refine p (fa fo71_0 rfl) ?_
    refine p (ld ag22 rfl (hV.blk.cel 0)) ?_
    refine p (mvt (.int .i64 lo) rfl) ?_
    refine p (mvt (.int .i64 hi) rfl) ?_
    refine p (mvt (.int .i64 d) rfl) ?_
    refine e (cl c38 (rest_w ws aw cw lo hi d _ hS hlo hhi hd (by omega)) rfl fun v24 w24 hR24 => ?_)
    have hR24x : v24 = str (frame (rng ws lo hi d)) ∧ Wk w w24 := hR24
    obtain ⟨rfl, hE24⟩ := hR24x
    refine p asg ?_
    refine nl ?_
    refine tn (hK2 _ _ ?_)
    refine sq (fun K3 hK3 => ?_)
    refine rg ?_
    refine p (mvt (.pointer (some ⟨b, 0, none⟩)) rfl) ?_
    refine p (nc rfl) ?_
    refine p (fa fo71_1 rfl) ?_
    refine p mv ?_
    refine e (cl c39 (place_w b 1 (tb.map Prod.fst) _ ar cr _ (hE24.cel (hV.blk.cel 1)) ((own_cellsS hV.rr).2.wk hE24) hV.tab.sorted (by omega)) rfl fun v29 w29 hR29 => ?_)
    obtain ⟨hE29, pq, rfl, hpq, hp1, hp2⟩ := hR29
    have hE : Wk w w29 := Md.trans hE24 hE29
    refine p asg ?_
    refine nl ?_
    refine tn (hK3 _ _ ?_)
    refine sqc (fun σ1 wA => ((rng ws lo hi d) ∉ s.known) ∧ (Wk w wA) ∧ (σ1 0 = .pointer (some ⟨b, 0, none⟩)) ∧ (σ1 1 = .int .i64 lo) ∧ (σ1 2 = .int .i64 hi) ∧ (σ1 3 = .int .i64 d) ∧ (σ1 9 = str (frame (rng ws lo hi d))) ∧ (σ1 10 = .int .i64 pq)) ?_ ?_
    · refine sq (fun K4 hK4 => ?_)
      refine rg ?_
      refine p mv ?_
      refine p (mvt (.pointer (some ⟨b, 0, none⟩)) rfl) ?_
      refine p (nc rfl) ?_
      refine p (fa fo71_1 rfl) ?_
      refine p (fa fo69_0 rfl) ?_
      refine p (ld ag22 rfl (hE.cel (hV.blk.cel 1))) ?_
      refine p (lnl u22 rfl rfl) ?_
      refine p (lt rfl rfl) ?_
      refine p mv ?_
      refine gs (t := 38) rfl (fun hg38 => ?_) (fun hg38 => ?_)
      · refine pg rfl rfl rfl (mvt (.pointer (some ⟨b, 0, none⟩)) rfl) ?_
        refine pg rfl rfl rfl (nc rfl) ?_
        refine pg rfl rfl rfl (fa fo71_1 rfl) ?_
        refine pg rfl rfl rfl (fa fo69_0 rfl) ?_
        refine pg rfl rfl rfl (ld ag22 rfl (hE.cel (hV.blk.cel 1))) ?_
        refine pg rfl rfl rfl mv ?_
        refine pg rfl rfl rfl (ia' es22 rfl rfl (by omega) (Cells.ok ((own_cellsS hV.rr).2.wk hE) (ne_map (by omega)))) ?_
        refine pg rfl rfl rfl (ld ag9 rfl (Strs.get (i := pq) ((own_cellsS hV.rr).2.wk hE) (by omega))) ?_
        refine pg rfl rfl rfl mv ?_
        refine pg rfl rfl rfl (eqs rfl rfl) ?_
        refine p (pkt rfl) ?_
        refine nl ?_
        refine tn (hK4 _ _ ?_)
        refine cd rfl (fun hc49 => ?_) (fun hc49 => ?_)
        · refine sq (fun K5 hK5 => ?_)
          refine rg ?_
          refine p (mvt (.pointer (some ⟨b, 0, none⟩)) rfl) ?_
          refine p (nc rfl) ?_
          refine p (fa fo71_1 rfl) ?_
          refine p (fa fo69_1 rfl) ?_
          refine p (ld ag67 rfl (hE.cel (hV.blk.cel 2))) ?_
          refine p mv ?_
          refine p (ia' es67 rfl rfl (by omega) (Cells.ok ((own_cellsS hV.rn).2.wk hE) (ne_map (by omega)))) ?_
          refine p (ld ag3 rfl (((own_cellsS hV.rn).2.wk hE).at1 (i := pq) (u := .int .i64 (s.known.idxOf (rng ws lo hi d) : Nat)) (by rw [List.getElem?_map, (hV.tab.found (ts := (rng ws lo hi d)) (by omega) hc49).2]; rfl))) ?_
          refine p asg ?_
          refine nl ?_
          refine tn (hK5 _ _ ?_)
          refine rt ?_
          refine tr ?_
          refine f1 rfl rfl ?_
          have hmem := (hV.tab.found (q := pq) (ts := (rng ws lo hi d)) (by omega) hc49).1
          rw [vis_old hmem]
          exact ⟨rfl, _, _, _, tb, [], by rw [List.append_nil]; exact hV.wk hE, hE.mono (fun _ _ h => h.elim), fun k h => .inl h, fun _ h => by simp at h, by show s.known.length ≤ _; omega⟩
        · refine skp ?_
          refine tn ?_
          exact ⟨(hV.tab.missing hp1 hp2 (fun _ => hc49)), hE, rfl, rfl, rfl, rfl, rfl, rfl⟩
      · refine sk rfl rfl rfl rfl ?_
        refine sk rfl rfl rfl rfl ?_
        refine sk rfl rfl rfl rfl ?_
        refine sk rfl rfl rfl rfl ?_
        refine sk rfl rfl rfl rfl ?_
        refine sk rfl rfl rfl rfl ?_
        refine sk rfl rfl rfl rfl ?_
        refine sk rfl rfl rfl rfl ?_
        refine sk rfl rfl rfl rfl ?_
        refine sk rfl rfl rfl rfl ?_
        refine p (pkf rfl) ?_
        refine nl ?_
        refine tn (hK4 _ _ ?_)
        refine cf rfl ?_
        refine skp ?_
        refine tn ?_
        exact ⟨(hV.tab.missing hp1 hp2 (fun _ _ => by omega)), hE, rfl, rfl, rfl, rfl, rfl, rfl⟩
    rintro σ1 wA ⟨hmiss, hE, hs1_0, hs1_1, hs1_2, hs1_3, hs1_9, hs1_10⟩
    refine fx 0 hs1_0 (fx 1 hs1_1 (fx 2 hs1_2 (fx 3 hs1_3 (fx 9 hs1_9 (fx 10 hs1_10 ?_)))))
    have hV5 := hV.wk hE
    refine sq (fun K4 hK4 => ?_)
    refine rg ?_
    refine p (mvt (.pointer (some ⟨b, 0, none⟩)) rfl) ?_
    refine p (nc rfl) ?_
    refine p (fa fo71_2 rfl) ?_
    refine p (ld ag32 rfl (hV5.blk.cel 3)) ?_
    refine p (lnl u32 rfl rfl) ?_
    refine p asg ?_
    refine nl ?_
    refine tn (hK4 _ _ ?_)
    refine sq (fun K5 hK5 => ?_)
    refine rg ?_
    refine p (mvt (.pointer (some ⟨b, 0, none⟩)) rfl) ?_
    refine p (nc rfl) ?_
    refine p (fa fo71_1 rfl) ?_
    refine p (mvt (.int .i64 pq) rfl) ?_
    refine p (mvt (str (frame (rng ws lo hi d))) rfl) ?_
    refine p mv ?_
    refine e (cl c40 (put_w b 1 pq svs.length _ _ _ (tb.map Prod.fst) (tb.map Prod.snd) _ _ hV5.blk rfl rfl hV5.rr hV5.rn hpq (by omega)) rfl fun v69 w69 hR69 => ?_)
    obtain ⟨rfl, vr6, vn6, hB6, hr6, hn6, hM6, hfr6, hfn6⟩ := hR69
    have hT6 := hV.tab.put (q := pq) (ts := (rng ws lo hi d)) (by omega) hp1 hp2 hmiss
    rw [show s.known.length = svs.length from by omega] at hT6
    obtain ⟨tb6, htb6⟩ : ∃ t, t = tb.take pq ++ (frame (rng ws lo hi d), svs.length) :: tb.drop pq := ⟨_, rfl⟩
    rw [← htb6] at hT6
    have hm1 : tb6.map Prod.fst = (tb.map Prod.fst).take pq ++ frame (rng ws lo hi d) :: (tb.map Prod.fst).drop pq := by rw [htb6]; simp [List.map_take, List.map_drop]
    have hm2 : tb6.map Prod.snd = (tb.map Prod.snd).take pq ++ svs.length :: (tb.map Prod.snd).drop pq := by rw [htb6]; simp [List.map_take, List.map_drop]
    have hl6 : (tb6.map Prod.fst).length = (tb.map Prod.fst).length + 1 := by rw [List.length_map, hT6.len, List.length_append, List.length_singleton]; omega
    have hr6' : World.ownsRow w69 (b + 1) 9 1 vr6 (tb6.map Prod.fst).length ((tb6.map Prod.fst).map str) := by rw [hl6, hm1]; exact hr6
    have hn6' : World.ownsRow w69 (b + 1) 3 1 vn6 (tb6.map Prod.fst).length ((tb6.map Prod.snd).map (fun n : Nat => Value.int .i64 n)) := by rw [hl6, hm2]; exact hn6
    have hsub : ∀ k, (k = b ∨ (Value.slice ar (tb.map Prod.fst).length cr).ownBlock = some k ∨ (Value.slice an (tb.map Prod.fst).length cn).ownBlock = some k) → (FV b (Value.slice ar (tb.map Prod.fst).length cr) (Value.slice an (tb.map Prod.fst).length cn) (Value.slice sa svs.length sc)) k := fun k h => by
      rcases h with h | h | h
      · exact .inl h
      · exact .inr (.inl h)
      · exact .inr (.inr (.inl h))
    have hs6 : World.ownsRow w69 (b + 1) 64 2 (Value.slice sa svs.length sc) svs.length (sflat svs) := own_md hV5.rs hM6 (fun k hk h => by
      rcases h with h | h | h
      · have := own_lt hV5.rs hk; omega
      · exact own_ne hV5.rs hV5.rr (by decide) hk h
      · exact own_ne hV5.rs hV5.rn (by decide) hk h)
    have hst6 : Sts w69 (b + 1) s.sts svs := hV5.sts.md hM6 (fun q hq k hk h => hV5.soff hq hk (hsub k h))
    have hA2 : Md (FV b (Value.slice ar (tb.map Prod.fst).length cr) (Value.slice an (tb.map Prod.fst).length cn) (Value.slice sa svs.length sc)) w w69 := Md.trans' (hE.mono (fun _ _ h => h.elim)) hM6 (fun k _ h => hsub k h)
    refine nl ?_
    refine tn (hK5 _ _ ?_)
    refine sq (fun K6 hK6 => ?_)
    refine rg ?_
    refine p (mvt (.pointer (some ⟨b, 0, none⟩)) rfl) ?_
    refine p (mvt (.pointer (some ⟨b, 0, none⟩)) rfl) ?_
    refine p (nc rfl) ?_
    refine p (fa fo71_2 rfl) ?_
    refine p (ld ag32 rfl (hB6.cel 3)) ?_
    refine p (bld (ps := []) (L := [.bool false, .slice none 0 0]) st64 rfl (rfl)) ?_
    refine e (bsa so32 rfl rfl rfl fun b76 w76 hb76 hN76 hB76 => ?_)
    refine e (ap so32 (own_nw hs6 hN76.md) rfl (by have := hN76.size; have := hA2.size; omega) rfl (Cells.of_blk hB76) (rfl) (rfl) (by omega) (by omega) fun v77 w77 ho77 hM77 hz77 hf77 => ?_)
    have hA4 : Md (FV b (Value.slice ar (tb.map Prod.fst).length cr) (Value.slice an (tb.map Prod.fst).length cn) (Value.slice sa svs.length sc)) w w77 := Md.trans' (Md.trans hA2 (hN76.md.mono (fun _ _ h => h.elim))) hM77 (fun k _ h => .inr (.inr (.inr h)))
    have hB77 := hM77.B (Wk.B hN76.md hB6) (fun h => by have := own_lt hV.rs h; omega)
    have hr77 := own_md (own_nw hr6' hN76.md) hM77 (fun k hk h => own_ne (own_nw hs6 hN76.md) (own_nw hr6' hN76.md) (by decide) h hk)
    have hn77 := own_md (own_nw hn6' hN76.md) hM77 (fun k hk h => own_ne (own_nw hs6 hN76.md) (own_nw hn6' hN76.md) (by decide) h hk)
    have hst76 : Sts w76 (b + 1) s.sts svs := hst6.md hN76.md (fun _ _ _ _ x => x)
    have hst77 : Sts w77 (b + 1) s.sts svs := hst76.md hM77 (fun q hq k hk h => by
      obtain ⟨n, xs, ho⟩ := hst76.row hq
      exact own_ne ho (own_nw hs6 hN76.md) (by decide) hk h)
    refine p (nc rfl) ?_
    refine p (fa fo71_2 rfl) ?_
    refine e (st cz32 rfl rfl (own_one ho77) (hB77) (by simp) fun wt7_10 hM7_10 hB7_10 => ?_)
    have hA5 : Md (FV b (Value.slice ar (tb.map Prod.fst).length cr) (Value.slice an (tb.map Prod.fst).length cn) (Value.slice sa svs.length sc)) w wt7_10 := Md.trans' hA4 hM7_10 (fun k _ h => .inl h)
    have hV7 : VB wt7_10 b (.slice aw ws.length cw) vr6 vn6 v77 (s.add (rng ws lo hi d)) tb6 (svs ++ [(false, Value.slice none 0 0)]) := ⟨hB7_10, hT6, own_md hr77 hM7_10 (fun k hk h => by have := own_lt hr77 hk; omega), own_md hn77 hM7_10 (fun k hk h => by have := own_lt hn77 hk; omega),
      by rw [sflat_app, List.length_append]; exact own_md ho77 hM7_10 (fun k hk h => by have := own_lt ho77 hk; omega),
      hst77.app.md hM7_10 (fun q hq k hk h => by obtain ⟨n, xs, ho⟩ := hst77.app.row hq; have := own_lt ho hk; omega), by simp [VS.add, hV.len]⟩
    have hfv7 : ∀ k, FV b vr6 vn6 v77 k → (FV b (Value.slice ar (tb.map Prod.fst).length cr) (Value.slice an (tb.map Prod.fst).length cn) (Value.slice sa svs.length sc)) k ∨ w.heap.size ≤ k := by
      have h1 := hE.size
      have h2 := hA2.size
      have h3 := hN76.md.size
      rintro k (h | h | h | h)
      · exact .inl (.inl h)
      · rcases hfr6 k h with h | h
        · exact .inl (.inr (.inl h))
        · exact .inr (by omega)
      · rcases hfn6 k h with h | h
        · exact .inl (.inr (.inr (.inl h)))
        · exact .inr (by omega)
      · rcases hf77 k h with h | h
        · exact .inl (.inr (.inr (.inr h)))
        · exact .inr (by omega)
    have hS7 := hSm _ hA5
    refine nl ?_
    refine tn (hK6 _ _ ?_)
    refine sq (fun K7 hK7 => ?_)
    refine rg ?_
    refine p (mvt (.int .i64 lo) rfl) ?_
    refine p (ast (.int .i64 lo) rfl) ?_
    refine nl ?_
    refine tn (hK7 _ _ ?_)
    refine sq (fun K8 hK8 => ?_)
    refine rg ?_
    refine p asg ?_
    refine nl ?_
    refine tn (hK8 _ _ ?_)
    refine sqc (fun σ2 wB => ∃ (i0 : Nat) (fin : Bool), (lo ≤ i0) ∧ (i0 ≤ hi) ∧ (fin = isE (rng ws lo hi d)) ∧ (dropE (rng ws lo hi d) = rng ws i0 hi d) ∧ (∀ j, i0 ≤ j → j < hi → d < (ws.getD j []).length) ∧ (VB wB b (.slice aw ws.length cw) vr6 vn6 v77 (s.add (rng ws lo hi d)) tb6 (svs ++ [(false, Value.slice none 0 0)])) ∧ (Md (FV b (Value.slice ar (tb.map Prod.fst).length cr) (Value.slice an (tb.map Prod.fst).length cn) (Value.slice sa svs.length sc)) w wB) ∧ (σ2 0 = .pointer (some ⟨b, 0, none⟩)) ∧ (σ2 2 = .int .i64 hi) ∧ (σ2 3 = .int .i64 d) ∧ (σ2 11 = .int .i64 svs.length) ∧ (σ2 12 = .int .i64 i0) ∧ (σ2 13 = .bool fin)) ?_ ?_
    · refine sq (fun K9 hK9 => ?_)
      refine rg ?_
      refine p (mvt (.int .i64 lo) rfl) ?_
      refine p (mvt (.int .i64 hi) rfl) ?_
      refine p (lt rfl rfl) ?_
      refine p mv ?_
      refine gs (t := 84) rfl (fun hg84 => ?_) (fun hg84 => ?_)
      · refine pg rfl rfl rfl (mvt (.pointer (some ⟨b, 0, none⟩)) rfl) ?_
        refine pg rfl rfl rfl (nc rfl) ?_
        refine pg rfl rfl rfl (fa fo71_0 rfl) ?_
        refine pg rfl rfl rfl (ld ag22 rfl (hV7.blk.cel 0)) ?_
        refine pg rfl rfl rfl (mvt (.int .i64 lo) rfl) ?_
        refine pg rfl rfl rfl (ia' es22 rfl rfl (by omega) (Cells.ok (hS7) (ne_map (by omega)))) ?_
        refine pg rfl rfl rfl (ld ag9 rfl (Strs.get (i := lo) hS7 (by omega))) ?_
        refine pg rfl rfl rfl (lns u9 rfl rfl) ?_
        refine pg rfl rfl rfl (mvt (.int .i64 d) rfl) ?_
        refine pg rfl rfl rfl (eqi rfl rfl) ?_
        refine p (pkt rfl) ?_
        refine nl ?_
        refine tn (hK9 _ _ ?_)
        refine cd rfl (fun hc95 => ?_) (fun hc95 => ?_)
        · refine sq (fun K10 hK10 => ?_)
          refine rg ?_
          refine p asg ?_
          refine nl ?_
          refine tn (hK10 _ _ ?_)
          refine rg ?_
          refine p (mvt (.int .i64 lo) rfl) ?_
          refine p (adv ((lo + 1 : Nat) : Int) rfl rfl (w64n (by omega) (by omega))) ?_
          refine p asg ?_
          refine nl ?_
          refine tn ?_
          exact ⟨lo + 1, true, (by omega), (by omega), ((dropE_T (by omega) hhi (by omega)).1.symm), ((dropE_T (by omega) hhi (by omega)).2), (fun j h1 h2 => rng_ne hpw hhi (by omega) h2), hV7, hA5, rfl, rfl, rfl, rfl, rfl, rfl⟩
        · refine skp ?_
          refine tn ?_
          exact ⟨lo, false, (by omega), (by omega), ((dropE_F hhi (fun h => by have := hd lo (by omega) h; omega)).1.symm), ((dropE_F hhi (fun h => by have := hd lo (by omega) h; omega)).2), (fun j h1 h2 => (by rcases Nat.lt_or_ge lo j with h | h; exact rng_ne hpw hhi h h2; have h9 := hd j h1 h2; have h8 : j = lo := (by omega); subst h8; omega)), hV7, hA5, rfl, rfl, rfl, rfl, rfl, rfl⟩
      · refine sk rfl rfl rfl rfl ?_
        refine sk rfl rfl rfl rfl ?_
        refine sk rfl rfl rfl rfl ?_
        refine sk rfl rfl rfl rfl ?_
        refine sk rfl rfl rfl rfl ?_
        refine sk rfl rfl rfl rfl ?_
        refine sk rfl rfl rfl rfl ?_
        refine sk rfl rfl rfl rfl ?_
        refine sk rfl rfl rfl rfl ?_
        refine sk rfl rfl rfl rfl ?_
        refine p (pkf rfl) ?_
        refine nl ?_
        refine tn (hK9 _ _ ?_)
        refine cf rfl ?_
        refine skp ?_
        refine tn ?_
        exact ⟨lo, false, (by omega), (by omega), ((dropE_F hhi (fun h => by omega)).1.symm), ((dropE_F hhi (fun h => by omega)).2), (fun j h1 h2 => by omega), hV7, hA5, rfl, rfl, rfl, rfl, rfl, rfl⟩
    rintro σ2 wB ⟨i0, fin, hj1, hj2, hfin, hdr, hne0, hV8, hA8, hs2_0, hs2_2, hs2_3, hs2_11, hs2_12, hs2_13⟩
    refine fx 0 hs2_0 (fx 2 hs2_2 (fx 3 hs2_3 (fx 11 hs2_11 (fx 12 hs2_12 (fx 13 hs2_13 ?_)))))
    refine sq (fun K9 hK9 => ?_)
    refine rg ?_
    refine p asg ?_
    refine nl ?_
    refine tn (hK9 _ _ ?_)
    refine sq (fun K10 hK10 => ?_)
    refine blk ?_
    refine lp (fun gm σ3 wL => ∃ (i : Nat) (es : List (UInt8 × Nat)) (si : VS) (ve vr1 vn1 vs1 : Value) (tb1 : List (List UInt8 × Nat)) (nsv : List (Bool × Value)), (lo ≤ i) ∧ (i ≤ hi) ∧ (∀ j, i ≤ j → j < hi → d < (ws.getD j []).length) ∧ ((groups (dropE (rng ws lo hi d))).foldl (visG (vis f)) ([], s.add (rng ws lo hi d)) = (groups (rng ws i hi d)).foldl (visG (vis f)) (es, si)) ∧ (VB wL b (.slice aw ws.length cw) vr1 vn1 vs1 si tb1 ((svs ++ [(false, Value.slice none 0 0)]) ++ nsv)) ∧ (Md (FV b (Value.slice ar (tb.map Prod.fst).length cr) (Value.slice an (tb.map Prod.fst).length cn) (Value.slice sa svs.length sc)) w wL) ∧ (∀ k, FV b vr1 vn1 vs1 k → (FV b (Value.slice ar (tb.map Prod.fst).length cr) (Value.slice an (tb.map Prod.fst).length cn) (Value.slice sa svs.length sc)) k ∨ w.heap.size ≤ k) ∧ (∀ q ∈ nsv, ∀ k, q.2.ownBlock = some k → w.heap.size ≤ k) ∧ (World.ownsRow wL w.heap.size 65 2 ve es.length (eflat es)) ∧ (∀ q ∈ nsv, ∀ k, q.2.ownBlock = some k → ve.ownBlock ≠ some k) ∧ (si.known.length + vol (rng ws i hi d) ≤ s.known.length + 1 + vol (rng ws lo hi d)) ∧ (es.length ≤ i) ∧ (σ3 0 = .pointer (some ⟨b, 0, none⟩)) ∧ (σ3 2 = .int .i64 hi) ∧ (σ3 3 = .int .i64 d) ∧ (σ3 11 = .int .i64 svs.length) ∧ (σ3 12 = .int .i64 i) ∧ (σ3 13 = .bool fin) ∧ (σ3 14 = ve) ∧ (hi - i = gm)) _ ⟨i0, [], s.add (rng ws lo hi d), .slice none 0 0, vr6, vn6, v77, tb6, [], hj1, hj2, hne0, (by rw [hdr]), (by rw [List.append_nil]; exact hV8), hA8, hfv7, (fun _ h => by simp at h), (World.ownsRow_nil _ _ _ _), (fun _ h => by simp at h), (by have := vol_rng (ws := ws) (d := d) hj1 hj2; simp only [VS.add, List.length_append, List.length_singleton]; omega), (by simp), rfl, rfl, rfl, rfl, rfl, rfl, rfl, rfl⟩ ?_
    rintro gm σ3 wL ⟨i, es, si, ve, vr1, vn1, vs1, tb1, nsv, hi1, hi2, hne, hfold, hV1, hM1, hfv1, hns, hes, hdj, hbd, hesl, hs3_0, hs3_2, hs3_3, hs3_11, hs3_12, hs3_13, hs3_14, rfl⟩
    refine fx 0 hs3_0 (fx 2 hs3_2 (fx 3 hs3_3 (fx 11 hs3_11 (fx 12 hs3_12 (fx 13 hs3_13 (fx 14 hs3_14 ?_))))))
    refine sq (fun K11 hK11 => ?_)
    refine sq (fun K12 hK12 => ?_)
    refine rg ?_
    refine p (mvt (.int .i64 i) rfl) ?_
    refine p (mvt (.int .i64 hi) rfl) ?_
    refine p (lt rfl rfl) ?_
    refine nl ?_
    refine tn (hK12 _ _ ?_)
    refine cd rfl (fun hc100 => ?_) (fun hc100 => ?_)
    · refine skp ?_
      refine tn (hK11 _ _ ?_)
      refine blk ?_
      refine sq (fun K13 hK13 => ?_)
      refine rg ?_
      refine p (mvt (.int .i64 i) rfl) ?_
      refine p (ast (.int .i64 i) rfl) ?_
      refine nl ?_
      refine tn (hK13 _ _ ?_)
      refine sqc (fun σ4 wC => ∃ (k : Nat), (i < k) ∧ (k ≤ hi) ∧ (∀ j, i ≤ j → j < k → (ws.getD j []).getD d 0 = (ws.getD i []).getD d 0) ∧ (k < hi → (ws.getD k []).getD d 0 ≠ (ws.getD i []).getD d 0) ∧ (Wk wL wC) ∧ (σ4 0 = .pointer (some ⟨b, 0, none⟩)) ∧ (σ4 2 = .int .i64 hi) ∧ (σ4 3 = .int .i64 d) ∧ (σ4 11 = .int .i64 svs.length) ∧ (σ4 12 = .int .i64 i) ∧ (σ4 13 = .bool fin) ∧ (σ4 14 = ve) ∧ (σ4 15 = .int .i64 k)) ?_ ?_
      · refine blk ?_
        refine lp (fun gm σ5 wI => ∃ (k : Nat), (i ≤ k) ∧ (k ≤ hi) ∧ (∀ j, i ≤ j → j < k → (ws.getD j []).getD d 0 = (ws.getD i []).getD d 0) ∧ (Wk wL wI) ∧ (σ5 0 = .pointer (some ⟨b, 0, none⟩)) ∧ (σ5 2 = .int .i64 hi) ∧ (σ5 3 = .int .i64 d) ∧ (σ5 11 = .int .i64 svs.length) ∧ (σ5 12 = .int .i64 i) ∧ (σ5 13 = .bool fin) ∧ (σ5 14 = ve) ∧ (σ5 15 = .int .i64 k) ∧ (hi - k = gm)) _ ⟨i, (by omega), (by omega), (fun j h1 h2 => by omega), (Md.refl _ _), rfl, rfl, rfl, rfl, rfl, rfl, rfl, rfl, rfl⟩ ?_
        rintro gm σ5 wI ⟨k, hk1, hk2, hkeq, hEI, hs5_0, hs5_2, hs5_3, hs5_11, hs5_12, hs5_13, hs5_14, hs5_15, rfl⟩
        refine fx 0 hs5_0 (fx 2 hs5_2 (fx 3 hs5_3 (fx 11 hs5_11 (fx 12 hs5_12 (fx 13 hs5_13 (fx 14 hs5_14 (fx 15 hs5_15 ?_)))))))
        have hVI := hV1.wk hEI
        have hSI := Cells.wk (hSm _ hM1) hEI
        have hni := hne i (by omega) (by omega)
        refine sq (fun K14 hK14 => ?_)
        refine sq (fun K15 hK15 => ?_)
        have hS16 : (fun w' => Wk wI w') wI.drew := (Md.refl _ _).drew
        refine hst (fun w' => Wk wI w') wide hS16 ?_
        refine hp 0 rfl (by kernel_rfl) (fun _ _ => mvt (.int .i64 k) rfl) hS16 ?_
        refine hp 1 rfl (by kernel_rfl) (fun _ _ => mvt (.int .i64 hi) rfl) hS16 ?_
        refine hp 2 rfl (by kernel_rfl) (fun _ _ => lt rfl rfl) hS16 ?_
        refine hp 3 rfl (by kernel_rfl) (fun _ _ => mv) hS16 ?_
        refine hgs (t := 105) rfl (fun hg105 => ?_) (fun hg105 => ?_)
        · have hnk := hne k (by omega) (by omega)
          refine hpg 4 rfl (by kernel_rfl) rfl rfl rfl (fun _ _ => mvt (.pointer (some ⟨b, 0, none⟩)) rfl) hS16 ?_
          refine hpg 5 rfl (by kernel_rfl) rfl rfl rfl (fun _ _ => nc rfl) hS16 ?_
          refine hpg 6 rfl (by kernel_rfl) rfl rfl rfl (fun _ _ => fa fo71_0 rfl) hS16 ?_
          refine hpg 7 rfl (by kernel_rfl) rfl rfl rfl (fun w' hS => ld ag22 rfl (Wk.cel hS (hVI.blk.cel 0))) hS16 ?_
          refine hpg 8 rfl (by kernel_rfl) rfl rfl rfl (fun _ _ => mvt (.int .i64 k) rfl) hS16 ?_
          refine hpg 9 rfl (by kernel_rfl) rfl rfl rfl (fun _ _ => ia' es22 rfl rfl (by omega) (Cells.ok (hSI) (ne_map (by omega)))) hS16 ?_
          refine hpg 10 rfl (by kernel_rfl) rfl rfl rfl (fun w' hS => ld ag9 rfl (Wk.cel hS (Strs.get (i := k) hSI (by omega)))) hS16 ?_
          refine hpg 11 rfl (by kernel_rfl) rfl rfl rfl (fun _ _ => mvt (.int .i64 d) rfl) hS16 ?_
          refine hpg 12 rfl (by kernel_rfl) rfl rfl rfl (fun _ _ => ixs u9 rfl rfl (by omega)) hS16 ?_
          refine hpg 13 rfl (by kernel_rfl) rfl rfl rfl (fun _ _ => mvt (.pointer (some ⟨b, 0, none⟩)) rfl) hS16 ?_
          refine hpg 14 rfl (by kernel_rfl) rfl rfl rfl (fun _ _ => nc rfl) hS16 ?_
          refine hpg 15 rfl (by kernel_rfl) rfl rfl rfl (fun _ _ => fa fo71_0 rfl) hS16 ?_
          refine hpg 16 rfl (by kernel_rfl) rfl rfl rfl (fun w' hS => ld ag22 rfl (Wk.cel hS (hVI.blk.cel 0))) hS16 ?_
          refine hpg 17 rfl (by kernel_rfl) rfl rfl rfl (fun _ _ => mvt (.int .i64 i) rfl) hS16 ?_
          refine hpg 18 rfl (by kernel_rfl) rfl rfl rfl (fun _ _ => ia' es22 rfl rfl (by omega) (Cells.ok (hSI) (ne_map (by omega)))) hS16 ?_
          refine hpg 19 rfl (by kernel_rfl) rfl rfl rfl (fun w' hS => ld ag9 rfl (Wk.cel hS (Strs.get (i := i) hSI (by omega)))) hS16 ?_
          refine hpg 20 rfl (by kernel_rfl) rfl rfl rfl (fun _ _ => mvt (.int .i64 d) rfl) hS16 ?_
          refine hpg 21 rfl (by kernel_rfl) rfl rfl rfl (fun _ _ => ixs u9 rfl rfl (by omega)) hS16 ?_
          refine hpg 22 rfl (by kernel_rfl) rfl rfl rfl (fun _ _ => eqi rfl rfl) hS16 ?_
          refine hp 23 rfl (by kernel_rfl) (fun _ _ => pkt rfl) hS16 ?_
          refine hn (by kernel_rfl) ?_
          refine tn (hK15 _ _ ?_)
          refine cd rfl (fun hc125 => ?_) (fun hc125 => ?_)
          · refine skp ?_
            refine tn (hK14 _ _ ?_)
            refine blk ?_
            refine rg ?_
            refine p (mvt (.int .i64 k) rfl) ?_
            refine p (adv ((k + 1 : Nat) : Int) rfl rfl (w64n (by omega) (by omega))) ?_
            refine p asg ?_
            refine nl ?_
            refine bn ?_
            refine tn ?_
            exact ⟨_, by omega, k + 1, (by omega), (by omega), (fun j h1 h2 => (by rcases Nat.lt_or_ge j k with h | h; exact hkeq j h1 h; obtain rfl : j = k := (by omega); exact u8eq hc125)), hEI.drew, rfl, rfl, rfl, rfl, rfl, rfl, rfl, rfl, rfl⟩
          · refine ext ?_
            refine te _ ?_
            refine te _ ?_
            refine be ?_
            refine tn ?_
            exact ⟨k, (by rcases Nat.lt_or_ge i k with h | h; exact h; obtain rfl : i = k := (by omega); exact absurd rfl hc125), hk2, hkeq, (fun _ h => hc125 (congrArg (fun c : UInt8 => (c.toNat : Int)) h)), hEI.drew, rfl, rfl, rfl, rfl, rfl, rfl, rfl, rfl⟩
        · refine hsk 4 rfl (by kernel_rfl) rfl rfl rfl rfl hS16 ?_
          refine hsk 5 rfl (by kernel_rfl) rfl rfl rfl rfl hS16 ?_
          refine hsk 6 rfl (by kernel_rfl) rfl rfl rfl rfl hS16 ?_
          refine hsk 7 rfl (by kernel_rfl) rfl rfl rfl rfl hS16 ?_
          refine hsk 8 rfl (by kernel_rfl) rfl rfl rfl rfl hS16 ?_
          refine hsk 9 rfl (by kernel_rfl) rfl rfl rfl rfl hS16 ?_
          refine hsk 10 rfl (by kernel_rfl) rfl rfl rfl rfl hS16 ?_
          refine hsk 11 rfl (by kernel_rfl) rfl rfl rfl rfl hS16 ?_
          refine hsk 12 rfl (by kernel_rfl) rfl rfl rfl rfl hS16 ?_
          refine hsk 13 rfl (by kernel_rfl) rfl rfl rfl rfl hS16 ?_
          refine hsk 14 rfl (by kernel_rfl) rfl rfl rfl rfl hS16 ?_
          refine hsk 15 rfl (by kernel_rfl) rfl rfl rfl rfl hS16 ?_
          refine hsk 16 rfl (by kernel_rfl) rfl rfl rfl rfl hS16 ?_
          refine hsk 17 rfl (by kernel_rfl) rfl rfl rfl rfl hS16 ?_
          refine hsk 18 rfl (by kernel_rfl) rfl rfl rfl rfl hS16 ?_
          refine hsk 19 rfl (by kernel_rfl) rfl rfl rfl rfl hS16 ?_
          refine hsk 20 rfl (by kernel_rfl) rfl rfl rfl rfl hS16 ?_
          refine hsk 21 rfl (by kernel_rfl) rfl rfl rfl rfl hS16 ?_
          refine hsk 22 rfl (by kernel_rfl) rfl rfl rfl rfl hS16 ?_
          refine hp 23 rfl (by kernel_rfl) (fun _ _ => pkf rfl) hS16 ?_
          refine hn (by kernel_rfl) ?_
          refine tn (hK15 _ _ ?_)
          refine cf rfl ?_
          refine ext ?_
          refine te _ ?_
          refine te _ ?_
          refine be ?_
          refine tn ?_
          exact ⟨k, (by omega), hk2, hkeq, (fun h => by omega), hEI.drew, rfl, rfl, rfl, rfl, rfl, rfl, rfl, rfl⟩
      rintro σ4 wC ⟨k, hk1, hk2, hkeq, hkst, hEk, hs4_0, hs4_2, hs4_3, hs4_11, hs4_12, hs4_13, hs4_14, hs4_15⟩
      refine fx 0 hs4_0 (fx 2 hs4_2 (fx 3 hs4_3 (fx 11 hs4_11 (fx 12 hs4_12 (fx 13 hs4_13 (fx 14 hs4_14 (fx 15 hs4_15 ?_)))))))
      have hVk := hV1.wk hEk
      have hMk : Md (FV b (Value.slice ar (tb.map Prod.fst).length cr) (Value.slice an (tb.map Prod.fst).length cn) (Value.slice sa svs.length sc)) w wC := Md.trans hM1 (hEk.mono (fun _ _ h => h.elim))
      have hesk := own_nw hes hEk
      have hni := hne i (by omega) (by omega)
      have hvr := vol_rng (ws := ws) (d := d) (show i ≤ k by omega) hk2
      have hvr2 := vol_run (ws := ws) (i := i) (k := k) (d := d) (by omega) (fun j h1 h2 => hne j h1 (by omega))
      refine sq (fun K14 hK14 => ?_)
      refine rg ?_
      refine p (mvt (.pointer (some ⟨b, 0, none⟩)) rfl) ?_
      refine p (mvt (.int .i64 i) rfl) ?_
      refine p (mvt (.int .i64 k) rfl) ?_
      refine p (mvt (.int .i64 d) rfl) ?_
      refine p (adv ((d + 1 : Nat) : Int) rfl rfl (w64n (by omega) (by omega))) ?_
      refine e (cl c27 (ih i k (d + 1) si vr1 vn1 vs1 tb1 ((svs ++ [(false, Value.slice none 0 0)]) ++ nsv) _ hVk (hSm _ hMk) (by omega) (by omega) (fun j h1 h2 => ⟨hne j h1 (by omega), (hd j (by omega) (by omega)).2⟩) (pw_tail (fun j h1 h2 => hne j h1 (by omega)) hkeq (pw_sub hi1 hk2 (by omega) hpw)) (by have := hf i (by omega) (by omega); omega) (fun j h1 h2 => by have := hf j (by omega) (by omega); omega) (by omega) (by have := (hd i (by omega) (by omega)).2; omega)) rfl fun v133 w133 hR133 => ?_)
      obtain ⟨rfl, vr2, vn2, vs2, tb2, nsv2, hV2, hM2, hfv2, hns2, hbd2⟩ := hR133
      have hM2' : Md (FV b (Value.slice ar (tb.map Prod.fst).length cr) (Value.slice an (tb.map Prod.fst).length cn) (Value.slice sa svs.length sc)) w w133 := Md.trans' hMk hM2 (fun k hk h => (hfv1 k h).resolve_right (by omega))
      have hes2 := own_md hesk hM2 (fun k hk h => hVk.off hesk hbl hk h)
      have hS2 := hSm _ hM2'
      refine p asg ?_
      refine nl ?_
      refine tn (hK14 _ _ ?_)
      refine sq (fun K15 hK15 => ?_)
      refine rg ?_
      refine p (mvt (ve) rfl) ?_
      refine p (mvt (.pointer (some ⟨b, 0, none⟩)) rfl) ?_
      refine p (nc rfl) ?_
      refine p (fa fo71_0 rfl) ?_
      refine p (ld ag22 rfl (hV2.blk.cel 0)) ?_
      refine p (mvt (.int .i64 i) rfl) ?_
      refine p (ia' es22 rfl rfl (by omega) (Cells.ok (hS2) (ne_map (by omega)))) ?_
      refine p (ld ag9 rfl (Strs.get (i := i) hS2 (by omega))) ?_
      refine p (mvt (.int .i64 d) rfl) ?_
      refine p (ixs u9 rfl rfl (by omega)) ?_
      refine p mv ?_
      refine p (bld (ps := [(0, .int .u8 ((ws.getD i []).getD d 0).toNat), (1, .int .i64 (vis f (rng ws i k (d + 1)) si).1)]) (L := [.int .u8 ((ws.getD i []).getD d 0).toNat, .int .i64 (vis f (rng ws i k (d + 1)) si).1]) st65 rfl (rfl)) ?_
      refine e (bsa so62 rfl rfl rfl fun b146 w146 hb146 hN146 hB146 => ?_)
      refine e (ap so62 (own_nw hes2 hN146.md) rfl (by have := hN146.size; have := hM2'.size; omega) rfl (Cells.of_blk hB146) (rfl) (rfl) (by omega) (by omega) fun v147 w147 ho147 hM147 hz147 hf147 => ?_)
      have hV2n := hV2.wk hN146.md
      have hes2n := own_nw hes2 hN146.md
      have hdj2 : ∀ q ∈ ((svs ++ [(false, Value.slice none 0 0)]) ++ nsv) ++ nsv2, ∀ k, q.2.ownBlock = some k → ve.ownBlock ≠ some k := by
        intro q hq k hk h
        have hvk := own_lt hesk h
        rcases List.mem_append.1 hq with hq | hq
        · rcases List.mem_append.1 hq with hq | hq
          · rcases List.mem_append.1 hq with hq | hq
            · have := hV.slt hq hk; omega
            · simp only [List.mem_singleton] at hq; subst hq; simp [Value.ownBlock] at hk
          · exact hdj q hq k hk h
        · have := hns2 q hq k hk; omega
      have hV3 := hV2n.md hM147 (fun k hk h => hV2n.off hes2n hbl h hk) (fun q hq k hk h => hdj2 q hq k hk h)
      have hM3 : Md (FV b (Value.slice ar (tb.map Prod.fst).length cr) (Value.slice an (tb.map Prod.fst).length cn) (Value.slice sa svs.length sc)) w w147 := Md.trans' (Md.trans hM2' (hN146.md.mono (fun _ _ h => h.elim))) hM147 (fun k hk h => by have := own_lt hesk h; omega)
      have ho147' : World.ownsRow w147 w.heap.size 65 2 v147 (es ++ [((ws.getD i []).getD d 0, (vis f (rng ws i k (d + 1)) si).1)]).length (eflat (es ++ [((ws.getD i []).getD d 0, (vis f (rng ws i k (d + 1)) si).1)])) := by
        rw [eflat_app, List.length_append]; exact ho147
      have hfv3 : ∀ k, FV b vr2 vn2 vs2 k → (FV b (Value.slice ar (tb.map Prod.fst).length cr) (Value.slice an (tb.map Prod.fst).length cn) (Value.slice sa svs.length sc)) k ∨ w.heap.size ≤ k := fun k hk => by
        have := hMk.size
        rcases hfv2 k hk with h | h
        · exact hfv1 k h
        · exact .inr (by omega)
      have hns3 : ∀ q ∈ nsv ++ nsv2, ∀ k, q.2.ownBlock = some k → w.heap.size ≤ k := fun q hq k hk => by
        have := hMk.size
        rcases List.mem_append.1 hq with hq | hq
        · exact hns q hq k hk
        · have := hns2 q hq k hk; omega
      have hdj3 : ∀ q ∈ nsv ++ nsv2, ∀ k, q.2.ownBlock = some k → v147.ownBlock ≠ some k := fun q hq k hk h => by
        have hq' : q ∈ ((svs ++ [(false, Value.slice none 0 0)]) ++ nsv) ++ nsv2 := by rw [List.append_assoc]; exact List.mem_append_right _ hq
        rcases hf147 k h with h | h
        · exact hdj2 q hq' k hk h
        · have := (hV2n.slt hq' hk).2; omega
      have hfold3 : (groups (dropE (rng ws lo hi d))).foldl (visG (vis f)) ([], s.add (rng ws lo hi d)) = (groups (rng ws k hi d)).foldl (visG (vis f)) (es ++ [((ws.getD i []).getD d 0, (vis f (rng ws i k (d + 1)) si).1)], (vis f (rng ws i k (d + 1)) si).2) := hfold.trans (by rw [rng_run hhi (by omega) hk2 hne hkeq hkst]; rfl)
      rw [List.append_assoc] at hV3
      refine p asg ?_
      refine nl ?_
      refine tn (hK15 _ _ ?_)
      refine rg ?_
      refine p (mvt (.int .i64 k) rfl) ?_
      refine p (ast (.int .i64 k) rfl) ?_
      refine nl ?_
      refine bn ?_
      refine tn ?_
      exact ⟨_, by omega, k, es ++ [((ws.getD i []).getD d 0, (vis f (rng ws i k (d + 1)) si).1)], (vis f (rng ws i k (d + 1)) si).2, v147, vr2, vn2, vs2, tb2, nsv ++ nsv2, (by omega), hk2, (fun j h1 h2 => hne j (by omega) h2), hfold3, hV3, hM3, hfv3, hns3, ho147', hdj3, (by omega), (by simp only [List.length_append, List.length_singleton]; omega), rfl, rfl, rfl, rfl, rfl, rfl, rfl, rfl⟩
    · refine ext ?_
      refine te _ ?_
      refine te _ ?_
      refine be ?_
      refine tn (hK10 _ _ ?_)
      refine sq (fun K13 hK13 => ?_)
      obtain ⟨sa1, sc1, rfl⟩ := own_slice hV1.rs
      refine rg ?_
      refine p (mvt (.pointer (some ⟨b, 0, none⟩)) rfl) ?_
      refine p (nc rfl) ?_
      refine p (fa fo71_2 rfl) ?_
      refine p (ld ag32 rfl (hV1.blk.cel 3)) ?_
      refine p (mvt (.int .i64 svs.length) rfl) ?_
      refine p (mvt (.bool fin) rfl) ?_
      refine p (mvt (ve) rfl) ?_
      refine p (bld (ps := [(0, .bool fin), (1, ve)]) (L := [.bool fin, ve]) st64 rfl (put2 rfl (own_one hes))) ?_
      refine p (ia' es32 rfl rfl (by simp only [List.length_append, List.length_singleton]; omega) (Cells.ok ((own_cellsS hV1.rs).2) (by simp [sflat]))) ?_
      refine e (stoa (j := svs.length) hV1.rs cz64 rfl rfl rfl (show ([Value.bool fin, ve].all Value.oneCell' = true) from by rw [List.all_cons, List.all_cons, own_one hes]; rfl) rfl (by simp only [List.length_append, List.length_singleton]; omega) (by decide) fun w9 hM9 ho9 => ?_)
      refine nl ?_
      refine tn (hK13 _ _ ?_)
      refine sq (fun K14 hK14 => ?_)
      refine rg ?_
      refine p (mvt (.int .i64 svs.length) rfl) ?_
      refine p (ast (.int .i64 svs.length) rfl) ?_
      refine nl ?_
      refine tn (hK14 _ _ ?_)
      refine rt ?_
      refine f1 rfl rfl ?_
      have hvis := vis_new (es := es) (s' := si) hmiss (hfold.trans (by rw [rng_nil (by omega)]; rfl))
      rw [hvis]
      have hse : (((svs ++ [(false, Value.slice none 0 0)]) ++ nsv).set svs.length (fin, ve)) = svs ++ (fin, ve) :: nsv := set_mid svs _ _ nsv
      have hrow : World.ownsRow w9 (b + 1) 64 2 (.slice sa1 ((svs ++ [(false, Value.slice none 0 0)]) ++ nsv).length sc1) (svs ++ (fin, ve) :: nsv).length (sflat (svs ++ (fin, ve) :: nsv)) := by
        have e := flat_set (f := fun q : Bool × Value => [.bool q.1, q.2]) (m := 2) (fun _ => rfl) (l := (svs ++ [(false, Value.slice none 0 0)]) ++ nsv) (j := svs.length) (fin, ve) (by simp)
        rw [← hse, List.length_set, sflat, e]; exact ho9
      have hl : svs.length = s.known.length := by omega
      have hes9 : World.ownsRow w9 (b + 1) 65 2 ve es.length (eflat es) := own_mono (own_md hes hM9 (fun k hk h => own_ne hes hV1.rs (by decide) hk h)) hbl
      refine ⟨congrArg (fun n : Nat => Value.int .i64 n) hl, vr1, vn1, _, tb1, (fin, ve) :: nsv, ⟨hM9.B hV1.blk (fun h => by have := own_lt hV1.rs h; omega), hV1.tab, own_md hV1.rr hM9 (fun k hk h => own_ne hV1.rr hV1.rs (by decide) hk h), own_md hV1.rn hM9 (fun k hk h => own_ne hV1.rn hV1.rs (by decide) hk h), hrow, ?_, ?_⟩, Md.trans' hM1 hM9 (fun k hk h => (hfv1 k (.inr (.inr (.inr h)))).resolve_right (by omega)), hfv1, ?_, ?_⟩
      · have h9 := hV1.sts.md hM9 (fun q hq k hk h => hV1.soff hq hk (.inr (.inr (.inr h))))
        have := h9.set (n := svs.length) (f := fin) hes9
        rw [hse] at this
        rw [← hfin, ← hl]; exact this
      · show (si.sts.set _ _).length = _
        rw [List.length_set]; exact hV1.len
      · intro q hq k hk
        rcases List.mem_cons.1 hq with rfl | hq
        · exact (own_lt hes hk).1
        · exact hns q hq k hk
      · show si.known.length ≤ _
        rw [rng_nil (by omega)] at hbd
        have : vol ([] : Tl) = 0 := rfl
        omega
theorem StsT.mono {E : Nat} {w : World} {B B' : Nat} {sts : List (Bool × List (UInt8 × Nat))} {svs : List (Bool × Value)} (h : StsT E w B sts svs) (hB : B' ≤ B) : StsT E w B' sts svs :=
  ⟨h.1, fun i p q hp hq => ⟨(h.2 i p q hp hq).1, own_mono (h.2 i p q hp hq).2 hB⟩⟩
/-- the automaton of rising words -/
def auto (ws : Tl) : List (Bool × List (UInt8 × Nat)) := (vis 257 ws ⟨[], []⟩).2.sts
/-- rising words, none too long -/
def fit (ws : Tl) : Prop := ws.Pairwise (fun x y => sless x y = true) ∧ ∀ x ∈ ws, x.length ≤ 255
theorem getD_mem {α : Type} {l : List α} {i : Nat} {d : α} (h : i < l.length) : l.getD i d ∈ l := by
  rw [getD_get d h]; exact List.getElem_mem h
theorem automaton_w (ws : Tl) (aw : Option Addr) (cw : Nat) (w : World) (hS : Strs w.heap aw ws) (hf : fit ws) (hk : 1 + vol ws ≤ 137438953472) (hwl : ws.length ≤ 137438953472) :
    Ret Try.prog 15 (List.toArray [.slice aw ws.length cw]) w (fun v w' => Wk w w' ∧ ∃ svs a c, v = .slice a svs.length c ∧ World.ownsRow w' w.heap.size 64 2 v svs.length (sflat svs) ∧ Sts w' w.heap.size (auto ws) svs) := by
  have h255 : ∀ i, i < ws.length → (ws.getD i []).length ≤ 255 := fun i hi => hf.2 _ (getD_mem hi)
  refine enter Try.func15 rfl Try.ntmps15 rfl ?_
  refine sq (fun K1 hK1 => ?_)
  refine rg ?_
  refine p asg ?_
  refine nl ?_
  refine tn (hK1 _ _ ?_)
  refine sq (fun K2 hK2 => ?_)
  refine rg ?_
  refine p (mvt (.slice aw ws.length cw) rfl) ?_
  refine p (bld (ps := [(0, .slice aw ws.length cw)]) (L := [.slice aw ws.length cw, .slice none 0 0, .slice none 0 0, .slice none 0 0]) st71 rfl (rfl)) ?_
  refine e (bxa rfl fun b6 w6 hb6 hN6 hB6 => ?_)
  have hV0 : VB w6 b6 (.slice aw ws.length cw) (.slice none 0 0) (.slice none 0 0) (.slice none 0 0) ⟨[], []⟩ [] [] := ⟨hB6, Tb.nil, World.ownsRow_nil _ _ _ _, World.ownsRow_nil _ _ _ _, World.ownsRow_nil _ _ _ _, ⟨rfl, fun i p q hp hq => by simp at hp⟩, rfl⟩
  refine p asg ?_
  refine nl ?_
  refine tn (hK2 _ _ ?_)
  refine sq (fun K3 hK3 => ?_)
  refine rg ?_
  refine p mv ?_
  refine p (mvt (.slice aw ws.length cw) rfl) ?_
  refine p (lnl u22 rfl rfl) ?_
  refine e (cl c27 (visit_w b6 ws aw cw 257 0 ws.length 0 ⟨[], []⟩ _ _ _ [] [] _ hV0 (Cells.wk hS hN6.md) (fun hne => by rw [hb6]; exact hS.lt hne) (by omega) (by omega) (fun i h1 h2 => ⟨by omega, h255 i h2⟩) (by rw [rng_all]; exact hf.1) (by omega) (fun i h1 h2 => by have := h255 i h2; omega) (by rw [rng_all]; simpa using hk) hwl (by omega)) rfl fun v10 w10 hR10 => ?_)
  obtain ⟨rfl, vr1, vn1, vs1, tb1, svs1, hV1, hM1, hfv1, hns1, hbd1⟩ := hR10
  rw [rng_all] at hV1
  refine nl ?_
  refine tn (hK3 _ _ ?_)
  refine sq (fun K4 hK4 => ?_)
  rw [List.nil_append] at hV1
  obtain ⟨a1, c1, rfl⟩ := own_slice hV1.rs
  refine rg ?_
  refine p mv ?_
  refine p (nc rfl) ?_
  refine p (fa fo71_2 rfl) ?_
  refine p (ld ag32 rfl (hV1.blk.cel 3)) ?_
  refine p asg ?_
  refine nl ?_
  refine tn (hK4 _ _ ?_)
  refine rt ?_
  refine f1 rfl rfl ?_
  refine ⟨Md.trans' hN6.md hM1 (fun k hk h => ?_), svs1, a1, c1, rfl, own_mono hV1.rs (by omega), hV1.sts.mono (by omega)⟩
  rcases h with h | h | h | h
  · omega
  · simp [Value.ownBlock] at h
  · simp [Value.ownBlock] at h
  · simp [Value.ownBlock] at h

/-- what a list of words is refused for -/
def faultAt (ws : Tl) (i : Nat) (e : Int) : Prop :=
  (∀ j, j < i → (ws.getD j []).length ≤ 255 ∧ (0 < j → sless (ws.getD (j - 1) []) (ws.getD j []) = true)) ∧
    ((e = 0 ∧ i = ws.length) ∨ (i < ws.length ∧ 255 < (ws.getD i []).length ∧ e = 22) ∨ (i < ws.length ∧ (ws.getD i []).length ≤ 255 ∧ 0 < i ∧ sless (ws.getD (i - 1) []) (ws.getD i []) = false ∧ e = 180))

theorem fault_w (ws : Tl) (aw : Option Addr) (cw : Nat) (w : World) (hW : Strs w.heap aw ws) (hwl : ws.length ≤ 137438953472) :
    Ret Try.prog 12 (List.toArray [.slice aw ws.length cw]) w (fun v w' => Wk w w' ∧ ∃ (i : Nat) (e : Int), v = .tuple #[.int .i64 i, .int .i64 e] ∧ faultAt ws i e) := by
  refine enter Try.func12 rfl Try.ntmps12 rfl ?_
  refine sq (fun K1 hK1 => ?_)
  refine rg ?_
  refine p asg ?_
  refine p asg ?_
  refine nl ?_
  refine tn (hK1 _ _ ?_)
  refine sq (fun K2 hK2 => ?_)
  refine sq (fun K3 hK3 => ?_)
  refine rg ?_
  refine p asg ?_
  refine nl ?_
  refine tn (hK3 _ _ ?_)
  refine blk ?_
  refine lp (fun gm σ1 wL => ∃ (i : Nat), (i ≤ ws.length) ∧ (∀ j, j < i → (ws.getD j []).length ≤ 255 ∧ (0 < j → sless (ws.getD (j - 1) []) (ws.getD j []) = true)) ∧ (Wk w wL) ∧ (σ1 0 = .slice aw ws.length cw) ∧ (σ1 4 = .int .i64 i) ∧ (ws.length - i = gm)) _ ⟨0, (by omega), (fun j h => by omega), (Md.refl _ _), rfl, rfl, rfl⟩ ?_
  rintro gm σ1 wL ⟨i, hi, hok, hE, hs1_0, hs1_4, rfl⟩
  refine fx 0 hs1_0 (fx 4 hs1_4 ?_)
  refine sq (fun K4 hK4 => ?_)
  refine sq (fun K5 hK5 => ?_)
  refine rg ?_
  refine p (mvt (.int .i64 i) rfl) ?_
  refine p (mvt (.slice aw ws.length cw) rfl) ?_
  refine p (lnl u22 rfl rfl) ?_
  refine p (lt rfl rfl) ?_
  refine nl ?_
  refine tn (hK5 _ _ ?_)
  refine cd rfl (fun hc8 => ?_) (fun hc8 => ?_)
  · refine skp ?_
    refine tn (hK4 _ _ ?_)
    refine sq (fun K6 hK6 => ?_)
    refine blk ?_
    refine sq (fun K7 hK7 => ?_)
    refine sq (fun K8 hK8 => ?_)
    refine rg ?_
    refine p (mvt (.slice aw ws.length cw) rfl) ?_
    refine p (mvt (.int .i64 i) rfl) ?_
    refine p (ia' es22 rfl rfl (by omega) (Cells.ok (hW.wk hE) (ne_map (by omega)))) ?_
    refine p (ld ag9 rfl (Strs.get (i := i) (hW.wk hE) (by omega))) ?_
    refine p (lns u9 rfl rfl) ?_
    refine p (gt rfl rfl) ?_
    refine nl ?_
    refine tn (hK8 _ _ ?_)
    refine cd rfl (fun hc16 => ?_) (fun hc16 => ?_)
    · refine sq (fun K9 hK9 => ?_)
      refine rg ?_
      refine p (mvt (.int .i64 i) rfl) ?_
      refine p (ast (.int .i64 i) rfl) ?_
      refine p asg ?_
      refine nl ?_
      refine tn (hK9 _ _ ?_)
      refine rt ?_
      refine tr ?_
      refine br ?_
      refine tr ?_
      refine tr ?_
      refine br ?_
      refine tr ?_
      refine f2 rfl rfl rfl ?_
      exact ⟨hE, i, 22, rfl, hok, .inr (.inl ⟨by omega, by omega, rfl⟩)⟩
    · refine skp ?_
      refine tn (hK7 _ _ ?_)
      refine sq (fun K9 hK9 => ?_)
      have hS6 : (fun w' => Wk wL w') wL.drew := (Md.refl _ _).drew
      refine hst (fun w' => Wk wL w') wide hS6 ?_
      refine hp 0 rfl (by kernel_rfl) (fun _ _ => mvt (.int .i64 i) rfl) hS6 ?_
      refine hp 1 rfl (by kernel_rfl) (fun _ _ => gt rfl rfl) hS6 ?_
      refine hp 2 rfl (by kernel_rfl) (fun _ _ => mv) hS6 ?_
      refine hgs (t := 20) rfl (fun hg20 => ?_) (fun hg20 => ?_)
      · refine hpg 3 rfl (by kernel_rfl) rfl rfl rfl (fun _ _ => mvt (.slice aw ws.length cw) rfl) hS6 ?_
        refine hpg 4 rfl (by kernel_rfl) rfl rfl rfl (fun _ _ => mvt (.int .i64 i) rfl) hS6 ?_
        refine hpg 5 rfl (by kernel_rfl) rfl rfl rfl (fun _ _ => ia' es22 rfl rfl (by omega) (Cells.ok (hW.wk hE) (ne_map (by omega)))) hS6 ?_
        refine hpg 6 rfl (by kernel_rfl) rfl rfl rfl (fun w' hS => ld ag9 rfl (Wk.cel hS (Strs.get (i := i) (hW.wk hE) (by omega)))) hS6 ?_
        refine hpg 7 rfl (by kernel_rfl) rfl rfl rfl (fun _ _ => mvt (.slice aw ws.length cw) rfl) hS6 ?_
        refine hpg 8 rfl (by kernel_rfl) rfl rfl rfl (fun _ _ => mvt (.int .i64 i) rfl) hS6 ?_
        refine hpg 9 rfl (by kernel_rfl) rfl rfl rfl (fun _ _ => sbv ((i - 1 : Nat) : Int) rfl rfl (w64n (by omega) (by omega))) hS6 ?_
        refine hpg 10 rfl (by kernel_rfl) rfl rfl rfl (fun _ _ => ia' es22 rfl rfl (by omega) (Cells.ok (hW.wk hE) (ne_map (by omega)))) hS6 ?_
        refine hpg 11 rfl (by kernel_rfl) rfl rfl rfl (fun w' hS => ld ag9 rfl (Wk.cel hS (Strs.get (i := i - 1) (hW.wk hE) (by omega)))) hS6 ?_
        refine hpg 12 rfl (by kernel_rfl) rfl rfl rfl (fun _ _ => les rfl rfl) hS6 ?_
        refine hp 13 rfl (by kernel_rfl) (fun _ _ => pkt rfl) hS6 ?_
        refine hn (by kernel_rfl) ?_
        refine tn (hK9 _ _ ?_)
        refine cb rfl (fun hc31 => ?_) (fun hc31 => ?_)
        · refine sq (fun K10 hK10 => ?_)
          refine rg ?_
          refine p (mvt (.int .i64 i) rfl) ?_
          refine p (ast (.int .i64 i) rfl) ?_
          refine p asg ?_
          refine nl ?_
          refine tn (hK10 _ _ ?_)
          refine rt ?_
          refine br ?_
          refine tr ?_
          refine tr ?_
          refine br ?_
          refine tr ?_
          refine f2 rfl rfl rfl ?_
          exact ⟨hE.drew, i, 180, rfl, hok, .inr (.inr ⟨by omega, by omega, by omega, le_T hc31, rfl⟩)⟩
        · refine skp ?_
          refine bn ?_
          refine tn (hK6 _ _ ?_)
          refine rg ?_
          refine p (mvt (.int .i64 i) rfl) ?_
          refine p (adv ((i + 1 : Nat) : Int) rfl rfl (w64n (by omega) (by omega))) ?_
          refine p asg ?_
          refine nl ?_
          refine tn ?_
          exact ⟨_, by omega, i + 1, (by omega), (fun j hj => (by rcases Nat.lt_or_ge j i with h | h; exact hok j h; obtain rfl : j = i := (by omega); exact ⟨by omega, fun _ => le_F hc31⟩)), hE.drew, rfl, rfl, rfl⟩
      · refine hsk 3 rfl (by kernel_rfl) rfl rfl rfl rfl hS6 ?_
        refine hsk 4 rfl (by kernel_rfl) rfl rfl rfl rfl hS6 ?_
        refine hsk 5 rfl (by kernel_rfl) rfl rfl rfl rfl hS6 ?_
        refine hsk 6 rfl (by kernel_rfl) rfl rfl rfl rfl hS6 ?_
        refine hsk 7 rfl (by kernel_rfl) rfl rfl rfl rfl hS6 ?_
        refine hsk 8 rfl (by kernel_rfl) rfl rfl rfl rfl hS6 ?_
        refine hsk 9 rfl (by kernel_rfl) rfl rfl rfl rfl hS6 ?_
        refine hsk 10 rfl (by kernel_rfl) rfl rfl rfl rfl hS6 ?_
        refine hsk 11 rfl (by kernel_rfl) rfl rfl rfl rfl hS6 ?_
        refine hsk 12 rfl (by kernel_rfl) rfl rfl rfl rfl hS6 ?_
        refine hp 13 rfl (by kernel_rfl) (fun _ _ => pkf rfl) hS6 ?_
        refine hn (by kernel_rfl) ?_
        refine tn (hK9 _ _ ?_)
        refine cf rfl ?_
        refine skp ?_
        refine bn ?_
        refine tn (hK6 _ _ ?_)
        refine rg ?_
        refine p (mvt (.int .i64 i) rfl) ?_
        refine p (adv ((i + 1 : Nat) : Int) rfl rfl (w64n (by omega) (by omega))) ?_
        refine p asg ?_
        refine nl ?_
        refine tn ?_
        exact ⟨_, by omega, i + 1, (by omega), (fun j hj => (by rcases Nat.lt_or_ge j i with h | h; exact hok j h; obtain rfl : j = i := (by omega); exact ⟨by omega, fun h0 => by omega⟩)), hE.drew, rfl, rfl, rfl⟩
  · refine ext ?_
    refine te _ ?_
    refine te _ ?_
    refine be ?_
    refine tn (hK2 _ _ ?_)
    refine sq (fun K6 hK6 => ?_)
    refine rg ?_
    refine p (mvt (.slice aw ws.length cw) rfl) ?_
    refine p (lnl u22 rfl rfl) ?_
    refine p asg ?_
    refine p asg ?_
    refine nl ?_
    refine tn (hK6 _ _ ?_)
    refine rt ?_
    refine f2 rfl rfl rfl ?_
    exact ⟨hE, ws.length, 0, rfl, fun j hj => hok j (by omega), .inl ⟨rfl, rfl⟩⟩
theorem twin_w (ws : Tl) (aw : Option Addr) (cw : Nat) (w : World) (hS : Strs w.heap aw ws) (hwl : ws.length ≤ 137438953472) :
    Ret Try.prog 11 (List.toArray [.slice aw ws.length cw]) w (fun v w' => Wk w w' ∧ World.ownsRow w' w.heap.size 9 1 v ws.length (ws.map str)) := by
  refine enter Try.func11 rfl Try.ntmps11 rfl ?_
  refine sq (fun K1 hK1 => ?_)
  refine rg ?_
  refine p asg ?_
  refine nl ?_
  refine tn (hK1 _ _ ?_)
  refine sq (fun K2 hK2 => ?_)
  refine rg ?_
  refine p (mvt (.slice aw ws.length cw) rfl) ?_
  refine e (ap so22 (World.ownsRow_nil w w.heap.size 9 1) rfl (by omega) rfl (hS) (by simp) (by rw [List.all_map]; exact List.all_eq_true.2 (fun _ _ => rfl)) (by omega) (by omega) fun v4 w4 ho4 hM4 hz4 hf4 => ?_)
  have hE4 : Wk w w4 := hM4.mono (fun k _ h => absurd (show (none : Option Nat) = some k from h) (by simp))
  refine p asg ?_
  refine nl ?_
  refine tn (hK2 _ _ ?_)
  refine rt ?_
  refine f1 rfl rfl ?_
  rw [Nat.zero_add, List.nil_append] at ho4
  exact ⟨hE4, ho4⟩
end Go.Hb.Visit
