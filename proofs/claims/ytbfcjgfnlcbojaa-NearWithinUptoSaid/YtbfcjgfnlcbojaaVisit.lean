/-
  The walk of hornbookref18.visit, and of Automaton. No conditions but those that each theorem names.
-/
import Derived.Test.YtbfcjgfnlcbojaaChecked
import Derived.Test.YtbfcjgfnlcbojaaCore
import Derived.Test.YtbfcjgfnlcbojaaRef06
import Derived.Test.YtbfcjgfnlcbojaaRef18
import Derived.Test.YtbfcjgfnlcbojaaPlan
set_option maxRecDepth 20000
set_option linter.unusedVariables false
namespace Go.Hb.Visit
open Go.Proofs
open Go.Hb.Ref06 Go.Hb.Ref18
theorem cz79 : cellsN Try.prog 79 = some 2 := by kernel_rfl

/-- the cells of an automaton's edges -/
def eflat (l : List (UInt8 × Nat)) : List Value := l.flatMap fun e => [.int .u8 e.1.toNat, .int .i64 e.2]
/-- the cells of states -/
def sflat (l : List (Bool × Value)) : List Value := l.flatMap fun p => [.bool p.1, p.2]
theorem eflat_app (a b : List (UInt8 × Nat)) : eflat (a ++ b) = eflat a ++ eflat b := by simp [eflat]
theorem sflat_app (a b : List (Bool × Value)) : sflat (a ++ b) = sflat a ++ sflat b := by simp [sflat]
/-- states lie in these values -/
def StsT (E : Nat) (w : World) (B : Nat) (sts : List (Bool × List (UInt8 × Nat))) (svs : List (Bool × Value)) : Prop :=
  sts.length = svs.length ∧ ∀ (i : Nat) p q, sts[i]? = some p → svs[i]? = some q → p.1 = q.1 ∧ w.ownsRow B E 2 q.2 p.2.length (eflat p.2)
abbrev Sts := StsT 82
theorem StsT.app {E : Nat} {w : World} {B : Nat} {sts : List (Bool × List (UInt8 × Nat))} {svs : List (Bool × Value)} (h : StsT E w B sts svs) : StsT E w B (sts ++ [(false, [])]) (svs ++ [(false, .slice none 0 0)]) := by
  refine ⟨by simp [h.1], fun i p q hp hq => ?_⟩
  by_cases hi : i < sts.length
  · rw [List.getElem?_append_left hi] at hp
    rw [List.getElem?_append_left (by rw [← h.1]; exact hi)] at hq
    exact h.2 i p q hp hq
  · rw [List.getElem?_append_right (by omega)] at hp
    rw [List.getElem?_append_right (by rw [← h.1]; omega)] at hq
    rw [← h.1] at hq
    by_cases h0 : i - sts.length = 0
    · rw [h0] at hp hq
      simp only [List.getElem?_cons_zero, Option.some.injEq] at hp hq
      subst hp hq
      exact ⟨rfl, World.ownsRow_nil _ _ _ _⟩
    · rw [List.getElem?_eq_none (by simp; omega)] at hp; cases hp
theorem StsT.set {E : Nat} {w : World} {B n : Nat} {sts : List (Bool × List (UInt8 × Nat))} {svs : List (Bool × Value)} {f : Bool} {es : List (UInt8 × Nat)} {v : Value} (h : StsT E w B sts svs) (ho : w.ownsRow B E 2 v es.length (eflat es)) : StsT E w B (sts.set n (f, es)) (svs.set n (f, v)) := by
  refine ⟨by simp [h.1], fun i p q hp hq => ?_⟩
  rw [List.getElem?_set] at hp hq
  by_cases hi : n = i
  · rw [if_pos hi] at hp hq
    split at hp
    · split at hq
      · simp only [Option.some.injEq] at hp hq; subst hp hq; exact ⟨rfl, ho⟩
      · cases hq
    · cases hp
  · rw [if_neg hi] at hp hq; exact h.2 i p q hp hq
theorem mem_ix {α : Type} {l : List α} {i : Nat} {a : α} (h : l[i]? = some a) : a ∈ l := List.mem_of_getElem? h
theorem StsT.md {E : Nat} {F : Nat → Prop} {w w' : World} {B : Nat} {sts : List (Bool × List (UInt8 × Nat))} {svs : List (Bool × Value)} (h : StsT E w B sts svs) (hm : Md F w w') (hf : ∀ p ∈ svs, ∀ k, p.2.ownBlock = some k → ¬ F k) : StsT E w' B sts svs :=
  ⟨h.1, fun i p q hp hq => ⟨(h.2 i p q hp hq).1, own_md (h.2 i p q hp hq).2 hm (hf q (mem_ix hq))⟩⟩
theorem StsT.row {E : Nat} {w : World} {B : Nat} {sts : List (Bool × List (UInt8 × Nat))} {svs : List (Bool × Value)} (h : StsT E w B sts svs) {q : Bool × Value} (hq : q ∈ svs) : ∃ n xs, w.ownsRow B E 2 q.2 n xs := by
  obtain ⟨i, hi, rfl⟩ := List.mem_iff_getElem.1 hq
  exact ⟨_, _, (h.2 i _ _ (List.getElem?_eq_getElem (by rw [h.1]; exact hi)) (List.getElem?_eq_getElem hi)).2⟩
theorem StsT.mdT {E : Nat} {F : Nat → Prop} {w w' : World} {L : List Nat} {B : Nat} {sts : List (Bool × List (UInt8 × Nat))} {svs : List (Bool × Value)} (h : StsT E w B sts svs) (hm : Md F w w') (hT : TF w L F) (hl : L.contains (E + 2) = false) : StsT E w' B sts svs :=
  h.md hm (fun p hp k hk => by obtain ⟨n, xs, ho⟩ := h.row hp; exact hT.no (tag_own ho hk) hl)
theorem StsT.app1 {E : Nat} {w : World} {B : Nat} {f : Bool} {sts : List (Bool × List (UInt8 × Nat))} {svs : List (Bool × Value)} (h : StsT E w B sts svs) : StsT E w B (sts ++ [(f, [])]) (svs ++ [(f, .slice none 0 0)]) := by
  have h1 := (h.app).set (n := sts.length) (f := f) (es := []) (World.ownsRow_nil _ _ _ _)
  rw [List.set_append_right _ _ (Nat.le_refl _), h.1, List.set_append_right _ _ (Nat.le_refl _)] at h1
  simpa using h1
/-- the blocks of a builder of automata -/
def FV (b : Nat) (vr vn vs : Value) (k : Nat) : Prop := k = b ∨ vr.ownBlock = some k ∨ vn.ownBlock = some k ∨ vs.ownBlock = some k
/-- a builder of automata, as it lies in memory -/
structure VB (w : World) (b : Nat) (wv vr vn vs : Value) (s : VS) (tb : List (List UInt8 × Nat)) (svs : List (Bool × Value)) : Prop where
  blk : Blk w.heap b [wv, vr, vn, vs]
  tab : Tb s.known tb
  rr : w.ownsRow (b + 1) 9 1 vr (tb.map Prod.fst).length ((tb.map Prod.fst).map str)
  rn : w.ownsRow (b + 1) 3 1 vn (tb.map Prod.fst).length ((tb.map Prod.snd).map (fun n : Nat => Value.int .i64 n))
  rs : w.ownsRow (b + 1) 79 2 vs svs.length (sflat svs)
  sts : Sts w (b + 1) s.sts svs
  len : s.sts.length = s.known.length
theorem VB.md {F : Nat → Prop} {w w' : World} {b : Nat} {wv vr vn vs : Value} {s : VS} {tb : List (List UInt8 × Nat)} {svs : List (Bool × Value)} (h : VB w b wv vr vn vs s tb svs) (hm : Md F w w') (hf : ∀ k, FV b vr vn vs k → ¬ F k) (hs : ∀ p ∈ svs, ∀ k, p.2.ownBlock = some k → ¬ F k) : VB w' b wv vr vn vs s tb svs :=
  ⟨hm.B h.blk (hf _ (.inl rfl)), h.tab, own_md h.rr hm fun k hk => hf k (.inr (.inl hk)), own_md h.rn hm fun k hk => hf k (.inr (.inr (.inl hk))), own_md h.rs hm fun k hk => hf k (.inr (.inr (.inr hk))), h.sts.md hm hs, h.len⟩
theorem VB.wk {w w' : World} {b : Nat} {wv vr vn vs : Value} {s : VS} {tb : List (List UInt8 × Nat)} {svs : List (Bool × Value)} (h : VB w b wv vr vn vs s tb svs) (hm : Wk w w') : VB w' b wv vr vn vs s tb svs := h.md hm (fun _ _ x => x) (fun _ _ _ _ x => x)
/-- the edges of states lie in no block of the builder's own -/
theorem VB.off {w : World} {b : Nat} {wv vr vn vs : Value} {s : VS} {tb : List (List UInt8 × Nat)} {svs : List (Bool × Value)} (h : VB w b wv vr vn vs s tb svs) {B n k : Nat} {v : Value} {xs : List Value} (ho : w.ownsRow B 82 2 v n xs) (hB : b < B) (hk : v.ownBlock = some k) : ¬ FV b vr vn vs k := by
  rintro (rfl | h1 | h1 | h1)
  · have := own_lt ho hk; omega
  · exact own_ne ho h.rr (by decide) hk h1
  · exact own_ne ho h.rn (by decide) hk h1
  · exact own_ne ho h.rs (by decide) hk h1
theorem VB.lt {w : World} {b : Nat} {wv vr vn vs : Value} {s : VS} {tb : List (List UInt8 × Nat)} {svs : List (Bool × Value)} (h : VB w b wv vr vn vs s tb svs) {k : Nat} (hk : FV b vr vn vs k) : b ≤ k ∧ k < w.heap.size := by
  have hb := h.blk.lt
  rcases hk with rfl | hk | hk | hk
  · exact ⟨Nat.le_refl _, hb⟩
  · have := own_lt h.rr hk; omega
  · have := own_lt h.rn hk; omega
  · have := own_lt h.rs hk; omega
theorem VB.slt {w : World} {b : Nat} {wv vr vn vs : Value} {s : VS} {tb : List (List UInt8 × Nat)} {svs : List (Bool × Value)} (h : VB w b wv vr vn vs s tb svs) {p : Bool × Value} (hp : p ∈ svs) {k : Nat} (hk : p.2.ownBlock = some k) : b < k ∧ k < w.heap.size := by
  obtain ⟨n, xs, ho⟩ := h.sts.row hp
  have := own_lt ho hk; omega
theorem VB.soff {w : World} {b : Nat} {wv vr vn vs : Value} {s : VS} {tb : List (List UInt8 × Nat)} {svs : List (Bool × Value)} (h : VB w b wv vr vn vs s tb svs) {p : Bool × Value} (hp : p ∈ svs) {k : Nat} (hk : p.2.ownBlock = some k) : ¬ FV b vr vn vs k :=
  let ⟨_, _, ho⟩ := h.sts.row hp; h.off ho (Nat.lt_succ_self b) hk
theorem set_mid {α : Type} (l : List α) (x y : α) (m : List α) : ((l ++ [x]) ++ m).set l.length y = l ++ y :: m := by
  rw [List.append_assoc, List.set_append_right _ _ (Nat.le_refl _), Nat.sub_self]; rfl

theorem StsT.mono {E : Nat} {w : World} {B B' : Nat} {sts : List (Bool × List (UInt8 × Nat))} {svs : List (Bool × Value)} (h : StsT E w B sts svs) (hB : B' ≤ B) : StsT E w B' sts svs :=
  ⟨h.1, fun i p q hp hq => ⟨(h.2 i p q hp hq).1, own_mono (h.2 i p q hp hq).2 hB⟩⟩
/-- the automaton of rising words -/
def auto (ws : Tl) : List (Bool × List (UInt8 × Nat)) := (vis 257 ws ⟨[], []⟩).2.sts
/-- rising words, none too long -/
def fit (ws : Tl) : Prop := ws.Pairwise (fun x y => sless x y = true) ∧ ∀ x ∈ ws, x.length ≤ 255
theorem getD_mem {α : Type} {l : List α} {i : Nat} {d : α} (h : i < l.length) : l.getD i d ∈ l := by
  rw [getD_get d h]; exact List.getElem_mem h

/-- what a list of words is refused for -/
def faultAt (ws : Tl) (i : Nat) (e : Int) : Prop :=
  (∀ j, j < i → (ws.getD j []).length ≤ 255 ∧ (0 < j → sless (ws.getD (j - 1) []) (ws.getD j []) = true)) ∧
    ((e = 0 ∧ i = ws.length) ∨ (i < ws.length ∧ 255 < (ws.getD i []).length ∧ e = 22) ∨ (i < ws.length ∧ (ws.getD i []).length ≤ 255 ∧ 0 < i ∧ sless (ws.getD (i - 1) []) (ws.getD i []) = false ∧ e = 180))

end Go.Hb.Visit
