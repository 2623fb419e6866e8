/-
  Walks of hornbooklaw18: what both sides answer, and DawgBuilds. No conditions but those that each theorem names.
-/
import Derived.Test.YtbfcjgfnlcbojaaChecked
import Derived.Test.YtbfcjgfnlcbojaaCore
import Derived.Test.YtbfcjgfnlcbojaaVisit
import Derived.Test.YtbfcjgfnlcbojaaReg
import Derived.Test.YtbfcjgfnlcbojaaCut
import Derived.Test.YtbfcjgfnlcbojaaBuild
import Derived.Test.YtbfcjgfnlcbojaaAdd
import Derived.Test.YtbfcjgfnlcbojaaAdds
import Derived.Test.YtbfcjgfnlcbojaaNumb
import Derived.Test.YtbfcjgfnlcbojaaFin
import Derived.Test.YtbfcjgfnlcbojaaSame
import Derived.Test.YtbfcjgfnlcbojaaPlan
import Derived.Test.YtbfcjgfnlcbojaaOpn
set_option maxRecDepth 20000
set_option linter.unusedVariables false
namespace Go.Hb.LawA
open Go.Proofs
open Go.Hb.Visit Go.Hb.Reg Go.Hb.Cut Go.Hb.Build Go.Hb.Add Go.Hb.Adds Go.Hb.Numb Go.Hb.Fin Go.Hb.Same
theorem so48 : sliceOk Try.prog 48 9 1 16 = true := by kernel_rfl

theorem auto_aut (ws : Tl) : auto ws = aut ws := rfl
/-- an automaton that can be read, and what it owns -/
def AutV (w : World) (B : Nat) (aa : Option Addr) (cc : Nat) (svs : List (Bool × Value)) (sts : List Ent) : Prop := w.ownsRow B 76 2 (.slice aa svs.length cc) svs.length (sflat svs) ∧ StsT 81 w B sts svs ∧ sepV svs
theorem AutV.sr {w : World} {B : Nat} {aa : Option Addr} {cc : Nat} {svs : List (Bool × Value)} {sts : List Ent} (h : AutV w B aa cc svs sts) : SR w aa svs sts := by
  obtain ⟨a, c, hv, hs⟩ := SR.of h.1 h.2.1
  simp only [Value.slice.injEq, true_and] at hv
  obtain ⟨rfl, rfl⟩ := hv
  exact hs
theorem Aut.v {w : World} {B : Nat} {v : Value} {sts : List Ent} (h : Aut w B v sts) : ∃ aa cc svs, v = .slice aa svs.length cc ∧ AutV w B aa cc svs sts := by
  obtain ⟨svs, h1, h2, h3⟩ := h
  obtain ⟨aa, cc, rfl⟩ := own_slice h1
  exact ⟨aa, cc, svs, rfl, h1, h2, h3⟩
/-- what Build answers, by the words -/
theorem built_w (ws : Tl) (aw : Option Addr) (cw : Nat) (w : World) (hS : Strs w.heap aw ws) (hwl : ws.length ≤ 134217728) :
    Ret Try.prog 17 (List.toArray [.slice aw ws.length cw]) w (fun v w' => Wk w w' ∧ ∃ aa n cc, v = .tuple #[.slice aa n cc, .int .i64 (addW bigN [] ws).1] ∧ ((addW bigN [] ws).1 ≠ 0 → n = 0) ∧ ((addW bigN [] ws).1 = 0 → ∃ svs, n = svs.length ∧ AutV w' w.heap.size aa cc svs (aut (addW bigN [] ws).2))) := by
  have he : addL bigN ab0 ws = ((addW bigN [] ws).1, bldW (addW bigN [] ws).2) := by rw [ab0_bld]; exact addL_bld _ _ _
  refine (build_w ws aw cw w hS hwl).mono fun v w' ⟨h1, h2⟩ => ⟨h1, ?_⟩
  rw [he] at h2
  rcases h2 with ⟨h2, rfl⟩ | ⟨h2, va, rfl, h3⟩
  · exact ⟨none, 0, 0, rfl, fun _ => rfl, fun h => absurd h h2⟩
  · obtain ⟨h4, h5⟩ := fin_aut (ws := (addW bigN [] ws).2) (addW_fit fit_nil)
    simp only at h2 h3
    rw [h5] at h3
    obtain ⟨aa, cc, svs, rfl, h6⟩ := Aut.v h3
    exact ⟨aa, svs.length, cc, by rw [h2], fun h => absurd h2 h, fun _ => ⟨svs, rfl, h6⟩⟩
/-- faults are told at the same place -/
theorem fault_addW {ws : Tl} {i : Nat} {e : Int} (h : faultAt ws i e) (hl : ws.length ≤ 134217728) : (addW bigN [] ws).1 = e ∧ (e = 0 → Fit ws ∧ (addW bigN [] ws).2 = ws) := by
  obtain ⟨h1, h2⟩ := h
  have hil : i ≤ ws.length := by rcases h2 with h2 | h2 | h2 <;> omega
  have hfit : ∀ k, k ≤ i → Fit (ws.take k) := by
    intro k
    induction k with
    | zero => intro _; exact fit_nil
    | succ k ih =>
      intro hk
      have ih := ih (by omega)
      obtain ⟨g1, g2⟩ := h1 k (by omega)
      rw [take_succ_getD ws k [] (by omega)]
      refine ⟨up_snoc.2 ⟨ih.1, fun t ht => ?_⟩, fun x hx => ?_⟩
      · obtain ⟨j, hj, rfl⟩ := List.mem_iff_getElem.1 ht
        simp only [List.length_take] at hj
        rw [List.getElem_take]
        have g3 := g2 (by omega)
        rcases Nat.lt_or_ge j (k - 1) with hjk | hjk
        · have g4 := pw_get ih.1 (i := j) (j := k - 1) hjk (by rw [List.length_take]; omega)
          simp only [List.getD_eq_getElem?_getD, List.getElem?_take] at g4 g3
          rw [if_pos (by omega), if_pos (by omega), List.getElem?_eq_getElem (show j < ws.length by omega)] at g4
          exact sless_trans g4 (by simpa [List.getD_eq_getElem?_getD] using g3)
        · obtain rfl : j = k - 1 := by omega
          rw [getD_get [] (show k - 1 < ws.length by omega)] at g3; exact g3
      · rcases List.mem_append.1 hx with hx | hx
        · exact ih.2 x hx
        · simp only [List.mem_singleton] at hx; subst hx; exact g1
  have hall : addW bigN [] (ws.take i) = (0, ws.take i) := by
    have := addW_all (most := bigN) (l := ws.take i) (ws := []) (by simpa using hfit i (Nat.le_refl _)) (by simp only [List.nil_append, List.length_take]; unfold bigN; omega)
    simpa using this
  have happ : ∀ (l2 l1 : Tl) (ws0 : Tl), addW bigN ws0 l1 = (0, ws0 ++ l1) → addW bigN ws0 (l1 ++ l2) = addW bigN (ws0 ++ l1) l2 := by
    intro l2 l1
    induction l1 with
    | nil => intro ws0 _; simp
    | cons w l1 ih =>
      intro ws0 h0
      simp only [addW, List.cons_append] at h0 ⊢
      by_cases hc : (add1W bigN ws0 w).1 = 0
      · rw [if_pos hc] at h0 ⊢
        have hw : (add1W bigN ws0 w).2 = ws0 ++ [w] := by
          unfold add1W at hc ⊢
          split at hc
          · simp at hc
          · split at hc
            · simp at hc
            · rename_i h5 h6; rw [if_neg h5, if_neg h6]
        rw [hw] at h0 ⊢
        have := ih (ws0 ++ [w]) (by rw [h0]; simp)
        rw [this]; simp
      · rw [if_neg hc] at h0
        rw [h0] at hc; exact absurd rfl hc
  have hsplit := happ (ws.drop i) (ws.take i) [] (by simpa using hall)
  rw [List.take_append_drop, List.nil_append] at hsplit
  rw [hsplit]
  rcases h2 with ⟨rfl, rfl⟩ | ⟨h3, h4, rfl⟩ | ⟨h3, h4, h5, h6, rfl⟩
  · rw [List.drop_length, List.take_length]
    exact ⟨rfl, fun _ => ⟨by have := hfit ws.length (Nat.le_refl _); rwa [List.take_length] at this, rfl⟩⟩
  · rw [List.drop_eq_getElem_cons h3, ← getD_get [] h3]
    have h22 : add1W bigN (ws.take i) (ws.getD i []) = (22, ws.take i) := by unfold add1W; rw [if_pos h4]
    simp only [addW, h22]
    rw [if_neg (by decide)]
    exact ⟨rfl, fun h => by simp at h⟩
  · rw [List.drop_eq_getElem_cons h3, ← getD_get [] h3]
    have hne : ws.take i ≠ [] := by
      intro h0
      have := congrArg List.length h0
      rw [List.length_take] at this
      simp only [List.length_nil] at this; omega
    have hlast : (ws.take i).getLastD [] = ws.getD (i - 1) [] := by
      rw [List.getLastD_eq_getLast?, List.getLast?_eq_getElem?, List.length_take, List.getElem?_take, if_pos (by omega), show min i ws.length - 1 = i - 1 from by omega, List.getD_eq_getElem?_getD]
    have h22 : add1W bigN (ws.take i) (ws.getD i []) = (180, ws.take i) := by unfold add1W; rw [if_neg (by omega), if_pos ⟨hne, by rw [hlast]; exact h6⟩]
    simp only [addW, h22]
    rw [if_neg (by decide)]
    exact ⟨rfl, fun h => by simp at h⟩
/-- the words of the example -/
def exW : Tl := [[99, 97, 116], [99, 97, 116, 115], [100, 111, 103], [100, 111, 103, 115]]
theorem ex_fit : Fit exW := by unfold Fit Up exW; decide +kernel
theorem ex_add : addW bigN [] exW = (0, exW) := addW_all (l := exW) (ws := []) ex_fit (by unfold exW bigN; decide)
theorem ex_aut : aut exW = [(false, [(99, 1), (100, 5)]), (false, [(97, 2)]), (false, [(116, 3)]), (true, [(115, 4)]), (true, []), (false, [(111, 6)]), (false, [(103, 3)])] := by decide +kernel

end Go.Hb.LawA
