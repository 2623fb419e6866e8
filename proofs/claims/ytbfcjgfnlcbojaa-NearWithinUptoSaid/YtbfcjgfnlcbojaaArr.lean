/-
  The place of an array's element. Over any program. No conditions but those that the lemma names. Near words ring by ring, as they are gathered.
-/
import Derived.Test.YtbfcjgfnlcbojaaIr
set_option linter.unusedSimpArgs false
namespace Go.Hb

def arrN (P : Program) (t : TypeId) : Option (Nat × Nat) :=
  match P.underlying t with
  | some (.array n e) => (P.info? e).map fun i => (n, i.size)
  | _ => none
section
variable {P : Program} {N : Nat} {σ : Nat → Value} {w : World} {dst : Option Nat} {ty : TypeId} {pos : String} {af : Array Edge} {g : Option (Nat × Bool)} {x y : Operand}
theorem iaa {t n sz b off : Nat} {k : IntKind} {i : Int} (he : arrN P t = some (n, sz)) (hx : ev N σ x = .pointer (some ⟨b, off, none⟩)) (hy : ev N σ y = .int k i) (h0 : 0 ≤ i ∧ i < n) :
    (execOp (ev N σ) ⟨dst, .indexAddr t x y, ty, pos, af, g⟩).run P w = .ok (.value (.pointer (some ⟨b, off + i.toNat * sz, none⟩))) w := by
  unfold arrN at he
  cases hd : P.underlying t with
  | none => rw [hd] at he; cases he
  | some d =>
    rw [hd] at he
    cases d <;> first | (cases he; done) | skip
    rename_i m e
    cases hi : P.info? e with
    | none => simp [hi] at he
    | some j =>
      simp only [hi, Option.map_some, Option.some.injEq, Prod.mk.injEq] at he
      obtain ⟨rfl, rfl⟩ := he
      simp [execOp, Instr.indexAt, Instr.sureAddr, hx, hy, asIntOf, run_under hd, h0.1, h0.2, sizeOf, run_info hi, addr_add]
end
/-- the words of each ring -/
def rgW (L : List Nr) (d : Nat) : List (List UInt8) := (ring L d).map Prod.fst
theorem fnd_succ {ws : List UInt8} {k q : Nat} {L : List (List UInt8)} (h : q < L.length) : fnd ws k (L.take (q + 1)) = fnd ws k (L.take q) ++ (if dist ws (L.getD q []) ≤ k then [(L.getD q [], dist ws (L.getD q []))] else []) := by
  rw [take_succ_getD L q [] h, fnd_app]
  congr 1
  unfold fnd
  by_cases h1 : dist ws (L.getD q []) ≤ k
  · rw [if_pos h1]; simp only [List.filterMap_cons, List.filterMap_nil, if_pos h1]
  · rw [if_neg h1]; simp only [List.filterMap_cons, List.filterMap_nil, if_neg h1]
theorem rg_no {ws : List UInt8} {k q : Nat} {L : List (List UInt8)} (h : q < L.length) (h1 : ¬ dist ws (L.getD q []) ≤ k) (d : Nat) : rgW (fnd ws k (L.take (q + 1))) d = rgW (fnd ws k (L.take q)) d := by
  rw [fnd_succ h, if_neg h1, List.append_nil]
theorem rg_set {ws : List UInt8} {k q m : Nat} {L : List (List UInt8)} (h : q < L.length) (h1 : dist ws (L.getD q []) ≤ k) (hm : dist ws (L.getD q []) < m) :
    (tab m (rgW (fnd ws k (L.take q)))).set (dist ws (L.getD q [])) ((tab m (rgW (fnd ws k (L.take q)))).getD (dist ws (L.getD q [])) [] ++ [L.getD q []]) = tab m (rgW (fnd ws k (L.take (q + 1)))) := by
  refine tab_set ?_ fun j _ hne => ?_
  · rw [tab_getD _ _ hm, fnd_succ h, if_pos h1]
    unfold rgW ring
    rw [List.filter_append]; simp
  · rw [fnd_succ h, if_pos h1]
    unfold rgW ring
    rw [List.filter_append]
    generalize L.getD q [] = v at *
    have : ¬ dist ws v = j := fun e => hne e.symm
    simp [this]
theorem ring_get {L : List Nr} {d i : Nat} {t : List UInt8} (h : (rgW L d)[i]? = some t) : (ring L d)[i]? = some (t, d) := by
  unfold rgW at h
  rw [List.getElem?_map] at h
  cases hr : (ring L d)[i]? with
  | none => rw [hr] at h; cases h
  | some q =>
    rw [hr] at h
    cases h
    have := ring_key (List.mem_of_getElem? hr)
    rw [← this]
theorem rg_len (L : List Nr) (d : Nat) : (rgW L d).length = (ring L d).length := List.length_map _
theorem rings_len (L : List Nr) (n : Nat) : (rings L n).length ≤ L.length := by
  have key : ∀ n, (rings L n).length ≤ (L.filter fun q => decide (q.2 < n)).length := by
    intro n
    induction n with
    | zero => simp [rings]
    | succ n ih =>
      rw [rings_succ, List.length_append]
      have h2 : ∀ (l : List Nr), (l.filter fun q => decide (q.2 < n)).length + (ring l n).length ≤ (l.filter fun q => decide (q.2 < n + 1)).length := by
        intro l
        unfold ring
        induction l with
        | nil => simp
        | cons x l ihl =>
          by_cases h1 : x.2 < n
          · have h3 : ¬ x.2 = n := by omega
            have h4 : x.2 < n + 1 := by omega
            simp only [List.filter_cons, h1, h3, h4, decide_true, beq_iff_eq, if_true, if_false, List.length_cons]; omega
          · by_cases h3 : x.2 = n
            · have h4 : x.2 < n + 1 := by omega
              simp only [List.filter_cons, h1, h4, decide_true, decide_false, beq_iff_eq, h3, if_true, List.length_cons]
              simp; omega
            · have h4 : ¬ x.2 < n + 1 := by omega
              simp only [List.filter_cons, h1, h3, h4, decide_false, beq_iff_eq, if_false]
              simpa using ihl
      have := h2 L
      omega
  exact Nat.le_trans (key n) (List.length_filter_le _ _)
/-- the list gathered so far, cut to its most -/
theorem take_full {X Y : List Nr} {m : Nat} (h : m ≤ (X.take m).length) : (X ++ Y).take m = X.take m := by
  rw [List.length_take] at h
  rw [List.take_append_of_le_length (by omega)]
theorem take_more {X : List Nr} {m : Nat} {x : Nr} (h : (X.take m).length < m) : (X ++ [x]).take m = X.take m ++ [x] := by
  rw [List.length_take] at h
  rw [List.take_of_length_le (by rw [List.length_append, List.length_singleton]; omega), List.take_of_length_le (by omega)]
end Go.Hb
