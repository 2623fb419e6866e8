/-
  Regions that draw their order and write over what was read, where the order of some operations is left open till the end. Over any program. No conditions but those that each lemma names.
-/
import Derived.Test.YtbfcjgfnlcbojaaLast
namespace Go.Hb
open Go.RowKit

section
variable {P : Program} {md : Region.Mode} {ops : Array Oper} {Q : Exit → Act → World → Prop} {S : World → Prop} {r : Nat}
/-- r comes behind i, directly or through others -/
inductive DepOn (md : Region.Mode) (ops : Array Oper) (i : Nat) : Nat → Prop
  | one {r o e} : ops[r]? = some o → e ∈ o.after → Region.binds md e = true → e.on = i → DepOn md ops i r
  | more {r o e} : ops[r]? = some o → e ∈ o.after → Region.binds md e = true → DepOn md ops i e.on → DepOn md ops i r
def Closed (md : Region.Mode) (ops : Array Oper) (listed : Array Bool) : Prop := ∀ (j : Nat) (o : Oper), ops[j]? = some o → listed.getD j false = true → ∀ e ∈ o.after, Region.binds md e = true → listed.getD e.on false = true
theorem getD_set_mono {listed : Array Bool} {j k : Nat} (h : listed.getD k false = true) : (listed.setIfInBounds j true).getD k false = true := by
  by_cases e : j = k
  · subst e
    by_cases hl : j < listed.size
    · simp [hl]
    · simp [hl] at h
  · rw [getD_set_ne false e]; exact h
theorem Closed.set {listed : Array Bool} {j : Nat} (h : Closed md ops listed) (hj : j ∈ Region.ready md ops listed) : Closed md ops (listed.setIfInBounds j true) := by
  intro k o hk hl e he hb
  obtain ⟨_, oj, hoj, hall⟩ := mem_ready.1 hj
  by_cases ejk : j = k
  · subst ejk
    rw [hoj] at hk; cases hk
    exact getD_set_mono (hall e he hb)
  · rw [getD_set_ne false ejk] at hl
    exact getD_set_mono (h k o hk hl e he hb)
theorem DepOn.listed {listed : Array Bool} {i r : Nat} (hd : DepOn md ops i r) (hc : Closed md ops listed) (ha : ∀ o, ops[r]? = some o → ∀ e ∈ o.after, Region.binds md e = true → listed.getD e.on false = true) : listed.getD i false = true := by
  induction hd with
  | one h1 h2 h3 h4 => rw [← h4]; exact ha _ h1 _ h2 h3
  | more h1 h2 h3 _ ih => exact ih fun o ho e he hb => hc _ o ho (ha _ h1 _ h2 h3) e he hb
theorem wpAnyR_dep {i : Nat} {oi : Oper} {v : Value} (hi : ops[i]? = some oi) (hsel : ∀ (j : Nat) (o : Oper) cs b, ops[j]? = some o → o.op ≠ .select cs b)
    (hQ : ∀ c a w, Q (.panic c) (a.put oi.dst v) w → Q (.panic c) a w) (hd : DepOn md ops i r) (hir : i ≠ r) :
    ∀ (fuel : Nat) (listed : Array Bool) (a : Act) (w : World), Closed md ops listed →
      (∀ j oj, ops[j]? = some oj → j ≠ i → listed.getD j true = false → (∀ x ∈ oj.after, Region.binds md x = true → x.on ≠ i) → oi.apart ops oj = true) →
      i ∈ Region.ready md ops listed → YieldsIf P ops S oi v a → S w → listed.getD r false = false →
      wpAnyR P md ops Q S r fuel (listed.setIfInBounds i true) (a.put oi.dst v) w → wpAnyR P md ops Q S r (fuel + 1) listed a w := by
  intro fuel
  induction fuel with
  | zero =>
    intro listed a w _ _ hr hy hS _ H
    refine ⟨fun h => (by rw [h] at hr; cases hr), fun j hj => ?_⟩
    by_cases hji : j = i
    · subst hji; exact hy.wpOp hi hS ⟨fun _ => hS, H⟩
    · have := ready_mono hj hji
      rw [H.1] at this
      cases this
  | succ fuel ih =>
    intro listed a w hcl hfree hr hy hS hl H
    refine ⟨fun h => (by rw [h] at hr; cases hr), fun j hj => ?_⟩
    by_cases hji : j = i
    · subst hji; exact hy.wpOp hi hS ⟨fun _ => hS, H⟩
    · have h1 := H.2 j (ready_mono hj hji)
      obtain ⟨hjun, oj, hoj, hall⟩ := mem_ready.1 hj
      have hiun : listed.getD i false = false := by
        have h0 := (mem_ready.1 hr).1
        rcases Nat.lt_or_ge i listed.size with h' | h'
        · simpa [h'] using h0
        · simp [h'] at h0
      have hnot : ∀ x ∈ oj.after, Region.binds md x = true → x.on ≠ i := fun x hx hb heq => by
        have h1 := hall x hx hb
        rw [heq, hiun] at h1; cases h1
      have hjr : j ≠ r := by
        rintro rfl
        have := hd.listed hcl (fun o ho => by rw [hoj] at ho; cases ho; exact hall)
        rw [hiun] at this; cases this
      have hl2 : (listed.setIfInBounds j true).getD r false = false := by rw [getD_set_ne false hjr]; exact hl
      have hl3 : ((listed.setIfInBounds i true).setIfInBounds j true).getD r false = false := by rw [getD_set_ne false hjr, getD_set_ne false hir]; exact hl
      have h2 := wpOp_putIf hoj (hfree j oj hoj hji hjun hnot) (fun cs b => hsel i oi cs b hi) (fun cs b => hsel j oj cs b hoj) hQ hy h1
      have hfree' : ∀ k ok, ops[k]? = some ok → k ≠ i → (listed.setIfInBounds j true).getD k true = false →
          (∀ x ∈ ok.after, Region.binds md x = true → x.on ≠ i) → oi.apart ops ok = true := fun k ok hk hki hun hno => by
        refine hfree k ok hk hki ?_ hno
        by_cases hjk : j = k
        · subst hjk; exact hjun
        · rw [getD_set_ne true hjk] at hun; exact hun
      refine wpOp_mono (fun a' w' h3 => ⟨fun _ => h3.2.1 hl3, ih (listed.setIfInBounds j true) a' w' (hcl.set hj) hfree' (ready_mono hr (Ne.symm hji)) h3.1 (h3.2.1 hl3) hl2 ?_⟩) h2
      rw [Array.setIfInBounds_comm _ _ hji]
      exact h3.2.2
theorem wpAnyR_pure {i : Nat} {oi : Oper} {v : Value} (hi : ops[i]? = some oi) (hsel : ∀ (j : Nat) (o : Oper) cs b, ops[j]? = some o → o.op ≠ .select cs b)
    (hQ : ∀ c a w, Q (.panic c) (a.put oi.dst v) w → Q (.panic c) a w) (hir : i ≠ r) :
    ∀ (fuel : Nat) (listed : Array Bool) (a : Act) (w : World),
      (∀ j oj, ops[j]? = some oj → j ≠ i → listed.getD j true = false → (∀ x ∈ oj.after, Region.binds md x = true → x.on ≠ i) → oi.apart ops oj = true) →
      i ∈ Region.ready md ops listed → YieldsIf P ops (fun _ => True) oi v a → (listed.getD r false = false → S w) →
      wpAnyR P md ops Q S r fuel (listed.setIfInBounds i true) (a.put oi.dst v) w → wpAnyR P md ops Q S r (fuel + 1) listed a w := by
  intro fuel
  induction fuel with
  | zero =>
    intro listed a w _ hr hy hS H
    refine ⟨fun h => (by rw [h] at hr; cases hr), fun j hj => ?_⟩
    by_cases hji : j = i
    · subst hji; exact hy.wpOp hi trivial ⟨fun h => hS (by rw [getD_set_ne false hir] at h; exact h), H⟩
    · have := ready_mono hj hji
      rw [H.1] at this
      cases this
  | succ fuel ih =>
    intro listed a w hfree hr hy hS H
    refine ⟨fun h => (by rw [h] at hr; cases hr), fun j hj => ?_⟩
    by_cases hji : j = i
    · subst hji; exact hy.wpOp hi trivial ⟨fun h => hS (by rw [getD_set_ne false hir] at h; exact h), H⟩
    · have h1 := H.2 j (ready_mono hj hji)
      obtain ⟨hjun, oj, hoj, hall⟩ := mem_ready.1 hj
      have hiun : listed.getD i false = false := by
        have h0 := (mem_ready.1 hr).1
        rcases Nat.lt_or_ge i listed.size with h' | h'
        · simpa [h'] using h0
        · simp [h'] at h0
      have hnot : ∀ x ∈ oj.after, Region.binds md x = true → x.on ≠ i := fun x hx hb heq => by
        have h1 := hall x hx hb
        rw [heq, hiun] at h1; cases h1
      have h2 := wpOp_putIf hoj (hfree j oj hoj hji hjun hnot) (fun cs b => hsel i oi cs b hi) (fun cs b => hsel j oj cs b hoj) hQ hy h1
      have hfree' : ∀ k ok, ops[k]? = some ok → k ≠ i → (listed.setIfInBounds j true).getD k true = false →
          (∀ x ∈ ok.after, Region.binds md x = true → x.on ≠ i) → oi.apart ops ok = true := fun k ok hk hki hun hno => by
        refine hfree k ok hk hki ?_ hno
        by_cases hjk : j = k
        · subst hjk; exact hjun
        · rw [getD_set_ne true hjk] at hun; exact hun
      have hcm : (listed.setIfInBounds i true).setIfInBounds j true = (listed.setIfInBounds j true).setIfInBounds i true := Array.setIfInBounds_comm _ _ (fun e => hji e.symm)
      have hg : (listed.setIfInBounds j true).getD r false = false → ((listed.setIfInBounds i true).setIfInBounds j true).getD r false = false := fun h => by rw [hcm, getD_set_ne false hir]; exact h
      refine wpOp_mono (fun a' w' h3 => ⟨fun h => h3.2.1 (hg h), ih (listed.setIfInBounds j true) a' w' hfree' (ready_mono hr (Ne.symm hji)) h3.1 (fun h => h3.2.1 (hg h)) ?_⟩) h2
      rw [← hcm]
      exact h3.2.2
end

section
variable {P : Program} {N : Nat} {ops : Array Oper} {Q : Exit → (Nat → Value) → World → Prop} {σ : Nat → Value} {w : World} {S : World → Prop} {r fuel : Nat} {listed : Array Bool}
  {d : Nat} {op : Op} {ty : TypeId} {pos : String} {af : Array Edge} {v : Value}
def depB (ops : Array Oper) (i : Nat) : Nat → Nat → Bool
  | 0, _ => false
  | f + 1, r => match ops[r]? with | some o => o.after.toList.any (fun e => Region.binds .any e && (e.on == i || depB ops i f e.on)) | none => false
theorem depB_spec {i : Nat} : ∀ (f r : Nat), depB ops i f r = true → DepOn .any ops i r := by
  intro f
  induction f with
  | zero => intro r h; cases h
  | succ f ih =>
    intro r h
    rw [depB] at h
    split at h
    · rename_i o ho
      simp only [List.any_eq_true, Bool.and_eq_true, Bool.or_eq_true, beq_iff_eq] at h
      obtain ⟨e, he, hb, h⟩ := h
      rcases h with h | h
      · exact .one ho (Array.mem_toList_iff.1 he) hb h
      · exact .more ho (Array.mem_toList_iff.1 he) hb (ih _ h)
    · cases h
def closedB (ops : Array Oper) (listed : Array Bool) : Bool := (List.range ops.size).all fun j => !listed.getD j false || match ops[j]? with | some o => o.after.toList.all (fun e => !Region.binds .any e || listed.getD e.on false) | none => true
theorem closedB_spec (h : closedB ops listed = true) : Closed .any ops listed := by
  intro j o hj hl e he hb
  unfold closedB at h
  rw [List.all_eq_true] at h
  have h1 := h j (List.mem_range.2 (Array.getElem?_eq_some_iff.1 hj).1)
  rw [hl, hj] at h1
  simp only [Bool.not_true, Bool.false_or, List.all_eq_true, Bool.or_eq_true, Bool.not_eq_true'] at h1
  rcases h1 e (Array.mem_toList_iff.2 he) with h2 | h2
  · rw [hb] at h2; cases h2
  · exact h2
def freeD (ops : Array Oper) (listed : Array Bool) (r i : Nat) : Bool := freeReady ops listed i && !(listed.getD r false) && i != r && closedB ops listed && depB ops i ops.size r
def freeP (ops : Array Oper) (listed : Array Bool) (r i : Nat) : Bool := freeReady ops listed i && i != r
/-- a read taken first: number r comes behind it -/
theorem lqd (i : Nat) (hi : ops[i]? = some ⟨some d, op, ty, pos, af, none⟩) (hf : freeD ops listed r i = true)
    (hy : ∀ w, S w → (execOp (ev N σ) ⟨some d, op, ty, pos, af, none⟩).run P w = .ok (.value v) w) (hS : S w)
    (k : wphR P N ops Q S r fuel (listed.setIfInBounds i true) (upd σ d v) w) : wphR P N ops Q S r (fuel + 1) listed σ w := by
  simp only [freeD, freeReady, Bool.and_eq_true, Bool.not_eq_true', bne_iff_ne, ne_eq] at hf
  obtain ⟨⟨⟨⟨⟨⟨hf1, hf2⟩, hf3⟩, hf4⟩, hf5⟩, hf6⟩, hf7⟩ := hf
  unfold wphR at *
  refine wpAnyR_dep hi (Region.noSelect_spec hf1) (fun c a w => lift_panic c _ _ w) (depB_spec _ _ hf7) hf5 fuel listed _ w (closedB_spec hf6) (Region.free_spec hi hf2) (by simpa using hf3) (.inl ⟨wanted_none _ rfl _, fun w hS => ?_⟩) hS hf4 ?_ (v := v)
  · rw [act_eval]; exact hy w hS
  · rw [act_put]; exact k
/-- what does not look at the world, taken first -/
theorem lqp (i : Nat) (hi : ops[i]? = some ⟨some d, op, ty, pos, af, none⟩) (hf : freeP ops listed r i = true)
    (hy : ∀ w, (execOp (ev N σ) ⟨some d, op, ty, pos, af, none⟩).run P w = .ok (.value v) w) (hS : listed.getD r false = false → S w)
    (k : wphR P N ops Q S r fuel (listed.setIfInBounds i true) (upd σ d v) w) : wphR P N ops Q S r (fuel + 1) listed σ w := by
  simp only [freeP, freeReady, Bool.and_eq_true, bne_iff_ne, ne_eq] at hf
  obtain ⟨⟨⟨hf1, hf2⟩, hf3⟩, hf5⟩ := hf
  unfold wphR at *
  refine wpAnyR_pure hi (Region.noSelect_spec hf1) (fun c a w => lift_panic c _ _ w) hf5 fuel listed _ w (Region.free_spec hi hf2) (by simpa using hf3) (.inl ⟨wanted_none _ rfl _, fun w _ => ?_⟩) hS ?_ (v := v)
  · rw [act_eval]; exact hy w
  · rw [act_put]; exact k
end
end Go.Hb
