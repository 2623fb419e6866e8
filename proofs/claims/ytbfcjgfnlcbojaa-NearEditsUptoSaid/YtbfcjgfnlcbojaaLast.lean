/-
  Regions that draw their order and whose last operation writes over what was read. Over any program. No conditions but those that each lemma names.
-/
import Derived.Test.YtbfcjgfnlcbojaaBase
namespace Go.Hb
open Go.RowKit

section
variable {P : Program} {md : Region.Mode} {ops : Array Oper} {Q : Exit → Act → World → Prop} {S : World → Prop} {r : Nat}
/-- whatever order is picked; S holds behind every operation till number r has come up -/
def wpAnyR (P : Program) (md : Region.Mode) (ops : Array Oper) (Q : Exit → Act → World → Prop) (S : World → Prop) (r : Nat) : Nat → Array Bool → Act → World → Prop
  | 0, listed, a, w => Region.ready md ops listed = [] ∧ Q .normal a w
  | fuel + 1, listed, a, w =>
    (Region.ready md ops listed = [] → Q .normal a w) ∧
    ∀ i ∈ Region.ready md ops listed, wpOp P ops Q i (fun a' w' => ((listed.setIfInBounds i true).getD r false = false → S w') ∧ wpAnyR P md ops Q S r fuel (listed.setIfInBounds i true) a' w') a w
theorem wpAny_of_R : ∀ (fuel : Nat) (listed : Array Bool) (a : Act) (w : World), wpAnyR P md ops Q S r fuel listed a w → wpAny P md ops Q fuel listed a w
  | 0, _, _, _, h => h
  | fuel + 1, _, _, _, h => ⟨h.1, fun i hi => wpOp_mono (fun a' w' h' => wpAny_of_R fuel _ a' w' h'.2) (h.2 i hi)⟩
theorem wpAnyR_first {i : Nat} {oi : Oper} {v : Value} (hi : ops[i]? = some oi) (hsel : ∀ (j : Nat) (o : Oper) cs b, ops[j]? = some o → o.op ≠ .select cs b)
    (hQ : ∀ c a w, Q (.panic c) (a.put oi.dst v) w → Q (.panic c) a w) (hwt : ∀ o, ops[r]? = some o → ∃ x ∈ o.after, Region.binds md x = true ∧ x.on = i) (hir : i ≠ r) :
    ∀ (fuel : Nat) (listed : Array Bool) (a : Act) (w : World),
      (∀ j oj, ops[j]? = some oj → j ≠ i → listed.getD j true = false → (∀ x ∈ oj.after, Region.binds md x = true → x.on ≠ i) → oi.apart ops oj = true) →
      i ∈ Region.ready md ops listed → YieldsIf P ops S oi v a → S w → listed.getD r false = false →
      wpAnyR P md ops Q S r fuel (listed.setIfInBounds i true) (a.put oi.dst v) w → wpAnyR P md ops Q S r (fuel + 1) listed a w := by
  intro fuel
  induction fuel with
  | zero =>
    intro listed a w _ hr hy hS _ H
    refine ⟨fun h => (by rw [h] at hr; cases hr), fun j hj => ?_⟩
    by_cases hji : j = i
    · subst hji; exact hy.wpOp hi hS ⟨fun _ => hS, H⟩
    · have := ready_mono hj hji
      rw [H.1] at this
      cases this
  | succ fuel ih =>
    intro listed a w hfree hr hy hS hl H
    refine ⟨fun h => (by rw [h] at hr; cases hr), fun j hj => ?_⟩
    by_cases hji : j = i
    · subst hji; exact hy.wpOp hi hS ⟨fun _ => hS, H⟩
    · have h1 := H.2 j (ready_mono hj hji)
      obtain ⟨hjun, oj, hoj, hall⟩ := mem_ready.1 hj
      have hnot : ∀ x ∈ oj.after, Region.binds md x = true → x.on ≠ i := fun x hx hb heq => by
        have h1 := hall x hx hb
        have h0 := (mem_ready.1 hr).1
        rw [heq] at h1
        rcases Nat.lt_or_ge i listed.size with h' | h'
        · simp [h'] at h0 h1; rw [h0] at h1; cases h1
        · simp [Array.getElem?_eq_none h'] at h1
      have hjr : j ≠ r := by
        rintro rfl
        obtain ⟨x, hx, hb, ho⟩ := hwt oj hoj
        exact hnot x hx hb ho
      have hl2 : (listed.setIfInBounds j true).getD r false = false := by rw [getD_set_ne false hjr]; exact hl
      have hl3 : ((listed.setIfInBounds i true).setIfInBounds j true).getD r false = false := by rw [getD_set_ne false hjr, getD_set_ne false hir]; exact hl
      have h2 := wpOp_putIf hoj (hfree j oj hoj hji hjun hnot) (fun cs b => hsel i oi cs b hi) (fun cs b => hsel j oj cs b hoj) hQ hy h1
      have hfree' : ∀ k ok, ops[k]? = some ok → k ≠ i → (listed.setIfInBounds j true).getD k true = false →
          (∀ x ∈ ok.after, Region.binds md x = true → x.on ≠ i) → oi.apart ops ok = true := fun k ok hk hki hun hno => by
        refine hfree k ok hk hki ?_ hno
        by_cases hjk : j = k
        · subst hjk; exact hjun
        · rw [getD_set_ne true hjk] at hun; exact hun
      refine wpOp_mono (fun a' w' h3 => ⟨fun _ => h3.2.1 hl3, ih (listed.setIfInBounds j true) a' w' hfree' (ready_mono hr (Ne.symm hji)) h3.1 (h3.2.1 hl3) hl2 ?_⟩) h2
      rw [Array.setIfInBounds_comm _ _ hji]
      exact h3.2.2
end

section
variable {P : Program} {N : Nat} {ops : Array Oper} {Q : Exit → (Nat → Value) → World → Prop} {σ : Nat → Value} {w : World} {S : World → Prop} {r fuel : Nat} {listed : Array Bool}
  {d' : Option Nat} {d : Nat} {op : Op} {ty : TypeId} {pos : String} {af : Array Edge} {v : Value}
def wphR (P : Program) (N : Nat) (ops : Array Oper) (Q : Exit → (Nat → Value) → World → Prop) (S : World → Prop) (r fuel : Nat) (listed : Array Bool) (σ : Nat → Value) (w : World) : Prop :=
  wpAnyR P .any ops (lift N Q) S r fuel listed (act N σ) w
theorem lst {id : Nat} {l : List Oper} (S : World → Prop) (r : Nat) (hm : P.follows .mixedOrders = true) (_hS : S w.drew) (h : wphR P N l.toArray Q S r l.length (Array.replicate l.length false) σ w.drew) : wpc P N (.region id l.toArray true) Q σ w := by
  unfold wpc
  exact wp_region_any hm (wpAny_of_R _ _ _ _ (by rw [List.size_toArray]; exact h))
def freeR (ops : Array Oper) (listed : Array Bool) (r i : Nat) : Bool :=
  freeReady ops listed i && !(listed.getD r false) && i != r && (match ops[r]? with | some o => o.after.toList.any (fun x => Region.binds .any x && x.on == i) | none => false)
theorem lq (i : Nat) (hi : ops[i]? = some ⟨some d, op, ty, pos, af, none⟩) (hf : freeR ops listed r i = true)
    (hy : ∀ w, S w → (execOp (ev N σ) ⟨some d, op, ty, pos, af, none⟩).run P w = .ok (.value v) w) (hS : S w)
    (k : wphR P N ops Q S r fuel (listed.setIfInBounds i true) (upd σ d v) w) : wphR P N ops Q S r (fuel + 1) listed σ w := by
  simp only [freeR, freeReady, Bool.and_eq_true, Bool.not_eq_true', bne_iff_ne, ne_eq] at hf
  obtain ⟨⟨⟨⟨⟨hf1, hf2⟩, hf3⟩, hf4⟩, hf5⟩, hf6⟩ := hf
  refine wpAnyR_first hi (Region.noSelect_spec hf1) (fun c a w => lift_panic c _ _ w) (fun o ho => ?_) hf5 fuel listed _ w (Region.free_spec hi hf2) (by simpa using hf3) (.inl ⟨wanted_none _ rfl _, fun w hS => ?_⟩) hS hf4 ?_ (v := v)
  · rw [ho] at hf6
    simp only [List.any_eq_true, Bool.and_eq_true, beq_iff_eq] at hf6
    obtain ⟨x, hx, h1, h2⟩ := hf6
    exact ⟨x, Array.mem_toList_iff.1 hx, h1, h2⟩
  · rw [act_eval]; exact hy w hS
  · rw [act_put]; exact k
theorem lany (i : Nat) (hi : ops[i]? = some ⟨d', op, ty, pos, af, none⟩) (hr : onlyReady ops listed i = true)
    (h : wpo P N ⟨d', op, ty, pos, af, none⟩ σ w (fun σ w => ((listed.setIfInBounds i true).getD r false = false → S w) ∧ wphR P N ops Q S r fuel (listed.setIfInBounds i true) σ w)) : wphR P N ops Q S r (fuel + 1) listed σ w := by
  have hr' : Region.ready .any ops listed = [i] := by simpa [onlyReady] using hr
  refine ⟨fun h0 => absurd (hr' ▸ h0) (by simp), fun k hk => ?_⟩
  rw [hr'] at hk
  obtain rfl : k = i := by simpa using hk
  unfold wpOp
  simp only [hi]
  rw [if_pos (wanted_none _ rfl _)]
  exact .inl (wpo_out h (fun _ _ hk => hk))
theorem lef (i : Nat) (hi : ops[i]? = some ⟨d', op, ty, pos, af, none⟩) (hr : onlyReady ops listed i = true)
    (h : wpo P N ⟨d', op, ty, pos, af, none⟩ σ w (fun σ w => S w ∧ wphR P N ops Q S r fuel (listed.setIfInBounds i true) σ w)) : wphR P N ops Q S r (fuel + 1) listed σ w :=
  lany i hi hr (wpo_mono h fun _ _ hk => ⟨fun _ => hk.1, hk.2⟩)
theorem lel (i : Nat) (hi : ops[i]? = some ⟨d', op, ty, pos, af, none⟩) (hr : onlyReady ops listed i = true) (hl : (listed.setIfInBounds i true).getD r false = true)
    (h : wpo P N ⟨d', op, ty, pos, af, none⟩ σ w (fun σ w => wphR P N ops Q S r fuel (listed.setIfInBounds i true) σ w)) : wphR P N ops Q S r (fuel + 1) listed σ w :=
  lany i hi hr (wpo_mono h fun _ _ hk => ⟨fun h0 => absurd (h0.symm.trans hl) Bool.noConfusion, hk⟩)
theorem lnd (hr : (Region.ready .any ops listed).isEmpty = true) (h : Q .normal σ w) : wphR P N ops Q S r fuel listed σ w := by
  have hr' : Region.ready .any ops listed = [] := by simpa using hr
  cases fuel with
  | zero => exact ⟨hr', σ, rfl, h⟩
  | succ fuel => exact ⟨fun _ => ⟨σ, rfl, h⟩, by rw [hr']; simp⟩
attribute [irreducible] wphR
end
end Go.Hb
