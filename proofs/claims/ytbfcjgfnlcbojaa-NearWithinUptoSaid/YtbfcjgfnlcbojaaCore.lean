/-
  Laws on plain lists and on memory, laid together: Base, Ops, Eff, Last, Late, Pure, Str, Row, Make, Clip, Map, Tag. No conditions but those that each lemma names.
-/
import Derived.WalkKit
import Derived.OrdersHeld
import Derived.Lib.Strings
import Derived.Lib.UnsafeStr
import Derived.Laws.MakeOwn
import Derived.Laws.StructEq
/-
  A base for walks, over any program: the frame of a call as a function from slots to values, rules for each form of code, regions that draw their order walked once. No conditions.
-/
namespace Go.Hb
open Go.RowKit

/-- a frame, one slot written -/
def upd (σ : Nat → Value) (d : Nat) (v : Value) : Nat → Value := fun i => cond (Nat.beq i d) v (σ i)
def updo (σ : Nat → Value) : Option Nat → Value → Nat → Value
  | some d, v => upd σ d v
  | none, _ => σ
def act (N : Nat) (σ : Nat → Value) : Act := ⟨((List.range N).map σ).toArray, []⟩
def ev (N : Nat) (σ : Nat → Value) : Operand → Value
  | .tmp t => cond (Nat.blt t N) (σ t) undef
  | .const v => v
  | .global g => .pointer (some ⟨g, 0, none⟩)
  | .func f => .func (.func f) #[] #[]

theorem act_get (N : Nat) (σ : Nat → Value) (t : Nat) : (act N σ).tmps[t]? = if t < N then some (σ t) else none := by
  simp only [act, List.getElem?_toArray, List.getElem?_map]
  split
  · rename_i h; rw [List.getElem?_range h]; rfl
  · rename_i h; rw [List.getElem?_eq_none (by simpa using h)]; rfl

theorem act_eval (N : Nat) (σ : Nat → Value) : (act N σ).eval = ev N σ := by
  funext x
  cases x with
  | tmp t =>
    simp only [Act.eval, ev, Array.getD_eq_getD_getElem?, act_get]
    by_cases h : t < N
    · rw [if_pos h, show Nat.blt t N = true from by simpa using h]; rfl
    · rw [if_neg h, show Nat.blt t N = false from by cases hx : Nat.blt t N <;> simp_all [Nat.blt, Nat.ble_eq] <;> omega]; rfl
  | _ => rfl

theorem act_ext {a b : Act} (hd : a.defers = b.defers) (ht : ∀ i : Nat, a.tmps[i]? = b.tmps[i]?) : a = b := by
  cases a; cases b
  simp only at hd ht
  subst hd
  congr 1
  exact Array.ext_getElem? ht

theorem act_put (N : Nat) (σ : Nat → Value) (dst : Option Nat) (v : Value) : (act N σ).put dst v = act N (updo σ dst v) := by
  cases dst with
  | none => rfl
  | some d =>
    refine act_ext rfl fun i => ?_
    have h0 : ((act N σ).put (some d) v).tmps = (act N σ).tmps.setIfInBounds d v := rfl
    rw [h0, Array.getElem?_setIfInBounds, act_get, act_get]
    have hs : (act N σ).tmps.size = N := by simp [act]
    simp only [updo, upd]
    by_cases hid : i = d
    · subst hid
      rw [hs]
      have hb : Nat.beq i i = true := by simp
      by_cases h : i < N
      · rw [if_pos rfl, if_pos h, if_pos h, hb]; rfl
      · rw [if_pos rfl, if_neg h, if_neg h]
    · rw [if_neg (fun e => hid e.symm)]
      have hb : Nat.beq i d = false := by
        cases hx : Nat.beq i d
        · rfl
        · exact absurd (Nat.eq_of_beq_eq_true hx) hid
      rw [hb]; rfl

theorem upd_fix {σ : Nat → Value} {i : Nat} {v : Value} (h : σ i = v) : upd σ i v = σ := by
  funext j
  unfold upd
  cases hx : Nat.beq j i
  · rfl
  · have := Nat.eq_of_beq_eq_true hx; subst this; exact h.symm

/-- a post over frames -/
def lift (N : Nat) (Q : Exit → (Nat → Value) → World → Prop) : Exit → Act → World → Prop
  | .panic _, _, _ => False
  | .outgrown, _, _ => False
  | e, a, w => ∃ σ, a = act N σ ∧ Q e σ w
def wpc (P : Program) (N : Nat) (c : Code) (Q : Exit → (Nat → Value) → World → Prop) (σ : Nat → Value) (w : World) : Prop :=
  c.wp P (lift N Q) (act N σ) w
def wpl (P : Program) (N : Nat) (ops : Array Oper) (Q : Exit → (Nat → Value) → World → Prop) (l : List Oper) (σ : Nat → Value) (w : World) : Prop :=
  wpList P ops (lift N Q) l (act N σ) w
def thn (K : (Nat → Value) → World → Prop) (Q : Exit → (Nat → Value) → World → Prop) : Exit → (Nat → Value) → World → Prop
  | .normal, σ, w => K σ w
  | e, σ, w => Q e σ w
def inb (id : Nat) (Q : Exit → (Nat → Value) → World → Prop) : Exit → (Nat → Value) → World → Prop
  | .exit id', σ, w => if id' = id then Q .normal σ w else Q (.exit id') σ w
  | e, σ, w => Q e σ w

section
variable {P : Program} {N : Nat} {Q : Exit → (Nat → Value) → World → Prop} {σ : Nat → Value} {w : World} {K : (Nat → Value) → World → Prop}

theorem lift_mono {Q Q' : Exit → (Nat → Value) → World → Prop} (h : ∀ e σ w, Q e σ w → Q' e σ w) (e : Exit) (a : Act) (w : World) : lift N Q e a w → lift N Q' e a w := by
  cases e <;> first | exact fun h => h.elim | exact fun ⟨σ, ha, hq⟩ => ⟨σ, ha, h _ _ _ hq⟩
theorem wpc_mono {Q' : Exit → (Nat → Value) → World → Prop} {c : Code} (h : ∀ e σ w, Q e σ w → Q' e σ w) (hc : wpc P N c Q σ w) : wpc P N c Q' σ w :=
  Code.wp_mono (lift_mono h) hc
theorem tn (h : K σ w) : thn K Q .normal σ w := h
theorem te (id : Nat) (h : Q (.exit id) σ w) : thn K Q (.exit id) σ w := h
theorem tr (h : Q .ret σ w) : thn K Q .ret σ w := h
theorem bn {id : Nat} (h : Q .normal σ w) : inb id Q .normal σ w := h
theorem be {id : Nat} (h : Q .normal σ w) : inb id Q (.exit id) σ w := by simpa only [inb, if_true] using h
theorem be' {id id' : Nat} (hne : id' ≠ id) (h : Q (.exit id') σ w) : inb id Q (.exit id') σ w := by simpa only [inb, if_neg hne] using h
theorem br {id : Nat} (h : Q .ret σ w) : inb id Q .ret σ w := h

theorem sq {x y : Code} (h : ∀ K : (Nat → Value) → World → Prop, (∀ σ w, wpc P N y Q σ w → K σ w) → wpc P N x (thn K Q) σ w) : wpc P N (.seq x y) Q σ w := by
  refine wp_seq (Code.wp_mono ?_ (h (fun σ w => wpc P N y Q σ w) (fun _ _ h => h)))
  intro e a w hl
  cases e with
  | normal => obtain ⟨σ, rfl, hq⟩ := hl; exact hq
  | panic c => exact hl
  | outgrown => exact hl
  | _ => obtain ⟨σ, rfl, hq⟩ := hl; exact ⟨σ, rfl, hq⟩
/-- a seq with a cut: what stands behind the first part is walked once, from whatever state the relation lets -/
theorem sqc {x y : Code} (I : (Nat → Value) → World → Prop) (h : wpc P N x (thn I Q) σ w) (hk : ∀ σ w, I σ w → wpc P N y Q σ w) : wpc P N (.seq x y) Q σ w :=
  sq fun _ hK => wpc_mono (fun e _ _ hq => by cases e <;> first | exact hK _ _ (hk _ _ hq) | exact hq) h
theorem ct {c : Operand} {x y : Code} (hc : ev N σ c = .bool true) (h : wpc P N x Q σ w) : wpc P N (.cond c x y) Q σ w :=
  wp_cond_true (by rw [act_eval]; exact hc) h
theorem cf {c : Operand} {x y : Code} (hc : ev N σ c = .bool false) (h : wpc P N y Q σ w) : wpc P N (.cond c x y) Q σ w :=
  wp_cond_false (by rw [act_eval]; exact hc) h
theorem cb {c : Operand} {x y : Code} {b : Bool} (hc : ev N σ c = .bool b) (ht : b = true → wpc P N x Q σ w) (hf : b = false → wpc P N y Q σ w) : wpc P N (.cond c x y) Q σ w := by
  cases b
  · exact cf hc (hf rfl)
  · exact ct hc (ht rfl)
theorem cd {c : Operand} {x y : Code} {p : Prop} [Decidable p] (hc : ev N σ c = .bool (decide p)) (ht : p → wpc P N x Q σ w) (hf : ¬p → wpc P N y Q σ w) : wpc P N (.cond c x y) Q σ w :=
  cb hc (fun h => ht (of_decide_eq_true h)) (fun h => hf (of_decide_eq_false h))
theorem blk {id : Nat} {c : Code} (h : wpc P N c (inb id Q) σ w) : wpc P N (.block id c) Q σ w := by
  refine wp_block (Code.wp_mono ?_ h)
  intro e a w hl
  cases e with
  | panic c => exact hl
  | outgrown => exact hl
  | exit id' =>
    obtain ⟨σ, rfl, hq⟩ := hl
    simp only [inb, Exit.inBlock] at hq ⊢
    split
    · rename_i e; rw [if_pos e] at hq; exact ⟨σ, rfl, hq⟩
    · rename_i e; rw [if_neg e] at hq; exact ⟨σ, rfl, hq⟩
  | _ => obtain ⟨σ, rfl, hq⟩ := hl; exact ⟨σ, rfl, hq⟩
theorem ext {id : Nat} (h : Q (.exit id) σ w) : wpc P N (.exit id) Q σ w := wp_exit ⟨σ, rfl, h⟩
theorem skp (h : Q .normal σ w) : wpc P N .skip Q σ w := wp_skip ⟨σ, rfl, h⟩
theorem rt (h : Q .ret σ w) : wpc P N .ret Q σ w := wp_ret ⟨σ, rfl, h⟩
theorem fx {c : Code} {v : Value} (i : Nat) (h : σ i = v) (hc : wpc P N c Q (upd σ i v) w) : wpc P N c Q σ w := by rw [upd_fix h] at hc; exact hc
/-- a loop: I n: at most so many rounds are to come -/
theorem lp {c : Code} (I : Nat → (Nat → Value) → World → Prop) (n : Nat) (h0 : I n σ w)
    (h : ∀ n σ w, I n σ w → wpc P N c (thn (fun σ' w' => ∃ m, m < n ∧ I m σ' w') Q) σ w) : wpc P N (.loop c) Q σ w := by
  intro b k cs
  have key : ∀ n σ w, I n σ w →
      ∃ e a' w', lift N Q e a' w' ∧ Arrives P (lone (b.at (act N σ) (.code c :: .inLoop c :: k)) cs w) b k cs e a' w' := by
    intro n
    induction n using Nat.strongRecOn with
    | _ n ih =>
      intro σ w hI
      obtain ⟨e, a₁, w₁, hl, harr⟩ := h n σ w hI b (.inLoop c :: k) cs
      cases e with
      | normal =>
        obtain ⟨σ₁, rfl, m, hm, hI₁⟩ := hl
        obtain ⟨e₂, a₂, w₂, hq₂, harr₂⟩ := ih m hm σ₁ w₁ hI₁
        exact ⟨e₂, a₂, w₂, hq₂, .of_steps (Steps.trans harr (.one step_inLoop)) harr₂⟩
      | exit id => obtain ⟨σ₁, rfl, hq⟩ := hl; exact ⟨.exit id, act N σ₁, w₁, ⟨σ₁, rfl, hq⟩, .pass (x := .inLoop c) rfl (fun _ _ => .inl (by simp)) harr⟩
      | goto l => obtain ⟨σ₁, rfl, hq⟩ := hl; exact ⟨.goto l, act N σ₁, w₁, ⟨σ₁, rfl, hq⟩, .pass (x := .inLoop c) rfl (fun _ _ => .inl (by simp)) harr⟩
      | ret => obtain ⟨σ₁, rfl, hq⟩ := hl; exact ⟨.ret, act N σ₁, w₁, ⟨σ₁, rfl, hq⟩, .pass (x := .inLoop c) rfl (fun _ _ => .inl (by simp)) harr⟩
      | panic ch => exact hl.elim
      | outgrown => exact hl.elim
  obtain ⟨e, a', w', hq, harr⟩ := key _ σ w h0
  exact ⟨e, a', w', hq, .of_steps (.one step_loop) harr⟩

/-- one operation: to a state of which K is known, and no other way out -/
def wpo (P : Program) (N : Nat) (o : Oper) (σ : Nat → Value) (w : World) (K : (Nat → Value) → World → Prop) : Prop :=
  Oper.wp P o (act N σ) w (fun a w => ∃ σ, a = act N σ ∧ K σ w) (fun _ _ _ => False)
theorem upon_mono {o : Oper} {a : Act} {K K' : Act → World → Prop} {Q : Exit → Act → World → Prop} (h : ∀ a w, K a w → K' a w)
    (r : Result Next) (hh : o.upon P a K (fun _ _ _ => False) r) : o.upon P a K' Q r := by
  cases r with
  | ok n w' =>
    cases n <;> simp only [Oper.upon] at hh ⊢ <;>
      first
        | exact h _ _ hh
        | exact Calls.mono hh (fun e w'' he => by
            cases e with
            | returned v => exact h _ _ he
            | panicked c => exact he.elim
            | outgrown => obtain ⟨_, _, hf⟩ := he; exact hf.elim)
        | exact Rows.mono hh (fun _ _ he => h _ _ he)
  | halt x w' => cases x <;> simp only [Oper.upon] at hh ⊢
theorem wpo_out {K : (Nat → Value) → World → Prop} {K' : Act → World → Prop} {Q : Exit → Act → World → Prop} {o : Oper} (h : wpo P N o σ w K) (hk : ∀ σ w, K σ w → K' (act N σ) w) : o.wp P (act N σ) w K' Q := by
  unfold wpo at h
  unfold Oper.wp at *
  exact upon_mono (fun a w ⟨σ, ha, hK⟩ => by subst ha; exact hk _ _ hK) _ h
theorem wpo_mono {K K' : (Nat → Value) → World → Prop} {o : Oper} (h : wpo P N o σ w K) (hk : ∀ σ w, K σ w → K' σ w) : wpo P N o σ w K' :=
  wpo_out h (fun σ w hK => ⟨σ, rfl, hk σ w hK⟩)
variable {ops : Array Oper} {rest : List Oper} {d : Nat} {op : Op} {ty : TypeId} {pos : String} {af : Array Edge} {d' : Option Nat} {v : Value} {o : Oper}
theorem wpl_of_wpo (hg : Region.wanted o (yielded ops (act N σ).tmps) = true) (h : wpo P N o σ w (fun σ w => wpl P N ops Q rest σ w)) : wpl P N ops Q (o :: rest) σ w := by
  unfold wpl wpList
  rw [if_pos hg]
  exact .inl (wpo_out h (fun _ _ hk => hk))
theorem wpo_run {K : (Nat → Value) → World → Prop} {w' : World} (hr : (execOp (ev N σ) o).run P w = .ok (.value v) w') (hk : K (updo σ o.dst v) w') : wpo P N o σ w K := by
  unfold wpo Oper.wp
  rw [act_eval, hr]
  exact ⟨_, act_put .., hk⟩
theorem wanted_none (o : Oper) (hg : o.guard = none) (y : Nat → Option Bool) : Region.wanted o y = true := by simp [Region.wanted, hg]
/-- the slot that a guard looks at -/
def gsl (ops : Array Oper) (j : Nat) : Option Nat := (ops[j]?).bind (·.dst)
theorem wanted_some {j t : Nat} {want b : Bool} (hg : o.guard = some (j, want)) (hj : gsl ops j = some t) (ht : Nat.blt t N = true) (hv : σ t = .bool b) :
    Region.wanted o (yielded ops (act N σ).tmps) = (b == want) := by
  have h1 : yielded ops (act N σ).tmps j = some b := by
    unfold yielded
    unfold gsl at hj
    rw [hj]
    simp only [Option.bind_some, act_get]
    rw [if_pos (Nat.lt_of_lt_of_le (Nat.lt_succ_self t) (Nat.le_of_ble_eq_true ht)), hv]
  simp only [Region.wanted, hg, h1]
  cases b <;> cases want <;> rfl
theorem wanted_undef {j t : Nat} {want : Bool} (hg : o.guard = some (j, want)) (hj : gsl ops j = some t) (ht : Nat.blt t N = true) (hv : σ t = undef) :
    Region.wanted o (yielded ops (act N σ).tmps) = false := by
  have h1 : yielded ops (act N σ).tmps j = none := by
    unfold yielded
    unfold gsl at hj
    rw [hj]
    simp only [Option.bind_some, act_get]
    rw [if_pos (Nat.lt_of_lt_of_le (Nat.lt_succ_self t) (Nat.le_of_ble_eq_true ht)), hv]; rfl
  simp only [Region.wanted, hg, h1]
  rfl
/-- an operation that gives a value and leaves the world -/
theorem p (h : (execOp (ev N σ) ⟨some d, op, ty, pos, af, none⟩).run P w = .ok (.value v) w) (k : wpl P N ops Q rest (upd σ d v) w) :
    wpl P N ops Q (⟨some d, op, ty, pos, af, none⟩ :: rest) σ w :=
  wpl_of_wpo (wanted_none _ rfl _) (wpo_run h k)
theorem pg {j t : Nat} {want : Bool} (hj : gsl ops j = some t) (ht : Nat.blt t N = true) (hv : σ t = .bool want)
    (h : (execOp (ev N σ) ⟨some d, op, ty, pos, af, some (j, want)⟩).run P w = .ok (.value v) w) (k : wpl P N ops Q rest (upd σ d v) w) :
    wpl P N ops Q (⟨some d, op, ty, pos, af, some (j, want)⟩ :: rest) σ w :=
  wpl_of_wpo (by rw [wanted_some rfl hj ht hv]; cases want <;> rfl) (wpo_run h k)
/-- an operation whose guard says no -/
theorem sk {j t : Nat} {want b : Bool} (hj : gsl ops j = some t) (ht : Nat.blt t N = true) (hv : σ t = .bool b) (hb : (b == want) = false)
    (k : wpl P N ops Q rest (upd σ d undef) w) : wpl P N ops Q (⟨some d, op, ty, pos, af, some (j, want)⟩ :: rest) σ w := by
  unfold wpl wpList
  rw [if_neg (by rw [wanted_some rfl hj ht hv, hb]; simp), act_put]
  exact k
theorem sku {j t : Nat} {want : Bool} (hj : gsl ops j = some t) (ht : Nat.blt t N = true) (hv : σ t = undef)
    (k : wpl P N ops Q rest (upd σ d undef) w) : wpl P N ops Q (⟨some d, op, ty, pos, af, some (j, want)⟩ :: rest) σ w := by
  unfold wpl wpList
  rw [if_neg (by rw [wanted_undef rfl hj ht hv]; simp), act_put]
  exact k
theorem e (h : wpo P N ⟨d', op, ty, pos, af, none⟩ σ w (fun σ w => wpl P N ops Q rest σ w)) : wpl P N ops Q (⟨d', op, ty, pos, af, none⟩ :: rest) σ w :=
  wpl_of_wpo (wanted_none _ rfl _) h
theorem eg {j t : Nat} {want : Bool} (hj : gsl ops j = some t) (ht : Nat.blt t N = true) (hv : σ t = .bool want)
    (h : wpo P N ⟨d', op, ty, pos, af, some (j, want)⟩ σ w (fun σ w => wpl P N ops Q rest σ w)) : wpl P N ops Q (⟨d', op, ty, pos, af, some (j, want)⟩ :: rest) σ w :=
  wpl_of_wpo (by rw [wanted_some rfl hj ht hv]; cases want <;> rfl) h
theorem nl (h : Q .normal σ w) : wpl P N ops Q [] σ w := ⟨σ, rfl, h⟩
theorem rg {id : Nat} {l : List Oper} (h : wpl P N l.toArray Q l σ w) : wpc P N (.region id l.toArray false) Q σ w := wp_region_lit h
/-- a test that is not decided, ahead of the operations that it guards -/
theorem gs {l : List Oper} {t : Nat} {q : Prop} [Decidable q] (h : σ t = .bool (decide q)) (ht : q → wpl P N ops Q l (upd σ t (.bool true)) w) (hf : ¬q → wpl P N ops Q l (upd σ t (.bool false)) w) : wpl P N ops Q l σ w := by
  by_cases hq : q
  · have := ht hq; rwa [upd_fix (by rw [h, decide_eq_true hq])] at this
  · have := hf hq; rwa [upd_fix (by rw [h, decide_eq_false hq])] at this
theorem gb {l : List Oper} {t : Nat} {b : Bool} (h : σ t = .bool b) (ht : b = true → wpl P N ops Q l (upd σ t (.bool true)) w) (hf : b = false → wpl P N ops Q l (upd σ t (.bool false)) w) : wpl P N ops Q l σ w := by
  cases b
  · have := hf rfl; rwa [upd_fix h] at this
  · have := ht rfl; rwa [upd_fix h] at this

/-! regions that draw their order -/
def wph (P : Program) (N : Nat) (ops : Array Oper) (Q : Exit → (Nat → Value) → World → Prop) (S : World → Prop) (fuel : Nat) (listed : Array Bool) (σ : Nat → Value) (w : World) : Prop :=
  wpAnyH P .any ops (lift N Q) S fuel listed (act N σ) w
variable {S : World → Prop} {fuel : Nat} {listed : Array Bool}
theorem hst {id : Nat} {l : List Oper} (S : World → Prop) (hm : P.follows .mixedOrders = true) (_hS : S w.drew) (h : wph P N l.toArray Q S l.length (Array.replicate l.length false) σ w.drew) : wpc P N (.region id l.toArray true) Q σ w :=
  wp_region_held hm (by rw [List.size_toArray]; exact h)
def freeReady (ops : Array Oper) (listed : Array Bool) (i : Nat) : Bool :=
  Region.noSelect ops && Region.free .any ops listed i && (Region.ready .any ops listed).contains i
theorem lift_panic (c : List PanicEntry) (a b : Act) (w : World) : lift N Q (.panic c) a w → lift N Q (.panic c) b w := fun h => h.elim
theorem hp (i : Nat) (hi : ops[i]? = some ⟨some d, op, ty, pos, af, none⟩) (hf : freeReady ops listed i = true)
    (hy : ∀ w, S w → (execOp (ev N σ) ⟨some d, op, ty, pos, af, none⟩).run P w = .ok (.value v) w) (hS : S w)
    (k : wph P N ops Q S fuel (listed.setIfInBounds i true) (upd σ d v) w) : wph P N ops Q S (fuel + 1) listed σ w := by
  simp only [freeReady, Bool.and_eq_true] at hf
  refine wpAnyH_take hi hf.1.1 hf.1.2 hf.2 (fun c a w => lift_panic c _ _ w) (.inl ⟨wanted_none _ rfl _, fun w hS => ?_⟩) hS ?_ (v := v)
  · rw [act_eval]; exact hy w hS
  · rw [act_put]; exact k
theorem hpg (i : Nat) {j t : Nat} {want : Bool} (hi : ops[i]? = some ⟨some d, op, ty, pos, af, some (j, want)⟩) (hf : freeReady ops listed i = true)
    (hj : gsl ops j = some t) (ht : Nat.blt t N = true) (hv : σ t = .bool want)
    (hy : ∀ w, S w → (execOp (ev N σ) ⟨some d, op, ty, pos, af, some (j, want)⟩).run P w = .ok (.value v) w) (hS : S w)
    (k : wph P N ops Q S fuel (listed.setIfInBounds i true) (upd σ d v) w) : wph P N ops Q S (fuel + 1) listed σ w := by
  simp only [freeReady, Bool.and_eq_true] at hf
  refine wpAnyH_take hi hf.1.1 hf.1.2 hf.2 (fun c a w => lift_panic c _ _ w) (.inl ⟨by rw [wanted_some rfl hj ht hv]; cases want <;> rfl, fun w hS => ?_⟩) hS ?_ (v := v)
  · rw [act_eval]; exact hy w hS
  · rw [act_put]; exact k
theorem hsk (i : Nat) {j t : Nat} {want b : Bool} (hi : ops[i]? = some ⟨some d, op, ty, pos, af, some (j, want)⟩) (hf : freeReady ops listed i = true)
    (hj : gsl ops j = some t) (ht : Nat.blt t N = true) (hv : σ t = .bool b) (hb : (b == want) = false) (hS : S w)
    (k : wph P N ops Q S fuel (listed.setIfInBounds i true) (upd σ d undef) w) : wph P N ops Q S (fuel + 1) listed σ w := by
  simp only [freeReady, Bool.and_eq_true] at hf
  refine wpAnyH_take hi hf.1.1 hf.1.2 hf.2 (fun c a w => lift_panic c _ _ w) (.inr ⟨by rw [wanted_some rfl hj ht hv, hb], rfl⟩) hS ?_ (v := undef)
  rw [act_put]; exact k
theorem hsku (i : Nat) {j t : Nat} {want : Bool} (hi : ops[i]? = some ⟨some d, op, ty, pos, af, some (j, want)⟩) (hf : freeReady ops listed i = true)
    (hj : gsl ops j = some t) (ht : Nat.blt t N = true) (hv : σ t = undef) (hS : S w)
    (k : wph P N ops Q S fuel (listed.setIfInBounds i true) (upd σ d undef) w) : wph P N ops Q S (fuel + 1) listed σ w := by
  simp only [freeReady, Bool.and_eq_true] at hf
  refine wpAnyH_take hi hf.1.1 hf.1.2 hf.2 (fun c a w => lift_panic c _ _ w) (.inr ⟨wanted_undef rfl hj ht hv, rfl⟩) hS ?_ (v := undef)
  rw [act_put]; exact k
def onlyReady (ops : Array Oper) (listed : Array Bool) (i : Nat) : Bool := (Region.ready .any ops listed) == [i]
theorem he (i : Nat) (hi : ops[i]? = some ⟨d', op, ty, pos, af, none⟩) (hr : onlyReady ops listed i = true)
    (h : wpo P N ⟨d', op, ty, pos, af, none⟩ σ w (fun σ w => S w ∧ wph P N ops Q S fuel (listed.setIfInBounds i true) σ w)) : wph P N ops Q S (fuel + 1) listed σ w := by
  refine wpAnyH_all (rs := [i]) (by simpa [onlyReady] using hr) (by simp) ?_
  intro k hk
  obtain rfl : k = i := by simpa using hk
  unfold wpOp
  simp only [hi]
  rw [if_pos (wanted_none _ rfl _)]
  exact .inl (wpo_out h (fun _ _ hk => hk))
theorem heg (i : Nat) {j t : Nat} {want : Bool} (hi : ops[i]? = some ⟨d', op, ty, pos, af, some (j, want)⟩) (hr : onlyReady ops listed i = true)
    (hj : gsl ops j = some t) (ht : Nat.blt t N = true) (hv : σ t = .bool want)
    (h : wpo P N ⟨d', op, ty, pos, af, some (j, want)⟩ σ w (fun σ w => S w ∧ wph P N ops Q S fuel (listed.setIfInBounds i true) σ w)) : wph P N ops Q S (fuel + 1) listed σ w := by
  refine wpAnyH_all (rs := [i]) (by simpa [onlyReady] using hr) (by simp) ?_
  intro k hk
  obtain rfl : k = i := by simpa using hk
  unfold wpOp
  simp only [hi]
  rw [if_pos (by rw [wanted_some rfl hj ht hv]; cases want <;> rfl)]
  exact .inl (wpo_out h (fun _ _ hk => hk))
/-- two operations that turn the world may come next -/
theorem he2 (i j : Nat) {d1 : Option Nat} {op1 : Op} {ty1 : TypeId} {pos1 : String} {af1 : Array Edge} (hi : ops[i]? = some ⟨d', op, ty, pos, af, none⟩) (hj : ops[j]? = some ⟨d1, op1, ty1, pos1, af1, none⟩) (hr : ((Region.ready .any ops listed) == [i, j]) = true)
    (h : wpo P N ⟨d', op, ty, pos, af, none⟩ σ w (fun σ w => S w ∧ wph P N ops Q S fuel (listed.setIfInBounds i true) σ w))
    (h1 : wpo P N ⟨d1, op1, ty1, pos1, af1, none⟩ σ w (fun σ w => S w ∧ wph P N ops Q S fuel (listed.setIfInBounds j true) σ w)) : wph P N ops Q S (fuel + 1) listed σ w := by
  refine wpAnyH_all (rs := [i, j]) (by simpa using hr) (by simp) ?_
  intro k hk
  simp only [List.mem_cons, List.not_mem_nil, or_false] at hk
  rcases hk with rfl | rfl
  · unfold wpOp
    simp only [hi]
    rw [if_pos (wanted_none _ rfl _)]
    exact .inl (wpo_out h (fun _ _ hk => hk))
  · unfold wpOp
    simp only [hj]
    rw [if_pos (wanted_none _ rfl _)]
    exact .inl (wpo_out h1 (fun _ _ hk => hk))
theorem hn (hr : (Region.ready .any ops listed).isEmpty = true) (h : Q .normal σ w) : wph P N ops Q S fuel listed σ w :=
  wpAnyH_done (by simpa using hr) ⟨σ, rfl, h⟩ fuel
theorem hgs {t : Nat} {q : Prop} [Decidable q] (h : σ t = .bool (decide q)) (ht : q → wph P N ops Q S fuel listed (upd σ t (.bool true)) w) (hf : ¬q → wph P N ops Q S fuel listed (upd σ t (.bool false)) w) : wph P N ops Q S fuel listed σ w := by
  by_cases hq : q
  · have := ht hq; rwa [upd_fix (by rw [h, decide_eq_true hq])] at this
  · have := hf hq; rwa [upd_fix (by rw [h, decide_eq_false hq])] at this
theorem hgb {t : Nat} {b : Bool} (h : σ t = .bool b) (ht : b = true → wph P N ops Q S fuel listed (upd σ t (.bool true)) w) (hf : b = false → wph P N ops Q S fuel listed (upd σ t (.bool false)) w) : wph P N ops Q S fuel listed σ w := by
  cases b
  · have := hf rfl; rwa [upd_fix h] at this
  · have := ht rfl; rwa [upd_fix h] at this
end

/-! calls -/
/-- a call that returns: what is known of its value and of the world behind it -/
def Ret (P : Program) (f : FuncId) (args : Array Value) (w : World) (R : Value → World → Prop) : Prop :=
  Calls P f args w fun e w' => ∃ v, e = .returned v ∧ R v w'
theorem Ret.mono {P : Program} {f : FuncId} {args : Array Value} {w : World} {R R' : Value → World → Prop} (h : Ret P f args w R) (hr : ∀ v w', R v w' → R' v w') : Ret P f args w R' :=
  Calls.mono h fun _ _ ⟨v, he, hR⟩ => ⟨v, he, hr _ _ hR⟩
def sig0 (args : List Value) : Nat → Value := fun i => args.getD i undef
def fin (P : Program) (fn : Func) (N : Nat) (R : Value → World → Prop) : Exit → (Nat → Value) → World → Prop
  | .normal, σ, w => ∃ v, (results fn (act N σ).tmps).run P w = .ok v w ∧ R v w
  | .ret, σ, w => ∃ v, (results fn (act N σ).tmps).run P w = .ok v w ∧ R v w
  | _, _, _ => False
theorem enter {P : Program} {f N : Nat} {fn : Func} {c : Code} {args : List Value} {w : World} {R : Value → World → Prop} (hf : P.funcs[f]? = some fn) (hb : fn.body = some c)
    (hN : fn.ntmps = N) (hn : Nat.ble args.length N = true) (h : wpc P N c (fin P fn N R) (sig0 args) w) : Ret P f args.toArray w R := by
  subst hN
  refine calls_of_wp hf hb ?_
  have ha : ({ tmps := args.toArray ++ Array.replicate (fn.ntmps - args.toArray.size) undef, defers := [] } : Act) = act fn.ntmps (sig0 args) := by
    have hn' : args.length ≤ fn.ntmps := by simpa using hn
    refine act_ext rfl fun i => ?_
    rw [act_get]
    simp only [sig0, List.getD_eq_getElem?_getD, List.size_toArray]
    by_cases h1 : i < args.length
    · rw [Array.getElem?_append_left (by simpa using h1), if_pos (by omega)]
      simp [h1]
    · rw [Array.getElem?_append_right (by simpa using h1)]
      simp only [List.size_toArray, Array.getElem?_replicate]
      by_cases h2 : i < fn.ntmps
      · rw [if_pos (by omega), if_pos h2, List.getElem?_eq_none (by omega)]; rfl
      · rw [if_neg (by omega), if_neg h2]
  rw [ha]
  refine Code.wp_mono ?_ h
  intro e a w hl
  cases e with
  | normal => obtain ⟨σ, rfl, v, hr, hR⟩ := hl; exact ⟨rfl, v, hr, v, rfl, hR⟩
  | ret => obtain ⟨σ, rfl, v, hr, hR⟩ := hl; exact ⟨rfl, v, hr, v, rfl, hR⟩
  | exit id => obtain ⟨σ, rfl, hq⟩ := hl; exact hq.elim
  | goto l => obtain ⟨σ, rfl, hq⟩ := hl; exact hq.elim
  | panic c => exact hl.elim
  | outgrown => exact hl.elim
section
variable {P : Program} {N : Nat} {σ : Nat → Value} {w : World} {fn : Func} {R : Value → World → Prop}
theorem tmps_getD (t : Nat) : (act N σ).tmps.getD t undef = ev N σ (.tmp t) := by
  rw [← act_eval]; rfl
theorem f0 (h : fn.results = #[]) (hR : R (.tuple #[]) w) : fin P fn N R .normal σ w := ⟨_, results_none h _ _ _, hR⟩
theorem f0r (h : fn.results = #[]) (hR : R (.tuple #[]) w) : fin P fn N R .ret σ w := ⟨_, results_none h _ _ _, hR⟩
theorem f1 {t : Nat} {v : Value} (h : fn.results = #[.tmp t]) (hv : ev N σ (.tmp t) = v) (hR : R v w) : fin P fn N R .ret σ w :=
  ⟨v, by rw [results_tmp h, tmps_getD, hv], hR⟩
theorem f2 {t u : Nat} {v v' : Value} (h : fn.results = #[.tmp t, .tmp u]) (hv : ev N σ (.tmp t) = v) (hu : ev N σ (.tmp u) = v') (hR : R (.tuple #[v, v']) w) : fin P fn N R .ret σ w :=
  ⟨_, by rw [results_tmp2 h, tmps_getD, tmps_getD, hv, hu], hR⟩
theorem f3 {t u s : Nat} {v v' v'' : Value} (h : fn.results = #[.tmp t, .tmp u, .tmp s]) (hv : ev N σ (.tmp t) = v) (hu : ev N σ (.tmp u) = v') (hs : ev N σ (.tmp s) = v'') (hR : R (.tuple #[v, v', v'']) w) : fin P fn N R .ret σ w := by
  refine ⟨_, ?_, hR⟩
  simp only [results, h]
  subst hv hu hs
  simp only [← tmps_getD]
  simp [List.mapM_toArray]
theorem f4 {t u s r : Nat} {v v' v'' v3 : Value} (h : fn.results = #[.tmp t, .tmp u, .tmp s, .tmp r]) (hv : ev N σ (.tmp t) = v) (hu : ev N σ (.tmp u) = v') (hs : ev N σ (.tmp s) = v'') (hr : ev N σ (.tmp r) = v3) (hR : R (.tuple #[v, v', v'', v3]) w) : fin P fn N R .ret σ w := by
  refine ⟨_, ?_, hR⟩
  simp only [results, h]
  subst hv hu hs hr
  simp only [← tmps_getD]
  simp [List.mapM_toArray]
end
attribute [irreducible] wpl wpc wph wpo
end Go.Hb

/-
  One lemma for each kind of operation, over any program: what it gives in a world. No conditions but those that each lemma names.
-/
namespace Go.Hb
open Go.RowKit

/-! heaps -/
def cel (h : Array Obj) (b off : Nat) : Option Value :=
  match h[b]? with
  | some (.cells c _ _) => c[off]?
  | _ => none
theorem cell_cel (w : World) (b off : Nat) : w.cell? ⟨b, off, none⟩ = cel w.heap b off := by
  unfold World.cell? cel
  simp only
  split <;> simp_all
theorem cel_of {h : Array Obj} {b off : Nat} {c : Array Value} {t : TypeId} {f : Nat × Nat} (hb : h[b]? = some (.cells c t f)) : cel h b off = c[off]? := by
  simp only [cel, hb]
theorem cel_lt {h : Array Obj} {b off : Nat} {v : Value} (hc : cel h b off = some v) : b < h.size := by
  unfold cel at hc
  rcases Nat.lt_or_ge b h.size with hlt | hge
  · exact hlt
  · simp [Array.getElem?_eq_none hge] at hc

/-- the world behind is as before but for new blocks and the blocks of F -/
structure Md (F : Nat → Prop) (w w' : World) : Prop where
  os : w'.os = w.os
  output : w'.output = w.output
  size : w.heap.size ≤ w'.heap.size
  keep : ∀ k, k < w.heap.size → ¬ F k → w'.heap[k]? = w.heap[k]?
/-- nothing that was there has turned -/
abbrev Wk (w w' : World) : Prop := Md (fun _ => False) w w'
theorem Md.refl (F : Nat → Prop) (w : World) : Md F w w := ⟨rfl, rfl, Nat.le_refl _, fun _ _ _ => rfl⟩
theorem Md.drew {F : Nat → Prop} {w w' : World} (h : Md F w w') : Md F w w'.drew := ⟨h.os, h.output, h.size, h.keep⟩
theorem Md.mono {F G : Nat → Prop} {w w' : World} (h : Md F w w') (hfg : ∀ k, k < w.heap.size → F k → G k) : Md G w w' :=
  ⟨h.os, h.output, h.size, fun k hk hg => h.keep k hk (fun hf => hg (hfg k hk hf))⟩
theorem Md.trans {F : Nat → Prop} {a b c : World} (h : Md F a b) (h' : Md F b c) : Md F a c :=
  ⟨h'.os.trans h.os, h'.output.trans h.output, Nat.le_trans h.size h'.size, fun k hk hf => (h'.keep k (Nat.lt_of_lt_of_le hk h.size) hf).trans (h.keep k hk hf)⟩
/-- two steps of which the second may write blocks that are new, or F's -/
theorem Md.trans' {F G : Nat → Prop} {a b c : World} (h : Md F a b) (h' : Md G b c) (hg : ∀ k, k < a.heap.size → G k → F k) : Md F a c :=
  ⟨h'.os.trans h.os, h'.output.trans h.output, Nat.le_trans h.size h'.size,
    fun k hk hf => (h'.keep k (Nat.lt_of_lt_of_le hk h.size) (fun x => hf (hg k hk x))).trans (h.keep k hk hf)⟩
theorem Md.blk {F : Nat → Prop} {w w' : World} (h : Md F w w') {k : Nat} {o : Obj} (hk : w.heap[k]? = some o) (hf : ¬ F k) : w'.heap[k]? = some o :=
  (h.keep k (Array.getElem?_eq_some_iff.1 hk).1 hf).trans hk
theorem Md.cel {F : Nat → Prop} {w w' : World} (h : Md F w w') {b off : Nat} {v : Value} (hc : Hb.cel w.heap b off = some v) (hf : ¬ F b) : Hb.cel w'.heap b off = some v := by
  have := h.keep b (cel_lt hc) hf
  unfold Hb.cel at *
  rw [this]; exact hc
theorem Wk.cel {w w' : World} (h : Wk w w') {b off : Nat} {v : Value} (hc : Hb.cel w.heap b off = some v) : Hb.cel w'.heap b off = some v := Md.cel h hc id
theorem Wk.blk {w w' : World} (h : Wk w w') {k : Nat} {o : Obj} (hk : w.heap[k]? = some o) : w'.heap[k]? = some o := Md.blk h hk id
theorem Md.lt {F : Nat → Prop} {w w' : World} (h : Md F w w') {k : Nat} (hk : k < w.heap.size) : k < w'.heap.size := Nat.lt_of_lt_of_le hk h.size
/-- a new block: the next number -/
structure Nw (w w' : World) : Prop where
  md : Wk w w'
  size : w'.heap.size = w.heap.size + 1
theorem nw_alloc (w : World) (o : Obj) : Nw w { w with heap := w.heap.push o } :=
  ⟨⟨rfl, rfl, by simp, fun k hk _ => by show (w.heap.push o)[k]? = _; rw [Array.getElem?_push, if_neg (by omega)]⟩, by simp⟩

/-! closed facts on a program's types, each one Bool or number -/
/-- the number of cells of a struct's or an array's type -/
def aggN (P : Program) (t : TypeId) : Option (Option Nat) :=
  match P.underlying t with
  | some (.struct _) | some (.array _ _) => ((P.info? t).map (·.size)).map some
  | some _ => some none
  | none => none
def fieldOff (P : Program) (s f : Nat) : Option Nat :=
  match P.underlying s with
  | some (.struct fs) => match fs[f]? with
    | some fd => match P.info? fd.type with
      | some i => if i.size = 0 then none else some fd.offset
      | none => none
    | none => none
  | _ => none
def elemSize (P : Program) (t : TypeId) : Option Nat :=
  match P.underlying t with
  | some (.slice e) => (P.info? e).map (·.size)
  | _ => none

section
variable {P : Program} {N : Nat} {σ : Nat → Value} {w : World} {dst : Option Nat} {ty : TypeId} {pos : String} {af : Array Edge} {g : Option (Nat × Bool)} {x y z : Operand}

theorem run_under {t : TypeId} {d : TypeDesc} (h : P.underlying t = some d) (w : World) : (underlying t).run P w = .ok d w := by
  simp [underlying, h]
theorem run_info {t : TypeId} {i : TypeInfo} (h : P.info? t = some i) (w : World) : (typeInfo t).run P w = .ok i w := by
  simp [typeInfo, h]

theorem mv : (execOp (ev N σ) ⟨dst, .move x, ty, pos, af, g⟩).run P w = .ok (.value (ev N σ x)) w := rfl
theorem asg : (execOp (ev N σ) ⟨dst, .assign x, ty, pos, af, g⟩).run P w = .ok (.value (ev N σ x)) w := rfl
theorem mvt (v : Value) (h : ev N σ x = v) : (execOp (ev N σ) ⟨dst, .move x, ty, pos, af, g⟩).run P w = .ok (.value v) w := by rw [← h]; rfl
theorem ast (v : Value) (h : ev N σ x = v) : (execOp (ev N σ) ⟨dst, .assign x, ty, pos, af, g⟩).run P w = .ok (.value v) w := by rw [← h]; rfl
theorem pkt {c : Operand} (hc : ev N σ c = .bool true) : (execOp (ev N σ) ⟨dst, .pick c x y, ty, pos, af, g⟩).run P w = .ok (.value (ev N σ x)) w := by
  simp [execOp, hc, asBool]
theorem pkf {c : Operand} (hc : ev N σ c = .bool false) : (execOp (ev N σ) ⟨dst, .pick c x y, ty, pos, af, g⟩).run P w = .ok (.value (ev N σ y)) w := by
  simp [execOp, hc, asBool]
theorem nc {a : Addr} (hx : ev N σ x = .pointer (some a)) : (execOp (ev N σ) ⟨dst, .nilCheck x, ty, pos, af, g⟩).run P w = .ok (.value (.pointer (some a))) w := by
  simp [execOp, hx]
theorem xt {i : Nat} {vs : Array Value} {v : Value} (hx : ev N σ x = .tuple vs) (hv : vs[i]? = some v) : (execOp (ev N σ) ⟨dst, .extract x i, ty, pos, af, g⟩).run P w = .ok (.value v) w := by
  simp [execOp, hx, Instr.extract, hv]
theorem fa {s f n b off : Nat} (hf : fieldOff P s f = some n) (hx : ev N σ x = .pointer (some ⟨b, off, none⟩)) :
    (execOp (ev N σ) ⟨dst, .fieldAddr s x f, ty, pos, af, g⟩).run P w = .ok (.value (.pointer (some ⟨b, off + n, none⟩))) w := by
  unfold fieldOff at hf
  split at hf
  · rename_i fs hu
    split at hf
    · rename_i fd hfd
      split at hf
      · rename_i i hi
        split at hf
        · cases hf
        · rename_i hz
          cases hf
          have hadd : (⟨b, off, none⟩ : Addr).add fd.offset = ⟨b, off + fd.offset, none⟩ := by unfold Addr.add; split <;> simp_all
          simp [execOp, Instr.fieldAt, run_under hu, hfd, hx, Instr.sureAddr, fieldPlace, sizeOf, run_info hi, hz, hadd]
      · cases hf
    · cases hf
  · cases hf
/-- a load of one cell -/
theorem ld {t b off : Nat} {v : Value} (hu : aggN P t = some none) (hx : ev N σ x = .pointer (some ⟨b, off, none⟩)) (hc : cel w.heap b off = some v) :
    (execOp (ev N σ) ⟨dst, .load t x, ty, pos, af, g⟩).run P w = .ok (.value v) w := by
  have hc' : w.cell? ⟨b, off, none⟩ = some v := by rw [cell_cel]; exact hc
  unfold aggN at hu
  cases hd : P.underlying t with
  | none => rw [hd] at hu; cases hu
  | some d =>
    rw [hd] at hu
    cases d <;> first
      | (simp only [Option.map_eq_some_iff] at hu; obtain ⟨_, _, h⟩ := hu; cases h; done)
      | simp [execOp, Instr.loadAt, hx, Instr.sureAddr, loadVar, isAgg, run_under hd, run_load, hc']
theorem addr_add (b off j : Nat) : (⟨b, off, none⟩ : Addr).add j = ⟨b, off + j, none⟩ := by
  unfold Addr.add; split <;> simp_all
/-- a load of a struct or an array -/
theorem lda {t n b off : Nat} {cs : List Value} (hu : aggN P t = some (some n)) (hx : ev N σ x = .pointer (some ⟨b, off, none⟩)) (hl : cs.length = n)
    (hc : ∀ j, j < n → cel w.heap b (off + j) = cs[j]?) :
    (execOp (ev N σ) ⟨dst, .load t x, ty, pos, af, g⟩).run P w = .ok (.value (.agg cs.toArray)) w := by
  have hcells : (loadCells ⟨b, off, none⟩ n).run P w = .ok cs.toArray w := by
    subst hl
    refine run_loadCells_list (P := P) w ⟨b, off, none⟩ cs fun j v hj => ?_
    rw [addr_add, cell_cel]
    exact (hc j (List.getElem?_eq_some_iff.1 hj).1).trans hj
  unfold aggN at hu
  cases hd : P.underlying t with
  | none => rw [hd] at hu; cases hu
  | some d =>
    rw [hd] at hu
    cases hi : P.info? t with
    | none => simp [Program.underlying, hi] at hd
    | some i =>
      rw [hi] at hu
      cases d <;> first
        | (cases hu; done)
        | (simp only [Option.map_some, Option.some.injEq] at hu; subst hu
           simp [execOp, Instr.loadAt, hx, Instr.sureAddr, loadVar, isAgg, run_under hd, sizeOf, run_info hi, hcells])
/-- the address of a slice's element -/
theorem ia {t n b off len cap : Nat} {k : IntKind} {i : Int} (he : elemSize P t = some n) (hx : ev N σ x = .slice (some ⟨b, off, none⟩) len cap) (hy : ev N σ y = .int k i) (h0 : 0 ≤ i ∧ i < len) :
    (execOp (ev N σ) ⟨dst, .indexAddr t x y, ty, pos, af, g⟩).run P w = .ok (.value (.pointer (some ⟨b, off + i.toNat * n, none⟩))) w := by
  unfold elemSize at he
  cases hd : P.underlying t with
  | none => rw [hd] at he; cases he
  | some d =>
    rw [hd] at he
    cases d <;> first | (cases he; done) | skip
    rename_i e
    cases hi : P.info? e with
    | none => simp [hi] at he
    | some j =>
      simp only [hi, Option.map_some, Option.some.injEq] at he
      subst he
      simp [execOp, Instr.indexAt, hx, hy, asIntOf, run_under hd, h0.1, h0.2, sizeOf, run_info hi, addr_add]

/-- where a slice of a slice begins -/
def shf (a : Option Addr) (cap l n : Nat) : Option Addr := if cap = l then a else a.map (·.add (l * n))
theorem sll_run {t n len cap : Nat} {a : Option Addr} {lo hi : Option Value} {l h : Nat} (he : elemSize P t = some n) (hx : ev N σ x = .slice a len cap)
    (hb : (Instr.sliceBounds true len cap lo hi none).run P w = .ok (l, h, cap) w) (y' z' : Option Operand) (hy : y'.map (ev N σ) = lo) (hz : z'.map (ev N σ) = hi) :
    (execOp (ev N σ) ⟨dst, .slice t x y' z' none, ty, pos, af, g⟩).run P w = .ok (.value (.slice (shf a cap l n) (h - l) (cap - l))) w := by
  unfold elemSize at he
  cases hd : P.underlying t with
  | none => rw [hd] at he; cases he
  | some d =>
    rw [hd] at he
    cases d <;> first | (cases he; done) | skip
    rename_i e
    cases hi' : P.info? e with
    | none => simp [hi'] at he
    | some j =>
      simp only [hi', Option.map_some, Option.some.injEq] at he
      subst he
      simp [execOp, Instr.sliceAt, Instr.slice, hx, hy, hz, run_under hd, hb, sizeOf, run_info hi', shf]
theorem sllh {t n len cap : Nat} {a : Option Addr} {k : IntKind} {i : Int} (he : elemSize P t = some n) (hx : ev N σ x = .slice a len cap) (hz : ev N σ z = .int k i) (h0 : 0 ≤ i ∧ i ≤ cap) :
    (execOp (ev N σ) ⟨dst, .slice t x none (some z) none, ty, pos, af, g⟩).run P w = .ok (.value (.slice a i.toNat cap)) w := by
  have := sll_run (dst := dst) (ty := ty) (pos := pos) (af := af) (g := g) (w := w) (lo := none) (hi := some (.int k i)) (l := 0) (h := i.toNat) he hx
    (by simp [Instr.sliceBounds, Instr.sliceBound, asIntOf, h0.1, h0.2]) none (some z) rfl (by simp [hz])
  rw [this]
  have hs : shf a cap 0 n = a := by
    unfold shf; split
    · rfl
    · cases a <;> simp [Addr.add]
  rw [hs]; rfl
theorem slll {t n len cap : Nat} {a : Option Addr} {k : IntKind} {i : Int} (he : elemSize P t = some n) (hx : ev N σ x = .slice a len cap) (hy : ev N σ y = .int k i) (h0 : 0 ≤ i ∧ i ≤ len) :
    (execOp (ev N σ) ⟨dst, .slice t x (some y) none none, ty, pos, af, g⟩).run P w = .ok (.value (.slice (shf a cap i.toNat n) (len - i.toNat) (cap - i.toNat))) w :=
  sll_run (lo := some (.int k i)) (hi := none) he hx
    (by simp [Instr.sliceBounds, Instr.sliceBound, asIntOf, h0.1, h0.2]) (some y) none (by simp [hy]) rfl
theorem sll {t n len cap : Nat} {a : Option Addr} {k k' : IntKind} {i j : Int} (he : elemSize P t = some n) (hx : ev N σ x = .slice a len cap) (hy : ev N σ y = .int k i) (hz : ev N σ z = .int k' j) (h0 : 0 ≤ i ∧ i ≤ j ∧ j ≤ cap) :
    (execOp (ev N σ) ⟨dst, .slice t x (some y) (some z) none, ty, pos, af, g⟩).run P w = .ok (.value (.slice (shf a cap i.toNat n) (j.toNat - i.toNat) (cap - i.toNat))) w := by
  have h1 : 0 ≤ j := by omega
  have h2 : i ≤ (j.toNat : Int) := by omega
  refine sll_run (lo := some (.int k i)) (hi := some (.int k' j)) he hx ?_ (some y) (some z) (by simp [hy]) (by simp [hz])
  simp only [Instr.sliceBounds, Instr.sliceBound, asIntOf, Sem.run_bind, Sem.run_pure, Result.andThen_ok, Sem.run_ite, h0.1, h1, h0.2.2, h2, and_self, if_true]

/-! numbers -/
theorem wi64 {n : Int} (h : -9223372036854775808 ≤ n ∧ n ≤ 9223372036854775807) : IntKind.i64.wrap n = n := IntWalk.i64_in n h
theorem wi32 {n : Int} (h : -2147483648 ≤ n ∧ n ≤ 2147483647) : IntKind.i32.wrap n = n := IntWalk.i32_in n h
theorem wu8 {n : Int} (h : 0 ≤ n ∧ n ≤ 255) : IntKind.u8.wrap n = n := IntWalk.u8_in n h
theorem wu32 {n : Int} (h : 0 ≤ n ∧ n ≤ 4294967295) : IntKind.u32.wrap n = n := IntWalk.u32_in n h
theorem wu64 {n : Int} (h : 0 ≤ n ∧ n ≤ 18446744073709551615) : IntKind.u64.wrap n = n := IntWalk.u64_in n h
theorem iv {k : IntKind} {a b : Int} (h : a = b) : Value.int k a = Value.int k b := by rw [h]
theorem ad {t t' : TypeId} {k : IntKind} {a b : Int} (hx : ev N σ x = .int k a) (hy : ev N σ y = .int k b) (hr : k.wrap (a + b) = a + b) :
    (execOp (ev N σ) ⟨dst, .binOp .add t x y t', ty, pos, af, g⟩).run P w = .ok (.value (.int k (a + b))) w := by
  simp [execOp, hx, hy, eqGuard, binOp, Op.intArith, hr]
theorem adv {t t' : TypeId} {k : IntKind} {a b : Int} (v : Int) (hx : ev N σ x = .int k a) (hy : ev N σ y = .int k b) (hr : k.wrap (a + b) = v) :
    (execOp (ev N σ) ⟨dst, .binOp .add t x y t', ty, pos, af, g⟩).run P w = .ok (.value (.int k v)) w := by
  subst hr; simp [execOp, hx, hy, eqGuard, binOp, Op.intArith]
theorem sbv {t t' : TypeId} {k : IntKind} {a b : Int} (v : Int) (hx : ev N σ x = .int k a) (hy : ev N σ y = .int k b) (hr : k.wrap (a - b) = v) :
    (execOp (ev N σ) ⟨dst, .binOp .sub t x y t', ty, pos, af, g⟩).run P w = .ok (.value (.int k v)) w := by
  subst hr; simp [execOp, hx, hy, eqGuard, binOp, Op.intArith]
theorem mlv {t t' : TypeId} {k : IntKind} {a b : Int} (v : Int) (hx : ev N σ x = .int k a) (hy : ev N σ y = .int k b) (hr : k.wrap (a * b) = v) :
    (execOp (ev N σ) ⟨dst, .binOp .mul t x y t', ty, pos, af, g⟩).run P w = .ok (.value (.int k v)) w := by
  subst hr; simp [execOp, hx, hy, eqGuard, binOp, Op.intArith]
/-- a number of type int that is reckoned is a natural number's -/
theorem w64n {a : Int} {n : Nat} (h : a = n) (hn : n ≤ 9223372036854775807) : IntKind.i64.wrap a = (n : Int) := by rw [h]; exact wi64 (by omega)
theorem bv {p q : Prop} [Decidable p] [Decidable q] (h : p ↔ q) : Value.bool (decide p) = Value.bool (decide q) := by rw [decide_eq_decide.2 h]
theorem bT {p : Prop} [Decidable p] (h : p) : Value.bool true = Value.bool (decide p) := by rw [decide_eq_true h]
theorem bF {p : Prop} [Decidable p] (h : ¬p) : Value.bool false = Value.bool (decide p) := by rw [decide_eq_false h]
theorem sb {t t' : TypeId} {k : IntKind} {a b : Int} (hx : ev N σ x = .int k a) (hy : ev N σ y = .int k b) (hr : k.wrap (a - b) = a - b) :
    (execOp (ev N σ) ⟨dst, .binOp .sub t x y t', ty, pos, af, g⟩).run P w = .ok (.value (.int k (a - b))) w := by
  simp [execOp, hx, hy, eqGuard, binOp, Op.intArith, hr]
theorem ml {t t' : TypeId} {k : IntKind} {a b : Int} (hx : ev N σ x = .int k a) (hy : ev N σ y = .int k b) (hr : k.wrap (a * b) = a * b) :
    (execOp (ev N σ) ⟨dst, .binOp .mul t x y t', ty, pos, af, g⟩).run P w = .ok (.value (.int k (a * b))) w := by
  simp [execOp, hx, hy, eqGuard, binOp, Op.intArith, hr]
theorem qu {t t' : TypeId} {k : IntKind} {a b : Int} (hx : ev N σ x = .int k a) (hy : ev N σ y = .int k b) (h0 : 0 ≤ a ∧ 0 < b) (hr : k.wrap (a / b) = a / b) :
    (execOp (ev N σ) ⟨dst, .binOp .quo t x y t', ty, pos, af, g⟩).run P w = .ok (.value (.int k (a / b))) w := by
  have : a.tdiv b = a / b := Int.tdiv_eq_ediv_of_nonneg h0.1
  simp [execOp, hx, hy, eqGuard, binOp, Op.intDiv, show b ≠ 0 from by omega, this, hr]
theorem quv {t t' : TypeId} {k : IntKind} {a b : Int} (v : Int) (hx : ev N σ x = .int k a) (hy : ev N σ y = .int k b) (h0 : 0 ≤ a ∧ 0 < b) (hr : k.wrap (a / b) = v) :
    (execOp (ev N σ) ⟨dst, .binOp .quo t x y t', ty, pos, af, g⟩).run P w = .ok (.value (.int k v)) w := by
  have : a.tdiv b = a / b := Int.tdiv_eq_ediv_of_nonneg h0.1
  subst hr; simp [execOp, hx, hy, eqGuard, binOp, Op.intDiv, show b ≠ 0 from by omega, this]
theorem rm {t t' : TypeId} {k : IntKind} {a b : Int} (hx : ev N σ x = .int k a) (hy : ev N σ y = .int k b) (h0 : 0 ≤ a ∧ 0 < b) :
    (execOp (ev N σ) ⟨dst, .binOp .rem t x y t', ty, pos, af, g⟩).run P w = .ok (.value (.int k (a % b))) w := by
  have : a.tmod b = a % b := Int.tmod_eq_emod_of_nonneg h0.1
  simp [execOp, hx, hy, eqGuard, binOp, Op.intDiv, show b ≠ 0 from by omega, this]
theorem lt {t t' : TypeId} {k : IntKind} {a b : Int} (hx : ev N σ x = .int k a) (hy : ev N σ y = .int k b) :
    (execOp (ev N σ) ⟨dst, .binOp .lss t x y t', ty, pos, af, g⟩).run P w = .ok (.value (.bool (decide (a < b)))) w := by
  simp [execOp, hx, hy, eqGuard, binOp, Op.intCmp]
theorem le {t t' : TypeId} {k : IntKind} {a b : Int} (hx : ev N σ x = .int k a) (hy : ev N σ y = .int k b) :
    (execOp (ev N σ) ⟨dst, .binOp .leq t x y t', ty, pos, af, g⟩).run P w = .ok (.value (.bool (decide (a ≤ b)))) w := by
  simp [execOp, hx, hy, eqGuard, binOp, Op.intCmp]
theorem gt {t t' : TypeId} {k : IntKind} {a b : Int} (hx : ev N σ x = .int k a) (hy : ev N σ y = .int k b) :
    (execOp (ev N σ) ⟨dst, .binOp .gtr t x y t', ty, pos, af, g⟩).run P w = .ok (.value (.bool (decide (b < a)))) w := by
  simp [execOp, hx, hy, eqGuard, binOp, Op.intCmp]
theorem ge {t t' : TypeId} {k : IntKind} {a b : Int} (hx : ev N σ x = .int k a) (hy : ev N σ y = .int k b) :
    (execOp (ev N σ) ⟨dst, .binOp .geq t x y t', ty, pos, af, g⟩).run P w = .ok (.value (.bool (decide (b ≤ a)))) w := by
  simp [execOp, hx, hy, eqGuard, binOp, Op.intCmp]
theorem eqi {t t' : TypeId} {k : IntKind} {a b : Int} (hx : ev N σ x = .int k a) (hy : ev N σ y = .int k b) :
    (execOp (ev N σ) ⟨dst, .binOp .eql t x y t', ty, pos, af, g⟩).run P w = .ok (.value (.bool (decide (a = b)))) w := by
  simp [execOp, hx, hy, eqGuard, binOp, Op.intCmp]
  rw [Bool.eq_iff_iff]; simp
theorem nei {t t' : TypeId} {k : IntKind} {a b : Int} (hx : ev N σ x = .int k a) (hy : ev N σ y = .int k b) :
    (execOp (ev N σ) ⟨dst, .binOp .neq t x y t', ty, pos, af, g⟩).run P w = .ok (.value (.bool (decide (a ≠ b)))) w := by
  simp [execOp, hx, hy, eqGuard, binOp, Op.intCmp]
  rw [Bool.eq_iff_iff]; simp
theorem no {t : TypeId} {b : Bool} (hx : ev N σ x = .bool b) : (execOp (ev N σ) ⟨dst, .unOp .not t x, ty, pos, af, g⟩).run P w = .ok (.value (.bool (!b))) w := by
  simp [execOp, hx, Op.unary]
theorem bor {t t' : TypeId} {k : IntKind} {a b v : Int} (hx : ev N σ x = .int k a) (hy : ev N σ y = .int k b) (hv : k.wrap (BitVec.ofInt k.bits a ||| BitVec.ofInt k.bits b).toNat = v) :
    (execOp (ev N σ) ⟨dst, .binOp .or t x y t', ty, pos, af, g⟩).run P w = .ok (.value (.int k v)) w := by
  subst hv; simp [execOp, hx, hy, eqGuard, binOp, Op.intBits]
theorem band {t t' : TypeId} {k : IntKind} {a b v : Int} (hx : ev N σ x = .int k a) (hy : ev N σ y = .int k b) (hv : k.wrap (BitVec.ofInt k.bits a &&& BitVec.ofInt k.bits b).toNat = v) :
    (execOp (ev N σ) ⟨dst, .binOp .and t x y t', ty, pos, af, g⟩).run P w = .ok (.value (.int k v)) w := by
  subst hv; simp [execOp, hx, hy, eqGuard, binOp, Op.intBits]
theorem shr {t t' : TypeId} {k yk : IntKind} {a b v : Int} (hx : ev N σ x = .int k a) (hy : ev N σ y = .int yk b) (h0 : 0 ≤ b) (hv : a.fdiv (2 ^ min b.toNat k.bits) = v) :
    (execOp (ev N σ) ⟨dst, .binOp .shr t x y t', ty, pos, af, g⟩).run P w = .ok (.value (.int k v)) w := by
  have : ¬ b < 0 := by omega
  simp [execOp, hx, hy, eqGuard, binOp, Op.shift, this, hv]
theorem shl {t t' : TypeId} {k yk : IntKind} {a b v : Int} (hx : ev N σ x = .int k a) (hy : ev N σ y = .int yk b) (h0 : 0 ≤ b) (hv : k.wrap (a * 2 ^ min b.toNat k.bits) = v) :
    (execOp (ev N σ) ⟨dst, .binOp .shl t x y t', ty, pos, af, g⟩).run P w = .ok (.value (.int k v)) w := by
  have : ¬ b < 0 := by omega
  simp [execOp, hx, hy, eqGuard, binOp, Op.shift, this, hv]
theorem shr7 (m : Nat) : (m : Int).fdiv (2 ^ min (7 : Int).toNat IntKind.u64.bits) = ((m / 128 : Nat) : Int) := by
  show (m : Int).fdiv 128 = _
  rw [Int.fdiv_eq_ediv_of_nonneg _ (by omega)]; rfl
theorem u8_wrap (m : Nat) : IntKind.u8.wrap (m : Int) = ((m % 256 : Nat) : Int) := by
  rw [IntKind.wrap_u8]; omega
theorem or128_fin : ∀ r : Fin 256, IntKind.u8.wrap (BitVec.ofInt IntKind.u8.bits ((r.val : Nat) : Int) ||| BitVec.ofInt IntKind.u8.bits 128).toNat = ((UInt8.ofNat (r.val % 128 + 128)).toNat : Int) := by decide +kernel
theorem or128 (m : Nat) : IntKind.u8.wrap (BitVec.ofInt IntKind.u8.bits ((m % 256 : Nat) : Int) ||| BitVec.ofInt IntKind.u8.bits 128).toNat = ((UInt8.ofNat (m % 128 + 128)).toNat : Int) := by
  have := or128_fin ⟨m % 256, Nat.mod_lt _ (by omega)⟩
  simpa [show m % 256 % 128 = m % 128 from by omega] using this
theorem u8_nat (m : Nat) (h : m < 256) : ((UInt8.ofNat m).toNat : Int) = (m : Int) := by
  simp [Nat.mod_eq_of_lt h]
/-- a number's kind turned -/
theorem cv {t u : TypeId} {k k' : IntKind} {n : Int} (hu : P.underlying u = some (.int k')) (ht : (P.underlying t).isSome = true) (hx : ev N σ x = .int k n) :
    (execOp (ev N σ) ⟨dst, .convert t u x, ty, pos, af, g⟩).run P w = .ok (.value (.int k' (k'.wrap n))) w := by
  obtain ⟨d, hd⟩ := Option.isSome_iff_exists.1 ht
  cases d <;> simp [execOp, hx, convert, run_under hu, run_under hd, Conv.intToInt]
theorem cvw {t u : TypeId} {k k' : IntKind} {n v : Int} (hu : P.underlying u = some (.int k')) (ht : (P.underlying t).isSome = true) (hx : ev N σ x = .int k n) (hr : k'.wrap n = v) :
    (execOp (ev N σ) ⟨dst, .convert t u x, ty, pos, af, g⟩).run P w = .ok (.value (.int k' v)) w := by
  rw [cv hu ht hx, hr]
theorem cvs {t u : TypeId} {k k' : IntKind} {n : Int} (hu : P.underlying u = some (.int k')) (ht : (P.underlying t).isSome = true) (hx : ev N σ x = .int k n) (hr : k'.wrap n = n) :
    (execOp (ev N σ) ⟨dst, .convert t u x, ty, pos, af, g⟩).run P w = .ok (.value (.int k' n)) w := by
  rw [cv hu ht hx, hr]
/-- pointers against nil -/
theorem eqp (d : Nat) {t e : TypeId} {a : Option Addr} (hu : P.underlying t = some (.pointer e)) : (Op.equalIn (d + 1) t (.pointer a) (.pointer none)).run P w = .ok a.isNone w := by
  cases a <;> simp [Op.equalIn, run_under hu]
theorem eqp' {t e : TypeId} {a : Option Addr} (hu : P.underlying t = some (.pointer e)) : (Op.equal t (.pointer a) (.pointer none)).run P w = .ok a.isNone w := eqp 9999 hu
theorem eqpn {t t' e : TypeId} {a : Option Addr} (hu : P.underlying t = some (.pointer e)) (hx : ev N σ x = .pointer a) (hy : ev N σ y = .pointer none) :
    (execOp (ev N σ) ⟨dst, .binOp .eql t x y t', ty, pos, af, g⟩).run P w = .ok (.value (.bool a.isNone)) w := by
  have h : (binOp .eql t (.pointer a) (.pointer none)).run P w = .ok (.bool a.isNone) w := by
    simp only [binOp]; simp [eqp' hu]
  simp [execOp, hx, hy, eqGuard, h]
theorem nepn {t t' e : TypeId} {a : Option Addr} (hu : P.underlying t = some (.pointer e)) (hx : ev N σ x = .pointer a) (hy : ev N σ y = .pointer none) :
    (execOp (ev N σ) ⟨dst, .binOp .neq t x y t', ty, pos, af, g⟩).run P w = .ok (.value (.bool a.isSome)) w := by
  have h : (binOp .neq t (.pointer a) (.pointer none)).run P w = .ok (.bool a.isSome) w := by
    simp only [binOp]; simp [eqp' hu]
  simp [execOp, hx, hy, eqGuard, h]
theorem eqb0 (d : Nat) {t : TypeId} {a b : Bool} (hu : P.underlying t = some .bool) : (Op.equalIn (d + 1) t (.bool a) (.bool b)).run P w = .ok (a == b) w := by
  simp [Op.equalIn, run_under hu]
theorem eqb1 {t : TypeId} {a b : Bool} (hu : P.underlying t = some .bool) : (Op.equal t (.bool a) (.bool b)).run P w = .ok (a == b) w := eqb0 9999 hu
theorem eqbb {t t' : TypeId} {a b : Bool} (hu : P.underlying t = some .bool) (hx : ev N σ x = .bool a) (hy : ev N σ y = .bool b) :
    (execOp (ev N σ) ⟨dst, .binOp .eql t x y t', ty, pos, af, g⟩).run P w = .ok (.value (.bool (decide (a = b)))) w := by
  have h : (binOp .eql t (.bool a) (.bool b)).run P w = .ok (.bool (decide (a = b))) w := by
    simp only [binOp]; simp [eqb1 hu]; cases a <;> cases b <;> rfl
  simp [execOp, hx, hy, eqGuard, h]
theorem nebb {t t' : TypeId} {a b : Bool} (hu : P.underlying t = some .bool) (hx : ev N σ x = .bool a) (hy : ev N σ y = .bool b) :
    (execOp (ev N σ) ⟨dst, .binOp .neq t x y t', ty, pos, af, g⟩).run P w = .ok (.value (.bool (decide (a ≠ b)))) w := by
  have h : (binOp .neq t (.bool a) (.bool b)).run P w = .ok (.bool (decide (a ≠ b))) w := by
    simp only [binOp]; simp [eqb1 hu]; cases a <;> cases b <;> rfl
  simp [execOp, hx, hy, eqGuard, h]

/-! strings -/
/-- a string by its bytes -/
def str (l : List UInt8) : Value := .string ⟨⟨l⟩⟩
theorem str_of (s : ByteArray) : Value.string s = str s.data.toList := rfl
theorem lns {t : TypeId} {l : List UInt8} {at_ : Array TypeId} (ht : P.underlying t = some .string) (ha : at_ = #[t]) (hx : ev N σ x = str l) :
    (execOp (ev N σ) ⟨dst, .call ⟨.builtin .len, #[x], at_⟩, ty, pos, af, g⟩).run P w = .ok (.value (.int .i64 l.length)) w := by
  subst ha
  simp [execOp, resolve, invoke, builtin, Builtin.len_, run_under ht, hx, str, goInt]
  rfl
theorem lnl {t e : TypeId} {a : Option Addr} {n c : Nat} {at_ : Array TypeId} (ht : P.underlying t = some (.slice e)) (ha : at_ = #[t]) (hx : ev N σ x = .slice a n c) :
    (execOp (ev N σ) ⟨dst, .call ⟨.builtin .len, #[x], at_⟩, ty, pos, af, g⟩).run P w = .ok (.value (.int .i64 n)) w := by
  subst ha
  simp [execOp, resolve, invoke, builtin, Builtin.len_, run_under ht, hx, goInt]
theorem lnm {t k e r : TypeId} {es : Array MapEntry} {c : Nat} {at_ : Array TypeId} (ht : P.underlying t = some (.map k e)) (ha : at_ = #[t]) (hx : ev N σ x = .map (some r)) (hr : w.heap[r]? = some (.map es c)) :
    (execOp (ev N σ) ⟨dst, .call ⟨.builtin .len, #[x], at_⟩, ty, pos, af, g⟩).run P w = .ok (.value (.int .i64 es.size)) w := by
  subst ha
  simp [execOp, resolve, invoke, builtin, Builtin.len_, run_under ht, hx, goInt, getObj, Sem.run, hr]
theorem mn {k : IntKind} {a b : Int} {at_ : Array TypeId} (hx : ev N σ x = .int k a) (hy : ev N σ y = .int k b) :
    (execOp (ev N σ) ⟨dst, .call ⟨.builtin .min, #[x, y], at_⟩, ty, pos, af, g⟩).run P w = .ok (.value (.int k (min a b))) w := by
  have : (if b < a then b else a) = min a b := by omega
  simp [execOp, resolve, invoke, builtin, Builtin.min_, Builtin.min2, hx, hy, this]
theorem mx {k : IntKind} {a b : Int} {at_ : Array TypeId} (hx : ev N σ x = .int k a) (hy : ev N σ y = .int k b) :
    (execOp (ev N σ) ⟨dst, .call ⟨.builtin .max, #[x, y], at_⟩, ty, pos, af, g⟩).run P w = .ok (.value (.int k (max a b))) w := by
  have : (if b > a then b else a) = max a b := by omega
  simp [execOp, resolve, invoke, builtin, Builtin.max_, Builtin.max2, hx, hy, this]
/-- a byte of a string -/
theorem ixs {t : TypeId} {l : List UInt8} {k : IntKind} {i : Int} (ht : P.underlying t = some .string) (hx : ev N σ x = str l) (hy : ev N σ y = .int k i) (h0 : 0 ≤ i ∧ i < l.length) :
    (execOp (ev N σ) ⟨dst, .index t x y, ty, pos, af, g⟩).run P w = .ok (.value (.int .u8 ((l.getD i.toNat 0).toNat : Int))) w := by
  have hs : (⟨⟨l⟩⟩ : ByteArray)[i.toNat]? = some (l.getD i.toNat 0) := by
    have hlt : i.toNat < l.length := by omega
    have hlt' : i.toNat < (⟨⟨l⟩⟩ : ByteArray).size := hlt
    rw [getElem?_pos (⟨⟨l⟩⟩ : ByteArray) i.toNat hlt']
    simp [List.getD_eq_getElem?_getD, hlt, ByteArray.getElem_eq_getElem_data]
  simp [execOp, Instr.index, hx, hy, asIntOf, str, run_under ht, h0.1, hs]
theorem slice_str (l : List UInt8) (a b : Nat) : Value.string ((⟨⟨l⟩⟩ : ByteArray).extract a b) = str ((l.take b).drop a) := by
  unfold str
  congr 1
  apply ByteArray.ext
  simp [ByteArray.data_extract, List.extract_eq_take_drop, List.drop_take]
theorem sls {t : TypeId} {l : List UInt8} {k k' : IntKind} {a b : Int} (ht : P.underlying t = some .string) (hx : ev N σ x = str l) (hy : ev N σ y = .int k a) (hz : ev N σ z = .int k' b) (h0 : 0 ≤ a ∧ a ≤ b ∧ b ≤ l.length) :
    (execOp (ev N σ) ⟨dst, .slice t x (some y) (some z) none, ty, pos, af, g⟩).run P w = .ok (.value (str ((l.take b.toNat).drop a.toNat))) w := by
  have h1 : b ≤ ((⟨⟨l⟩⟩ : ByteArray).size : Nat) := h0.2.2
  have h2 : 0 ≤ b := by omega
  have h3 : a ≤ (b.toNat : Nat) := by omega
  simp [execOp, Instr.sliceAt, Instr.slice, Instr.sliceBounds, Instr.sliceBound, hx, hy, hz, asIntOf, str, run_under ht, h0.1, h1, h2]
  rw [if_pos (by omega)]
  exact congrArg (fun v => Result.ok (Next.value v) w) (slice_str l a.toNat b.toNat)
theorem slsh {t : TypeId} {l : List UInt8} {k' : IntKind} {b : Int} (ht : P.underlying t = some .string) (hx : ev N σ x = str l) (hz : ev N σ z = .int k' b) (h0 : 0 ≤ b ∧ b ≤ l.length) :
    (execOp (ev N σ) ⟨dst, .slice t x none (some z) none, ty, pos, af, g⟩).run P w = .ok (.value (str (l.take b.toNat))) w := by
  have h1 : b ≤ ((⟨⟨l⟩⟩ : ByteArray).size : Nat) := h0.2
  have := slice_str l 0 b.toNat
  simp only [List.drop_zero] at this
  simp [execOp, Instr.sliceAt, Instr.slice, Instr.sliceBounds, Instr.sliceBound, hx, hz, asIntOf, str, run_under ht, h0.1, h1]
  exact Value.string.inj this
theorem slsl {t : TypeId} {l : List UInt8} {k : IntKind} {a : Int} (ht : P.underlying t = some .string) (hx : ev N σ x = str l) (hy : ev N σ y = .int k a) (h0 : 0 ≤ a ∧ a ≤ l.length) :
    (execOp (ev N σ) ⟨dst, .slice t x (some y) none none, ty, pos, af, g⟩).run P w = .ok (.value (str (l.drop a.toNat))) w := by
  have h1 : a ≤ ((⟨⟨l⟩⟩ : ByteArray).size : Nat) := h0.2
  have := slice_str l a.toNat l.length
  simp only [List.take_length] at this
  simp [execOp, Instr.sliceAt, Instr.slice, Instr.sliceBounds, Instr.sliceBound, hx, hy, asIntOf, str, run_under ht, h0.1, h1]
  exact Value.string.inj this
theorem toL (l : List UInt8) : (⟨⟨l⟩⟩ : ByteArray).toList = l := Lib.toList_data ⟨⟨l⟩⟩
theorem cc {t t' : TypeId} {l m : List UInt8} (hx : ev N σ x = str l) (hy : ev N σ y = str m) (h : l.length + m.length ≤ 9223372036854775807) :
    (execOp (ev N σ) ⟨dst, .binOp .add t x y t', ty, pos, af, g⟩).run P w = .ok (.value (str (l ++ m))) w := by
  have h1 : ¬ (((⟨⟨l⟩⟩ : ByteArray).size + (⟨⟨m⟩⟩ : ByteArray).size : Nat) : Int) > IntKind.i64.max := by
    have : IntKind.i64.max = 9223372036854775807 := by decide
    rw [this]
    show ¬ ((l.length + m.length : Nat) : Int) > _
    omega
  have h2 : (⟨⟨l⟩⟩ : ByteArray) ++ (⟨⟨m⟩⟩ : ByteArray) = ⟨⟨l ++ m⟩⟩ := by
    apply ByteArray.ext; simp
  simp only [execOp, hx, hy, str, eqGuard, binOp, Op.stringOp]
  rw [if_neg h1, h2]
  rfl
theorem eqs {t t' : TypeId} {l m : List UInt8} (hx : ev N σ x = str l) (hy : ev N σ y = str m) :
    (execOp (ev N σ) ⟨dst, .binOp .eql t x y t', ty, pos, af, g⟩).run P w = .ok (.value (.bool (decide (l = m)))) w := by
  simp only [execOp, hx, hy, str, eqGuard, binOp, Op.stringOp, toL]
  show Result.ok (Next.value (.bool (l == m))) w = _
  rw [show (l == m) = decide (l = m) from by rw [Bool.eq_iff_iff]; simp]
theorem nes {t t' : TypeId} {l m : List UInt8} (hx : ev N σ x = str l) (hy : ev N σ y = str m) :
    (execOp (ev N σ) ⟨dst, .binOp .neq t x y t', ty, pos, af, g⟩).run P w = .ok (.value (.bool (decide (l ≠ m)))) w := by
  simp only [execOp, hx, hy, str, eqGuard, binOp, Op.stringOp, toL]
  show Result.ok (Next.value (.bool (!(l == m)))) w = _
  rw [show (!(l == m)) = decide (l ≠ m) from by rw [Bool.eq_iff_iff]; simp]
/-- the order of texts -/
def sless (a b : List UInt8) : Bool := Op.bytesLess a b
theorem sless_irr (a : List UInt8) : sless a a = false := by
  induction a with
  | nil => rfl
  | cons x a ih =>
    have hx : ¬ x < x := UInt8.lt_irrefl x
    have : sless (x :: a) (x :: a) = (decide (x < x) || (x == x && sless a a)) := rfl
    rw [this, ih]; simp [hx]
theorem sless_cons (x y : UInt8) (a b : List UInt8) : sless (x :: a) (y :: b) = (decide (x < y) || (x == y && sless a b)) := rfl
theorem sless_trans {a b c : List UInt8} (h1 : sless a b = true) (h2 : sless b c = true) : sless a c = true := by
  induction a generalizing b c with
  | nil =>
    cases b with
    | nil => cases h1
    | cons y b => cases c with
      | nil => cases h2
      | cons z c => rfl
  | cons x a ih =>
    cases b with
    | nil => cases h1
    | cons y b => cases c with
      | nil => cases h2
      | cons z c =>
        rw [sless_cons] at *
        simp only [Bool.or_eq_true, decide_eq_true_eq, Bool.and_eq_true, beq_iff_eq] at *
        rcases h1 with h1 | ⟨rfl, h1⟩
        · rcases h2 with h2 | ⟨rfl, h2⟩
          · exact .inl (UInt8.lt_trans h1 h2)
          · exact .inl h1
        · rcases h2 with h2 | ⟨rfl, h2⟩
          · exact .inl h2
          · exact .inr ⟨rfl, ih h1 h2⟩
theorem sless_total (a b : List UInt8) : sless a b = true ∨ a = b ∨ sless b a = true := by
  induction a generalizing b with
  | nil => cases b with
    | nil => exact .inr (.inl rfl)
    | cons y b => exact .inl rfl
  | cons x a ih => cases b with
    | nil => exact .inr (.inr rfl)
    | cons y b =>
      simp only [sless_cons, Bool.or_eq_true, decide_eq_true_eq, Bool.and_eq_true, beq_iff_eq, List.cons.injEq]
      rcases Nat.lt_trichotomy x.toNat y.toNat with h | h | h
      · exact .inl (.inl (UInt8.lt_iff_toNat_lt.2 h))
      · have e : x = y := UInt8.toNat_inj.1 h
        subst e
        rcases ih b with h | h | h
        · exact .inl (.inr ⟨rfl, h⟩)
        · exact .inr (.inl ⟨rfl, h⟩)
        · exact .inr (.inr (.inr ⟨rfl, h⟩))
      · exact .inr (.inr (.inl (UInt8.lt_iff_toNat_lt.2 h)))
theorem sless_asymm {a b : List UInt8} (h : sless a b = true) : sless b a = false := by
  cases hb : sless b a
  · rfl
  · have := sless_trans h hb; rw [sless_irr] at this; cases this
theorem pw_get {rs : List (List UInt8)} (hs : rs.Pairwise (fun x y => sless x y = true)) {i j : Nat} (h : i < j) (hj : j < rs.length) : sless (rs.getD i []) (rs.getD j []) = true := by
  have := List.pairwise_iff_getElem.1 hs i j (by omega) hj h
  simpa [List.getD_eq_getElem?_getD, List.getElem?_eq_getElem hj, List.getElem?_eq_getElem (show i < rs.length by omega)] using this
theorem sless_lo {rs : List (List UInt8)} {r : List UInt8} (hs : rs.Pairwise (fun x y => sless x y = true)) {i m : Nat} (h : i < m + 1) (hm : m < rs.length) (hr : sless (rs.getD m []) r = true) : sless (rs.getD i []) r = true := by
  rcases Nat.lt_or_eq_of_le (Nat.le_of_lt_succ h) with h | rfl
  · exact sless_trans (pw_get hs h hm) hr
  · exact hr
theorem sless_hi {rs : List (List UInt8)} {r : List UInt8} (hs : rs.Pairwise (fun x y => sless x y = true)) {i m : Nat} (h : m ≤ i) (hi : i < rs.length) (hr : sless (rs.getD m []) r = false) : sless (rs.getD i []) r = false := by
  rcases Nat.lt_or_eq_of_le h with h | rfl
  · cases hb : sless (rs.getD i []) r
    · rfl
    · have := sless_trans (pw_get hs h hi) hb; rw [hr] at this; cases this
  · exact hr
theorem lts {t t' : TypeId} {l m : List UInt8} (hx : ev N σ x = str l) (hy : ev N σ y = str m) :
    (execOp (ev N σ) ⟨dst, .binOp .lss t x y t', ty, pos, af, g⟩).run P w = .ok (.value (.bool (sless l m))) w := by
  simp only [execOp, hx, hy, str, eqGuard, binOp, Op.stringOp, toL]
  rfl
theorem les {t t' : TypeId} {l m : List UInt8} (hx : ev N σ x = str l) (hy : ev N σ y = str m) :
    (execOp (ev N σ) ⟨dst, .binOp .leq t x y t', ty, pos, af, g⟩).run P w = .ok (.value (.bool (sless l m || decide (l = m)))) w := by
  simp only [execOp, hx, hy, str, eqGuard, binOp, Op.stringOp, toL]
  show Result.ok (Next.value (.bool (Op.bytesLess l m || l == m))) w = _
  rw [show (l == m) = decide (l = m) from by rw [Bool.eq_iff_iff]; simp]
  rfl
theorem gts {t t' : TypeId} {l m : List UInt8} (hx : ev N σ x = str l) (hy : ev N σ y = str m) :
    (execOp (ev N σ) ⟨dst, .binOp .gtr t x y t', ty, pos, af, g⟩).run P w = .ok (.value (.bool (!(sless l m || decide (l = m))))) w := by
  simp only [execOp, hx, hy, str, eqGuard, binOp, Op.stringOp, toL]
  show Result.ok (Next.value (.bool (!(Op.bytesLess l m || l == m)))) w = _
  rw [show (l == m) = decide (l = m) from by rw [Bool.eq_iff_iff]; simp]
  rfl
theorem ges {t t' : TypeId} {l m : List UInt8} (hx : ev N σ x = str l) (hy : ev N σ y = str m) :
    (execOp (ev N σ) ⟨dst, .binOp .geq t x y t', ty, pos, af, g⟩).run P w = .ok (.value (.bool (!sless l m))) w := by
  simp only [execOp, hx, hy, str, eqGuard, binOp, Op.stringOp, toL]
  rfl
theorem mf {fn : Fn} {first captured : Array Operand} : (execOp (ev N σ) ⟨dst, .makeFunc fn first captured, ty, pos, af, g⟩).run P w = .ok (.value (.func fn (first.map (ev N σ)) (captured.map (ev N σ)))) w := rfl
theorem mfl {fn : Fn} {first captured : Array Operand} : (execOp (ev N σ) ⟨dst, .makeFunc fn first captured, ty, pos, af, g⟩).run P w = .ok (.value (.func fn (first.toList.map (ev N σ)).toArray (captured.toList.map (ev N σ)).toArray)) w := by
  rw [mf, ← Array.toList_map, ← Array.toList_map]
end
end Go.Hb

/-
  Operations that turn the world: calls, new blocks, stores, append; and what a slice's cells hold. Over any program. No conditions but those that each lemma names.
-/
namespace Go.Hb
open Go.RowKit

/-- a block of cells, none of them frozen -/
def Blk (h : Array Obj) (b : Nat) (L : List Value) : Prop := ∃ e, h[b]? = some (.cells L.toArray e (0, 0))
theorem Blk.cel {h : Array Obj} {b : Nat} {L : List Value} (hb : Blk h b L) (j : Nat) : Hb.cel h b j = L[j]? := by
  obtain ⟨e, hb⟩ := hb
  rw [cel_of hb]; simp
theorem Blk.cel0 {h : Array Obj} {b : Nat} {L : List Value} (hb : Blk h b L) (j : Nat) : Hb.cel h b (0 + j) = L[j]? := by
  rw [Nat.zero_add, hb.cel]
theorem Md.B {F : Nat → Prop} {w w' : World} (h : Md F w w') {b : Nat} {L : List Value} (hb : Blk w.heap b L) (hf : ¬ F b) : Blk w'.heap b L :=
  let ⟨e, hb⟩ := hb; ⟨e, h.blk hb hf⟩
theorem Wk.B {w w' : World} (h : Wk w w') {b : Nat} {L : List Value} (hb : Blk w.heap b L) : Blk w'.heap b L := Md.B h hb id
theorem Blk.lt {h : Array Obj} {b : Nat} {L : List Value} (hb : Blk h b L) : b < h.size := let ⟨_, hb⟩ := hb; (Array.getElem?_eq_some_iff.1 hb).1

def bk (a : Option Addr) : Nat := match a with | some ad => ad.block | none => 0
def fo (a : Option Addr) : Nat := match a with | some ad => ad.off | none => 0
/-- the cells from an address on -/
structure Cells (h : Array Obj) (a : Option Addr) (xs : List Value) : Prop where
  ok : xs ≠ [] → a = some ⟨bk a, fo a, none⟩
  cel : ∀ j u, xs[j]? = some u → Hb.cel h (bk a) (fo a + j) = some u
theorem Cells.nil (h : Array Obj) (a : Option Addr) : Cells h a [] := ⟨fun h => absurd rfl h, fun _ _ hu => by simp at hu⟩
theorem Cells.md {F : Nat → Prop} {w w' : World} {a : Option Addr} {xs : List Value} (hc : Cells w.heap a xs) (h : Md F w w') (hf : xs ≠ [] → ¬ F (bk a)) : Cells w'.heap a xs :=
  ⟨hc.ok, fun j u hu => h.cel (hc.cel j u hu) (hf (by rintro rfl; simp at hu))⟩
theorem Cells.wk {w w' : World} {a : Option Addr} {xs : List Value} (hc : Cells w.heap a xs) (h : Wk w w') : Cells w'.heap a xs := hc.md h (fun _ x => x)
theorem Cells.take {h : Array Obj} {a : Option Addr} {xs : List Value} (hc : Cells h a xs) (n : Nat) : Cells h a (xs.take n) :=
  ⟨fun hne => hc.ok (by rintro rfl; simp at hne), fun j u hu => hc.cel j u (by rw [List.getElem?_take] at hu; split at hu; exact hu; cases hu)⟩
theorem Cells.lt {h : Array Obj} {a : Option Addr} {xs : List Value} (hc : Cells h a xs) (hne : xs ≠ []) : bk a < h.size := by
  cases xs with
  | nil => exact absurd rfl hne
  | cons x xs => exact cel_lt (hc.cel 0 x rfl)
theorem Cells.of_blk {h : Array Obj} {b : Nat} {L : List Value} (hb : Blk h b L) : Cells h (some ⟨b, 0, none⟩) L :=
  ⟨fun _ => rfl, fun j u hu => by show Hb.cel h b (0 + j) = _; rw [Nat.zero_add, hb.cel]; exact hu⟩
theorem Cells.at1 {h : Array Obj} {a : Option Addr} {xs : List Value} (hc : Cells h a xs) {i : Nat} {u : Value} (hu : xs[i]? = some u) : Hb.cel h (bk a) (fo a + i * 1) = some u := by
  rw [Nat.mul_one]; exact hc.cel i u hu
/-- the texts of a slice -/
def Strs (h : Array Obj) (a : Option Addr) (l : List (List UInt8)) : Prop := Cells h a (l.map str)
theorem Strs.get {h : Array Obj} {a : Option Addr} {l : List (List UInt8)} (hs : Strs h a l) {i : Nat} (hi : i < l.length) : Hb.cel h (bk a) (fo a + i * 1) = some (str (l.getD i [])) :=
  Cells.at1 hs (by simp [List.getD_eq_getElem?_getD, hi])
theorem Strs.wk {w w' : World} {a : Option Addr} {l : List (List UInt8)} (hs : Strs w.heap a l) (h : Wk w w') : Strs w'.heap a l := Cells.wk hs h
theorem ne_map {α : Type} {f : α → Value} {l : List α} (h : 0 < l.length) : l.map f ≠ [] := by
  cases l with
  | nil => simp at h
  | cons x l => simp
/-- the numbers of a slice -/
def Nums (k : IntKind) (h : Array Obj) (a : Option Addr) (l : List Int) : Prop := Cells h a (l.map (Value.int k))
theorem Nums.get {k : IntKind} {h : Array Obj} {a : Option Addr} {l : List Int} (hs : Nums k h a l) {i : Nat} (hi : i < l.length) : Hb.cel h (bk a) (fo a + i * 1) = some (.int k (l.getD i 0)) :=
  Cells.at1 hs (by simp [List.getD_eq_getElem?_getD, hi])

/-! closed facts -/
def sliceOk (P : Program) (t e size bytes : Nat) : Bool :=
  match P.underlying t with
  | some (.slice e') => e' == e && match P.info? e with
    | some i => i.size == size && i.bytes == bytes && Nat.blt 0 size && match i.zero with
      | some z => z.cells.size == size
      | none => false
    | none => false
  | _ => false
theorem sliceOk_spec {P : Program} {t e size bytes : Nat} (h : sliceOk P t e size bytes = true) :
    P.underlying t = some (.slice e) ∧ ∃ i z, P.info? e = some i ∧ i.zero = some z ∧ i.size = size ∧ i.bytes = bytes ∧ z.cells.size = size ∧ 0 < size := by
  unfold sliceOk at h
  split at h
  · rename_i e' hu
    simp only [Bool.and_eq_true, beq_iff_eq] at h
    obtain ⟨rfl, h⟩ := h
    split at h
    · rename_i i hi
      simp only [Bool.and_eq_true, beq_iff_eq] at h
      obtain ⟨⟨⟨h1, h2⟩, h3⟩, h4⟩ := h
      split at h4
      · rename_i z hz
        exact ⟨hu, i, z, hi, hz, h1, h2, by simpa using h4, Nat.lt_of_lt_of_le (Nat.lt_succ_self 0) (Nat.le_of_ble_eq_true h3)⟩
      · cases h4
    · cases h
  · cases h
/-- the number of a variable's cells -/
def cellsN (P : Program) (t : TypeId) : Option Nat := (P.info? t).map (·.size)
def zeroOf (P : Program) (t : TypeId) : Option (Option (List Value)) := (P.info? t).map fun i => i.zero.map fun z => z.cells.toList

/-- a function with a body -/
def Callable (P : Program) (f : FuncId) : Prop := ∀ args w, (callFunc f args).run P w = .ok (.enter f args) w
theorem callable {P : Program} {f : FuncId} {fn : Func} (hf : P.funcs[f]? = some fn) (hn : (fn.name == "runtime.NumGoroutine") = false) (hb : fn.body.isNone = false) : Callable P f := by
  intro args w
  have h1 : ¬ ((fn.name == "runtime.NumGoroutine") = true) := by rw [hn]; simp
  have h2 : ¬ (fn.body.isNone = true) := by rw [hb]; simp
  simp only [callFunc, Sem.run_bind, run_program, Result.andThen_ok, hf]
  rw [if_neg h1, if_neg h2]
  rfl

section
variable {P : Program} {N : Nat} {σ : Nat → Value} {w : World} {dst : Option Nat} {ty : TypeId} {pos : String} {af : Array Edge} {g : Option (Nat × Bool)} {x y z : Operand} {K : (Nat → Value) → World → Prop}

theorem wpo_call {o : Oper} {f : FuncId} {L : List Value} {R : Value → World → Prop} (hrun : (execOp (ev N σ) o).run P w = .ok (.enter f L.toArray) w) (hr : Ret P f L.toArray w R)
    (k : ∀ v w', R v w' → K (updo σ o.dst v) w') : wpo P N o σ w K := by
  unfold wpo Oper.wp
  rw [act_eval, hrun]
  refine Calls.mono hr fun e w' ⟨v, he, hR⟩ => ?_
  subst he
  exact ⟨_, act_put .., k v w' hR⟩
/-- a call of a function by its name -/
theorem cl {f : FuncId} {args : Array Operand} {ats : Array TypeId} {L : List Value} {R : Value → World → Prop} (hc : Callable P f) (hr : Ret P f L.toArray w R) (hL : args.toList.map (ev N σ) = L)
    (k : ∀ v w', R v w' → K (updo σ dst v) w') : wpo P N ⟨dst, .call ⟨.value (.func f), args, ats⟩, ty, pos, af, g⟩ σ w K := by
  refine wpo_call (f := f) ?_ hr k
  have : args.map (ev N σ) = L.toArray := by rw [← hL, ← Array.toList_map]
  simp [execOp, resolve, ev, Deferred.ofValue, invoke, this, hc L.toArray w]
/-- a call of a function value -/
theorem clv {f : FuncId} {fo : Operand} {first cap : Array Value} {args : Array Operand} {ats : Array TypeId} {L : List Value} {R : Value → World → Prop} (hc : Callable P f) (hv : ev N σ fo = .func (.func f) first cap)
    (hr : Ret P f L.toArray w R) (hL : first.toList ++ args.toList.map (ev N σ) ++ cap.toList = L)
    (k : ∀ v w', R v w' → K (updo σ dst v) w') : wpo P N ⟨dst, .call ⟨.value fo, args, ats⟩, ty, pos, af, g⟩ σ w K := by
  refine wpo_call (f := f) ?_ hr k
  have : first ++ args.map (ev N σ) ++ cap = L.toArray := by rw [← hL, ← Array.toList_map, ← Array.toList_append, ← Array.toList_append]
  simp [execOp, resolve, hv, Deferred.ofValue, invoke, this, hc L.toArray w]

theorem wpo_new {o : Oper} {ob : Obj} {v : Nat → Value} (hrun : (execOp (ev N σ) o).run P w = .ok (.value (v w.heap.size)) { w with heap := w.heap.push ob })
    (k : ∀ b w', b = w.heap.size → Nw w w' → w'.heap[b]? = some ob → K (updo σ o.dst (v b)) w') : wpo P N o σ w K :=
  wpo_run hrun (k _ _ rfl (nw_alloc w ob) (by simp))
/-- a variable, as if by new(T) -/
theorem al {e : TypeId} {zs : List Value} (hz : zeroOf P e = some (some zs)) (k : ∀ b w', b = w.heap.size → Nw w w' → Blk w'.heap b zs → K (updo σ dst (.pointer (some ⟨b, 0, none⟩))) w') :
    wpo P N ⟨dst, .alloc e, ty, pos, af, g⟩ σ w K := by
  refine wpo_new (v := fun b => .pointer (some ⟨b, 0, none⟩)) (ob := .cells zs.toArray e (0, 0)) ?_ (fun b w' h1 h2 h3 => k b w' h1 h2 ⟨e, h3⟩)
  unfold zeroOf at hz
  simp only [Option.map_eq_some_iff] at hz
  obtain ⟨i, hi, zv, hzv, rfl⟩ := hz
  simp [execOp, Instr.alloc, zeroValue, run_info hi, hzv, newVar, newRow]
theorem alT {e : TypeId} {zs : List Value} (hz : zeroOf P e = some (some zs)) (k : ∀ b w', b = w.heap.size → Nw w w' → w'.heap[b]? = some (.cells zs.toArray e (0, 0)) → K (updo σ dst (.pointer (some ⟨b, 0, none⟩))) w') :
    wpo P N ⟨dst, .alloc e, ty, pos, af, g⟩ σ w K := by
  refine wpo_new (v := fun b => .pointer (some ⟨b, 0, none⟩)) (ob := .cells zs.toArray e (0, 0)) ?_ k
  unfold zeroOf at hz
  simp only [Option.map_eq_some_iff] at hz
  obtain ⟨i, hi, zv, hzv, rfl⟩ := hz
  simp [execOp, Instr.alloc, zeroValue, run_info hi, hzv, newVar, newRow]
/-- a new variable that holds v -/
theorem bx {e : TypeId} {v : Value} {L : List Value} (hx : ev N σ x = v) (hL : v.cells.toList = L) (k : ∀ b w', b = w.heap.size → Nw w w' → Blk w'.heap b L → K (updo σ dst (.pointer (some ⟨b, 0, none⟩))) w') :
    wpo P N ⟨dst, .box e x, ty, pos, af, g⟩ σ w K := by
  subst hL
  refine wpo_new (v := fun b => .pointer (some ⟨b, 0, none⟩)) (ob := .cells v.cells e (0, 0)) ?_ (fun b w' h1 h2 h3 => k b w' h1 h2 ⟨e, h3⟩)
  simp [execOp, Instr.box, hx, newVar, newRow]
theorem mkm {t : TypeId} (k : ∀ b w', b = w.heap.size → Nw w w' → w'.heap[b]? = some (.map #[] 0) → K (updo σ dst (.map (some b))) w') : wpo P N ⟨dst, .makeMap t none, ty, pos, af, g⟩ σ w K := by
  refine wpo_new (v := fun b => .map (some b)) ?_ k
  simp [execOp, Instr.makeMap]
/-- a slice of no element -/
theorem bs0 {t e : TypeId} {size bytes : Nat} (ht : sliceOk P t e size bytes = true)
    (k : ∀ b w', b = w.heap.size → Nw w w' → (∀ B, B ≤ b → w'.ownsRow B e size (.slice (some ⟨b, 0, none⟩) 0 0) 0 []) → K (updo σ dst (.slice (some ⟨b, 0, none⟩) 0 0)) w') : wpo P N ⟨dst, .buildSlice t 0 #[], ty, pos, af, g⟩ σ w K := by
  refine wpo_new (v := fun b => .slice (some ⟨b, 0, none⟩) 0 0) (ob := .cells #[] e (0, 0)) ?_ (fun b w' h1 h2 h3 => k b w' h1 h2 fun B hB => ⟨by simp, .inr ⟨b, 0, #[], rfl, hB, h3, Nat.le_refl _, by simp [maxLen], by simp, by simp⟩⟩)
  obtain ⟨hu, i, zv, hi, hz, h1, h2, h3, h4⟩ := sliceOk_spec ht
  simp [execOp, Instr.buildSlice, run_under hu, sizeOf, run_info hi, Instr.fill, newRow]
  congr 2
  exact Array.eq_empty_of_size_eq_zero (by simp)
/-- a slice of one element -/
theorem bs1T {t e : TypeId} {size bytes : Nat} {v : Value} {L : List Value} (ht : sliceOk P t e size bytes = true) (hs : Nat.ble size 1000 = true) (hx : ev N σ x = v) (hv : v.cells.size = size)
    (hL : v.cells.toList = L) (k : ∀ b w', b = w.heap.size → Nw w w' → w'.heap[b]? = some (.cells L.toArray e (0, 0)) → K (updo σ dst (.slice (some ⟨b, 0, none⟩) 1 1)) w') : wpo P N ⟨dst, .buildSlice t 1 #[(0, x)], ty, pos, af, g⟩ σ w K := by
  subst hL
  refine wpo_new (v := fun b => .slice (some ⟨b, 0, none⟩) 1 1) (ob := .cells v.cells e (0, 0)) ?_ (fun b w' h1 h2 h3 => k b w' h1 h2 (by simpa using h3))
  obtain ⟨hu, i, zv, hi, hz, h1, h2, h3, h4⟩ := sliceOk_spec ht
  have hs' : size ≤ 1000 := by simpa using hs
  have hfill : Instr.fill (fun i => some (i * size, size)) ((Array.range size).map (zv.cells[· % zv.cells.size]!)) [(0, v)] = some v.cells := by
    have hsz : ((Array.range size).map (zv.cells[· % zv.cells.size]!)).size = size := by simp
    generalize (Array.range size).map (zv.cells[· % zv.cells.size]!) = cs at hsz
    simp only [Instr.fill, hv]
    rw [if_neg (by rw [hsz]; simp)]
    congr 1
    have key : ∀ (l : List Value) (m : Nat) (cs : Array Value), m + l.length ≤ cs.size → ∀ j, ((l.zipIdx m).foldl (fun (cs : Array Value) (c, j) => cs.setIfInBounds (0 * size + j) c) cs)[j]? = if j < m then cs[j]? else if j < m + l.length then l[j - m]? else cs[j]? := by
      intro l
      induction l with
      | nil => intro m cs hm j; simp; intro h1 h2; omega
      | cons c l ih =>
        intro m cs hm j
        simp only [List.zipIdx_cons, List.foldl_cons, List.length_cons] at hm ⊢
        rw [ih (m + 1) _ (by simp; omega)]
        simp only [Nat.zero_mul, Nat.zero_add, Array.getElem?_setIfInBounds]
        by_cases h1 : j < m
        · rw [if_pos (by omega), if_pos h1, if_neg (by omega)]
        · rw [if_neg h1]
          by_cases h2 : j = m
          · subst h2
            rw [if_pos (by omega), if_pos rfl, if_pos (by omega), if_pos (by omega)]
            simp
          · rw [if_neg (by omega)]
            by_cases h3 : j < m + 1 + l.length
            · rw [if_pos h3, if_pos (by omega)]
              obtain ⟨q, hq⟩ : ∃ q, j - m = q + 1 := ⟨j - m - 1, by omega⟩
              rw [hq, List.getElem?_cons_succ, show j - (m + 1) = q from by omega]
            · rw [if_neg h3, if_neg (by omega), if_neg (by omega)]
    apply Array.ext_getElem?
    intro j
    have := key v.cells.toList 0 cs (by simp; omega) j
    rw [show (v.cells.zipIdx.foldl (fun (cs : Array Value) (c, j) => cs.setIfInBounds (0 * size + j) c) cs) = ((v.cells.toList.zipIdx 0).foldl (fun (cs : Array Value) (c, j) => cs.setIfInBounds (0 * size + j) c) cs) from by
      rw [← Array.foldl_toList]; simp [Array.toList_zipIdx]]
    rw [this]
    simp only [Nat.not_lt_zero, if_false, Nat.zero_add, Nat.sub_zero, Array.length_toList, Array.getElem?_toList]
    split
    · rfl
    · rw [Array.getElem?_eq_none (by omega), Array.getElem?_eq_none (by omega)]
  simp only [execOp, Instr.buildSlice, Sem.run_bind, run_under hu, Result.andThen_ok, sizeOf, run_info hi, Sem.run_pure, h1, Nat.one_mul, Sem.run_ite, zeroValue, hz, List.map_toArray, List.map_cons, List.map_nil, hx, hfill]
  rw [if_neg (by rw [show (2:Nat) ^ 24 = 16777216 from rfl]; omega), if_neg (by omega)]
  simp [newRow]

theorem bs1v {t e : TypeId} {size bytes : Nat} {v : Value} {L : List Value} (ht : sliceOk P t e size bytes = true) (hs : Nat.ble size 1000 = true) (hx : ev N σ x = v) (hv : v.cells.size = size)
    (hL : v.cells.toList = L) (k : ∀ b w', b = w.heap.size → Nw w w' → Blk w'.heap b L → K (updo σ dst (.slice (some ⟨b, 0, none⟩) 1 1)) w') : wpo P N ⟨dst, .buildSlice t 1 #[(0, x)], ty, pos, af, g⟩ σ w K :=
  bs1T ht hs hx hv hL fun b w' h1 h2 h3 => k b w' h1 h2 ⟨_, h3⟩
theorem one_cells {v : Value} (h : v.oneCell' = true) : v.cells = #[v] := by cases v <;> first | rfl | (cases h; done)
/-- a slice of elements of one cell -/
theorem fill_list {loc : Nat → Option (Nat × Nat)} (hloc : ∀ i, loc i = some (i * 1, 1)) : ∀ (rest pre zs : List Value), zs.length = rest.length → rest.all Value.oneCell' = true →
    Instr.fill loc (pre ++ zs).toArray ((rest.zipIdx pre.length).map fun q => (q.2, q.1)) = some (pre ++ rest).toArray
  | [], pre, zs, hl, _ => by
    rw [List.eq_nil_of_length_eq_zero hl]; rfl
  | v :: r, pre, zs, hl, h1 => by
    cases zs with
    | nil => simp at hl
    | cons z zs =>
      rw [List.all_cons, Bool.and_eq_true] at h1
      have hv := one_cells h1.1
      have ih := fill_list hloc r (pre ++ [v]) zs (by simpa using hl) h1.2
      simp only [List.zipIdx_cons, List.map_cons, Instr.fill, hloc, hv]
      rw [if_neg (by simp)]
      simp only [List.length_append, List.length_singleton, List.append_assoc, List.singleton_append] at ih
      rw [← ih]
      simp
theorem bsL {t e bytes n : Nat} {ps : Array (Nat × Operand)} {L : List Value} (ht : sliceOk P t e 1 bytes = true) (hp : ps.toList.map (fun p => (p.1, ev N σ p.2)) = (L.zipIdx 0).map fun q => (q.2, q.1)) (h1 : L.all Value.oneCell' = true) (hn : L.length = n) (hs : (Nat.ble n 1000 && Nat.blt 0 n) = true)
    (k : ∀ b w', b = w.heap.size → Nw w w' → w'.heap[b]? = some (.cells L.toArray e (0, 0)) → K (updo σ dst (.slice (some ⟨b, 0, none⟩) n n)) w') : wpo P N ⟨dst, .buildSlice t n ps, ty, pos, af, g⟩ σ w K := by
  subst hn
  refine wpo_new (v := fun b => .slice (some ⟨b, 0, none⟩) L.length L.length) (ob := .cells L.toArray e (0, 0)) ?_ k
  obtain ⟨hu, i, zv, hi, hz, h1', h2, h3, h4⟩ := sliceOk_spec ht
  simp only [Bool.and_eq_true] at hs
  have hs' : L.length ≤ 1000 := by simpa using hs.1
  have hs2 : 0 < L.length := by have := Nat.le_of_ble_eq_true hs.2; omega
  have hfill : Instr.fill (fun i => some (i * 1, 1)) ((Array.range (L.length * 1)).map (zv.cells[· % zv.cells.size]!)) (ps.toList.map (fun p => (p.1, ev N σ p.2))) = some L.toArray := by
    rw [hp]
    have hzl : ((Array.range (L.length * 1)).map (zv.cells[· % zv.cells.size]!)).toList.length = L.length := by simp
    have := fill_list (loc := fun i => some (i * 1, 1)) (fun _ => rfl) L [] ((Array.range (L.length * 1)).map (zv.cells[· % zv.cells.size]!)).toList hzl h1
    rw [List.nil_append, List.nil_append, Array.toArray_toList] at this
    exact this
  simp only [execOp, Instr.buildSlice, Sem.run_bind, run_under hu, Result.andThen_ok, sizeOf, run_info hi, Sem.run_pure, h1', Sem.run_ite, zeroValue, hz, Array.toList_map, hfill]
  rw [if_neg (by rw [show (2:Nat) ^ 24 = 16777216 from rfl]; omega), if_neg (by omega)]
  simp [newRow]
/-- a slice of one element of one cell -/
theorem bs1 {t e : TypeId} {bytes : Nat} {v : Value} (ht : sliceOk P t e 1 bytes = true) (hx : ev N σ x = v) (h1 : v.oneCell' = true)
    (k : ∀ b w', b = w.heap.size → Nw w w' → Blk w'.heap b [v] → K (updo σ dst (.slice (some ⟨b, 0, none⟩) 1 1)) w') : wpo P N ⟨dst, .buildSlice t 1 #[(0, x)], ty, pos, af, g⟩ σ w K :=
  bs1v ht rfl hx (by rw [one_cells h1]; rfl) (by rw [one_cells h1]) k
/-- a slice of one struct -/
theorem bsa {t e : TypeId} {size bytes : Nat} {L : List Value} (ht : sliceOk P t e size bytes = true) (hs : Nat.ble size 1000 = true) (hx : ev N σ x = .agg L.toArray) (hl : L.length = size)
    (k : ∀ b w', b = w.heap.size → Nw w w' → Blk w'.heap b L → K (updo σ dst (.slice (some ⟨b, 0, none⟩) 1 1)) w') : wpo P N ⟨dst, .buildSlice t 1 #[(0, x)], ty, pos, af, g⟩ σ w K :=
  bs1v ht hs hx (by simpa [Value.cells] using hl) (by simp [Value.cells]) k
/-- a new variable of one cell -/
theorem bx1 {e : TypeId} {v : Value} (hx : ev N σ x = v) (h1 : v.oneCell' = true) (k : ∀ b w', b = w.heap.size → Nw w w' → Blk w'.heap b [v] → K (updo σ dst (.pointer (some ⟨b, 0, none⟩))) w') :
    wpo P N ⟨dst, .box e x, ty, pos, af, g⟩ σ w K := bx hx (by rw [one_cells h1]) k
/-- a new struct -/
theorem bxa {e : TypeId} {L : List Value} (hx : ev N σ x = .agg L.toArray) (k : ∀ b w', b = w.heap.size → Nw w w' → Blk w'.heap b L → K (updo σ dst (.pointer (some ⟨b, 0, none⟩))) w') :
    wpo P N ⟨dst, .box e x, ty, pos, af, g⟩ σ w K := bx hx (by simp [Value.cells]) k
/-- a new struct, its type told -/
theorem bxaT {e : TypeId} {L : List Value} (hx : ev N σ x = .agg L.toArray) (k : ∀ b w', b = w.heap.size → Nw w w' → w'.heap[b]? = some (.cells L.toArray e (0, 0)) → K (updo σ dst (.pointer (some ⟨b, 0, none⟩))) w') :
    wpo P N ⟨dst, .box e x, ty, pos, af, g⟩ σ w K := by
  refine wpo_new (v := fun b => .pointer (some ⟨b, 0, none⟩)) (ob := .cells L.toArray e (0, 0)) ?_ (fun b w' h1 h2 h3 => k b w' h1 h2 h3)
  simp [execOp, Instr.box, hx, newVar, newRow, Value.cells]
/-- a slice of one element of one cell, as the call's own -/
theorem bs1o {t e : TypeId} {bytes : Nat} {v : Value} (ht : sliceOk P t e 1 bytes = true) (hx : ev N σ x = v) (h1 : v.oneCell' = true)
    (k : ∀ b w', b = w.heap.size → Nw w w' → (∀ B, B ≤ b → w'.ownsRow B e 1 (.slice (some ⟨b, 0, none⟩) 1 1) 1 [v]) → K (updo σ dst (.slice (some ⟨b, 0, none⟩) 1 1)) w') : wpo P N ⟨dst, .buildSlice t 1 #[(0, x)], ty, pos, af, g⟩ σ w K :=
  bs1T (L := [v]) ht rfl hx (by rw [one_cells h1]; rfl) (by rw [one_cells h1]) fun b w' hb hN hB => k b w' hb hN fun B hBb => ⟨rfl, .inr ⟨b, 1, #[v], rfl, hBb, hB, Nat.le_refl _, by simp [maxLen], rfl, rfl⟩⟩
theorem all_one {l : List Value} (h : l.all Value.oneCell' = true) : ∀ u ∈ l, u.oneCell' = true := List.all_eq_true.1 h

/-- a store into a block, its type told -/
theorem stT {t b off : Nat} {e : TypeId} {L : List Value} {v : Value} (hz : cellsN P t = some 1) (hx : ev N σ x = .pointer (some ⟨b, off, none⟩)) (hy : ev N σ y = v) (h1 : v.oneCell' = true) (hb : w.heap[b]? = some (.cells L.toArray e (0, 0))) (ho : off < L.length)
    (k : ∀ w', Md (fun k => k = b) w w' → w'.heap[b]? = some (.cells (L.set off v).toArray e (0, 0)) → K σ w') : wpo P N ⟨none, .store t x y, ty, pos, af, g⟩ σ w K := by
  have hc : v.cells = #[v] := by cases v <;> first | rfl | (cases h1; done)
  have hcell : w.cell? ⟨b, off, none⟩ = some L[off] := by rw [cell_cel, cel_of hb]; simp [ho]
  have hfr : w.frozen? ⟨b, off, none⟩ = false := by simp only [World.frozen?, show w.heap[b]? = _ from hb]; simp
  unfold cellsN at hz
  simp only [Option.map_eq_some_iff] at hz
  obtain ⟨i, hi, hs⟩ := hz
  have hadd : (⟨b, off, none⟩ : Addr).add 0 = ⟨b, off, none⟩ := rfl
  have hrun : (execOp (ev N σ) ⟨none, .store t x y, ty, pos, af, g⟩).run P w = .ok .skip (w.setCell ⟨b, off, none⟩ v) := by
    simp [execOp, Instr.storeAt, hx, hy, Instr.sureAddr, storeVar, hc, sizeOf, run_info hi, hs, storeCells, hadd, run_store P w _ v _ h1, hcell, hfr]
  unfold wpo Oper.wp
  rw [act_eval, hrun]
  refine ⟨σ, rfl, k _ ⟨rfl, rfl, by simp [World.setCell], fun k _ hk => ?_⟩ ?_⟩
  · exact Below.heap_setCell w _ v k hk
  · have hlt := (Array.getElem?_eq_some_iff.1 hb).1
    have hv : w.heap[b] = .cells L.toArray e (0, 0) := (Array.getElem?_eq_some_iff.1 hb).2
    simp only [World.setCell]
    rw [Array.getElem?_eq_getElem (by simpa using hlt), Array.getElem_modify]
    simp [hv, List.setIfInBounds_toArray]
/-- a store into a block -/
theorem st {t b off : Nat} {L : List Value} {v : Value} (hz : cellsN P t = some 1) (hx : ev N σ x = .pointer (some ⟨b, off, none⟩)) (hy : ev N σ y = v) (h1 : v.oneCell' = true) (hb : Blk w.heap b L) (ho : off < L.length)
    (k : ∀ w', Md (fun k => k = b) w w' → Blk w'.heap b (L.set off v) → K σ w') : wpo P N ⟨none, .store t x y, ty, pos, af, g⟩ σ w K :=
  let ⟨_, hb⟩ := hb
  stT hz hx hy h1 hb ho fun w' h1 h2 => k w' h1 ⟨_, h2⟩
/-- a store of a struct or an array into a block, its type told -/
theorem staT {t b off n : Nat} {e : TypeId} {L vs : List Value} (hz : cellsN P t = some n) (hx : ev N σ x = .pointer (some ⟨b, off, none⟩)) (hy : ev N σ y = .agg vs.toArray) (hn : vs.length = n) (h1 : vs.all Value.oneCell' = true) (hb : w.heap[b]? = some (.cells L.toArray e (0, 0))) (ho : off + n ≤ L.length)
    (k : ∀ w', Md (fun k => k = b) w w' → w'.heap[b]? = some (.cells (L.take off ++ vs ++ L.drop (off + n)).toArray e (0, 0)) → K σ w') : wpo P N ⟨none, .store t x y, ty, pos, af, g⟩ σ w K := by
  unfold cellsN at hz
  simp only [Option.map_eq_some_iff] at hz
  obtain ⟨i, hi, hs⟩ := hz
  have hst := run_storeCells_at P b off e vs 0 L.toArray w hb (by simp; omega) (all_one h1)
  have hrun : (execOp (ev N σ) ⟨none, .store t x y, ty, pos, af, g⟩).run P w = .ok .skip (w.setRow b (L.take off ++ vs ++ L.drop (off + n)).toArray) := by
    simp [execOp, Instr.storeAt, hx, hy, Instr.sureAddr, storeVar, Value.cells, sizeOf, run_info hi, hs, hn, hst]
  unfold wpo Oper.wp
  rw [act_eval, hrun]
  exact ⟨σ, rfl, k _ ⟨rfl, rfl, by simp, fun k _ hk => setRow_other w b k _ hk⟩ (setRow_heap w b _ _ e _ hb)⟩
/-- a store of a struct or an array into a block -/
theorem sta {t b off n : Nat} {L vs : List Value} (hz : cellsN P t = some n) (hx : ev N σ x = .pointer (some ⟨b, off, none⟩)) (hy : ev N σ y = .agg vs.toArray) (hn : vs.length = n) (h1 : vs.all Value.oneCell' = true) (hb : Blk w.heap b L) (ho : off + n ≤ L.length)
    (k : ∀ w', Md (fun k => k = b) w w' → Blk w'.heap b (L.take off ++ vs ++ L.drop (off + n)) → K σ w') : wpo P N ⟨none, .store t x y, ty, pos, af, g⟩ σ w K := by
  obtain ⟨e, hb⟩ := hb
  unfold cellsN at hz
  simp only [Option.map_eq_some_iff] at hz
  obtain ⟨i, hi, hs⟩ := hz
  have hst := run_storeCells_at P b off e vs 0 L.toArray w hb (by simp; omega) (all_one h1)
  have hrun : (execOp (ev N σ) ⟨none, .store t x y, ty, pos, af, g⟩).run P w = .ok .skip (w.setRow b (L.take off ++ vs ++ L.drop (off + n)).toArray) := by
    simp [execOp, Instr.storeAt, hx, hy, Instr.sureAddr, storeVar, Value.cells, sizeOf, run_info hi, hs, hn, hst]
  unfold wpo Oper.wp
  rw [act_eval, hrun]
  exact ⟨σ, rfl, k _ ⟨rfl, rfl, by simp, fun k _ hk => setRow_other w b k _ hk⟩ ⟨e, setRow_heap w b _ _ e _ hb⟩⟩

theorem ap_fresh {t ty e : TypeId} {i : TypeInfo} {zv : Value} {B n m c : Nat} {v v' : Value} {xs news : List Value} {ad : Addr} {w' : World} (hu : P.underlying t = some (.slice e)) (hi : P.info? e = some i) (hz : i.zero = some zv) (hzs : zv.cells.size = i.size) (hpos : 0 < i.size)
    (hown : w.ownsRow B e i.size v n xs) (hl : news.length = m * i.size) (hnews : ∀ j u, news[j]? = some u → w.cell? (ad.add j) = some u) (h1 : ∀ u ∈ news, u.oneCell' = true) (hmx : n + m ≤ maxLen) (hb : (n + m) * i.bytes ≤ 140737488355328)
    (hr : (Builtin.append_ #[t, t] ty #[v, .slice (some ad) m c]).run P w = .ok v' w') : ∀ k, v'.ownBlock = some k → v.ownBlock = some k ∨ w.heap.size ≤ k := by
  intro k hk
  have h63 : n + m ≤ 9223372036854775807 := by unfold maxLen at hmx; omega
  rcases hown.2 with ⟨rfl, rfl⟩ | ⟨gg, cap, cur, rfl, hbg, hg, hnc, hcm, hcs, htake⟩
  · have hx : xs = [] := List.eq_nil_of_length_eq_zero (by simpa using hown.1)
    subst hx
    obtain ⟨v2, w2, hr2, h2, _, _⟩ := run_append_own (P := P) w w.heap.size t ty e i zv i.size i.bytes hu hi hz rfl rfl hzs hpos _ 0 [] (World.ownsRow_nil w w.heap.size e i.size) ad m c news hl hnews h1 hmx hb (Nat.le_refl _)
    rw [hr] at hr2
    cases hr2
    exact .inr (by
      rcases h2.2 with ⟨h, _⟩ | ⟨g2, _, _, h, hb2, _⟩
      · rw [h] at hk; simp [Value.ownBlock] at hk
      · rw [h] at hk; simp only [Value.ownBlock, Option.some.injEq] at hk; omega)
  · by_cases hroom : n + m ≤ cap
    · have hfit : n * i.size + news.length ≤ cur.size := by rw [hl, hcs, ← Nat.add_mul]; exact Nat.mul_le_mul_right _ hroom
      rw [run_append_room (P := P) w t ty e i hu hi gg n cap cur hg ad m c news hl hnews h1 hroom hfit] at hr
      cases hr
      exact .inl hk
    · have holds : ∀ j u, xs[j]? = some u → w.cell? ((⟨gg, 0, none⟩ : Addr).add j) = some u := hown.cells (g := gg) rfl
      rw [run_append_grow (P := P) w t ty e i zv hu hi hz ⟨gg, 0, none⟩ n cap xs hown.1 holds ad m c news hl hnews (by omega) (by omega) (growslice_fits (by omega) hb)] at hr
      cases hr
      simp only [Value.ownBlock, Option.some.injEq] at hk
      exact .inr (by omega)
/-- append to a slice that is nil or of the call's own -/
theorem ap {t e size bytes B n m c : Nat} {v : Value} {xs news : List Value} {a : Option Addr} (ht : sliceOk P t e size bytes = true) (hown : w.ownsRow B e size v n xs) (hx : ev N σ x = v) (hB : B ≤ w.heap.size)
    (hy : ev N σ y = .slice a m c) (hc : Cells w.heap a news) (hl : news.length = m * size) (h1 : news.all Value.oneCell' = true) (hb : (n + m) * bytes ≤ 140737488355328) (h63 : n + m ≤ 9223372036854775807)
    (k : ∀ v' w', w'.ownsRow B e size v' (n + m) (xs ++ news) → Md (fun k => v.ownBlock = some k) w w' → (v' = .slice none 0 0 ↔ v = .slice none 0 0 ∧ m = 0) → (∀ k, v'.ownBlock = some k → v.ownBlock = some k ∨ w.heap.size ≤ k) → K (updo σ dst v') w') :
    wpo P N ⟨dst, .call ⟨.builtin .append, #[x, y], #[t, t]⟩, ty, pos, af, g⟩ σ w K := by
  obtain ⟨hu, i, zv, hi, hz, hs, hby, hzs, hpos⟩ := sliceOk_spec ht
  have hmx : n + m ≤ maxLen := by unfold maxLen; omega
  by_cases hm : news = []
  · subst hm
    have hm0 : m = 0 := by
      rcases Nat.mul_eq_zero.1 (hl.symm.trans rfl) with h | h
      · exact h
      · omega
    subst hm0
    have hrun : (Builtin.append_ #[t, t] ty #[v, .slice a 0 c]).run P w = .ok v w := by
      rcases hown.2 with ⟨rfl, rfl⟩ | ⟨gg, cap, cur, rfl, _, _, hle, _⟩
      · cases a <;> simp [Builtin.append_, run_under hu, sizeOf, run_info hi, Builtin.lenOf, Builtin.firstCells, loadCells, loadCellsFrom]
      · cases a <;> simp [Builtin.append_, run_under hu, sizeOf, run_info hi, Builtin.lenOf, Builtin.firstCells, loadCells, loadCellsFrom, hle, storeCells]
    refine wpo_run (w' := w) (v := v) ?_ (k v w (by simpa using hown) (Md.refl _ _) (by simp) (fun _ h => .inl h))
    simp [execOp, resolve, invoke, builtin, hx, hy, hrun]
  · have ha := hc.ok hm
    have hnews : ∀ j u, news[j]? = some u → w.cell? ((⟨bk a, fo a, none⟩ : Addr).add j) = some u := fun j u hu => by rw [addr_add, cell_cel]; exact hc.cel j u hu
    obtain ⟨v', w', hr, h2, h3, h4⟩ := run_append_own (P := P) w B t ty e i zv size bytes hu hi hz hs hby hzs hpos v n xs hown ⟨bk a, fo a, none⟩ m c news hl hnews (all_one h1) hmx hb hB
    subst hs hby
    have hfr := ap_fresh hu hi hz hzs hpos hown hl hnews (all_one h1) hmx hb hr
    refine wpo_run (w' := w') (v := v') ?_ (k v' w' h2 ⟨h3.os, h3.output, h3.size, fun k hk hne => h3.block k hk (fun e => hne e.symm)⟩ h4 hfr)
    have hy' : ev N σ y = .slice (some ⟨bk a, fo a, none⟩) m c := hy.trans (congrArg (fun a => Value.slice a m c) ha)
    simp [execOp, resolve, invoke, builtin, hx, hy', hr]
theorem ia' {t n len cap : Nat} {k : IntKind} {i : Int} {a : Option Addr} (he : elemSize P t = some n) (hx : ev N σ x = .slice a len cap) (hy : ev N σ y = .int k i) (h0 : 0 ≤ i ∧ i < len) (ha : a = some ⟨bk a, fo a, none⟩) :
    (execOp (ev N σ) ⟨dst, .indexAddr t x y, ty, pos, af, g⟩).run P w = .ok (.value (.pointer (some ⟨bk a, fo a + i.toNat * n, none⟩))) w :=
  ia he (by rw [hx]; congr 1) hy h0
end
theorem own_md {F : Nat → Prop} {w w' : World} {B e size n : Nat} {v : Value} {xs : List Value} (h : w.ownsRow B e size v n xs) (hm : Md F w w') (hf : ∀ k, v.ownBlock = some k → ¬ F k) : w'.ownsRow B e size v n xs := by
  refine ⟨h.1, ?_⟩
  rcases h.2 with hn | ⟨g, cap, cur, rfl, hb, hgg, rest⟩
  · exact .inl hn
  · exact .inr ⟨g, cap, cur, rfl, hb, hm.blk hgg (hf g rfl), rest⟩
section
variable {P : Program} {N : Nat} {σ : Nat → Value} {w : World} {dst : Option Nat} {ty : TypeId} {pos : String} {af : Array Edge} {g : Option (Nat × Bool)} {x y z : Operand} {K : (Nat → Value) → World → Prop}
/-- a store into a slice of the call's own -/
theorem sto {t B e size n cap off j : Nat} {a : Option Addr} {xs : List Value} {u : Value} (hown : w.ownsRow B e size (.slice a n cap) n xs) (hz : cellsN P t = some 1) (hx : ev N σ x = .pointer (some ⟨bk a, off, none⟩)) (hy : ev N σ y = u) (h1 : u.oneCell' = true)
    (hj : off = fo a + j) (hl : j < n * size)
    (k : ∀ w', Md (fun k => (Value.slice a n cap).ownBlock = some k) w w' → w'.ownsRow B e size (.slice a n cap) n (xs.set j u) → K σ w') : wpo P N ⟨none, .store t x y, ty, pos, af, g⟩ σ w K := by
  obtain ⟨h0, h⟩ := hown
  rcases h with ⟨h, rfl⟩ | ⟨gg, cp, cur, h, hB, hg, hle, hcm, hsz, ht⟩
  · simp at hl
  · simp only [Value.slice.injEq, true_and] at h
    obtain ⟨rfl, rfl⟩ := h
    have hj' : off = j := by rw [hj]; simp [fo]
    subst hj'
    have hlen : off < cur.toList.length := by
      have := Nat.mul_le_mul_right size hle
      rw [Array.length_toList, hsz]; omega
    refine stT (L := cur.toList) hz hx hy h1 (show w.heap[gg]? = _ by simpa using hg) hlen fun w' hM hB' => k w' (hM.mono (fun k _ hk => by subst hk; rfl)) ⟨by simpa using h0, .inr ⟨gg, cap, _, rfl, hB, hB', hle, hcm, by simpa using hsz, ?_⟩⟩
    rw [← ht]
    simp only
    rw [List.take_set]
end
theorem own_one {w : World} {B e size n : Nat} {v : Value} {xs : List Value} (h : w.ownsRow B e size v n xs) : v.oneCell' = true := by
  rcases h.2 with ⟨rfl, _⟩ | ⟨g, cap, cur, rfl, _⟩ <;> rfl
theorem own_slice {w : World} {B e size n : Nat} {v : Value} {xs : List Value} (h : w.ownsRow B e size v n xs) : ∃ a cap, v = .slice a n cap := by
  rcases h.2 with ⟨rfl, rfl⟩ | ⟨g, cap, cur, rfl, _⟩
  · exact ⟨_, _, rfl⟩
  · exact ⟨_, _, rfl⟩
/-- two slices of the call's own, of different element types, lie in different blocks -/
theorem own_ne {w : World} {B B' e e' size size' n n' : Nat} {v v' : Value} {xs xs' : List Value} (h : w.ownsRow B e size v n xs) (h' : w.ownsRow B' e' size' v' n' xs') (hne : e ≠ e') {k : Nat} (hk : v.ownBlock = some k) : v'.ownBlock ≠ some k := by
  intro hk'
  rcases h.2 with ⟨rfl, _⟩ | ⟨g, cap, cur, rfl, _, hg, _⟩
  · simp [Value.ownBlock] at hk
  · rcases h'.2 with ⟨rfl, _⟩ | ⟨g', cap', cur', rfl, _, hg', _⟩
    · simp [Value.ownBlock] at hk'
    · simp only [Value.ownBlock, Option.some.injEq] at hk hk'
      subst hk hk'
      rw [hg] at hg'
      simp only [Option.some.injEq, Obj.cells.injEq] at hg'
      exact hne hg'.2.1
theorem own_nw {w w' : World} {B e size n : Nat} {v : Value} {xs : List Value} (h : w.ownsRow B e size v n xs) (hm : Wk w w') : w'.ownsRow B e size v n xs := own_md h hm (fun _ _ x => x)
theorem own_lt {w : World} {B e size n : Nat} {v : Value} {xs : List Value} (h : w.ownsRow B e size v n xs) {k : Nat} (hk : v.ownBlock = some k) : B ≤ k ∧ k < w.heap.size := h.lt k hk
/-- a step that writes an owned block alone, seen from a world whose blocks all lie below -/
theorem Wk.own {w0 w w' : World} {B e size n : Nat} {v : Value} {xs : List Value} (h : Wk w0 w) (ho : w.ownsRow B e size v n xs) (hm : Md (fun k => v.ownBlock = some k) w w') (hB : w0.heap.size ≤ B) : Wk w0 w' :=
  Md.trans' h hm (fun k hk hv => by have := (own_lt ho hv).1; omega)
theorem own_cells {w : World} {B e size n : Nat} {v : Value} {xs : List Value} (h : w.ownsRow B e size v n xs) : ∃ a cap, v = .slice a n cap ∧ Cells w.heap a xs ∧ n ≤ cap ∧ (∀ k, v.ownBlock = some k → a = some ⟨k, 0, none⟩ ∧ B ≤ k ∧ k < w.heap.size) ∧ (v.ownBlock = none → xs = []) := by
  rcases h.2 with ⟨rfl, rfl⟩ | ⟨g, cap, cur, rfl, hb, hgg, hle, _, _, ht⟩
  · have : xs = [] := List.eq_nil_of_length_eq_zero (by simpa using h.1)
    subst this
    exact ⟨none, 0, rfl, Cells.nil _ _, Nat.le_refl _, fun k hk => by simp [Value.ownBlock] at hk, fun _ => rfl⟩
  · refine ⟨_, cap, rfl, ⟨fun _ => rfl, fun j u hu => ?_⟩, hle, fun k hk => ?_, fun hk => by simp [Value.ownBlock] at hk⟩
    · show cel w.heap g (0 + j) = _
      rw [Nat.zero_add, cel_of hgg]
      rw [← ht, List.getElem?_take] at hu
      split at hu
      · simpa using hu
      · cases hu
    · simp only [Value.ownBlock, Option.some.injEq] at hk; subst hk
      exact ⟨rfl, hb, (Array.getElem?_eq_some_iff.1 hgg).1⟩
theorem own_cellsS {w : World} {B e size n cap : Nat} {a : Option Addr} {xs : List Value} (h : w.ownsRow B e size (.slice a n cap) n xs) : n ≤ cap ∧ Cells w.heap a xs := by
  obtain ⟨a', c', hv, hc, hle, _⟩ := own_cells h
  simp only [Value.slice.injEq, true_and] at hv
  obtain ⟨rfl, rfl⟩ := hv
  exact ⟨hle, hc⟩
theorem own_mono {w : World} {B B' e size n : Nat} {v : Value} {xs : List Value} (h : w.ownsRow B e size v n xs) (hB : B' ≤ B) : w.ownsRow B' e size v n xs := by
  refine ⟨h.1, ?_⟩
  rcases h.2 with h | ⟨g, cap, cur, h1, h2, r⟩
  · exact .inl h
  · exact .inr ⟨g, cap, cur, h1, Nat.le_trans hB h2, r⟩
/-- the cells from a later place on -/
theorem Cells.drop {h : Array Obj} {a : Option Addr} {xs : List Value} (hc : Cells h a xs) {cap k size : Nat} (hcap : xs.length ≤ cap * size) : Cells h (shf a cap k size) (xs.drop (k * size)) := by
  unfold shf
  by_cases hk : cap = k
  · rw [if_pos hk, List.drop_eq_nil_of_le (by rw [← hk]; exact hcap)]; exact Cells.nil _ _
  · rw [if_neg hk]
    by_cases hne : xs = []
    · subst hne; rw [List.drop_nil]; exact Cells.nil _ _
    · have ha := hc.ok hne
      rw [ha]
      simp only [Option.map_some, addr_add]
      refine ⟨fun _ => rfl, fun j u hu => ?_⟩
      rw [List.getElem?_drop] at hu
      have := hc.cel _ _ hu
      show Hb.cel h (bk a) (fo a + k * size + j) = _
      rw [Nat.add_assoc]; exact this
theorem Strs.drop {h : Array Obj} {a : Option Addr} {l : List (List UInt8)} (hs : Strs h a l) {cap k : Nat} (hcap : l.length ≤ cap) : Strs h (shf a cap k 1) (l.drop k) := by
  have := Cells.drop (k := k) (size := 1) hs (cap := cap) (by rw [List.length_map]; omega)
  rw [Nat.mul_one, ← List.map_drop] at this; exact this
theorem Strs.take {h : Array Obj} {a : Option Addr} {l : List (List UInt8)} (hs : Strs h a l) (k : Nat) : Strs h a (l.take k) := by
  have := Cells.take hs k
  rw [← List.map_take] at this; exact this
theorem own_new {w : World} {B e size n cap : Nat} {a : Option Addr} {xs : List Value} (h : w.ownsRow B e size (.slice a n cap) n xs) (hne : xs ≠ []) : B ≤ bk a ∧ bk a < w.heap.size := by
  obtain ⟨a', c', hv, _, _, h1, h2⟩ := own_cells h
  simp only [Value.slice.injEq, true_and] at hv
  obtain ⟨rfl, rfl⟩ := hv
  cases hk : (Value.slice a n cap).ownBlock with
  | none => exact absurd (h2 hk) hne
  | some k =>
    obtain ⟨rfl, h3, h4⟩ := h1 k hk
    exact ⟨h3, h4⟩
/-- rows that were there stay behind an append, where they are no longer than what is appended to -/
theorem ap_keep {P : Program} {w : World} {t ty e : TypeId} {i : TypeInfo} {zv : Value} {B n m c : Nat} {v v' : Value} {xs news : List Value} {ad : Addr} {w' : World} (hu : P.underlying t = some (.slice e)) (hi : P.info? e = some i) (hz : i.zero = some zv) (hzs : zv.cells.size = i.size) (hpos : 0 < i.size) (hBw : B ≤ w.heap.size)
    (hown : w.ownsRow B e i.size v n xs) (hl : news.length = m * i.size) (hnews : ∀ j u, news[j]? = some u → w.cell? (ad.add j) = some u) (h1 : ∀ u ∈ news, u.oneCell' = true) (hmx : n + m ≤ maxLen) (hb : (n + m) * i.bytes ≤ 140737488355328)
    (hr : (Builtin.append_ #[t, t] ty #[v, .slice (some ad) m c]).run P w = .ok v' w') {B0 n0 : Nat} {v0 : Value} {xs0 : List Value} (h0 : w.ownsRow B0 e i.size v0 n0 xs0) (hle : v0.ownBlock = v.ownBlock → n0 ≤ n) : w'.ownsRow B0 e i.size v0 n0 xs0 := by
  have h63 : n + m ≤ 9223372036854775807 := by unfold maxLen at hmx; omega
  refine ⟨h0.1, ?_⟩
  rcases h0.2 with hn0 | ⟨g0, cap0, cur0, rfl, hb0, hg0, hnc0, hcm0, hcs0, ht0⟩
  · exact .inl hn0
  · rcases hown.2 with ⟨rfl, rfl⟩ | ⟨gg, cap, cur, rfl, hbg, hg, hnc, hcm, hcs, htake⟩
    · obtain ⟨v2, w2, hr2, _, h3, _⟩ := run_append_own (P := P) w B t ty e i zv i.size i.bytes hu hi hz rfl rfl hzs hpos _ 0 xs hown ad m c news hl hnews h1 hmx hb hBw
      rw [hr] at hr2
      cases hr2
      have hlt := (Array.getElem?_eq_some_iff.1 hg0).1
      exact .inr ⟨g0, cap0, cur0, rfl, hb0, (h3.block g0 hlt (by simp [Value.ownBlock])).trans hg0, hnc0, hcm0, hcs0, ht0⟩
    · by_cases hroom : n + m ≤ cap
      · have hfit : n * i.size + news.length ≤ cur.size := by rw [hl, hcs, ← Nat.add_mul]; exact Nat.mul_le_mul_right _ hroom
        rw [run_append_room (P := P) w t ty e i hu hi gg n cap cur hg ad m c news hl hnews h1 hroom hfit] at hr
        cases hr
        by_cases hgg : g0 = gg
        · subst hgg
          rw [hg] at hg0
          cases hg0
          have hn0 := Nat.mul_le_mul_right i.size (hle (by simp [Value.ownBlock]))
          have hnl : n * i.size ≤ cur0.size := by rw [hcs]; exact Nat.mul_le_mul_right _ hnc
          refine .inr ⟨g0, cap0, _, rfl, hb0, setRow_heap w g0 _ _ e _ hg, hnc0, hcm0, ?_, ?_⟩
          · rw [← hcs0]
            simp only [List.size_toArray, List.length_append, List.length_take, List.length_drop, Array.length_toList]; omega
          · rw [← ht0]
            simp only
            rw [List.append_assoc, List.take_append_of_le_length (by rw [List.length_take, Array.length_toList]; omega), List.take_take, Nat.min_eq_left hn0]
        · exact .inr ⟨g0, cap0, cur0, rfl, hb0, (setRow_other w gg g0 _ hgg).trans hg0, hnc0, hcm0, hcs0, ht0⟩
      · have holds : ∀ j u, xs[j]? = some u → w.cell? ((⟨gg, 0, none⟩ : Addr).add j) = some u := hown.cells (g := gg) rfl
        rw [run_append_grow (P := P) w t ty e i zv hu hi hz ⟨gg, 0, none⟩ n cap xs hown.1 holds ad m c news hl hnews (by omega) (by omega) (growslice_fits (by omega) hb)] at hr
        cases hr
        refine .inr ⟨g0, cap0, cur0, rfl, hb0, ?_, hnc0, hcm0, hcs0, ht0⟩
        have hlt := (Array.getElem?_eq_some_iff.1 hg0).1
        show (w.heap.push _)[g0]? = _
        rw [Array.getElem?_push, if_neg (by omega)]; exact hg0
section
variable {P : Program} {N : Nat} {σ : Nat → Value} {w : World} {dst : Option Nat} {ty : TypeId} {pos : String} {af : Array Edge} {g : Option (Nat × Bool)} {x y z : Operand} {K : (Nat → Value) → World → Prop}
/-- append, the row that was there kept -/
theorem apk {t e size bytes B n m c : Nat} {v : Value} {xs news : List Value} {a : Option Addr} (ht : sliceOk P t e size bytes = true) (hown : w.ownsRow B e size v n xs) (hx : ev N σ x = v) (hB : B ≤ w.heap.size)
    (hy : ev N σ y = .slice a m c) (hc : Cells w.heap a news) (hl : news.length = m * size) (h1 : news.all Value.oneCell' = true) (hb : (n + m) * bytes ≤ 140737488355328) (h63 : n + m ≤ 9223372036854775807)
    (k : ∀ v' w', w'.ownsRow B e size v' (n + m) (xs ++ news) → (∀ B0 v0 n0 xs0, w.ownsRow B0 e size v0 n0 xs0 → (v0.ownBlock = v.ownBlock → n0 ≤ n) → w'.ownsRow B0 e size v0 n0 xs0) → Md (fun k => v.ownBlock = some k) w w' → (∀ k, v'.ownBlock = some k → v.ownBlock = some k ∨ w.heap.size ≤ k) → K (updo σ dst v') w') :
    wpo P N ⟨dst, .call ⟨.builtin .append, #[x, y], #[t, t]⟩, ty, pos, af, g⟩ σ w K := by
  obtain ⟨hu, i, zv, hi, hz, hs, hby, hzs, hpos⟩ := sliceOk_spec ht
  have hmx : n + m ≤ maxLen := by unfold maxLen; omega
  by_cases hm : news = []
  · subst hm
    have hm0 : m = 0 := by
      rcases Nat.mul_eq_zero.1 (hl.symm.trans rfl) with h | h
      · exact h
      · omega
    subst hm0
    have hrun : (Builtin.append_ #[t, t] ty #[v, .slice a 0 c]).run P w = .ok v w := by
      rcases hown.2 with ⟨rfl, rfl⟩ | ⟨gg, cap, cur, rfl, _, _, hle, _⟩
      · cases a <;> simp [Builtin.append_, run_under hu, sizeOf, run_info hi, Builtin.lenOf, Builtin.firstCells, loadCells, loadCellsFrom]
      · cases a <;> simp [Builtin.append_, run_under hu, sizeOf, run_info hi, Builtin.lenOf, Builtin.firstCells, loadCells, loadCellsFrom, hle, storeCells]
    refine wpo_run (w' := w) (v := v) ?_ (k v w (by simpa using hown) (fun _ _ _ _ h _ => h) (Md.refl _ _) (fun _ h => .inl h))
    simp [execOp, resolve, invoke, builtin, hx, hy, hrun]
  · have ha := hc.ok hm
    have hnews : ∀ j u, news[j]? = some u → w.cell? ((⟨bk a, fo a, none⟩ : Addr).add j) = some u := fun j u hu => by rw [addr_add, cell_cel]; exact hc.cel j u hu
    obtain ⟨v', w', hr, h2, h3, h4⟩ := run_append_own (P := P) w B t ty e i zv size bytes hu hi hz hs hby hzs hpos v n xs hown ⟨bk a, fo a, none⟩ m c news hl hnews (all_one h1) hmx hb hB
    subst hs hby
    have hfr := ap_fresh hu hi hz hzs hpos hown hl hnews (all_one h1) hmx hb hr
    have hkp : ∀ B0 v0 n0 xs0, w.ownsRow B0 e i.size v0 n0 xs0 → (v0.ownBlock = v.ownBlock → n0 ≤ n) → w'.ownsRow B0 e i.size v0 n0 xs0 := fun _ _ _ _ h0 hle => ap_keep hu hi hz hzs hpos hB hown hl hnews (all_one h1) hmx hb hr h0 hle
    refine wpo_run (w' := w') (v := v') ?_ (k v' w' h2 hkp ⟨h3.os, h3.output, h3.size, fun k hk hne => h3.block k hk (fun e => hne e.symm)⟩ hfr)
    have hy' : ev N σ y = .slice (some ⟨bk a, fo a, none⟩) m c := hy.trans (congrArg (fun a => Value.slice a m c) ha)
    simp [execOp, resolve, invoke, builtin, hx, hy', hr]
end
end Go.Hb

/-
  Regions that draw their order and whose last operation writes over what was read. Over any program. No conditions but those that each lemma names.
-/
namespace Go.Hb
open Go.RowKit

section
variable {P : Program} {md : Region.Mode} {ops : Array Oper} {Q : Exit → Act → World → Prop} {S : World → Prop} {r : Nat}
/-- whatever order is picked; S holds behind every operation till number r has come up -/
def wpAnyR (P : Program) (md : Region.Mode) (ops : Array Oper) (Q : Exit → Act → World → Prop) (S : World → Prop) (r : Nat) : Nat → Array Bool → Act → World → Prop
  | 0, listed, a, w => Region.ready md ops listed = [] ∧ Q .normal a w
  | fuel + 1, listed, a, w =>
    (Region.ready md ops listed = [] → Q .normal a w) ∧
    ∀ i ∈ Region.ready md ops listed, wpOp P ops Q i (fun a' w' => ((listed.setIfInBounds i true).getD r false = false → S w') ∧ wpAnyR P md ops Q S r fuel (listed.setIfInBounds i true) a' w') a w
theorem wpAny_of_R : ∀ (fuel : Nat) (listed : Array Bool) (a : Act) (w : World), wpAnyR P md ops Q S r fuel listed a w → wpAny P md ops Q fuel listed a w
  | 0, _, _, _, h => h
  | fuel + 1, _, _, _, h => ⟨h.1, fun i hi => wpOp_mono (fun a' w' h' => wpAny_of_R fuel _ a' w' h'.2) (h.2 i hi)⟩
theorem wpAnyR_first {i : Nat} {oi : Oper} {v : Value} (hi : ops[i]? = some oi) (hsel : ∀ (j : Nat) (o : Oper) cs b, ops[j]? = some o → o.op ≠ .select cs b)
    (hQ : ∀ c a w, Q (.panic c) (a.put oi.dst v) w → Q (.panic c) a w) (hwt : ∀ o, ops[r]? = some o → ∃ x ∈ o.after, Region.binds md x = true ∧ x.on = i) (hir : i ≠ r) :
    ∀ (fuel : Nat) (listed : Array Bool) (a : Act) (w : World),
      (∀ j oj, ops[j]? = some oj → j ≠ i → listed.getD j true = false → (∀ x ∈ oj.after, Region.binds md x = true → x.on ≠ i) → oi.apart ops oj = true) →
      i ∈ Region.ready md ops listed → YieldsIf P ops S oi v a → S w → listed.getD r false = false →
      wpAnyR P md ops Q S r fuel (listed.setIfInBounds i true) (a.put oi.dst v) w → wpAnyR P md ops Q S r (fuel + 1) listed a w := by
  intro fuel
  induction fuel with
  | zero =>
    intro listed a w _ hr hy hS _ H
    refine ⟨fun h => (by rw [h] at hr; cases hr), fun j hj => ?_⟩
    by_cases hji : j = i
    · subst hji; exact hy.wpOp hi hS ⟨fun _ => hS, H⟩
    · have := ready_mono hj hji
      rw [H.1] at this
      cases this
  | succ fuel ih =>
    intro listed a w hfree hr hy hS hl H
    refine ⟨fun h => (by rw [h] at hr; cases hr), fun j hj => ?_⟩
    by_cases hji : j = i
    · subst hji; exact hy.wpOp hi hS ⟨fun _ => hS, H⟩
    · have h1 := H.2 j (ready_mono hj hji)
      obtain ⟨hjun, oj, hoj, hall⟩ := mem_ready.1 hj
      have hnot : ∀ x ∈ oj.after, Region.binds md x = true → x.on ≠ i := fun x hx hb heq => by
        have h1 := hall x hx hb
        have h0 := (mem_ready.1 hr).1
        rw [heq] at h1
        rcases Nat.lt_or_ge i listed.size with h' | h'
        · simp [h'] at h0 h1; rw [h0] at h1; cases h1
        · simp [Array.getElem?_eq_none h'] at h1
      have hjr : j ≠ r := by
        rintro rfl
        obtain ⟨x, hx, hb, ho⟩ := hwt oj hoj
        exact hnot x hx hb ho
      have hl2 : (listed.setIfInBounds j true).getD r false = false := by rw [getD_set_ne false hjr]; exact hl
      have hl3 : ((listed.setIfInBounds i true).setIfInBounds j true).getD r false = false := by rw [getD_set_ne false hjr, getD_set_ne false hir]; exact hl
      have h2 := wpOp_putIf hoj (hfree j oj hoj hji hjun hnot) (fun cs b => hsel i oi cs b hi) (fun cs b => hsel j oj cs b hoj) hQ hy h1
      have hfree' : ∀ k ok, ops[k]? = some ok → k ≠ i → (listed.setIfInBounds j true).getD k true = false →
          (∀ x ∈ ok.after, Region.binds md x = true → x.on ≠ i) → oi.apart ops ok = true := fun k ok hk hki hun hno => by
        refine hfree k ok hk hki ?_ hno
        by_cases hjk : j = k
        · subst hjk; exact hjun
        · rw [getD_set_ne true hjk] at hun; exact hun
      refine wpOp_mono (fun a' w' h3 => ⟨fun _ => h3.2.1 hl3, ih (listed.setIfInBounds j true) a' w' hfree' (ready_mono hr (Ne.symm hji)) h3.1 (h3.2.1 hl3) hl2 ?_⟩) h2
      rw [Array.setIfInBounds_comm _ _ hji]
      exact h3.2.2
end

section
variable {P : Program} {N : Nat} {ops : Array Oper} {Q : Exit → (Nat → Value) → World → Prop} {σ : Nat → Value} {w : World} {S : World → Prop} {r fuel : Nat} {listed : Array Bool}
  {d' : Option Nat} {d : Nat} {op : Op} {ty : TypeId} {pos : String} {af : Array Edge} {v : Value}
def wphR (P : Program) (N : Nat) (ops : Array Oper) (Q : Exit → (Nat → Value) → World → Prop) (S : World → Prop) (r fuel : Nat) (listed : Array Bool) (σ : Nat → Value) (w : World) : Prop :=
  wpAnyR P .any ops (lift N Q) S r fuel listed (act N σ) w
theorem lst {id : Nat} {l : List Oper} (S : World → Prop) (r : Nat) (hm : P.follows .mixedOrders = true) (_hS : S w.drew) (h : wphR P N l.toArray Q S r l.length (Array.replicate l.length false) σ w.drew) : wpc P N (.region id l.toArray true) Q σ w := by
  unfold wpc
  exact wp_region_any hm (wpAny_of_R _ _ _ _ (by rw [List.size_toArray]; exact h))
def freeR (ops : Array Oper) (listed : Array Bool) (r i : Nat) : Bool :=
  freeReady ops listed i && !(listed.getD r false) && i != r && (match ops[r]? with | some o => o.after.toList.any (fun x => Region.binds .any x && x.on == i) | none => false)
theorem lq (i : Nat) (hi : ops[i]? = some ⟨some d, op, ty, pos, af, none⟩) (hf : freeR ops listed r i = true)
    (hy : ∀ w, S w → (execOp (ev N σ) ⟨some d, op, ty, pos, af, none⟩).run P w = .ok (.value v) w) (hS : S w)
    (k : wphR P N ops Q S r fuel (listed.setIfInBounds i true) (upd σ d v) w) : wphR P N ops Q S r (fuel + 1) listed σ w := by
  simp only [freeR, freeReady, Bool.and_eq_true, Bool.not_eq_true', bne_iff_ne, ne_eq] at hf
  obtain ⟨⟨⟨⟨⟨hf1, hf2⟩, hf3⟩, hf4⟩, hf5⟩, hf6⟩ := hf
  refine wpAnyR_first hi (Region.noSelect_spec hf1) (fun c a w => lift_panic c _ _ w) (fun o ho => ?_) hf5 fuel listed _ w (Region.free_spec hi hf2) (by simpa using hf3) (.inl ⟨wanted_none _ rfl _, fun w hS => ?_⟩) hS hf4 ?_ (v := v)
  · rw [ho] at hf6
    simp only [List.any_eq_true, Bool.and_eq_true, beq_iff_eq] at hf6
    obtain ⟨x, hx, h1, h2⟩ := hf6
    exact ⟨x, Array.mem_toList_iff.1 hx, h1, h2⟩
  · rw [act_eval]; exact hy w hS
  · rw [act_put]; exact k
theorem lany (i : Nat) (hi : ops[i]? = some ⟨d', op, ty, pos, af, none⟩) (hr : onlyReady ops listed i = true)
    (h : wpo P N ⟨d', op, ty, pos, af, none⟩ σ w (fun σ w => ((listed.setIfInBounds i true).getD r false = false → S w) ∧ wphR P N ops Q S r fuel (listed.setIfInBounds i true) σ w)) : wphR P N ops Q S r (fuel + 1) listed σ w := by
  have hr' : Region.ready .any ops listed = [i] := by simpa [onlyReady] using hr
  refine ⟨fun h0 => absurd (hr' ▸ h0) (by simp), fun k hk => ?_⟩
  rw [hr'] at hk
  obtain rfl : k = i := by simpa using hk
  unfold wpOp
  simp only [hi]
  rw [if_pos (wanted_none _ rfl _)]
  exact .inl (wpo_out h (fun _ _ hk => hk))
theorem lef (i : Nat) (hi : ops[i]? = some ⟨d', op, ty, pos, af, none⟩) (hr : onlyReady ops listed i = true)
    (h : wpo P N ⟨d', op, ty, pos, af, none⟩ σ w (fun σ w => S w ∧ wphR P N ops Q S r fuel (listed.setIfInBounds i true) σ w)) : wphR P N ops Q S r (fuel + 1) listed σ w :=
  lany i hi hr (wpo_mono h fun _ _ hk => ⟨fun _ => hk.1, hk.2⟩)
theorem lel (i : Nat) (hi : ops[i]? = some ⟨d', op, ty, pos, af, none⟩) (hr : onlyReady ops listed i = true) (hl : (listed.setIfInBounds i true).getD r false = true)
    (h : wpo P N ⟨d', op, ty, pos, af, none⟩ σ w (fun σ w => wphR P N ops Q S r fuel (listed.setIfInBounds i true) σ w)) : wphR P N ops Q S r (fuel + 1) listed σ w :=
  lany i hi hr (wpo_mono h fun _ _ hk => ⟨fun h0 => absurd (h0.symm.trans hl) Bool.noConfusion, hk⟩)
theorem lnd (hr : (Region.ready .any ops listed).isEmpty = true) (h : Q .normal σ w) : wphR P N ops Q S r fuel listed σ w := by
  have hr' : Region.ready .any ops listed = [] := by simpa using hr
  cases fuel with
  | zero => exact ⟨hr', σ, rfl, h⟩
  | succ fuel => exact ⟨fun _ => ⟨σ, rfl, h⟩, by rw [hr']; simp⟩
attribute [irreducible] wphR
end
end Go.Hb

/-
  Regions that draw their order and write over what was read, where the order of some operations is left open till the end. Over any program. No conditions but those that each lemma names.
-/
namespace Go.Hb
open Go.RowKit

section
variable {P : Program} {md : Region.Mode} {ops : Array Oper} {Q : Exit → Act → World → Prop} {S : World → Prop} {r : Nat}
/-- r comes behind i, directly or through others -/
inductive DepOn (md : Region.Mode) (ops : Array Oper) (i : Nat) : Nat → Prop
  | one {r o e} : ops[r]? = some o → e ∈ o.after → Region.binds md e = true → e.on = i → DepOn md ops i r
  | more {r o e} : ops[r]? = some o → e ∈ o.after → Region.binds md e = true → DepOn md ops i e.on → DepOn md ops i r
def Closed (md : Region.Mode) (ops : Array Oper) (listed : Array Bool) : Prop := ∀ (j : Nat) (o : Oper), ops[j]? = some o → listed.getD j false = true → ∀ e ∈ o.after, Region.binds md e = true → listed.getD e.on false = true
theorem getD_set_mono {listed : Array Bool} {j k : Nat} (h : listed.getD k false = true) : (listed.setIfInBounds j true).getD k false = true := by
  by_cases e : j = k
  · subst e
    by_cases hl : j < listed.size
    · simp [hl]
    · simp [hl] at h
  · rw [getD_set_ne false e]; exact h
theorem Closed.set {listed : Array Bool} {j : Nat} (h : Closed md ops listed) (hj : j ∈ Region.ready md ops listed) : Closed md ops (listed.setIfInBounds j true) := by
  intro k o hk hl e he hb
  obtain ⟨_, oj, hoj, hall⟩ := mem_ready.1 hj
  by_cases ejk : j = k
  · subst ejk
    rw [hoj] at hk; cases hk
    exact getD_set_mono (hall e he hb)
  · rw [getD_set_ne false ejk] at hl
    exact getD_set_mono (h k o hk hl e he hb)
theorem DepOn.listed {listed : Array Bool} {i r : Nat} (hd : DepOn md ops i r) (hc : Closed md ops listed) (ha : ∀ o, ops[r]? = some o → ∀ e ∈ o.after, Region.binds md e = true → listed.getD e.on false = true) : listed.getD i false = true := by
  induction hd with
  | one h1 h2 h3 h4 => rw [← h4]; exact ha _ h1 _ h2 h3
  | more h1 h2 h3 _ ih => exact ih fun o ho e he hb => hc _ o ho (ha _ h1 _ h2 h3) e he hb
theorem wpAnyR_dep {i : Nat} {oi : Oper} {v : Value} (hi : ops[i]? = some oi) (hsel : ∀ (j : Nat) (o : Oper) cs b, ops[j]? = some o → o.op ≠ .select cs b)
    (hQ : ∀ c a w, Q (.panic c) (a.put oi.dst v) w → Q (.panic c) a w) (hd : DepOn md ops i r) (hir : i ≠ r) :
    ∀ (fuel : Nat) (listed : Array Bool) (a : Act) (w : World), Closed md ops listed →
      (∀ j oj, ops[j]? = some oj → j ≠ i → listed.getD j true = false → (∀ x ∈ oj.after, Region.binds md x = true → x.on ≠ i) → oi.apart ops oj = true) →
      i ∈ Region.ready md ops listed → YieldsIf P ops S oi v a → S w → listed.getD r false = false →
      wpAnyR P md ops Q S r fuel (listed.setIfInBounds i true) (a.put oi.dst v) w → wpAnyR P md ops Q S r (fuel + 1) listed a w := by
  intro fuel
  induction fuel with
  | zero =>
    intro listed a w _ _ hr hy hS _ H
    refine ⟨fun h => (by rw [h] at hr; cases hr), fun j hj => ?_⟩
    by_cases hji : j = i
    · subst hji; exact hy.wpOp hi hS ⟨fun _ => hS, H⟩
    · have := ready_mono hj hji
      rw [H.1] at this
      cases this
  | succ fuel ih =>
    intro listed a w hcl hfree hr hy hS hl H
    refine ⟨fun h => (by rw [h] at hr; cases hr), fun j hj => ?_⟩
    by_cases hji : j = i
    · subst hji; exact hy.wpOp hi hS ⟨fun _ => hS, H⟩
    · have h1 := H.2 j (ready_mono hj hji)
      obtain ⟨hjun, oj, hoj, hall⟩ := mem_ready.1 hj
      have hiun : listed.getD i false = false := by
        have h0 := (mem_ready.1 hr).1
        rcases Nat.lt_or_ge i listed.size with h' | h'
        · simpa [h'] using h0
        · simp [h'] at h0
      have hnot : ∀ x ∈ oj.after, Region.binds md x = true → x.on ≠ i := fun x hx hb heq => by
        have h1 := hall x hx hb
        rw [heq, hiun] at h1; cases h1
      have hjr : j ≠ r := by
        rintro rfl
        have := hd.listed hcl (fun o ho => by rw [hoj] at ho; cases ho; exact hall)
        rw [hiun] at this; cases this
      have hl2 : (listed.setIfInBounds j true).getD r false = false := by rw [getD_set_ne false hjr]; exact hl
      have hl3 : ((listed.setIfInBounds i true).setIfInBounds j true).getD r false = false := by rw [getD_set_ne false hjr, getD_set_ne false hir]; exact hl
      have h2 := wpOp_putIf hoj (hfree j oj hoj hji hjun hnot) (fun cs b => hsel i oi cs b hi) (fun cs b => hsel j oj cs b hoj) hQ hy h1
      have hfree' : ∀ k ok, ops[k]? = some ok → k ≠ i → (listed.setIfInBounds j true).getD k true = false →
          (∀ x ∈ ok.after, Region.binds md x = true → x.on ≠ i) → oi.apart ops ok = true := fun k ok hk hki hun hno => by
        refine hfree k ok hk hki ?_ hno
        by_cases hjk : j = k
        · subst hjk; exact hjun
        · rw [getD_set_ne true hjk] at hun; exact hun
      refine wpOp_mono (fun a' w' h3 => ⟨fun _ => h3.2.1 hl3, ih (listed.setIfInBounds j true) a' w' (hcl.set hj) hfree' (ready_mono hr (Ne.symm hji)) h3.1 (h3.2.1 hl3) hl2 ?_⟩) h2
      rw [Array.setIfInBounds_comm _ _ hji]
      exact h3.2.2
theorem wpAnyR_pure {i : Nat} {oi : Oper} {v : Value} (hi : ops[i]? = some oi) (hsel : ∀ (j : Nat) (o : Oper) cs b, ops[j]? = some o → o.op ≠ .select cs b)
    (hQ : ∀ c a w, Q (.panic c) (a.put oi.dst v) w → Q (.panic c) a w) (hir : i ≠ r) :
    ∀ (fuel : Nat) (listed : Array Bool) (a : Act) (w : World),
      (∀ j oj, ops[j]? = some oj → j ≠ i → listed.getD j true = false → (∀ x ∈ oj.after, Region.binds md x = true → x.on ≠ i) → oi.apart ops oj = true) →
      i ∈ Region.ready md ops listed → YieldsIf P ops (fun _ => True) oi v a → (listed.getD r false = false → S w) →
      wpAnyR P md ops Q S r fuel (listed.setIfInBounds i true) (a.put oi.dst v) w → wpAnyR P md ops Q S r (fuel + 1) listed a w := by
  intro fuel
  induction fuel with
  | zero =>
    intro listed a w _ hr hy hS H
    refine ⟨fun h => (by rw [h] at hr; cases hr), fun j hj => ?_⟩
    by_cases hji : j = i
    · subst hji; exact hy.wpOp hi trivial ⟨fun h => hS (by rw [getD_set_ne false hir] at h; exact h), H⟩
    · have := ready_mono hj hji
      rw [H.1] at this
      cases this
  | succ fuel ih =>
    intro listed a w hfree hr hy hS H
    refine ⟨fun h => (by rw [h] at hr; cases hr), fun j hj => ?_⟩
    by_cases hji : j = i
    · subst hji; exact hy.wpOp hi trivial ⟨fun h => hS (by rw [getD_set_ne false hir] at h; exact h), H⟩
    · have h1 := H.2 j (ready_mono hj hji)
      obtain ⟨hjun, oj, hoj, hall⟩ := mem_ready.1 hj
      have hiun : listed.getD i false = false := by
        have h0 := (mem_ready.1 hr).1
        rcases Nat.lt_or_ge i listed.size with h' | h'
        · simpa [h'] using h0
        · simp [h'] at h0
      have hnot : ∀ x ∈ oj.after, Region.binds md x = true → x.on ≠ i := fun x hx hb heq => by
        have h1 := hall x hx hb
        rw [heq, hiun] at h1; cases h1
      have h2 := wpOp_putIf hoj (hfree j oj hoj hji hjun hnot) (fun cs b => hsel i oi cs b hi) (fun cs b => hsel j oj cs b hoj) hQ hy h1
      have hfree' : ∀ k ok, ops[k]? = some ok → k ≠ i → (listed.setIfInBounds j true).getD k true = false →
          (∀ x ∈ ok.after, Region.binds md x = true → x.on ≠ i) → oi.apart ops ok = true := fun k ok hk hki hun hno => by
        refine hfree k ok hk hki ?_ hno
        by_cases hjk : j = k
        · subst hjk; exact hjun
        · rw [getD_set_ne true hjk] at hun; exact hun
      have hcm : (listed.setIfInBounds i true).setIfInBounds j true = (listed.setIfInBounds j true).setIfInBounds i true := Array.setIfInBounds_comm _ _ (fun e => hji e.symm)
      have hg : (listed.setIfInBounds j true).getD r false = false → ((listed.setIfInBounds i true).setIfInBounds j true).getD r false = false := fun h => by rw [hcm, getD_set_ne false hir]; exact h
      refine wpOp_mono (fun a' w' h3 => ⟨fun h => h3.2.1 (hg h), ih (listed.setIfInBounds j true) a' w' hfree' (ready_mono hr (Ne.symm hji)) h3.1 (fun h => h3.2.1 (hg h)) ?_⟩) h2
      rw [← hcm]
      exact h3.2.2
end

section
variable {P : Program} {N : Nat} {ops : Array Oper} {Q : Exit → (Nat → Value) → World → Prop} {σ : Nat → Value} {w : World} {S : World → Prop} {r fuel : Nat} {listed : Array Bool}
  {d : Nat} {op : Op} {ty : TypeId} {pos : String} {af : Array Edge} {v : Value}
def depB (ops : Array Oper) (i : Nat) : Nat → Nat → Bool
  | 0, _ => false
  | f + 1, r => match ops[r]? with | some o => o.after.toList.any (fun e => Region.binds .any e && (e.on == i || depB ops i f e.on)) | none => false
theorem depB_spec {i : Nat} : ∀ (f r : Nat), depB ops i f r = true → DepOn .any ops i r := by
  intro f
  induction f with
  | zero => intro r h; cases h
  | succ f ih =>
    intro r h
    rw [depB] at h
    split at h
    · rename_i o ho
      simp only [List.any_eq_true, Bool.and_eq_true, Bool.or_eq_true, beq_iff_eq] at h
      obtain ⟨e, he, hb, h⟩ := h
      rcases h with h | h
      · exact .one ho (Array.mem_toList_iff.1 he) hb h
      · exact .more ho (Array.mem_toList_iff.1 he) hb (ih _ h)
    · cases h
def closedB (ops : Array Oper) (listed : Array Bool) : Bool := (List.range ops.size).all fun j => !listed.getD j false || match ops[j]? with | some o => o.after.toList.all (fun e => !Region.binds .any e || listed.getD e.on false) | none => true
theorem closedB_spec (h : closedB ops listed = true) : Closed .any ops listed := by
  intro j o hj hl e he hb
  unfold closedB at h
  rw [List.all_eq_true] at h
  have h1 := h j (List.mem_range.2 (Array.getElem?_eq_some_iff.1 hj).1)
  rw [hl, hj] at h1
  simp only [Bool.not_true, Bool.false_or, List.all_eq_true, Bool.or_eq_true, Bool.not_eq_true'] at h1
  rcases h1 e (Array.mem_toList_iff.2 he) with h2 | h2
  · rw [hb] at h2; cases h2
  · exact h2
def freeD (ops : Array Oper) (listed : Array Bool) (r i : Nat) : Bool := freeReady ops listed i && !(listed.getD r false) && i != r && closedB ops listed && depB ops i ops.size r
def freeP (ops : Array Oper) (listed : Array Bool) (r i : Nat) : Bool := freeReady ops listed i && i != r
/-- a read taken first: number r comes behind it -/
theorem lqd (i : Nat) (hi : ops[i]? = some ⟨some d, op, ty, pos, af, none⟩) (hf : freeD ops listed r i = true)
    (hy : ∀ w, S w → (execOp (ev N σ) ⟨some d, op, ty, pos, af, none⟩).run P w = .ok (.value v) w) (hS : S w)
    (k : wphR P N ops Q S r fuel (listed.setIfInBounds i true) (upd σ d v) w) : wphR P N ops Q S r (fuel + 1) listed σ w := by
  simp only [freeD, freeReady, Bool.and_eq_true, Bool.not_eq_true', bne_iff_ne, ne_eq] at hf
  obtain ⟨⟨⟨⟨⟨⟨hf1, hf2⟩, hf3⟩, hf4⟩, hf5⟩, hf6⟩, hf7⟩ := hf
  unfold wphR at *
  refine wpAnyR_dep hi (Region.noSelect_spec hf1) (fun c a w => lift_panic c _ _ w) (depB_spec _ _ hf7) hf5 fuel listed _ w (closedB_spec hf6) (Region.free_spec hi hf2) (by simpa using hf3) (.inl ⟨wanted_none _ rfl _, fun w hS => ?_⟩) hS hf4 ?_ (v := v)
  · rw [act_eval]; exact hy w hS
  · rw [act_put]; exact k
/-- what does not look at the world, taken first -/
theorem lqp (i : Nat) (hi : ops[i]? = some ⟨some d, op, ty, pos, af, none⟩) (hf : freeP ops listed r i = true)
    (hy : ∀ w, (execOp (ev N σ) ⟨some d, op, ty, pos, af, none⟩).run P w = .ok (.value v) w) (hS : listed.getD r false = false → S w)
    (k : wphR P N ops Q S r fuel (listed.setIfInBounds i true) (upd σ d v) w) : wphR P N ops Q S r (fuel + 1) listed σ w := by
  simp only [freeP, freeReady, Bool.and_eq_true, bne_iff_ne, ne_eq] at hf
  obtain ⟨⟨⟨hf1, hf2⟩, hf3⟩, hf5⟩ := hf
  unfold wphR at *
  refine wpAnyR_pure hi (Region.noSelect_spec hf1) (fun c a w => lift_panic c _ _ w) hf5 fuel listed _ w (Region.free_spec hi hf2) (by simpa using hf3) (.inl ⟨wanted_none _ rfl _, fun w _ => ?_⟩) hS ?_ (v := v)
  · rw [act_eval]; exact hy w
  · rw [act_put]; exact k
end
end Go.Hb

/-
  Plain functions on lists, and what is known of them: no program in sight. No conditions.
-/
namespace Go.Hb

/-- how many bytes both begin with -/
def common : List UInt8 → List UInt8 → Nat
  | x :: a, y :: b => if x = y then common a b + 1 else 0
  | _, _ => 0
theorem common_le (a b : List UInt8) : common a b ≤ a.length ∧ common a b ≤ b.length := by
  induction a generalizing b with
  | nil => simp [common]
  | cons x a ih =>
    cases b with
    | nil => simp [common]
    | cons y b =>
      have := ih b
      simp only [common, List.length_cons]
      split <;> omega
/-- the first k bytes are alike, the next are not -/
theorem common_eq {a b : List UInt8} {k : Nat} (h : ∀ i, i < k → a.getD i 0 = b.getD i 0) (ha : k ≤ a.length) (hb : k ≤ b.length)
    (hn : k < a.length → k < b.length → a.getD k 0 ≠ b.getD k 0) : common a b = k := by
  induction k generalizing a b with
  | zero =>
    cases a with
    | nil => simp [common]
    | cons x a =>
      cases b with
      | nil => simp [common]
      | cons y b =>
        have := hn (by simp) (by simp)
        simp only [List.getD_cons_zero] at this
        simp [common, this]
  | succ k ih =>
    cases a with
    | nil => simp at ha
    | cons x a =>
      cases b with
      | nil => simp at hb
      | cons y b =>
        have h0 := h 0 (by omega)
        simp only [List.getD_cons_zero] at h0
        simp only [List.length_cons] at ha hb hn
        simp only [common, h0, if_true]
        rw [ih (fun i hi => by simpa using h (i + 1) (by omega)) (by omega) (by omega) (fun h1 h2 => by simpa using hn (by omega) (by omega))]

/-- a number in groups of seven bits, the lowest first -/
def uintF : Nat → Nat → List UInt8
  | 0, n => [UInt8.ofNat n]
  | f + 1, n => if n < 128 then [UInt8.ofNat n] else UInt8.ofNat (n % 128 + 128) :: uintF f (n / 128)
def uintB (n : Nat) : List UInt8 := uintF n n
theorem uintF_fuel : ∀ (f g n : Nat), n ≤ f → n ≤ g → uintF f n = uintF g n
  | 0, g, n, h, _ => by
    obtain rfl : n = 0 := by omega
    cases g <;> simp [uintF]
  | f + 1, 0, n, _, h => by
    obtain rfl : n = 0 := by omega
    simp [uintF]
  | f + 1, g + 1, n, h, h' => by
    simp only [uintF]
    split
    · rfl
    · rw [uintF_fuel f g (n / 128) (by omega) (by omega)]
theorem uintB_eq (n : Nat) : uintB n = if n < 128 then [UInt8.ofNat n] else UInt8.ofNat (n % 128 + 128) :: uintB (n / 128) := by
  cases n with
  | zero => simp [uintB, uintF]
  | succ n =>
    show uintF (n + 1) (n + 1) = _
    simp only [uintF]
    split
    · rfl
    · rw [uintF_fuel n ((n + 1) / 128) _ (by omega) (by omega)]; rfl
theorem uintB_lt {n : Nat} (h : n < 128) : uintB n = [UInt8.ofNat n] := by rw [uintB_eq, if_pos h]
theorem uintB_ge {n : Nat} (h : ¬ n < 128) : uintB n = UInt8.ofNat (n % 128 + 128) :: uintB (n / 128) := by rw [uintB_eq, if_neg h]
theorem uintB_len (k : Nat) : ∀ n, n < 128 ^ (k + 1) → (uintB n).length ≤ k + 1 := by
  induction k with
  | zero => intro n h; rw [uintB_lt (by simpa using h)]; simp
  | succ k ih =>
    intro n h
    by_cases h1 : n < 128
    · rw [uintB_lt h1]; simp
    · rw [uintB_ge h1]
      have : n / 128 < 128 ^ (k + 1) := by rw [Nat.div_lt_iff_lt_mul (by omega)]; rw [Nat.pow_succ] at h; exact h
      have := ih _ this
      simp only [List.length_cons]; omega
theorem uintB_len10 {n : Nat} (h : n < 18446744073709551616) : (uintB n).length ≤ 10 := uintB_len 9 n (Nat.lt_trans h (by decide))
theorem uintB_pos (n : Nat) : 0 < (uintB n).length := by rw [uintB_eq]; split <;> simp

/-- records, each behind its length -/
def frame : List (List UInt8) → List UInt8
  | [] => []
  | r :: l => uintB r.length ++ (r ++ frame l)
theorem frame_app (a b : List (List UInt8)) : frame (a ++ b) = frame a ++ frame b := by
  induction a with
  | nil => rfl
  | cons r a ih => simp [frame, ih]
theorem take_succ_getD {α : Type} (l : List α) (i : Nat) (d : α) (h : i < l.length) : l.take (i + 1) = l.take i ++ [l.getD i d] := by
  rw [List.take_succ_eq_append_getElem h]; simp [List.getD_eq_getElem?_getD, h]
theorem frame_take {l : List (List UInt8)} {i : Nat} (h : i < l.length) : frame (l.take (i + 1)) = frame (l.take i) ++ (uintB (l.getD i []).length ++ l.getD i []) := by
  rw [take_succ_getD l i [] h, frame_app]; simp [frame]
theorem frame_le (l : List (List UInt8)) (i : Nat) : (frame (l.take i)).length ≤ (frame l).length := by
  have : frame l = frame (l.take i) ++ frame (l.drop i) := by rw [← frame_app, List.take_append_drop]
  rw [this]; simp
theorem frame_take_le {l : List (List UInt8)} {i : Nat} (h : i < l.length) : (frame (l.take i)).length + (uintB (l.getD i []).length).length + (l.getD i []).length ≤ (frame l).length := by
  have := frame_le l (i + 1)
  rw [frame_take h] at this
  simp only [List.length_append] at this; omega

theorem take_drop_succ {α : Type} {l : List α} {i lo : Nat} {d : α} (h1 : lo ≤ i) (h2 : i < l.length) : (l.take (i + 1)).drop lo = (l.take i).drop lo ++ [l.getD i d] := by
  rw [take_succ_getD l i d h2, List.drop_append_of_le_length (by simp; omega)]
theorem mem_take_drop {α : Type} {l : List α} {hi lo : Nat} {x d : α} (h : x ∈ (l.take hi).drop lo) : ∃ i, lo ≤ i ∧ i < hi ∧ i < l.length ∧ l.getD i d = x := by
  obtain ⟨j, hj, he⟩ := List.mem_iff_getElem.1 h
  simp only [List.length_drop, List.length_take] at hj
  refine ⟨lo + j, by omega, by omega, by omega, ?_⟩
  rw [List.getElem_drop, List.getElem_take] at he
  rw [List.getD_eq_getElem?_getD, List.getElem?_eq_getElem (by omega)]; exact he
theorem rest_mem {ws : List (List UInt8)} {lo hi d : Nat} (_hhi : hi ≤ ws.length) (hd : ∀ i, lo ≤ i → i < hi → d ≤ (ws.getD i []).length ∧ (ws.getD i []).length ≤ 255) :
    ∀ r, r ∈ ((ws.take hi).drop lo).map (List.drop d) → r.length ≤ 255 := by
  intro r hr
  obtain ⟨x, hx, rfl⟩ := List.mem_map.1 hr
  obtain ⟨i, h1, h2, _, rfl⟩ := mem_take_drop (d := []) hx
  have := hd i h1 h2
  simp only [List.length_drop]; omega
theorem frame_bound {l : List (List UInt8)} (h : ∀ r, r ∈ l → r.length ≤ 255) : (frame l).length ≤ l.length * 265 := by
  induction l with
  | nil => simp [frame]
  | cons r l ih =>
    have h1 := h r (by simp)
    have h2 := ih (fun x hx => h x (by simp [hx]))
    have h3 := uintB_len10 (n := r.length) (by omega)
    simp only [frame, List.length_append, List.length_cons]; omega

/-- a list in which all from a place on have moved by one -/
def cont {α : Type} (d : α) (l : List α) (i : Nat) : List α := (l ++ [d]).take (i + 1) ++ l.drop i
theorem cont_get {α : Type} {d : α} {l : List α} {i : Nat} (hi : i ≤ l.length) (j : Nat) : (cont d l i)[j]? = if j ≤ i then (l ++ [d])[j]? else l[j - 1]? := by
  unfold cont
  rw [List.getElem?_append]
  have hl : ((l ++ [d]).take (i + 1)).length = i + 1 := by simp; omega
  rw [hl]
  by_cases h : j ≤ i
  · rw [if_pos (by omega), if_pos h, List.getElem?_take, if_pos (by omega)]
  · rw [if_neg (by omega), if_neg h, List.getElem?_drop, show i + (j - (i + 1)) = j - 1 from by omega]
theorem cont_len {α : Type} {d : α} {l : List α} {i : Nat} (hi : i ≤ l.length) : (cont d l i).length = l.length + 1 := by
  unfold cont; simp; omega
theorem cont_top {α : Type} (d : α) (l : List α) : cont d l l.length = l ++ [d] := by
  unfold cont; rw [List.drop_length, List.append_nil, List.take_of_length_le (by simp)]
theorem cont_step {α : Type} {d : α} {l : List α} {i : Nat} (h0 : 0 < i) (hi : i ≤ l.length) : (cont d l i).set i (l.getD (i - 1) d) = cont d l (i - 1) := by
  apply List.ext_getElem?
  intro j
  rw [cont_get (by omega), List.getElem?_set, cont_len hi]
  by_cases h : i = j
  · subst h
    rw [if_pos rfl, if_pos (by omega), if_neg (by omega), List.getD_eq_getElem?_getD, List.getElem?_eq_getElem (by omega)]; rfl
  · rw [if_neg h, cont_get hi]
    by_cases h2 : j ≤ i - 1
    · rw [if_pos h2, if_pos (by omega)]
    · rw [if_neg h2, if_neg (by omega)]
theorem cont_get0 {α : Type} {d : α} {l : List α} {i : Nat} (h0 : 0 < i) (hi : i ≤ l.length) : (cont d l i)[i - 1]? = some (l.getD (i - 1) d) := by
  rw [cont_get hi, if_pos (by omega), List.getElem?_append_left (by omega), List.getD_eq_getElem?_getD, List.getElem?_eq_getElem (by omega)]; rfl
theorem cont_end {α : Type} {d x : α} {l : List α} {q : Nat} (hq : q ≤ l.length) : (cont d l q).set q x = l.take q ++ x :: l.drop q := by
  apply List.ext_getElem?
  intro j
  rw [List.getElem?_set, cont_len hq, List.getElem?_append, List.length_take, Nat.min_eq_left hq]
  by_cases h : q = j
  · subst h; rw [if_pos rfl, if_pos (by omega), if_neg (by omega)]; simp
  · rw [if_neg h, cont_get hq]
    by_cases h2 : j < q
    · rw [if_pos (by omega), if_pos h2, List.getElem?_take, if_pos h2, List.getElem?_append_left (by omega)]
    · rw [if_neg (by omega), if_neg h2]
      obtain ⟨m, hm⟩ : ∃ m, j - q = m + 1 := ⟨j - q - 1, by omega⟩
      rw [hm, List.getElem?_cons_succ, List.getElem?_drop, show q + m = j - 1 from by omega]
end Go.Hb

/-
  Operations on bytes and texts that read or turn the world. Over any program. No conditions but those that each lemma names.
-/
namespace Go.Hb
open Go.RowKit

/-- bytes as cells -/
def U8 (l : List UInt8) : List Value := l.map fun b => Value.int .u8 b.toNat
theorem U8_len (l : List UInt8) : (U8 l).length = l.length := by simp [U8]
theorem U8_app (a b : List UInt8) : U8 (a ++ b) = U8 a ++ U8 b := by simp [U8]
theorem U8_one (l : List UInt8) : (U8 l).all Value.oneCell' = true := by
  rw [List.all_eq_true]
  intro u hu
  simp only [U8, List.mem_map] at hu
  obtain ⟨b, _, rfl⟩ := hu
  rfl
def byteOk (P : Program) (t e u : TypeId) : Bool :=
  sliceOk P t e 1 1 && (match P.underlying e with | some (.int .u8) => true | _ => false) && (match P.underlying u with | some .string => true | _ => false) &&
    (match P.info? e with | some i => (match i.zero with | some (.int .u8 0) => true | _ => false) | none => false)
theorem byteOk_spec {P : Program} {t e u : TypeId} (h : byteOk P t e u = true) :
    sliceOk P t e 1 1 = true ∧ P.underlying e = some (.int .u8) ∧ P.underlying u = some .string ∧ ∃ i, P.info? e = some i ∧ i.zero = some (.int .u8 0) := by
  simp only [byteOk, Bool.and_eq_true] at h
  obtain ⟨⟨⟨h1, h2⟩, h3⟩, h4⟩ := h
  refine ⟨h1, ?_, ?_, ?_⟩
  · split at h2
    · rename_i h; exact h
    · cases h2
  · split at h3
    · rename_i h; exact h
    · cases h3
  · split at h4
    · rename_i i hi
      split at h4
      · rename_i h; exact ⟨i, hi, h⟩
      · cases h4
    · cases h4

section
variable {P : Program} {N : Nat} {σ : Nat → Value} {w : World} {dst : Option Nat} {ty : TypeId} {pos : String} {af : Array Edge} {g : Option (Nat × Bool)} {x y z : Operand} {K : (Nat → Value) → World → Prop}

theorem foldl_push (l : List UInt8) (r : ByteArray) : (l.map fun b => (b.toNat : Int)).foldl (fun r n => r.push (UInt8.ofNat n.toNat)) r = ⟨r.data ++ l.toArray⟩ := by
  induction l generalizing r with
  | nil => simp
  | cons b l ih =>
    simp only [List.map_cons, List.foldl_cons]
    rw [ih]
    apply ByteArray.ext
    simp [ByteArray.push]
/-- string(bytes) -/
theorem cvbs {t e u n c : Nat} {a : Option Addr} {l : List UInt8} (h : byteOk P t e u = true) (hx : ev N σ x = .slice a n c) (hc : Cells w.heap a (U8 l)) (hl : l.length = n) :
    (execOp (ev N σ) ⟨dst, .convert t u x, ty, pos, af, g⟩).run P w = .ok (.value (str l)) w := by
  obtain ⟨h1, h2, h3, _⟩ := byteOk_spec h
  obtain ⟨hu, _⟩ := sliceOk_spec h1
  have hconv : (Conv.bytesToString (.slice a n c)).run P w = .ok (str l) w := by
    by_cases he : l = []
    · subst he
      cases a with
      | none => simp [Conv.bytesToString, str]; rfl
      | some a =>
        subst hl
        have := run_bytesToString (P := P) w a 0 c [] (by simp [loadCells, loadCellsFrom])
        exact this.trans rfl
    · have ha := hc.ok (by simpa [U8] using he)
      have hload : (loadCells ⟨bk a, fo a, none⟩ n).run P w = .ok ((l.map fun b => (b.toNat : Int)).map (Value.int .u8)).toArray w := by
        subst hl
        have := run_loadCells_list (P := P) w ⟨bk a, fo a, none⟩ (U8 l) fun j v hj => by
          rw [addr_add, cell_cel]
          exact hc.cel j v hj
        rw [U8_len] at this
        rw [this]
        simp [U8]
      rw [ha, run_bytesToString w _ n c _ hload, foldl_push]
      simp [str, ByteArray.empty, ByteArray.emptyWithCapacity]
      rfl
  simp [execOp, hx, run_convert_bytes_string w t u e a n c hu h2 h3, hconv]
/-- append(bytes, text...) -/
theorem apS {t e u B n : Nat} {v : Value} {xs : List Value} {l : List UInt8} (h : byteOk P t e u = true) (hown : w.ownsRow B e 1 v n xs) (hx : ev N σ x = v) (hB : B ≤ w.heap.size) (hy : ev N σ y = str l)
    (hb : n + l.length ≤ 140737488355328)
    (k : ∀ v' w', w'.ownsRow B e 1 v' (n + l.length) (xs ++ U8 l) → Md (fun k => v.ownBlock = some k) w w' → (v' = .slice none 0 0 ↔ v = .slice none 0 0 ∧ l = []) → (∀ k, v'.ownBlock = some k → v.ownBlock = some k ∨ w.heap.size ≤ k) → K (updo σ dst v') w') :
    wpo P N ⟨dst, .call ⟨.builtin .append, #[x, y], #[t, u]⟩, ty, pos, af, g⟩ σ w K := by
  obtain ⟨h1, h2, h3, i, hi, hz⟩ := byteOk_spec h
  obtain ⟨hu, j, zv, hj, _, hs, hby, _, _⟩ := sliceOk_spec h1
  obtain rfl : j = i := Option.some.inj (hj.symm.trans hi)
  obtain ⟨v', w', hr, h4, h5, h6⟩ := Lib.run_append_own_string (P := P) w B t u ty e j hu h3 hi hz hs hby v n xs hown ⟨⟨l⟩⟩ (by show n + l.length ≤ maxLen; unfold maxLen; omega) hb hB
  refine wpo_run (w' := w') (v := v') ?_ (k v' w' h4 ⟨h5.os, h5.output, h5.size, fun k hk hne => h5.block k hk (fun e => hne e.symm)⟩ ?_ ?_)
  · have hy' : ev N σ y = .string ⟨⟨l⟩⟩ := hy
    simp [execOp, resolve, invoke, builtin, hx, hy', hr]
  · rw [h6]
    show (_ ∧ l.length = 0) ↔ _
    simp
  · intro k hk
    rcases hown.2 with ⟨rfl, rfl⟩ | ⟨gg, cap, cur, rfl, hbg, hg, hnc, hcm, hcs, htake⟩
    · have hx : xs = [] := List.eq_nil_of_length_eq_zero (by simpa using hown.1)
      subst hx
      obtain ⟨v2, w2, hr2, h2', _, _⟩ := Lib.run_append_own_string (P := P) w w.heap.size t u ty e j hu h3 hi hz hs hby _ 0 [] (World.ownsRow_nil w w.heap.size e 1) ⟨⟨l⟩⟩ (by show 0 + l.length ≤ maxLen; unfold maxLen; omega) (by show 0 + l.length ≤ _; omega) (Nat.le_refl _)
      rw [hr] at hr2
      cases hr2
      rcases h2'.2 with ⟨h, _⟩ | ⟨g2, _, _, h, hb2, _⟩
      · rw [h] at hk; simp [Value.ownBlock] at hk
      · rw [h] at hk; simp only [Value.ownBlock, Option.some.injEq] at hk; exact .inr (by omega)
    · by_cases hroom : n + l.length ≤ cap
      · rw [Lib.run_append_room_string (P := P) w t u ty e j hu h3 hi hs gg n cap cur hg ⟨⟨l⟩⟩ hroom (by show n + l.length ≤ _; omega)] at hr
        cases hr
        exact .inl hk
      · have holds : ∀ j u, xs[j]? = some u → w.cell? ((⟨gg, 0, none⟩ : Addr).add j) = some u := hown.cells (g := gg) rfl
        rw [Lib.run_append_grow_string (P := P) w t u ty e j _ hu h3 hi hz ⟨gg, 0, none⟩ n cap xs (by rw [hs]; exact hown.1) holds ⟨⟨l⟩⟩ (by show cap < n + l.length; omega) (by show ((n + l.length : Nat) : Int) ≤ _; omega) (growslice_fits (by show cap < n + l.length; omega) (by rw [hby]; show (n + l.length) * 1 ≤ _; omega))] at hr
        cases hr
        simp only [Value.ownBlock, Option.some.injEq] at hk
        exact .inr (by omega)
/-- unsafe.SliceData of a slice of the call's own -/
theorem usd {at_ : Array TypeId} {v : Value} {a : Option Addr} {n c : Nat} (hx : ev N σ x = .slice a n c) (h : a = none ∨ c ≠ 0) :
    (execOp (ev N σ) ⟨dst, .call ⟨.builtin .unsafeSliceData, #[x], at_⟩, ty, pos, af, g⟩).run P w = .ok (.value (.pointer a)) w := by
  have _ := v
  have : (Builtin.unsafeSliceData_ at_ ty #[.slice a n c]).run P w = .ok (.pointer a) w := by
    cases a with
    | none => exact Lib.run_unsafeSliceData_nil w at_ ty n c
    | some a => exact Lib.run_unsafeSliceData_row w at_ ty a n c (h.resolve_left (by simp))
  simp [execOp, resolve, invoke, builtin, hx, this]
def ptrTo (P : Program) (pt e : TypeId) : Bool := match P.underlying pt with | some (.pointer e') => e' == e && P.cellsOf e == 1 | _ => false
/-- unsafe.String of a row of the call's own: the bytes; the row can't be written any more -/
theorem usg {pt it e B n c : Nat} {a : Option Addr} {l : List UInt8} {xs : List Value} (hp : ptrTo P pt e = true) (hx : ev N σ x = .pointer a) (hy : ev N σ y = .int .i64 n) (hown : w.ownsRow B e 1 (.slice a n c) n xs)
    (hxs : xs = U8 l) (h63 : n ≤ 9223372036854775807)
    (k : ∀ w', Md (fun k => (Value.slice a n c).ownBlock = some k) w w' → w'.heap.size = w.heap.size → K (updo σ dst (str l)) w') :
    wpo P N ⟨dst, .call ⟨.builtin .unsafeString, #[x, y], #[pt, it]⟩, ty, pos, af, g⟩ σ w K := by
  subst hxs
  have hln : l.length = n := by have := hown.1; simpa [U8] using this
  unfold ptrTo at hp
  split at hp
  case h_2 => cases hp
  rename_i e' hu
  simp only [Bool.and_eq_true, beq_iff_eq] at hp
  obtain ⟨rfl, hcell⟩ := hp
  by_cases he : l = []
  · subst he
    obtain rfl : n = 0 := hln.symm
    refine wpo_run (w' := w) (v := str []) ?_ (k w (Md.refl _ _) rfl)
    simp [execOp, resolve, invoke, builtin, hx, hy, Lib.run_unsafeString_none]
    rfl
  · rcases hown.2 with ⟨h, h0⟩ | ⟨gg, cap, cur, h, _, hgg, hle, _, hsz, ht⟩
    · subst h0; simp only [List.length_eq_zero_iff] at hln; exact absurd hln he
    · simp only [Value.slice.injEq, true_and] at h
      obtain ⟨rfl, rfl⟩ := h
      have hsh : w.shape? gg = some (e', cur.size) := by simp [World.shape?, hgg]
      have hr := Lib.run_unsafeString_row (P := P) w pt it ty e' hu hcell gg cur.size hsh l he (by rw [hln, hsz]; omega) (by omega) (fun j u hu => by
        obtain ⟨ad, cp, hv, hcs, _, hk, _⟩ := own_cells hown
        simp only [Value.slice.injEq, true_and] at hv
        obtain ⟨rfl, rfl⟩ := hv
        rw [addr_add, cell_cel]
        exact hcs.cel j _ (by simp [U8, hu]))
      refine wpo_run (w' := w.freeze ⟨gg, 0, none⟩ l.length) (v := str l) ?_ (k _ ⟨?_, ?_, ?_, ?_⟩ ?_)
      · simp [execOp, resolve, invoke, builtin, hx, hy, ← hln, hr, str]
      · unfold World.freeze; split <;> rfl
      · unfold World.freeze; split <;> rfl
      · unfold World.freeze; split <;> simp
      · intro k hk hne
        have hne' : k ≠ gg := fun e => hne (by simp [Value.ownBlock, e])
        unfold World.freeze
        split
        · rfl
        · simp only [Array.getElem?_modify]; rw [if_neg (fun e => hne' e.symm)]
      · unfold World.freeze; split <;> simp
/-- a pointer to a struct, as an unsafe.Pointer and back -/
def unsOk (P : Program) (pt up e n : Nat) : Bool :=
  (match P.underlying pt with | some (.pointer e') => e' == e | _ => false) && (match P.underlying up with | some .unsafePointer => true | _ => false) && P.cellsOf e == n && Nat.blt 0 n && (match P.info? e with | some i => i.size == n | _ => false)
theorem unsOk_spec {P : Program} {pt up e n : Nat} (h : unsOk P pt up e n = true) : P.underlying pt = some (.pointer e) ∧ P.underlying up = some .unsafePointer ∧ P.cellsOf e = n ∧ 0 < n ∧ ∃ i, P.info? e = some i ∧ i.size = n := by
  simp only [unsOk, Bool.and_eq_true] at h
  obtain ⟨⟨⟨⟨h1, h2⟩, h3⟩, h4⟩, h5⟩ := h
  refine ⟨?_, ?_, by simpa using h3, Nat.lt_of_lt_of_le (Nat.lt_succ_self 0) (Nat.le_of_ble_eq_true h4), ?_⟩
  · split at h1
    · rename_i h; simp only [beq_iff_eq] at h1; rw [h, h1]
    · cases h1
  · split at h2
    · rename_i h; exact h
    · cases h2
  · split at h5
    · rename_i i hi; exact ⟨i, hi, by simpa using h5⟩
    · cases h5
theorem toU {pt up e n b : Nat} {L : List Value} (h : unsOk P pt up e n = true) (hx : ev N σ x = .pointer (some ⟨b, 0, none⟩)) (hb : w.heap[b]? = some (.cells L.toArray e (0, 0))) (hl : L.length = n) :
    (execOp (ev N σ) ⟨dst, .convert pt up x, ty, pos, af, g⟩).run P w = .ok (.value (.pointer (some ⟨b, 0, none⟩))) w := by
  obtain ⟨h1, h2, h3, h4, i, hi, hs⟩ := unsOk_spec h
  have hsh : w.shape? b = some (e, L.length) := by simp [World.shape?, hb]
  have hne : ¬ n = 0 := by omega
  simp [execOp, hx, convert, run_under h1, run_under h2, Conv.unsafePointer, Conv.seenAt, viewAt, hsh, cellsIn, hl, sizeOf, run_info hi, hs, hne]
theorem fromU {pt up e n b : Nat} {L : List Value} (h : unsOk P pt up e n = true) (hx : ev N σ x = .pointer (some ⟨b, 0, none⟩)) (hb : w.heap[b]? = some (.cells L.toArray e (0, 0))) (hl : L.length = n) :
    (execOp (ev N σ) ⟨dst, .convert up pt x, ty, pos, af, g⟩).run P w = .ok (.value (.pointer (some ⟨b, 0, none⟩))) w := by
  obtain ⟨h1, h2, h3, h4, i, hi, hs⟩ := unsOk_spec h
  have hsh : w.shape? b = some (e, L.length) := by simp [World.shape?, hb]
  have hne : ¬ n = 0 := by omega
  have hlies : liesAt P P.depth e (L.length / P.cellsOf e) 0 e 1 = true := by
    have hd : P.depth = (2 * (P.types.size + Made.depth) + 1) + 1 := rfl
    rw [hd]
    simp only [liesAt, Bool.or_eq_true]
    left
    rw [hd]
    simp [rowAt, h3, hne, hl, sameLayout, Nat.div_self h4]
  simp [execOp, hx, convert, run_under h1, run_under h2, Conv.unsafePointer, Conv.seenAt, viewAt, hsh, variablesAt, sizeOf, run_info hi, hs, hne, hlies]
/-- a pointer against itself -/
theorem nepp {t t' e : TypeId} {a : Addr} (hu : P.underlying t = some (.pointer e)) (hs : (P.info? e).isSome = true) (hx : ev N σ x = .pointer (some a)) (hy : ev N σ y = .pointer (some a)) :
    (execOp (ev N σ) ⟨dst, .binOp .neq t x y t', ty, pos, af, g⟩).run P w = .ok (.value (.bool false)) w := by
  obtain ⟨i, hi⟩ := Option.isSome_iff_exists.1 hs
  have he : ∀ d, (Op.equalIn (d + 1) t (.pointer (some a)) (.pointer (some a))).run P w = .ok true w := by
    intro d
    simp [Op.equalIn, run_under hu, sizeOf, run_info hi, sameAddr]
  have h : (binOp .neq t (.pointer (some a)) (.pointer (some a))).run P w = .ok (.bool false) w := by
    have := he 9999
    simp only [binOp]
    have h2 : (Op.equal t (.pointer (some a)) (.pointer (some a))).run P w = .ok true w := this
    simp [h2]
  simp [execOp, hx, hy, eqGuard, h]
/-- a function without a body, whose value is its argument -/
theorem clx {f : FuncId} {args : Array Operand} {ats : Array TypeId} {v : Value} (hc : ∀ v w, (callFunc f #[v]).run P w = .ok (.value v) w) (hL : args.toList.map (ev N σ) = [v]) :
    (execOp (ev N σ) ⟨dst, .call ⟨.value (.func f), args, ats⟩, ty, pos, af, g⟩).run P w = .ok (.value v) w := by
  have : args.map (ev N σ) = #[v] := by rw [← Array.toList_inj, Array.toList_map, hL]
  simp [execOp, resolve, ev, Deferred.ofValue, invoke, this, hc]

/-- a strings.Builder at block b -/
structure Bd (T e : TypeId) (w : World) (b : Nat) (buf : Value) (l : List UInt8) : Prop where
  blk : ∃ pa, w.heap[b]? = some (.cells [Value.pointer pa, buf].toArray T (0, 0)) ∧ (pa = none ∨ pa = some ⟨b, 0, none⟩)
  own : w.ownsRow (b + 1) e 1 buf l.length (U8 l)
  nil : buf = .slice none 0 0 ↔ l = []
/-- what it may write -/
def BF (b : Nat) (buf : Value) (k : Nat) : Prop := k = b ∨ buf.ownBlock = some k
end
theorem Bd.lt {T e b : Nat} {w : World} {buf : Value} {l : List UInt8} (h : Bd T e w b buf l) : b < w.heap.size := let ⟨_, h, _⟩ := h.blk; (Array.getElem?_eq_some_iff.1 h).1
theorem Bd.flt {T e b : Nat} {w : World} {buf : Value} {l : List UInt8} (h : Bd T e w b buf l) {k : Nat} (hk : BF b buf k) : b ≤ k ∧ k < w.heap.size := by
  rcases hk with rfl | hk
  · exact ⟨Nat.le_refl _, h.lt⟩
  · have := h.own.lt k hk; omega
theorem Bd.md {T e b : Nat} {F : Nat → Prop} {w w' : World} {buf : Value} {l : List UInt8} (h : Bd T e w b buf l) (hm : Md F w w') (hf : ∀ k, BF b buf k → ¬ F k) : Bd T e w' b buf l := by
  obtain ⟨⟨pa, h1, h2⟩, h3, h4⟩ := h
  exact ⟨⟨pa, hm.blk h1 (hf b (.inl rfl)), h2⟩, own_md h3 hm (fun k hk => hf k (.inr hk)), h4⟩
end Go.Hb

/-
  Structs: built, laid into slices; rows of structs as lists of cells. Over any program. No conditions but those that each lemma names.
-/
namespace Go.Hb
open Go.RowKit

/-- where a struct's fields lie, and its zero value -/
def structOk (P : Program) (t : TypeId) : Option (List (Nat × Nat) × List Value) :=
  match P.info? t, P.underlying t with
  | some it, some (.struct fields) =>
    match it.zero, fields.toList.mapM (fun f => (P.info? f.type).map fun i => (f.offset, i.size)) with
    | some z, some pl => some (pl, z.cells.toList)
    | _, _ => none
  | _, _ => none
def putAll (pl : List (Nat × Nat)) : List Value → List (Nat × Value) → Option (List Value)
  | zs, [] => some zs
  | zs, (i, v) :: r => match pl[i]? with
    | some (off, s) => if (s == 1 && v.oneCell' && Nat.blt off zs.length) = true then putAll pl (zs.set off v) r else none
    | none => none
theorem putAll_fill {pl : List (Nat × Nat)} {zs L : List Value} {ps : List (Nat × Value)} (h : putAll pl zs ps = some L) : Instr.fill (pl.toArray[·]?) zs.toArray ps = some L.toArray := by
  induction ps generalizing zs with
  | nil => simp only [putAll, Option.some.injEq] at h; subst h; rfl
  | cons p ps ih =>
    obtain ⟨i, v⟩ := p
    simp only [putAll] at h
    split at h
    · rename_i off s hs
      split at h
      · rename_i hc
        simp only [Bool.and_eq_true, beq_iff_eq] at hc
        obtain ⟨⟨rfl, h1⟩, ho⟩ := hc
        have ho' : off < zs.length := Nat.le_of_ble_eq_true ho
        have hv : v.cells = #[v] := one_cells h1
        have hpl : pl.toArray[i]? = some (off, 1) := by simpa using hs
        simp only [Instr.fill, hpl, hv]
        rw [if_neg (by simp; omega), ← ih h]
        simp
      · cases h
    · cases h

theorem take_mid {α : Type} {C vs : List α} {a s m : Nat} (h1 : a + s ≤ m) (hv : vs.length = s) (h2 : m ≤ C.length) : (C.take a ++ vs ++ C.drop (a + s)).take m = (C.take m).take a ++ vs ++ (C.take m).drop (a + s) := by
  rw [List.take_append, List.take_of_length_le (by simp only [List.length_append, List.length_take]; omega), List.take_take, List.drop_take]
  congr 2
  · rw [show min a m = a from by omega]
  · simp only [List.length_append, List.length_take]; omega
/-! rows: each element of a list laid out in as many cells -/
theorem flat_len {α : Type} {f : α → List Value} {m : Nat} (hf : ∀ a, (f a).length = m) (l : List α) : (l.flatMap f).length = l.length * m := by
  induction l with
  | nil => simp
  | cons x l ih => simp [ih, hf, Nat.succ_mul, Nat.add_comm]
theorem flat_get {α : Type} {f : α → List Value} {m : Nat} (hf : ∀ a, (f a).length = m) {l : List α} {j c : Nat} {a : α} (h : l[j]? = some a) (hc : c < m) : (l.flatMap f)[j * m + c]? = (f a)[c]? := by
  induction l generalizing j with
  | nil => simp at h
  | cons x l ih =>
    cases j with
    | zero =>
      simp only [List.getElem?_cons_zero, Option.some.injEq] at h; subst h
      rw [Nat.zero_mul, Nat.zero_add, List.flatMap_cons, List.getElem?_append_left (by rw [hf]; exact hc)]
    | succ j =>
      simp only [List.getElem?_cons_succ] at h
      rw [List.flatMap_cons, List.getElem?_append_right (by rw [hf, Nat.succ_mul]; omega), hf, show (j + 1) * m + c - m = j * m + c from by rw [Nat.succ_mul]; omega]
      exact ih h
theorem flat_cells {α : Type} {f : α → List Value} {m : Nat} (hf : ∀ a, (f a).length = m) {h : Array Obj} {a : Option Addr} {l : List α} {i : Nat} {e : α} (hc : Cells h a (l.flatMap f)) (hl : l[i]? = some e) : ∀ j, j < m → Hb.cel h (bk a) (fo a + i * m + j) = (f e)[j]? := by
  intro j hj
  have h1 := flat_get hf hl hj
  have h2 : j < (f e).length := by rw [hf]; exact hj
  rw [List.getElem?_eq_getElem h2] at h1 ⊢
  rw [Nat.add_assoc]; exact hc.cel _ _ h1
theorem flat_ne {α : Type} {f : α → List Value} {m : Nat} (hf : ∀ a, (f a).length = m) (hm : 0 < m) {l : List α} (h : 0 < l.length) : l.flatMap f ≠ [] := by
  intro e
  have := flat_len hf l
  rw [e] at this
  have : 0 < l.length * m := Nat.mul_pos h hm
  simp at *; omega
theorem flat_set {α : Type} {f : α → List Value} {m : Nat} (hf : ∀ a, (f a).length = m) {l : List α} {j : Nat} (x : α) (h : j < l.length) : (l.set j x).flatMap f = (l.flatMap f).take (j * m) ++ f x ++ (l.flatMap f).drop (j * m + m) := by
  induction l generalizing j with
  | nil => simp at h
  | cons y l ih =>
    cases j with
    | zero =>
      simp only [List.set_cons_zero, List.flatMap_cons, Nat.zero_mul, List.take_zero, List.nil_append, Nat.zero_add]
      rw [List.drop_append, List.drop_of_length_le (by rw [hf]; exact Nat.le_refl _), hf]; simp
    | succ j =>
      simp only [List.length_cons] at h
      rw [List.set_cons_succ, List.flatMap_cons, ih (by omega), List.flatMap_cons, List.take_append, List.drop_append, hf, List.take_of_length_le (l := f y) (by rw [hf, Nat.succ_mul]; omega), List.drop_of_length_le (l := f y) (by rw [hf, Nat.succ_mul]; omega),
        show (j + 1) * m - m = j * m from by rw [Nat.succ_mul]; omega, show (j + 1) * m + m - m = j * m + m from by rw [Nat.succ_mul]; omega]
      simp
theorem flat_one {α : Type} {f : α → List Value} (hf : ∀ a, (f a).all Value.oneCell' = true) (l : List α) : (l.flatMap f).all Value.oneCell' = true := by
  simp only [List.all_flatMap, List.all_eq_true]; intro x _; exact List.all_eq_true.1 (hf x)

theorem putAll_c {pl : List (Nat × Nat)} {zs : List Value} {i off : Nat} {v : Value} {r : List (Nat × Value)} (h : pl[i]? = some (off, 1)) (h1 : v.oneCell' = true) (ho : Nat.blt off zs.length = true) : putAll pl zs ((i, v) :: r) = putAll pl (zs.set off v) r := by
  simp only [putAll, h, h1, ho]; rfl
theorem put2 {a b u v : Value} (h1 : u.oneCell' = true) (h2 : v.oneCell' = true) : putAll [(0, 1), (1, 1)] [a, b] [(0, u), (1, v)] = some [u, v] := by
  rw [putAll_c rfl h1 rfl, putAll_c rfl h2 rfl]; rfl

section
variable {P : Program} {N : Nat} {σ : Nat → Value} {w : World} {dst : Option Nat} {ty : TypeId} {pos : String} {af : Array Edge} {g : Option (Nat × Bool)} {x y z : Operand} {K : (Nat → Value) → World → Prop}
theorem bld {t : TypeId} {parts : Array (Nat × Operand)} {pl : List (Nat × Nat)} {zs L : List Value} {ps : List (Nat × Value)} (h : structOk P t = some (pl, zs)) (hp : parts.toList.map (fun p => (p.1, ev N σ p.2)) = ps) (hL : putAll pl zs ps = some L) :
    (execOp (ev N σ) ⟨dst, .build t parts, ty, pos, af, g⟩).run P w = .ok (.value (.agg L.toArray)) w := by
  unfold structOk at h
  split at h
  · rename_i it fields hi hu
    split at h
    · rename_i z pl' hz hm
      simp only [Option.some.injEq, Prod.mk.injEq] at h
      obtain ⟨rfl, rfl⟩ := h
      have hb : P.built t (parts.map (fun p => (p.1, ev N σ p.2))).toList = some L.toArray := by
        have := putAll_fill hL
        simp only [Array.toArray_toList] at this
        simp only [Program.built, hi, hu, hz, hm, Array.toList_map, hp]; exact this
      simp [execOp, run_build w t _ _ hb]
    · cases h
  · cases h
/-- a store of a struct into a slice of the call's own -/
theorem stoa {t B e size n cap off j : Nat} {a : Option Addr} {xs vs : List Value} (hown : w.ownsRow B e size (.slice a n cap) n xs) (hz : cellsN P t = some size) (hx : ev N σ x = .pointer (some ⟨bk a, off, none⟩)) (hy : ev N σ y = .agg vs.toArray) (hv : vs.length = size) (h1 : vs.all Value.oneCell' = true)
    (hj : off = fo a + j * size) (hl : j < n) (hs : 0 < size)
    (k : ∀ w', Md (fun k => (Value.slice a n cap).ownBlock = some k) w w' → w'.ownsRow B e size (.slice a n cap) n (xs.take (j * size) ++ vs ++ xs.drop (j * size + size)) → K σ w') : wpo P N ⟨none, .store t x y, ty, pos, af, g⟩ σ w K := by
  obtain ⟨h0, h⟩ := hown
  have hjs : j * size + size ≤ n * size := by rw [← Nat.succ_mul]; exact Nat.mul_le_mul_right _ hl
  rcases h with ⟨h, rfl⟩ | ⟨gg, cp, cur, h, hB, hg, hle, hcm, hsz, ht⟩
  · simp at hl
  · simp only [Value.slice.injEq, true_and] at h
    obtain ⟨rfl, rfl⟩ := h
    have hj' : off = j * size := by rw [hj]; simp [fo]
    subst hj'
    have hcur : n * size ≤ cur.toList.length := by
      have := Nat.mul_le_mul_right size hle
      rw [Array.length_toList, hsz]; omega
    unfold cellsN at hz
    simp only [Option.map_eq_some_iff] at hz
    obtain ⟨i, hi, hs'⟩ := hz
    have hcs : cur.toList.length = cur.size := Array.length_toList
    have hst := run_storeCells_at P gg (j * size) e vs 0 cur w hg (by omega) (all_one h1)
    have hrun : (execOp (ev N σ) ⟨none, .store t x y, ty, pos, af, g⟩).run P w = .ok .skip (w.setRow gg (cur.toList.take (j * size) ++ vs ++ cur.toList.drop (j * size + size)).toArray) := by
      simp [execOp, Instr.storeAt, hx, hy, Instr.sureAddr, storeVar, Value.cells, sizeOf, run_info hi, hs', hv, hst, bk]
    unfold wpo Oper.wp
    rw [act_eval, hrun]
    refine ⟨σ, rfl, k _ ⟨rfl, rfl, by simp, fun k _ hk => setRow_other w gg k _ (fun e => hk (by subst e; rfl))⟩ ⟨?_, .inr ⟨gg, cap, _, rfl, hB, setRow_heap w gg _ _ e _ hg, hle, hcm, ?_, ?_⟩⟩⟩
    · rw [List.length_append, List.length_append, List.length_take, List.length_drop, hv, h0]; omega
    · rw [List.size_toArray, List.length_append, List.length_append, List.length_take, List.length_drop, hv]; omega
    · rw [← ht]
      exact take_mid (by omega) hv (by omega)
end
end Go.Hb

/-
  make([]T, n, n) for elements of one cell. Over any program. No conditions but those that the lemma names.
-/
namespace Go.Hb
open Go.RowKit
section
variable {P : Program} {N : Nat} {σ : Nat → Value} {w : World} {dst : Option Nat} {ty : TypeId} {pos : String} {af : Array Edge} {g : Option (Nat × Bool)} {x y z : Operand} {K : (Nat → Value) → World → Prop}
theorem madeCells_one {zv : Value} (h1 : zv.oneCell' = true) (n : Nat) : madeCells zv.cells n = (List.replicate n zv).toArray := by
  rw [one_cells h1]
  apply Array.ext
  · simp [madeCells]
  · intro i h2 h3
    simp [madeCells, Nat.mod_one]
/-- a new slice of n zero elements -/
theorem mks {t e bytes n : Nat} {kl kc : IntKind} {zv : Value} (ht : sliceOk P t e 1 bytes = true) (hz0 : zeroOf P e = some (some [zv])) (h1 : zv.oneCell' = true) (hx : ev N σ x = .int kl n) (hy : ev N σ y = .int kc n) (hb : bytes * n ≤ 281474976710656) (h63 : n ≤ maxLen)
    (k : ∀ b w', b = w.heap.size → Nw w w' → (∀ B, B ≤ b → w'.ownsRow B e 1 (.slice (some ⟨b, 0, none⟩) n n) n (List.replicate n zv)) → K (updo σ dst (.slice (some ⟨b, 0, none⟩) n n)) w') : wpo P N ⟨dst, .makeSlice t x y, ty, pos, af, g⟩ σ w K := by
  obtain ⟨hu, i, zv', hi, hz, hs, hby, hzs, hpos⟩ := sliceOk_spec ht
  have hzz : zv'.cells = #[zv] := by
    unfold zeroOf at hz0
    simp only [hi, hz, Option.map_some, Option.some.injEq] at hz0
    exact Array.toList_inj.1 (by simpa using hz0)
  refine wpo_new (v := fun b => .slice (some ⟨b, 0, none⟩) n n) (ob := .cells (List.replicate n zv).toArray e (0, 0)) ?_ (fun b w' h2 h3 h4 => k b w' h2 h3 fun B hB => ⟨by simp, .inr ⟨b, n, _, rfl, hB, h4, Nat.le_refl _, h63, by simp, by simp⟩⟩)
  have hr := run_make (P := P) w t e i zv' hu hi hz kl kc n n (by omega) (Int.le_refl _) (by rw [hby, ← Int.natCast_mul]; omega) (by unfold maxLen at h63; omega)
  rw [hzz, hs, Nat.mul_one, Int.toNat_natCast, show madeCells #[zv] n = (List.replicate n zv).toArray by rw [← madeCells_one h1, one_cells h1]] at hr
  simp [execOp, hx, hy, hr]
end
end Go.Hb

/-
  A slice cut to its length and capacity: s[:n:n]. Over any program. No conditions but those that the lemma names.
-/
namespace Go.Hb
section
variable {P : Program} {N : Nat} {σ : Nat → Value} {w : World} {dst : Option Nat} {ty : TypeId} {pos : String} {af : Array Edge} {g : Option (Nat × Bool)} {x y z : Operand}
theorem clp {t n len cap : Nat} {a : Option Addr} {k k' : IntKind} (he : elemSize P t = some n) (hx : ev N σ x = .slice a len cap) (hy : ev N σ y = .int k (len : Nat)) (hz : ev N σ z = .int k' (len : Nat)) (h : len ≤ cap) :
    (execOp (ev N σ) ⟨dst, .slice t x none (some y) (some z), ty, pos, af, g⟩).run P w = .ok (.value (.slice a len len)) w := by
  have h0 : (0 : Int) ≤ (len : Int) := by omega
  unfold elemSize at he
  cases hd : P.underlying t with
  | none => rw [hd] at he; cases he
  | some d =>
    rw [hd] at he
    cases d <;> first | (cases he; done) | skip
    rename_i e
    cases hi' : P.info? e with
    | none => simp [hi'] at he
    | some j =>
      have ha : (if len = 0 then a else a.map (·.add 0)) = a := by
        split
        · rfl
        · cases a <;> simp [Addr.add]
      simp only [execOp, Instr.sliceAt, Instr.slice, hx, hy, hz, Option.map_some, Option.map_none, Instr.sliceBounds, Instr.sliceBound, asIntOf]
      simp [run_under hd, run_info hi', sizeOf, h0, ha]
      intro hlt; omega
end
end Go.Hb

/-
  Maps as lists of keys and values, in the order in which they came in. Over any program. No conditions but those that each lemma names.
-/
namespace Go.Hb
open Go.RowKit

/-- a map's block: its entries in their order -/
def MapIs (h : Array Obj) (b : Nat) (kvs : List (Value × Value)) : Prop := ∃ es clock, h[b]? = some (.map es clock) ∧ es.toList.map (fun e => (e.key, e.val)) = kvs
theorem MapIs.md {F : Nat → Prop} {w w' : World} {b : Nat} {kvs : List (Value × Value)} (h : MapIs w.heap b kvs) (hm : Md F w w') (hf : ¬ F b) : MapIs w'.heap b kvs :=
  let ⟨es, c, h1, h2⟩ := h; ⟨es, c, hm.blk h1 hf, h2⟩
theorem MapIs.lt {h : Array Obj} {b : Nat} {kvs : List (Value × Value)} (hm : MapIs h b kvs) : b < h.size := let ⟨_, _, h1, _⟩ := hm; (Array.getElem?_eq_some_iff.1 h1).1
/-- keys that can be looked for -/
structure KeyT (P : Program) (k : TypeId) (isK : Value → Prop) : Prop where
  check : ∀ em w v, isK v → (Instr.checkKey em 10000 k v).run P w = .ok () w
  find : ∀ w x es, isK x → (∀ e ∈ es, isK e.key) →
    ((Instr.findKey k x es).run P w = .ok none w ∧ ∀ e ∈ es, e.key ≠ x) ∨ ∃ j e, (Instr.findKey k x es).run P w = .ok (some (j, e.val)) w ∧ es[j]? = some e ∧ e.key = x

theorem findNow_int {q : IntKind} (x : Int) : ∀ (es : List MapEntry) (i : Nat), (∀ e ∈ es, ∃ a, e.key = .int .i64 a) →
    (Instr.findNow (.int q) (.int .i64 x) es i = some none ∧ ∀ e ∈ es, e.key ≠ .int .i64 x) ∨ ∃ j e, Instr.findNow (.int q) (.int .i64 x) es i = some (some (i + j, e.val)) ∧ es[j]? = some e ∧ e.key = .int .i64 x
  | [], i, _ => .inl ⟨rfl, fun _ h => by simp at h⟩
  | e :: es, i, h => by
    obtain ⟨a, ha⟩ := h e (by simp)
    by_cases hx : x = a
    · subst hx
      refine .inr ⟨0, e, ?_, rfl, ha⟩
      simp [Instr.findNow, Instr.sameNow, ha]
    · have hs : Instr.sameNow (.int q) (.int .i64 x) e.key = some false := by simp [Instr.sameNow, ha, hx]
      have hne : e.key ≠ .int .i64 x := by rw [ha]; intro h; cases h; exact hx rfl
      rcases findNow_int (q := q) x es (i + 1) (fun e he => h e (by simp [he])) with ⟨h1, h2⟩ | ⟨j, e', h1, h2, h3⟩
      · refine .inl ⟨by simp [Instr.findNow, hs, h1], fun e' he' => ?_⟩
        rcases List.mem_cons.1 he' with rfl | he'
        · exact hne
        · exact h2 e' he'
      · refine .inr ⟨j + 1, e', ?_, h2, h3⟩
        simp only [Instr.findNow, hs, h1]; rw [show i + 1 + j = i + (j + 1) from by omega]
theorem checkKey_int {P : Program} {k : TypeId} {q : IntKind} {em : Bool} {n : Nat} {a : Int} (hk : P.underlying k = some (.int q)) (w : World) : (Instr.checkKey em (n + 1) k (.int .i64 a)).run P w = .ok () w := by
  simp only [Instr.checkKey, Sem.run_bind, run_under hk, Result.andThen_ok, Sem.run_pure]
theorem checkKey_bool {P : Program} {k : TypeId} {em : Bool} {n : Nat} {a : Bool} (hk : P.underlying k = some .bool) (w : World) : (Instr.checkKey em (n + 1) k (.bool a)).run P w = .ok () w := by
  simp only [Instr.checkKey, Sem.run_bind, run_under hk, Result.andThen_ok, Sem.run_pure]
theorem checkKey_str {P : Program} {k : TypeId} {em : Bool} {n : Nat} {a : List UInt8} (hk : P.underlying k = some .string) (w : World) : (Instr.checkKey em (n + 1) k (str a)).run P w = .ok () w := by
  simp only [str, Instr.checkKey, Sem.run_bind, run_under hk, Result.andThen_ok, Sem.run_pure]
/-- a key that is an int -/
def isI (v : Value) : Prop := ∃ a, v = .int .i64 a
theorem key_int {P : Program} {k : TypeId} {q : IntKind} (hk : P.underlying k = some (.int q)) : KeyT P k isI where
  check em w v hv := by obtain ⟨a, rfl⟩ := hv; exact checkKey_int hk w
  find w x es hx hes := by
    obtain ⟨a, rfl⟩ := hx
    rcases findNow_int (q := q) a es 0 hes with ⟨h1, h2⟩ | ⟨j, e, h1, h2, h3⟩
    · exact .inl ⟨by simp [Instr.findKey, run_under hk, h1], h2⟩
    · exact .inr ⟨j, e, by simp [Instr.findKey, run_under hk, h1], h2, h3⟩

/-- a key of a bool and a text -/
def isBS (v : Value) : Prop := ∃ (f : Bool) (s : List UInt8), v = .agg #[.bool f, str s]
def bsOk (P : Program) (k : TypeId) : Bool :=
  match P.underlying k with
  | some (.struct fs) => match fs.toList with
    | [f1, f2] => f1.name != "_" && f2.name != "_" && f1.offset == 0 && f2.offset == 1 && !P.stoodInHeld k &&
      (match P.underlying f1.type with | some .bool => true | _ => false) && (match P.underlying f2.type with | some .string => true | _ => false)
    | _ => false
  | _ => false
theorem part_plain {P : Program} {t : TypeId} {cs : Array Value} {o : Nat} {v : Value} {d : TypeDesc} (ht : P.underlying t = some d) (hd : (match d with | .bool | .string => true | _ => false) = true) (hv : cs[o]? = some v) (w : World) : (part t cs o).run P w = .ok v w := by
  cases d <;> first | (cases hd; done) | simp [part, isAgg, run_under ht, hv]
theorem bsOk_spec {P : Program} {k : TypeId} (h : bsOk P k = true) : ∃ fs f1 f2, P.underlying k = some (.struct fs) ∧ fs.toList = [f1, f2] ∧ f1.name ≠ "_" ∧ f2.name ≠ "_" ∧ f1.offset = 0 ∧ f2.offset = 1 ∧ P.stoodInHeld k = false ∧ P.underlying f1.type = some .bool ∧ P.underlying f2.type = some .string := by
  unfold bsOk at h
  split at h
  · rename_i fs hu
    split at h
    · rename_i f1 f2 hf
      simp only [Bool.and_eq_true, bne_iff_ne, beq_iff_eq, Bool.not_eq_true'] at h
      obtain ⟨⟨⟨⟨⟨⟨h1, h2⟩, h3⟩, h4⟩, h5⟩, h6⟩, h7⟩ := h
      refine ⟨fs, f1, f2, hu, hf, h1, h2, h3, h4, h5, ?_, ?_⟩
      · split at h6
        · assumption
        · cases h6
      · split at h7
        · assumption
        · cases h7
    · cases h
  · cases h
theorem equal_bs {P : Program} {k : TypeId} (h : bsOk P k = true) {f g : Bool} {s t : List UInt8} (w : World) : (Op.equal k (.agg #[.bool f, str s]) (.agg #[.bool g, str t])).run P w = .ok (decide (f = g ∧ s = t)) w := by
  obtain ⟨fs, f1, f2, hu, hf, h1, h2, h3, h4, h5, h6, h7⟩ := bsOk_spec h
  have hF : P.fieldsOf k = fs := by simp [Program.fieldsOf, hu]
  have e1 : ∀ (x : Bool) (y : List UInt8) (w : World), (part f1.type #[.bool x, str y] f1.offset).run P w = .ok (.bool x) w := fun x y w => part_plain h6 rfl (by rw [h3]; rfl) w
  have e2 : ∀ (x : Bool) (y : List UInt8) (w : World), (part f2.type #[.bool x, str y] f2.offset).run P w = .ok (str y) w := fun x y w => part_plain h7 rfl (by rw [h4]; rfl) w
  unfold Op.equal
  show (Op.equalIn (9998 + 1 + 1) k _ _).run P w = _
  rw [run_equalIn_struct w (9998 + 1) k _ _ (by rw [hF]; exact hu) h5, hF, hf]
  simp only [Op.eqFields, Sem.run_bind, Sem.run_ite, e1, e2, Result.andThen_ok, run_equalIn_bool' w 9998 f1.type f g h6, h1, h2, ne_eq, not_false_eq_true, if_true]
  by_cases hfg : f = g
  · subst hfg
    have : (Op.equalIn (9998 + 1) f2.type (str s) (str t)).run P w = .ok (decide (s = t)) w := by
      rw [str, str, run_equalIn_string w 9998 f2.type _ _ h7, ByteArray.toList_eq, ByteArray.toList_eq]
      congr 1
      by_cases hst : s = t
      · subst hst; simp
      · simp [hst]
    simp only [beq_self_eq_true, Bool.not_true, Bool.false_eq_true, if_false, this, Result.andThen_ok, true_and]
    by_cases hst : s = t <;> simp [hst]
  · simp [hfg]
theorem checkKey_bs {P : Program} {k : TypeId} {em : Bool} {n : Nat} (h : bsOk P k = true) {f : Bool} {s : List UInt8} (w : World) : (Instr.checkKey em (n + 1 + 1) k (.agg #[.bool f, str s])).run P w = .ok () w := by
  obtain ⟨fs, f1, f2, hu, hf, h1, h2, h3, h4, h5, h6, h7⟩ := bsOk_spec h
  have e1 : ∀ (w : World), (part f1.type #[.bool f, str s] f1.offset).run P w = .ok (.bool f) w := fun w => part_plain h6 rfl (by rw [h3]; rfl) w
  have e2 : ∀ (w : World), (part f2.type #[.bool f, str s] f2.offset).run P w = .ok (str s) w := fun w => part_plain h7 rfl (by rw [h4]; rfl) w
  rw [Instr.checkKey]
  simp only [Sem.run_bind, run_under hu, Result.andThen_ok]
  rw [← Array.forIn_toList, hf]
  simp only [List.forIn_cons, List.forIn_nil, Sem.run_bind, e1, e2, h1, h2, ne_eq, not_false_eq_true, if_true, Result.andThen_ok, checkKey_bool h6, checkKey_str h7, Sem.run_pure]
theorem findAsking_bs {P : Program} {k : TypeId} (h : bsOk P k = true) {f : Bool} {s : List UInt8} (w : World) : ∀ (es : List MapEntry) (i : Nat), (∀ e ∈ es, isBS e.key) →
    ((Instr.findAsking k (.agg #[.bool f, str s]) es i).run P w = .ok none w ∧ ∀ e ∈ es, e.key ≠ .agg #[.bool f, str s]) ∨ ∃ j e, (Instr.findAsking k (.agg #[.bool f, str s]) es i).run P w = .ok (some (i + j, e.val)) w ∧ es[j]? = some e ∧ e.key = .agg #[.bool f, str s]
  | [], i, _ => .inl ⟨by simp [Instr.findAsking], fun _ h => by simp at h⟩
  | e :: es, i, hk => by
    obtain ⟨g, t, ha⟩ := hk e (by simp)
    have he := equal_bs h (f := f) (g := g) (s := s) (t := t) w
    rw [← ha] at he
    by_cases hx : f = g ∧ s = t
    · obtain ⟨rfl, rfl⟩ := hx
      refine .inr ⟨0, e, ?_, rfl, ha⟩
      simp [Instr.findAsking, he]
    · have hne : e.key ≠ .agg #[.bool f, str s] := by
        rw [ha]; intro h9; simp [str] at h9; exact hx ⟨h9.1.symm, h9.2.symm⟩
      rcases findAsking_bs (f := f) (s := s) h w es (i + 1) (fun e he => hk e (by simp [he])) with ⟨h1, h2⟩ | ⟨j, e', h1, h2, h3⟩
      · refine .inl ⟨by simp [Instr.findAsking, he, hx, h1], fun e' he' => ?_⟩
        rcases List.mem_cons.1 he' with rfl | he'
        · exact hne
        · exact h2 e' he'
      · refine .inr ⟨j + 1, e', ?_, h2, h3⟩
        simp only [Instr.findAsking, Sem.run_bind, he, hx, Result.andThen_ok, decide_false, Sem.run_ite, Bool.false_eq_true, if_false, h1]; rw [show i + 1 + j = i + (j + 1) from by omega]
theorem key_bs {P : Program} {k : TypeId} (h : bsOk P k = true) : KeyT P k isBS where
  check em w v hv := by obtain ⟨f, s, rfl⟩ := hv; exact checkKey_bs (n := 9998) h w
  find w x es hx hes := by
    obtain ⟨f, s, rfl⟩ := hx
    obtain ⟨fs, f1, f2, hu, _⟩ := bsOk_spec h
    have hrun : es ≠ [] → (Instr.findKey k (.agg #[.bool f, str s]) es).run P w = (Instr.findAsking k (.agg #[.bool f, str s]) es).run P w := by
      intro hne
      cases es with
      | nil => exact absurd rfl hne
      | cons e es => simp [Instr.findKey, run_under hu, Instr.findNow, Instr.sameNow]
    by_cases hne : es = []
    · subst hne; exact .inl ⟨by simp [Instr.findKey, run_under hu, Instr.findNow], fun _ h => by simp at h⟩
    · rw [hrun hne]
      rcases findAsking_bs h w es 0 hes with h1 | ⟨j, e, h1, h2, h3⟩
      · exact .inl h1
      · exact .inr ⟨j, e, by rw [h1, Nat.zero_add], h2, h3⟩

def zeroV (P : Program) (e : TypeId) : Option Value := (P.info? e).bind (·.zero)
theorem zeroV_run {P : Program} {e : TypeId} {z : Value} (h : zeroV P e = some z) (w : World) : (zeroValue e).run P w = .ok z w := by
  unfold zeroV at h
  simp only [Option.bind_eq_some_iff] at h
  obtain ⟨i, hi, hz⟩ := h
  simp [zeroValue, run_info hi, hz]
section
variable {P : Program} {N : Nat} {σ : Nat → Value} {w : World} {dst : Option Nat} {ty : TypeId} {pos : String} {af : Array Edge} {g : Option (Nat × Bool)} {x y z : Operand} {K : (Nat → Value) → World → Prop}
variable {t k e : TypeId} {isK : Value → Prop} {b : Nat} {kvs : List (Value × Value)} {kx v : Value}
theorem es_keys {es : Array MapEntry} (h : es.toList.map (fun e => (e.key, e.val)) = kvs) (hk : ∀ p ∈ kvs, isK p.1) : ∀ e ∈ es.toList, isK e.key := fun e he => hk (e.key, e.val) (by rw [← h]; exact List.mem_map_of_mem he)
theorem run_getObj_map {es : Array MapEntry} {c : Nat} (hr : w.heap[b]? = some (.map es c)) : (getObj b).run P w = .ok (.map es c) w := by
  simp [getObj, Sem.run, hr]
theorem nodup_val {kvs : List (Value × Value)} (hn : (kvs.map Prod.fst).Nodup) {kx v v' : Value} (h1 : (kx, v) ∈ kvs) (h2 : (kx, v') ∈ kvs) : v = v' := by
  induction kvs with
  | nil => simp at h1
  | cons p kvs ih =>
    simp only [List.map_cons, List.nodup_cons] at hn
    rcases List.mem_cons.1 h1 with h1 | h1
    · rcases List.mem_cons.1 h2 with h2 | h2
      · rw [← h1] at h2; cases h2; rfl
      · rw [← h1] at hn; exact absurd (List.mem_map_of_mem (f := Prod.fst) h2) hn.1
    · rcases List.mem_cons.1 h2 with h2 | h2
      · rw [← h2] at hn; exact absurd (List.mem_map_of_mem (f := Prod.fst) h1) hn.1
      · exact ih hn.2 h1 h2
/-- a look-up that finds -/
theorem lk_hit {ok : Bool} (ht : P.underlying t = some (.map k e)) (KT : KeyT P k isK) (hm : MapIs w.heap b kvs) (hk : ∀ p ∈ kvs, isK p.1) (hx : ev N σ x = .map (some b)) (hy : ev N σ y = kx) (hi : isK kx) (hn : (kvs.map Prod.fst).Nodup) (hv : (kx, v) ∈ kvs) :
    (execOp (ev N σ) ⟨dst, .lookup t x y ok, ty, pos, af, g⟩).run P w = .ok (.value (if ok then .tuple #[v, .bool true] else v)) w := by
  obtain ⟨es, c, hr, he⟩ := hm
  rcases KT.find w kx es.toList hi (es_keys he hk) with ⟨_, h2⟩ | ⟨j, e', h1, h2, h3⟩
  · rw [← he] at hv
    obtain ⟨e1, he1, h4⟩ := List.mem_map.1 hv
    cases h4
    exact absurd rfl (h2 e1 he1)
  · have hv' : (kx, e'.val) ∈ kvs := by rw [← he, ← h3]; exact List.mem_map_of_mem (f := fun e : MapEntry => (e.key, e.val)) (List.mem_of_getElem? h2)
    have := nodup_val hn hv hv'
    subst this
    cases ok <;> simp [execOp, Instr.lookup, run_under ht, hx, hy, run_getObj_map hr, KT.check _ w kx hi, h1]
/-- a look-up that finds nothing -/
theorem lk_miss {ok : Bool} {zv : Value} (ht : P.underlying t = some (.map k e)) (hz : zeroV P e = some zv) (KT : KeyT P k isK) (hm : MapIs w.heap b kvs) (hk : ∀ p ∈ kvs, isK p.1) (hx : ev N σ x = .map (some b)) (hy : ev N σ y = kx) (hi : isK kx) (hn : ∀ v, (kx, v) ∉ kvs) :
    (execOp (ev N σ) ⟨dst, .lookup t x y ok, ty, pos, af, g⟩).run P w = .ok (.value (if ok then .tuple #[zv, .bool false] else zv)) w := by
  obtain ⟨es, c, hr, he⟩ := hm
  rcases KT.find w kx es.toList hi (es_keys he hk) with ⟨h1, _⟩ | ⟨j, e', h1, h2, h3⟩
  · cases ok <;> simp [execOp, Instr.lookup, run_under ht, hx, hy, run_getObj_map hr, KT.check _ w kx hi, h1, zeroV_run hz]
  · exact absurd (by rw [← he, ← h3]; exact List.mem_map_of_mem (f := fun e : MapEntry => (e.key, e.val)) (List.mem_of_getElem? h2)) (hn e'.val)
/-- a new entry -/
theorem mup (ht : P.underlying t = some (.map k e)) (KT : KeyT P k isK) (hm : MapIs w.heap b kvs) (hk : ∀ p ∈ kvs, isK p.1) (hx : ev N σ x = .map (some b)) (hy : ev N σ y = kx) (hz : ev N σ z = v) (hi : isK kx) (hn : ∀ v, (kx, v) ∉ kvs)
    (kk : ∀ w', Md (fun j => j = b) w w' → MapIs w'.heap b (kvs ++ [(kx, v)]) → K σ w') : wpo P N ⟨none, .mapUpdate t x y z, ty, pos, af, g⟩ σ w K := by
  obtain ⟨es, c, hr, he⟩ := hm
  rcases KT.find w kx es.toList hi (es_keys he hk) with ⟨h1, _⟩ | ⟨j, e', h1, h2, h3⟩
  · have hb := (Array.getElem?_eq_some_iff.1 hr).1
    have hrun : (execOp (ev N σ) ⟨none, .mapUpdate t x y z, ty, pos, af, g⟩).run P w = .ok .skip { w with heap := w.heap.setIfInBounds b (.map (es.push { key := kx, val := v, born := c }) (c + 1)) } := by
      simp [execOp, Instr.mapUpdate, run_under ht, hx, hy, hz, run_getObj_map hr, KT.check _ w kx hi, h1, setObj, Sem.run, hr]
    unfold wpo Oper.wp
    rw [act_eval, hrun]
    refine ⟨σ, rfl, kk _ ⟨rfl, rfl, by simp, fun i _ hne => by simp only; rw [Array.getElem?_setIfInBounds_ne (fun e => hne e.symm)]⟩ ⟨_, _, by simp only; rw [Array.getElem?_setIfInBounds_self_of_lt hb], ?_⟩⟩
    simp [he]
  · exact absurd (by rw [← he, ← h3]; exact List.mem_map_of_mem (f := fun e : MapEntry => (e.key, e.val)) (List.mem_of_getElem? h2)) (hn e'.val)
/-- how many entries -/
theorem lnm' {r : Nat} {at_ : Array TypeId} (ht : P.underlying t = some (.map k e)) (ha : at_ = #[t]) (hx : ev N σ x = .map (some r)) (hm : MapIs w.heap r kvs) :
    (execOp (ev N σ) ⟨dst, .call ⟨.builtin .len, #[x], at_⟩, ty, pos, af, g⟩).run P w = .ok (.value (.int .i64 kvs.length)) w := by
  obtain ⟨es, c, hr, he⟩ := hm
  have := lnm (dst := dst) (ty := ty) (pos := pos) (af := af) (g := g) ht ha hx hr
  rw [← he]; simpa using this
end
end Go.Hb

/-
  Blocks told apart by their types: what writes blocks of some types leaves those of others. Over any program. No conditions but those that each lemma names.
-/
namespace Go.Hb
open Go.RowKit

/-- what kind of block: a map 1, cells by their type -/
def tag (w : World) (k : Nat) : Nat := match w.heap[k]? with | some (.cells _ t _) => t + 2 | some (.map _ _) => 1 | _ => 0
theorem tag_cells {w : World} {k t : Nat} {cs : Array Value} {z : Nat × Nat} (h : w.heap[k]? = some (.cells cs t z)) : tag w k = t + 2 := by unfold tag; rw [h]
theorem tag_map {w : World} {k : Nat} {kvs : List (Value × Value)} (h : MapIs w.heap k kvs) : tag w k = 1 := by
  obtain ⟨es, c, h, _⟩ := h
  unfold tag; rw [h]
theorem tag_own {w : World} {B e size n k : Nat} {v : Value} {xs : List Value} (h : w.ownsRow B e size v n xs) (hk : v.ownBlock = some k) : tag w k = e + 2 := by
  rcases h.2 with ⟨rfl, _⟩ | ⟨g, cap, cur, rfl, _, hg, _⟩
  · simp [Value.ownBlock] at hk
  · simp only [Value.ownBlock, Option.some.injEq] at hk; subst hk
    exact tag_cells hg
theorem tne {w : World} {a b x y : Nat} (ha : tag w a = x) (hb : tag w b = y) (h : x ≠ y) : a ≠ b := by
  rintro rfl; exact h (ha.symm.trans hb)
/-- the blocks of F are of the kinds L -/
def TF (w : World) (L : List Nat) (F : Nat → Prop) : Prop := ∀ k, F k → L.contains (tag w k) = true
theorem TF.no {w : World} {L : List Nat} {F : Nat → Prop} (h : TF w L F) {k t : Nat} (ht : tag w k = t) (hl : L.contains t = false) : ¬ F k := fun hk => by
  have := h k hk
  rw [ht, hl] at this; cases this
theorem TF.or {w : World} {L : List Nat} {F G : Nat → Prop} (h : TF w L F) (h' : TF w L G) : TF w L (fun k => F k ∨ G k) := fun k hk => by
  rcases hk with hk | hk
  · exact h k hk
  · exact h' k hk
theorem TF.eq {w : World} {L : List Nat} {b t : Nat} (ht : tag w b = t) (hl : L.contains t = true) : TF w L (fun k => k = b) := fun k hk => by
  subst hk; rw [ht]; exact hl
theorem TF.own {w : World} {L : List Nat} {B e size n : Nat} {v : Value} {xs : List Value} (h : w.ownsRow B e size v n xs) (hl : L.contains (e + 2) = true) : TF w L (fun k => v.ownBlock = some k) := fun k hk => by
  rw [tag_own h hk]; exact hl
theorem TF.mono {w : World} {L : List Nat} {F G : Nat → Prop} (h : TF w L F) (hg : ∀ k, G k → F k) : TF w L G := fun k hk => h k (hg k hk)
theorem Md.blkT {F : Nat → Prop} {w w' : World} {L : List Nat} {k t : Nat} {cs : Array Value} {z : Nat × Nat} (hm : Md F w w') (hT : TF w L F) (h : w.heap[k]? = some (.cells cs t z)) (hl : L.contains (t + 2) = false) : w'.heap[k]? = some (.cells cs t z) := hm.blk h (hT.no (tag_cells h) hl)
theorem own_mdT {F : Nat → Prop} {w w' : World} {L : List Nat} {B e size n : Nat} {v : Value} {xs : List Value} (h : w.ownsRow B e size v n xs) (hm : Md F w w') (hT : TF w L F) (hl : L.contains (e + 2) = false) : w'.ownsRow B e size v n xs := own_md h hm (fun _ hk => hT.no (tag_own h hk) hl)
theorem MapIs.mdT {F : Nat → Prop} {w w' : World} {L : List Nat} {b : Nat} {kvs : List (Value × Value)} (h : MapIs w.heap b kvs) (hm : Md F w w') (hT : TF w L F) (hl : L.contains 1 = false) : MapIs w'.heap b kvs := h.md hm (hT.no (tag_map h) hl)
theorem Md.tag {F : Nat → Prop} {w w' : World} (hm : Md F w w') {k : Nat} (hk : k < w.heap.size) (hf : ¬ F k) : Hb.tag w' k = Hb.tag w k := by
  unfold Hb.tag; rw [hm.keep k hk hf]
theorem Wk.tag {w w' : World} (hm : Wk w w') {k : Nat} (hk : k < w.heap.size) : Hb.tag w' k = Hb.tag w k := Md.tag hm hk id
end Go.Hb
