/-
  A base for walks, over any program: the frame of a call as a function from slots to values, rules for each form of code, regions that draw their order walked once. No conditions.
-/
import Derived.WalkKit
import Derived.OrdersHeld
namespace Go.Hb
open Go.RowKit

/-- a frame, one slot written -/
def upd (σ : Nat → Value) (d : Nat) (v : Value) : Nat → Value := fun i => cond (Nat.beq i d) v (σ i)
def updo (σ : Nat → Value) : Option Nat → Value → Nat → Value
  | some d, v => upd σ d v
  | none, _ => σ
def act (N : Nat) (σ : Nat → Value) : Act := ⟨((List.range N).map σ).toArray, []⟩
def ev (N : Nat) (σ : Nat → Value) : Operand → Value
  | .tmp t => cond (Nat.blt t N) (σ t) undef
  | .const v => v
  | .global g => .pointer (some ⟨g, 0, none⟩)
  | .func f => .func (.func f) #[] #[]

theorem act_get (N : Nat) (σ : Nat → Value) (t : Nat) : (act N σ).tmps[t]? = if t < N then some (σ t) else none := by
  simp only [act, List.getElem?_toArray, List.getElem?_map]
  split
  · rename_i h; rw [List.getElem?_range h]; rfl
  · rename_i h; rw [List.getElem?_eq_none (by simpa using h)]; rfl

theorem act_eval (N : Nat) (σ : Nat → Value) : (act N σ).eval = ev N σ := by
  funext x
  cases x with
  | tmp t =>
    simp only [Act.eval, ev, Array.getD_eq_getD_getElem?, act_get]
    by_cases h : t < N
    · rw [if_pos h, show Nat.blt t N = true from by simpa using h]; rfl
    · rw [if_neg h, show Nat.blt t N = false from by cases hx : Nat.blt t N <;> simp_all [Nat.blt, Nat.ble_eq] <;> omega]; rfl
  | _ => rfl

theorem act_ext {a b : Act} (hd : a.defers = b.defers) (ht : ∀ i : Nat, a.tmps[i]? = b.tmps[i]?) : a = b := by
  cases a; cases b
  simp only at hd ht
  subst hd
  congr 1
  exact Array.ext_getElem? ht

theorem act_put (N : Nat) (σ : Nat → Value) (dst : Option Nat) (v : Value) : (act N σ).put dst v = act N (updo σ dst v) := by
  cases dst with
  | none => rfl
  | some d =>
    refine act_ext rfl fun i => ?_
    have h0 : ((act N σ).put (some d) v).tmps = (act N σ).tmps.setIfInBounds d v := rfl
    rw [h0, Array.getElem?_setIfInBounds, act_get, act_get]
    have hs : (act N σ).tmps.size = N := by simp [act]
    simp only [updo, upd]
    by_cases hid : i = d
    · subst hid
      rw [hs]
      have hb : Nat.beq i i = true := by simp
      by_cases h : i < N
      · rw [if_pos rfl, if_pos h, if_pos h, hb]; rfl
      · rw [if_pos rfl, if_neg h, if_neg h]
    · rw [if_neg (fun e => hid e.symm)]
      have hb : Nat.beq i d = false := by
        cases hx : Nat.beq i d
        · rfl
        · exact absurd (Nat.eq_of_beq_eq_true hx) hid
      rw [hb]; rfl

theorem upd_fix {σ : Nat → Value} {i : Nat} {v : Value} (h : σ i = v) : upd σ i v = σ := by
  funext j
  unfold upd
  cases hx : Nat.beq j i
  · rfl
  · have := Nat.eq_of_beq_eq_true hx; subst this; exact h.symm

/-- a post over frames -/
def lift (N : Nat) (Q : Exit → (Nat → Value) → World → Prop) : Exit → Act → World → Prop
  | .panic _, _, _ => False
  | .outgrown, _, _ => False
  | e, a, w => ∃ σ, a = act N σ ∧ Q e σ w
def wpc (P : Program) (N : Nat) (c : Code) (Q : Exit → (Nat → Value) → World → Prop) (σ : Nat → Value) (w : World) : Prop :=
  c.wp P (lift N Q) (act N σ) w
def wpl (P : Program) (N : Nat) (ops : Array Oper) (Q : Exit → (Nat → Value) → World → Prop) (l : List Oper) (σ : Nat → Value) (w : World) : Prop :=
  wpList P ops (lift N Q) l (act N σ) w
def thn (K : (Nat → Value) → World → Prop) (Q : Exit → (Nat → Value) → World → Prop) : Exit → (Nat → Value) → World → Prop
  | .normal, σ, w => K σ w
  | e, σ, w => Q e σ w
def inb (id : Nat) (Q : Exit → (Nat → Value) → World → Prop) : Exit → (Nat → Value) → World → Prop
  | .exit id', σ, w => if id' = id then Q .normal σ w else Q (.exit id') σ w
  | e, σ, w => Q e σ w

section
variable {P : Program} {N : Nat} {Q : Exit → (Nat → Value) → World → Prop} {σ : Nat → Value} {w : World} {K : (Nat → Value) → World → Prop}

theorem lift_mono {Q Q' : Exit → (Nat → Value) → World → Prop} (h : ∀ e σ w, Q e σ w → Q' e σ w) (e : Exit) (a : Act) (w : World) : lift N Q e a w → lift N Q' e a w := by
  cases e <;> first | exact fun h => h.elim | exact fun ⟨σ, ha, hq⟩ => ⟨σ, ha, h _ _ _ hq⟩
theorem wpc_mono {Q' : Exit → (Nat → Value) → World → Prop} {c : Code} (h : ∀ e σ w, Q e σ w → Q' e σ w) (hc : wpc P N c Q σ w) : wpc P N c Q' σ w :=
  Code.wp_mono (lift_mono h) hc
theorem tn (h : K σ w) : thn K Q .normal σ w := h
theorem te (id : Nat) (h : Q (.exit id) σ w) : thn K Q (.exit id) σ w := h
theorem tr (h : Q .ret σ w) : thn K Q .ret σ w := h
theorem bn {id : Nat} (h : Q .normal σ w) : inb id Q .normal σ w := h
theorem be {id : Nat} (h : Q .normal σ w) : inb id Q (.exit id) σ w := by simpa only [inb, if_true] using h
theorem be' {id id' : Nat} (hne : id' ≠ id) (h : Q (.exit id') σ w) : inb id Q (.exit id') σ w := by simpa only [inb, if_neg hne] using h
theorem br {id : Nat} (h : Q .ret σ w) : inb id Q .ret σ w := h

theorem sq {x y : Code} (h : ∀ K : (Nat → Value) → World → Prop, (∀ σ w, wpc P N y Q σ w → K σ w) → wpc P N x (thn K Q) σ w) : wpc P N (.seq x y) Q σ w := by
  refine wp_seq (Code.wp_mono ?_ (h (fun σ w => wpc P N y Q σ w) (fun _ _ h => h)))
  intro e a w hl
  cases e with
  | normal => obtain ⟨σ, rfl, hq⟩ := hl; exact hq
  | panic c => exact hl
  | outgrown => exact hl
  | _ => obtain ⟨σ, rfl, hq⟩ := hl; exact ⟨σ, rfl, hq⟩
/-- a seq with a cut: what stands behind the first part is walked once, from whatever state the relation lets -/
theorem sqc {x y : Code} (I : (Nat → Value) → World → Prop) (h : wpc P N x (thn I Q) σ w) (hk : ∀ σ w, I σ w → wpc P N y Q σ w) : wpc P N (.seq x y) Q σ w :=
  sq fun _ hK => wpc_mono (fun e _ _ hq => by cases e <;> first | exact hK _ _ (hk _ _ hq) | exact hq) h
theorem ct {c : Operand} {x y : Code} (hc : ev N σ c = .bool true) (h : wpc P N x Q σ w) : wpc P N (.cond c x y) Q σ w :=
  wp_cond_true (by rw [act_eval]; exact hc) h
theorem cf {c : Operand} {x y : Code} (hc : ev N σ c = .bool false) (h : wpc P N y Q σ w) : wpc P N (.cond c x y) Q σ w :=
  wp_cond_false (by rw [act_eval]; exact hc) h
theorem cb {c : Operand} {x y : Code} {b : Bool} (hc : ev N σ c = .bool b) (ht : b = true → wpc P N x Q σ w) (hf : b = false → wpc P N y Q σ w) : wpc P N (.cond c x y) Q σ w := by
  cases b
  · exact cf hc (hf rfl)
  · exact ct hc (ht rfl)
theorem cd {c : Operand} {x y : Code} {p : Prop} [Decidable p] (hc : ev N σ c = .bool (decide p)) (ht : p → wpc P N x Q σ w) (hf : ¬p → wpc P N y Q σ w) : wpc P N (.cond c x y) Q σ w :=
  cb hc (fun h => ht (of_decide_eq_true h)) (fun h => hf (of_decide_eq_false h))
theorem blk {id : Nat} {c : Code} (h : wpc P N c (inb id Q) σ w) : wpc P N (.block id c) Q σ w := by
  refine wp_block (Code.wp_mono ?_ h)
  intro e a w hl
  cases e with
  | panic c => exact hl
  | outgrown => exact hl
  | exit id' =>
    obtain ⟨σ, rfl, hq⟩ := hl
    simp only [inb, Exit.inBlock] at hq ⊢
    split
    · rename_i e; rw [if_pos e] at hq; exact ⟨σ, rfl, hq⟩
    · rename_i e; rw [if_neg e] at hq; exact ⟨σ, rfl, hq⟩
  | _ => obtain ⟨σ, rfl, hq⟩ := hl; exact ⟨σ, rfl, hq⟩
theorem ext {id : Nat} (h : Q (.exit id) σ w) : wpc P N (.exit id) Q σ w := wp_exit ⟨σ, rfl, h⟩
theorem skp (h : Q .normal σ w) : wpc P N .skip Q σ w := wp_skip ⟨σ, rfl, h⟩
theorem rt (h : Q .ret σ w) : wpc P N .ret Q σ w := wp_ret ⟨σ, rfl, h⟩
theorem fx {c : Code} {v : Value} (i : Nat) (h : σ i = v) (hc : wpc P N c Q (upd σ i v) w) : wpc P N c Q σ w := by rw [upd_fix h] at hc; exact hc
/-- a loop: I n: at most so many rounds are to come -/
theorem lp {c : Code} (I : Nat → (Nat → Value) → World → Prop) (n : Nat) (h0 : I n σ w)
    (h : ∀ n σ w, I n σ w → wpc P N c (thn (fun σ' w' => ∃ m, m < n ∧ I m σ' w') Q) σ w) : wpc P N (.loop c) Q σ w := by
  intro b k cs
  have key : ∀ n σ w, I n σ w →
      ∃ e a' w', lift N Q e a' w' ∧ Arrives P (lone (b.at (act N σ) (.code c :: .inLoop c :: k)) cs w) b k cs e a' w' := by
    intro n
    induction n using Nat.strongRecOn with
    | _ n ih =>
      intro σ w hI
      obtain ⟨e, a₁, w₁, hl, harr⟩ := h n σ w hI b (.inLoop c :: k) cs
      cases e with
      | normal =>
        obtain ⟨σ₁, rfl, m, hm, hI₁⟩ := hl
        obtain ⟨e₂, a₂, w₂, hq₂, harr₂⟩ := ih m hm σ₁ w₁ hI₁
        exact ⟨e₂, a₂, w₂, hq₂, .of_steps (Steps.trans harr (.one step_inLoop)) harr₂⟩
      | exit id => obtain ⟨σ₁, rfl, hq⟩ := hl; exact ⟨.exit id, act N σ₁, w₁, ⟨σ₁, rfl, hq⟩, .pass (x := .inLoop c) rfl (fun _ _ => .inl (by simp)) harr⟩
      | goto l => obtain ⟨σ₁, rfl, hq⟩ := hl; exact ⟨.goto l, act N σ₁, w₁, ⟨σ₁, rfl, hq⟩, .pass (x := .inLoop c) rfl (fun _ _ => .inl (by simp)) harr⟩
      | ret => obtain ⟨σ₁, rfl, hq⟩ := hl; exact ⟨.ret, act N σ₁, w₁, ⟨σ₁, rfl, hq⟩, .pass (x := .inLoop c) rfl (fun _ _ => .inl (by simp)) harr⟩
      | panic ch => exact hl.elim
      | outgrown => exact hl.elim
  obtain ⟨e, a', w', hq, harr⟩ := key _ σ w h0
  exact ⟨e, a', w', hq, .of_steps (.one step_loop) harr⟩

/-- one operation: to a state of which K is known, and no other way out -/
def wpo (P : Program) (N : Nat) (o : Oper) (σ : Nat → Value) (w : World) (K : (Nat → Value) → World → Prop) : Prop :=
  Oper.wp P o (act N σ) w (fun a w => ∃ σ, a = act N σ ∧ K σ w) (fun _ _ _ => False)
theorem upon_mono {o : Oper} {a : Act} {K K' : Act → World → Prop} {Q : Exit → Act → World → Prop} (h : ∀ a w, K a w → K' a w)
    (r : Result Next) (hh : o.upon P a K (fun _ _ _ => False) r) : o.upon P a K' Q r := by
  cases r with
  | ok n w' =>
    cases n <;> simp only [Oper.upon] at hh ⊢ <;>
      first
        | exact h _ _ hh
        | exact Calls.mono hh (fun e w'' he => by
            cases e with
            | returned v => exact h _ _ he
            | panicked c => exact he.elim
            | outgrown => obtain ⟨_, _, hf⟩ := he; exact hf.elim)
        | exact Rows.mono hh (fun _ _ he => h _ _ he)
  | halt x w' => cases x <;> simp only [Oper.upon] at hh ⊢
theorem wpo_out {K : (Nat → Value) → World → Prop} {K' : Act → World → Prop} {Q : Exit → Act → World → Prop} {o : Oper} (h : wpo P N o σ w K) (hk : ∀ σ w, K σ w → K' (act N σ) w) : o.wp P (act N σ) w K' Q := by
  unfold wpo at h
  unfold Oper.wp at *
  exact upon_mono (fun a w ⟨σ, ha, hK⟩ => by subst ha; exact hk _ _ hK) _ h
theorem wpo_mono {K K' : (Nat → Value) → World → Prop} {o : Oper} (h : wpo P N o σ w K) (hk : ∀ σ w, K σ w → K' σ w) : wpo P N o σ w K' :=
  wpo_out h (fun σ w hK => ⟨σ, rfl, hk σ w hK⟩)
variable {ops : Array Oper} {rest : List Oper} {d : Nat} {op : Op} {ty : TypeId} {pos : String} {af : Array Edge} {d' : Option Nat} {v : Value} {o : Oper}
theorem wpl_of_wpo (hg : Region.wanted o (yielded ops (act N σ).tmps) = true) (h : wpo P N o σ w (fun σ w => wpl P N ops Q rest σ w)) : wpl P N ops Q (o :: rest) σ w := by
  unfold wpl wpList
  rw [if_pos hg]
  exact .inl (wpo_out h (fun _ _ hk => hk))
theorem wpo_run {K : (Nat → Value) → World → Prop} {w' : World} (hr : (execOp (ev N σ) o).run P w = .ok (.value v) w') (hk : K (updo σ o.dst v) w') : wpo P N o σ w K := by
  unfold wpo Oper.wp
  rw [act_eval, hr]
  exact ⟨_, act_put .., hk⟩
theorem wanted_none (o : Oper) (hg : o.guard = none) (y : Nat → Option Bool) : Region.wanted o y = true := by simp [Region.wanted, hg]
/-- the slot that a guard looks at -/
def gsl (ops : Array Oper) (j : Nat) : Option Nat := (ops[j]?).bind (·.dst)
theorem wanted_some {j t : Nat} {want b : Bool} (hg : o.guard = some (j, want)) (hj : gsl ops j = some t) (ht : Nat.blt t N = true) (hv : σ t = .bool b) :
    Region.wanted o (yielded ops (act N σ).tmps) = (b == want) := by
  have h1 : yielded ops (act N σ).tmps j = some b := by
    unfold yielded
    unfold gsl at hj
    rw [hj]
    simp only [Option.bind_some, act_get]
    rw [if_pos (Nat.lt_of_lt_of_le (Nat.lt_succ_self t) (Nat.le_of_ble_eq_true ht)), hv]
  simp only [Region.wanted, hg, h1]
  cases b <;> cases want <;> rfl
theorem wanted_undef {j t : Nat} {want : Bool} (hg : o.guard = some (j, want)) (hj : gsl ops j = some t) (ht : Nat.blt t N = true) (hv : σ t = undef) :
    Region.wanted o (yielded ops (act N σ).tmps) = false := by
  have h1 : yielded ops (act N σ).tmps j = none := by
    unfold yielded
    unfold gsl at hj
    rw [hj]
    simp only [Option.bind_some, act_get]
    rw [if_pos (Nat.lt_of_lt_of_le (Nat.lt_succ_self t) (Nat.le_of_ble_eq_true ht)), hv]; rfl
  simp only [Region.wanted, hg, h1]
  rfl
/-- an operation that gives a value and leaves the world -/
theorem p (h : (execOp (ev N σ) ⟨some d, op, ty, pos, af, none⟩).run P w = .ok (.value v) w) (k : wpl P N ops Q rest (upd σ d v) w) :
    wpl P N ops Q (⟨some d, op, ty, pos, af, none⟩ :: rest) σ w :=
  wpl_of_wpo (wanted_none _ rfl _) (wpo_run h k)
theorem pg {j t : Nat} {want : Bool} (hj : gsl ops j = some t) (ht : Nat.blt t N = true) (hv : σ t = .bool want)
    (h : (execOp (ev N σ) ⟨some d, op, ty, pos, af, some (j, want)⟩).run P w = .ok (.value v) w) (k : wpl P N ops Q rest (upd σ d v) w) :
    wpl P N ops Q (⟨some d, op, ty, pos, af, some (j, want)⟩ :: rest) σ w :=
  wpl_of_wpo (by rw [wanted_some rfl hj ht hv]; cases want <;> rfl) (wpo_run h k)
/-- an operation whose guard says no -/
theorem sk {j t : Nat} {want b : Bool} (hj : gsl ops j = some t) (ht : Nat.blt t N = true) (hv : σ t = .bool b) (hb : (b == want) = false)
    (k : wpl P N ops Q rest (upd σ d undef) w) : wpl P N ops Q (⟨some d, op, ty, pos, af, some (j, want)⟩ :: rest) σ w := by
  unfold wpl wpList
  rw [if_neg (by rw [wanted_some rfl hj ht hv, hb]; simp), act_put]
  exact k
theorem sku {j t : Nat} {want : Bool} (hj : gsl ops j = some t) (ht : Nat.blt t N = true) (hv : σ t = undef)
    (k : wpl P N ops Q rest (upd σ d undef) w) : wpl P N ops Q (⟨some d, op, ty, pos, af, some (j, want)⟩ :: rest) σ w := by
  unfold wpl wpList
  rw [if_neg (by rw [wanted_undef rfl hj ht hv]; simp), act_put]
  exact k
theorem e (h : wpo P N ⟨d', op, ty, pos, af, none⟩ σ w (fun σ w => wpl P N ops Q rest σ w)) : wpl P N ops Q (⟨d', op, ty, pos, af, none⟩ :: rest) σ w :=
  wpl_of_wpo (wanted_none _ rfl _) h
theorem eg {j t : Nat} {want : Bool} (hj : gsl ops j = some t) (ht : Nat.blt t N = true) (hv : σ t = .bool want)
    (h : wpo P N ⟨d', op, ty, pos, af, some (j, want)⟩ σ w (fun σ w => wpl P N ops Q rest σ w)) : wpl P N ops Q (⟨d', op, ty, pos, af, some (j, want)⟩ :: rest) σ w :=
  wpl_of_wpo (by rw [wanted_some rfl hj ht hv]; cases want <;> rfl) h
theorem nl (h : Q .normal σ w) : wpl P N ops Q [] σ w := ⟨σ, rfl, h⟩
theorem rg {id : Nat} {l : List Oper} (h : wpl P N l.toArray Q l σ w) : wpc P N (.region id l.toArray false) Q σ w := wp_region_lit h
/-- a test that is not decided, ahead of the operations that it guards -/
theorem gs {l : List Oper} {t : Nat} {q : Prop} [Decidable q] (h : σ t = .bool (decide q)) (ht : q → wpl P N ops Q l (upd σ t (.bool true)) w) (hf : ¬q → wpl P N ops Q l (upd σ t (.bool false)) w) : wpl P N ops Q l σ w := by
  by_cases hq : q
  · have := ht hq; rwa [upd_fix (by rw [h, decide_eq_true hq])] at this
  · have := hf hq; rwa [upd_fix (by rw [h, decide_eq_false hq])] at this
theorem gb {l : List Oper} {t : Nat} {b : Bool} (h : σ t = .bool b) (ht : b = true → wpl P N ops Q l (upd σ t (.bool true)) w) (hf : b = false → wpl P N ops Q l (upd σ t (.bool false)) w) : wpl P N ops Q l σ w := by
  cases b
  · have := hf rfl; rwa [upd_fix h] at this
  · have := ht rfl; rwa [upd_fix h] at this

/-! regions that draw their order -/
def wph (P : Program) (N : Nat) (ops : Array Oper) (Q : Exit → (Nat → Value) → World → Prop) (S : World → Prop) (fuel : Nat) (listed : Array Bool) (σ : Nat → Value) (w : World) : Prop :=
  wpAnyH P .any ops (lift N Q) S fuel listed (act N σ) w
variable {S : World → Prop} {fuel : Nat} {listed : Array Bool}
theorem hst {id : Nat} {l : List Oper} (S : World → Prop) (hm : P.follows .mixedOrders = true) (_hS : S w.drew) (h : wph P N l.toArray Q S l.length (Array.replicate l.length false) σ w.drew) : wpc P N (.region id l.toArray true) Q σ w :=
  wp_region_held hm (by rw [List.size_toArray]; exact h)
def freeReady (ops : Array Oper) (listed : Array Bool) (i : Nat) : Bool :=
  Region.noSelect ops && Region.free .any ops listed i && (Region.ready .any ops listed).contains i
theorem lift_panic (c : List PanicEntry) (a b : Act) (w : World) : lift N Q (.panic c) a w → lift N Q (.panic c) b w := fun h => h.elim
theorem hp (i : Nat) (hi : ops[i]? = some ⟨some d, op, ty, pos, af, none⟩) (hf : freeReady ops listed i = true)
    (hy : ∀ w, S w → (execOp (ev N σ) ⟨some d, op, ty, pos, af, none⟩).run P w = .ok (.value v) w) (hS : S w)
    (k : wph P N ops Q S fuel (listed.setIfInBounds i true) (upd σ d v) w) : wph P N ops Q S (fuel + 1) listed σ w := by
  simp only [freeReady, Bool.and_eq_true] at hf
  refine wpAnyH_take hi hf.1.1 hf.1.2 hf.2 (fun c a w => lift_panic c _ _ w) (.inl ⟨wanted_none _ rfl _, fun w hS => ?_⟩) hS ?_ (v := v)
  · rw [act_eval]; exact hy w hS
  · rw [act_put]; exact k
theorem hpg (i : Nat) {j t : Nat} {want : Bool} (hi : ops[i]? = some ⟨some d, op, ty, pos, af, some (j, want)⟩) (hf : freeReady ops listed i = true)
    (hj : gsl ops j = some t) (ht : Nat.blt t N = true) (hv : σ t = .bool want)
    (hy : ∀ w, S w → (execOp (ev N σ) ⟨some d, op, ty, pos, af, some (j, want)⟩).run P w = .ok (.value v) w) (hS : S w)
    (k : wph P N ops Q S fuel (listed.setIfInBounds i true) (upd σ d v) w) : wph P N ops Q S (fuel + 1) listed σ w := by
  simp only [freeReady, Bool.and_eq_true] at hf
  refine wpAnyH_take hi hf.1.1 hf.1.2 hf.2 (fun c a w => lift_panic c _ _ w) (.inl ⟨by rw [wanted_some rfl hj ht hv]; cases want <;> rfl, fun w hS => ?_⟩) hS ?_ (v := v)
  · rw [act_eval]; exact hy w hS
  · rw [act_put]; exact k
theorem hsk (i : Nat) {j t : Nat} {want b : Bool} (hi : ops[i]? = some ⟨some d, op, ty, pos, af, some (j, want)⟩) (hf : freeReady ops listed i = true)
    (hj : gsl ops j = some t) (ht : Nat.blt t N = true) (hv : σ t = .bool b) (hb : (b == want) = false) (hS : S w)
    (k : wph P N ops Q S fuel (listed.setIfInBounds i true) (upd σ d undef) w) : wph P N ops Q S (fuel + 1) listed σ w := by
  simp only [freeReady, Bool.and_eq_true] at hf
  refine wpAnyH_take hi hf.1.1 hf.1.2 hf.2 (fun c a w => lift_panic c _ _ w) (.inr ⟨by rw [wanted_some rfl hj ht hv, hb], rfl⟩) hS ?_ (v := undef)
  rw [act_put]; exact k
theorem hsku (i : Nat) {j t : Nat} {want : Bool} (hi : ops[i]? = some ⟨some d, op, ty, pos, af, some (j, want)⟩) (hf : freeReady ops listed i = true)
    (hj : gsl ops j = some t) (ht : Nat.blt t N = true) (hv : σ t = undef) (hS : S w)
    (k : wph P N ops Q S fuel (listed.setIfInBounds i true) (upd σ d undef) w) : wph P N ops Q S (fuel + 1) listed σ w := by
  simp only [freeReady, Bool.and_eq_true] at hf
  refine wpAnyH_take hi hf.1.1 hf.1.2 hf.2 (fun c a w => lift_panic c _ _ w) (.inr ⟨wanted_undef rfl hj ht hv, rfl⟩) hS ?_ (v := undef)
  rw [act_put]; exact k
def onlyReady (ops : Array Oper) (listed : Array Bool) (i : Nat) : Bool := (Region.ready .any ops listed) == [i]
theorem he (i : Nat) (hi : ops[i]? = some ⟨d', op, ty, pos, af, none⟩) (hr : onlyReady ops listed i = true)
    (h : wpo P N ⟨d', op, ty, pos, af, none⟩ σ w (fun σ w => S w ∧ wph P N ops Q S fuel (listed.setIfInBounds i true) σ w)) : wph P N ops Q S (fuel + 1) listed σ w := by
  refine wpAnyH_all (rs := [i]) (by simpa [onlyReady] using hr) (by simp) ?_
  intro k hk
  obtain rfl : k = i := by simpa using hk
  unfold wpOp
  simp only [hi]
  rw [if_pos (wanted_none _ rfl _)]
  exact .inl (wpo_out h (fun _ _ hk => hk))
theorem heg (i : Nat) {j t : Nat} {want : Bool} (hi : ops[i]? = some ⟨d', op, ty, pos, af, some (j, want)⟩) (hr : onlyReady ops listed i = true)
    (hj : gsl ops j = some t) (ht : Nat.blt t N = true) (hv : σ t = .bool want)
    (h : wpo P N ⟨d', op, ty, pos, af, some (j, want)⟩ σ w (fun σ w => S w ∧ wph P N ops Q S fuel (listed.setIfInBounds i true) σ w)) : wph P N ops Q S (fuel + 1) listed σ w := by
  refine wpAnyH_all (rs := [i]) (by simpa [onlyReady] using hr) (by simp) ?_
  intro k hk
  obtain rfl : k = i := by simpa using hk
  unfold wpOp
  simp only [hi]
  rw [if_pos (by rw [wanted_some rfl hj ht hv]; cases want <;> rfl)]
  exact .inl (wpo_out h (fun _ _ hk => hk))
/-- two operations that turn the world may come next -/
theorem he2 (i j : Nat) {d1 : Option Nat} {op1 : Op} {ty1 : TypeId} {pos1 : String} {af1 : Array Edge} (hi : ops[i]? = some ⟨d', op, ty, pos, af, none⟩) (hj : ops[j]? = some ⟨d1, op1, ty1, pos1, af1, none⟩) (hr : ((Region.ready .any ops listed) == [i, j]) = true)
    (h : wpo P N ⟨d', op, ty, pos, af, none⟩ σ w (fun σ w => S w ∧ wph P N ops Q S fuel (listed.setIfInBounds i true) σ w))
    (h1 : wpo P N ⟨d1, op1, ty1, pos1, af1, none⟩ σ w (fun σ w => S w ∧ wph P N ops Q S fuel (listed.setIfInBounds j true) σ w)) : wph P N ops Q S (fuel + 1) listed σ w := by
  refine wpAnyH_all (rs := [i, j]) (by simpa using hr) (by simp) ?_
  intro k hk
  simp only [List.mem_cons, List.not_mem_nil, or_false] at hk
  rcases hk with rfl | rfl
  · unfold wpOp
    simp only [hi]
    rw [if_pos (wanted_none _ rfl _)]
    exact .inl (wpo_out h (fun _ _ hk => hk))
  · unfold wpOp
    simp only [hj]
    rw [if_pos (wanted_none _ rfl _)]
    exact .inl (wpo_out h1 (fun _ _ hk => hk))
theorem hn (hr : (Region.ready .any ops listed).isEmpty = true) (h : Q .normal σ w) : wph P N ops Q S fuel listed σ w :=
  wpAnyH_done (by simpa using hr) ⟨σ, rfl, h⟩ fuel
theorem hgs {t : Nat} {q : Prop} [Decidable q] (h : σ t = .bool (decide q)) (ht : q → wph P N ops Q S fuel listed (upd σ t (.bool true)) w) (hf : ¬q → wph P N ops Q S fuel listed (upd σ t (.bool false)) w) : wph P N ops Q S fuel listed σ w := by
  by_cases hq : q
  · have := ht hq; rwa [upd_fix (by rw [h, decide_eq_true hq])] at this
  · have := hf hq; rwa [upd_fix (by rw [h, decide_eq_false hq])] at this
theorem hgb {t : Nat} {b : Bool} (h : σ t = .bool b) (ht : b = true → wph P N ops Q S fuel listed (upd σ t (.bool true)) w) (hf : b = false → wph P N ops Q S fuel listed (upd σ t (.bool false)) w) : wph P N ops Q S fuel listed σ w := by
  cases b
  · have := hf rfl; rwa [upd_fix h] at this
  · have := ht rfl; rwa [upd_fix h] at this
end

/-! calls -/
/-- a call that returns: what is known of its value and of the world behind it -/
def Ret (P : Program) (f : FuncId) (args : Array Value) (w : World) (R : Value → World → Prop) : Prop :=
  Calls P f args w fun e w' => ∃ v, e = .returned v ∧ R v w'
theorem Ret.mono {P : Program} {f : FuncId} {args : Array Value} {w : World} {R R' : Value → World → Prop} (h : Ret P f args w R) (hr : ∀ v w', R v w' → R' v w') : Ret P f args w R' :=
  Calls.mono h fun _ _ ⟨v, he, hR⟩ => ⟨v, he, hr _ _ hR⟩
def sig0 (args : List Value) : Nat → Value := fun i => args.getD i undef
def fin (P : Program) (fn : Func) (N : Nat) (R : Value → World → Prop) : Exit → (Nat → Value) → World → Prop
  | .normal, σ, w => ∃ v, (results fn (act N σ).tmps).run P w = .ok v w ∧ R v w
  | .ret, σ, w => ∃ v, (results fn (act N σ).tmps).run P w = .ok v w ∧ R v w
  | _, _, _ => False
theorem enter {P : Program} {f N : Nat} {fn : Func} {c : Code} {args : List Value} {w : World} {R : Value → World → Prop} (hf : P.funcs[f]? = some fn) (hb : fn.body = some c)
    (hN : fn.ntmps = N) (hn : Nat.ble args.length N = true) (h : wpc P N c (fin P fn N R) (sig0 args) w) : Ret P f args.toArray w R := by
  subst hN
  refine calls_of_wp hf hb ?_
  have ha : ({ tmps := args.toArray ++ Array.replicate (fn.ntmps - args.toArray.size) undef, defers := [] } : Act) = act fn.ntmps (sig0 args) := by
    have hn' : args.length ≤ fn.ntmps := by simpa using hn
    refine act_ext rfl fun i => ?_
    rw [act_get]
    simp only [sig0, List.getD_eq_getElem?_getD, List.size_toArray]
    by_cases h1 : i < args.length
    · rw [Array.getElem?_append_left (by simpa using h1), if_pos (by omega)]
      simp [h1]
    · rw [Array.getElem?_append_right (by simpa using h1)]
      simp only [List.size_toArray, Array.getElem?_replicate]
      by_cases h2 : i < fn.ntmps
      · rw [if_pos (by omega), if_pos h2, List.getElem?_eq_none (by omega)]; rfl
      · rw [if_neg (by omega), if_neg h2]
  rw [ha]
  refine Code.wp_mono ?_ h
  intro e a w hl
  cases e with
  | normal => obtain ⟨σ, rfl, v, hr, hR⟩ := hl; exact ⟨rfl, v, hr, v, rfl, hR⟩
  | ret => obtain ⟨σ, rfl, v, hr, hR⟩ := hl; exact ⟨rfl, v, hr, v, rfl, hR⟩
  | exit id => obtain ⟨σ, rfl, hq⟩ := hl; exact hq.elim
  | goto l => obtain ⟨σ, rfl, hq⟩ := hl; exact hq.elim
  | panic c => exact hl.elim
  | outgrown => exact hl.elim
section
variable {P : Program} {N : Nat} {σ : Nat → Value} {w : World} {fn : Func} {R : Value → World → Prop}
theorem tmps_getD (t : Nat) : (act N σ).tmps.getD t undef = ev N σ (.tmp t) := by
  rw [← act_eval]; rfl
theorem f0 (h : fn.results = #[]) (hR : R (.tuple #[]) w) : fin P fn N R .normal σ w := ⟨_, results_none h _ _ _, hR⟩
theorem f0r (h : fn.results = #[]) (hR : R (.tuple #[]) w) : fin P fn N R .ret σ w := ⟨_, results_none h _ _ _, hR⟩
theorem f1 {t : Nat} {v : Value} (h : fn.results = #[.tmp t]) (hv : ev N σ (.tmp t) = v) (hR : R v w) : fin P fn N R .ret σ w :=
  ⟨v, by rw [results_tmp h, tmps_getD, hv], hR⟩
theorem f2 {t u : Nat} {v v' : Value} (h : fn.results = #[.tmp t, .tmp u]) (hv : ev N σ (.tmp t) = v) (hu : ev N σ (.tmp u) = v') (hR : R (.tuple #[v, v']) w) : fin P fn N R .ret σ w :=
  ⟨_, by rw [results_tmp2 h, tmps_getD, tmps_getD, hv, hu], hR⟩
theorem f3 {t u s : Nat} {v v' v'' : Value} (h : fn.results = #[.tmp t, .tmp u, .tmp s]) (hv : ev N σ (.tmp t) = v) (hu : ev N σ (.tmp u) = v') (hs : ev N σ (.tmp s) = v'') (hR : R (.tuple #[v, v', v'']) w) : fin P fn N R .ret σ w := by
  refine ⟨_, ?_, hR⟩
  simp only [results, h]
  subst hv hu hs
  simp only [← tmps_getD]
  simp [List.mapM_toArray]
theorem f4 {t u s r : Nat} {v v' v'' v3 : Value} (h : fn.results = #[.tmp t, .tmp u, .tmp s, .tmp r]) (hv : ev N σ (.tmp t) = v) (hu : ev N σ (.tmp u) = v') (hs : ev N σ (.tmp s) = v'') (hr : ev N σ (.tmp r) = v3) (hR : R (.tuple #[v, v', v'', v3]) w) : fin P fn N R .ret σ w := by
  refine ⟨_, ?_, hR⟩
  simp only [results, h]
  subst hv hu hs hr
  simp only [← tmps_getD]
  simp [List.mapM_toArray]
end
attribute [irreducible] wpl wpc wph wpo
end Go.Hb
