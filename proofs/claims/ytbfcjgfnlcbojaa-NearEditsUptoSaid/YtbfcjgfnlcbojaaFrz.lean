/-
  Words added to a builder one by one, and the frozen states counted over the words: laws on plain lists. No program in sight. No conditions but those that each lemma names.
-/
import Derived.Test.YtbfcjgfnlcbojaaAut
namespace Go.Hb

/-! words added -/
/-- how many states are frozen behind these words -/
def frozenN (ws : Tl) : Nat := (bldW ws).s.1.length
def add1W (most : Int) (ws : Tl) (w : List UInt8) : Int × Tl :=
  if 255 < w.length then (22, ws) else if ws ≠ [] ∧ sless (ws.getLastD []) w = false then (180, ws) else (if most < (frozenN (ws ++ [w]) : Int) then 181 else 0, ws ++ [w])
def addW (most : Int) : Tl → Tl → Int × Tl
  | ws, [] => (0, ws)
  | ws, w :: l => if (add1W most ws w).1 = 0 then addW most (add1W most ws w).2 l else add1W most ws w
theorem add1_bld (most : Int) (ws : Tl) (w : List UInt8) : add1 most (bldW ws) w = ((add1W most ws w).1, bldW (add1W most ws w).2) := by
  unfold add1 add1W
  obtain ⟨h1, h2⟩ := bld_last ws
  by_cases hl : 255 < w.length
  · rw [if_pos hl, if_pos hl]
  · rw [if_neg hl, if_neg hl]
    by_cases hs : ws ≠ [] ∧ sless (ws.getLastD []) w = false
    · rw [if_pos hs, if_pos ⟨by rw [h2]; cases ws <;> simp_all, by rw [h1]; exact hs.2⟩]
    · rw [if_neg hs, if_neg (fun h => hs ⟨by rintro rfl; simp at h2; rw [h2] at h; simp at h, by rw [← h1]; exact h.2⟩)]
      simp only [frozenN, bld_snoc, bldW1]
theorem addL_bld (most : Int) : ∀ (l ws : Tl), addL most (bldW ws) l = ((addW most ws l).1, bldW (addW most ws l).2)
  | [], ws => rfl
  | w :: l, ws => by
    simp only [addL, addW, add1_bld]
    by_cases h : (add1W most ws w).1 = 0
    · rw [if_pos h, if_pos h, addL_bld most l]
    · rw [if_neg h, if_neg h]
theorem ab0_bld : ab0 = bldW [] := rfl
theorem add1W_fit {most : Int} {ws : Tl} {w : List UInt8} (h : Fit ws) : Fit (add1W most ws w).2 := by
  unfold add1W
  by_cases hl : 255 < w.length
  · rw [if_pos hl]; exact h
  · rw [if_neg hl]
    by_cases hs : ws ≠ [] ∧ sless (ws.getLastD []) w = false
    · rw [if_pos hs]; exact h
    · rw [if_neg hs]
      refine ⟨up_snoc.2 ⟨h.1, fun t ht => ?_⟩, fun x hx => ?_⟩
      · have h0 : ws ≠ [] := by rintro rfl; simp at ht
        have h1 : sless (ws.getLastD []) w = true := by
          cases hx : sless (ws.getLastD []) w
          · exact absurd ⟨h0, hx⟩ hs
          · rfl
        have h2 := up_last h.1 t ht
        rcases sless_total t (ws.getLastD []) with h3 | h3 | h3
        · exact sless_trans h3 h1
        · rw [h3]; exact h1
        · rw [h2] at h3; cases h3
      · rcases List.mem_append.1 hx with hx | hx
        · exact h.2 x hx
        · simp only [List.mem_singleton] at hx; subst hx; omega
theorem addW_fit {most : Int} : ∀ {l ws : Tl}, Fit ws → Fit (addW most ws l).2
  | [], ws, h => h
  | w :: l, ws, h => by
    simp only [addW]
    split
    · exact addW_fit (add1W_fit h)
    · exact add1W_fit h
theorem add1W_22 {most : Int} {ws : Tl} {w : List UInt8} (h : 255 < w.length) : add1W most ws w = (22, ws) := by unfold add1W; rw [if_pos h]
theorem add1W_180 {most : Int} {ws : Tl} {w : List UInt8} (h0 : w.length ≤ 255) (h : ws ≠ []) (h2 : sless (ws.getLastD []) w = false) : add1W most ws w = (180, ws) := by unfold add1W; rw [if_neg (by omega), if_pos ⟨h, h2⟩]
theorem add1W_ok {most : Int} {ws : Tl} {w : List UInt8} (h0 : w.length ≤ 255) (h : ws ≠ [] → sless (ws.getLastD []) w = true) : add1W most ws w = (if most < (frozenN (ws ++ [w]) : Int) then 181 else 0, ws ++ [w]) := by
  unfold add1W; rw [if_neg (by omega), if_neg (fun h1 => by rw [h h1.1] at h1; exact Bool.noConfusion h1.2)]
theorem addW_snoc {most : Int} {ws l w1 : Tl} {i : Nat} (hi : i < l.length) (h : addW most ws l = addW most w1 (l.drop i)) : addW most ws l = if (add1W most w1 (l.getD i [])).1 = 0 then addW most (add1W most w1 (l.getD i [])).2 (l.drop (i + 1)) else add1W most w1 (l.getD i []) := by
  rw [h, List.drop_eq_getElem_cons hi, ← getD_get [] hi]; rfl
theorem add1W_len (most : Int) (ws : Tl) (w : List UInt8) : (add1W most ws w).2.length ≤ ws.length + 1 ∧ vol (add1W most ws w).2 ≤ vol ws + w.length ∧ ((add1W most ws w).1 = 0 ∨ (add1W most ws w).1 = 22 ∨ (add1W most ws w).1 = 180 ∨ (add1W most ws w).1 = 181) := by
  unfold add1W
  split
  · exact ⟨by simp, by simp, .inr (.inl rfl)⟩
  · split
    · exact ⟨by simp, by simp, .inr (.inr (.inl rfl))⟩
    · refine ⟨by simp, by simp [vol], ?_⟩
      simp only
      split
      · exact .inr (.inr (.inr rfl))
      · exact .inl rfl
theorem addW_len (most : Int) : ∀ (l ws : Tl), (addW most ws l).2.length ≤ ws.length + l.length ∧ vol (addW most ws l).2 ≤ vol ws + vol l ∧ ((addW most ws l).1 = 0 ∨ (addW most ws l).1 = 22 ∨ (addW most ws l).1 = 180 ∨ (addW most ws l).1 = 181)
  | [], ws => ⟨by simp [addW], by simp [addW], .inl rfl⟩
  | w :: l, ws => by
    obtain ⟨h1, h2, h3⟩ := add1W_len most ws w
    have hv : vol (w :: l) = w.length + vol l := by simp [vol]
    simp only [addW, List.length_cons, hv]
    split
    · obtain ⟨h4, h5, h6⟩ := addW_len most l (add1W most ws w).2
      exact ⟨by omega, by omega, h6⟩
    · exact ⟨by omega, by omega, h3⟩
/-- a builder's answer to words, by the words so far and its state -/
def bookAdd (most : Int) (ws : Tl) (st : Int) (l : Tl) : Int × Tl × Int := if st = 0 then ((addW most ws l).1, (addW most ws l).2, if (addW most ws l).1 = 181 then 181 else 0) else (st, ws, st)
theorem fit_nil : Fit [] := ⟨List.Pairwise.nil, fun x hx => by simp at hx⟩
theorem bld_good {ws : Tl} (h : Fit ws) : GoodX (bldW ws) ∧ (bldW ws).s.1.length ≤ 255 * ws.length := by
  have key : ∀ (n : Nat) (ws : Tl), ws.length = n → Fit ws → GoodX (bldW ws) ∧ (bldW ws).s.1.length ≤ 255 * ws.length := by
    intro n
    induction n with
    | zero => intro ws h _; rw [List.eq_nil_of_length_eq_zero h]; exact ⟨good_new, Nat.zero_le _⟩
    | succ n ih =>
      intro ws h hf
      rcases List.eq_nil_or_concat ws with rfl | ⟨l, w, he⟩
      · simp at h
      · rw [List.concat_eq_append] at he
        subst he
        obtain ⟨h1, h2⟩ := up_snoc.1 hf.1
        obtain ⟨h3, h4⟩ := ih l (by simpa using h) ⟨h1, fun x hx => hf.2 x (by simp [hx])⟩
        have h5 := add_grow (wd := w) h3
        rw [bld_snoc]
        refine ⟨add_good h3 (hf.2 w (by simp)) (fun ha => ?_), ?_⟩
        · have hl : l ≠ [] := by
            rintro rfl
            rw [(bld_last []).2] at ha; simp at ha
          rw [(bld_last l).1]; exact h2 _ (last_mem hl)
        · simp only [bldW1, List.length_append, List.length_singleton]; omega
  exact key _ ws rfl h
theorem frozen_le {ws : Tl} (h : Fit ws) : frozenN ws ≤ 255 * ws.length := (bld_good h).2
theorem fit_pre {ws l : Tl} (h : Fit (ws ++ l)) : Fit ws := ⟨(List.pairwise_append.1 h.1).1, fun x hx => h.2 x (by simp [hx])⟩
/-- rising words are taken, where the limit is wide -/
theorem addW_all {most : Int} : ∀ {l ws : Tl}, Fit (ws ++ l) → 255 * ((ws ++ l).length : Int) ≤ most → addW most ws l = (0, ws ++ l)
  | [], ws, h, hm => by simp [addW]
  | w :: l, ws, h, hm => by
    have h0 : Fit (ws ++ [w]) := by
      have : ws ++ w :: l = (ws ++ [w]) ++ l := by simp
      rw [this] at h; exact fit_pre h
    obtain ⟨h1, h2⟩ := up_snoc.1 h0.1
    have h3 : add1W most ws w = (0, ws ++ [w]) := by
      unfold add1W
      have hl := h0.2 w (by simp)
      rw [if_neg (by omega), if_neg (fun hx => by rw [h2 _ (last_mem hx.1)] at hx; exact Bool.noConfusion hx.2), if_neg]
      have := frozen_le h0
      simp only [List.length_append, List.length_nil, List.length_cons] at this hm; omega
    simp only [addW, h3, if_true]
    rw [addW_all (by simpa using h) (by simpa using hm)]
    simp

/-! a rising list, one more put in -/
theorem put_new {rs : Tl} {r : List UInt8} {q : Nat} (hs : Up rs) (h1 : ∀ i, i < q → sless (rs.getD i []) r = true) (h2 : ∀ i, q ≤ i → i < rs.length → sless (rs.getD i []) r = false) (hn : q < rs.length → rs.getD q [] ≠ r) : r ∉ rs := by
  intro hm
  obtain ⟨j, hj, he⟩ := List.mem_iff_getElem.1 hm
  have hg : rs.getD j [] = r := by rw [getD_get [] hj]; exact he
  rcases Nat.lt_trichotomy j q with h | h | h
  · have := h1 j h; rw [hg, sless_irr] at this; cases this
  · subst h; exact hn hj hg
  · have h3 := pw_get hs h hj
    rw [hg, h2 q (Nat.le_refl _) (by omega)] at h3; cases h3
theorem put_up {rs : Tl} {r : List UInt8} {q : Nat} (hs : Up rs) (h1 : ∀ i, i < q → sless (rs.getD i []) r = true) (h2 : ∀ i, q ≤ i → i < rs.length → sless (rs.getD i []) r = false) (hn : r ∉ rs) : Up (rs.take q ++ r :: rs.drop q) ∧ ∀ x, x ∈ rs.take q ++ r :: rs.drop q ↔ x ∈ rs ∨ x = r := by
  have e := List.take_append_drop q rs
  have hp := hs
  unfold Up at hp
  rw [← e, List.pairwise_append] at hp
  refine ⟨?_, fun x => ?_⟩
  · unfold Up
    rw [List.pairwise_append]
    have hlo : ∀ a ∈ rs.take q, sless a r = true := fun a ha => by
      obtain ⟨j, hj, rfl⟩ := List.mem_iff_getElem.1 ha
      simp only [List.length_take] at hj
      have := h1 j (by omega)
      rw [getD_get [] (by omega)] at this
      rw [List.getElem_take]; exact this
    have hhi : ∀ a ∈ rs.drop q, sless r a = true := fun a ha => by
      obtain ⟨j, hj, he⟩ := List.mem_iff_getElem.1 ha
      simp only [List.length_drop] at hj
      have h3 := h2 (q + j) (by omega) (by omega)
      rw [getD_get [] (by omega)] at h3
      rw [List.getElem_drop] at he
      rw [he] at h3
      rcases sless_total r a with h4 | h4 | h4
      · exact h4
      · exact absurd (List.mem_of_mem_drop ha) (h4 ▸ hn)
      · rw [h3] at h4; cases h4
    refine ⟨hp.1, List.pairwise_cons.2 ⟨hhi, hp.2.1⟩, fun a ha b hb => ?_⟩
    rcases List.mem_cons.1 hb with rfl | hb
    · exact hlo a ha
    · exact hp.2.2 a ha b hb
  · rw [List.mem_append, List.mem_cons]
    conv => rhs; rw [← e, List.mem_append]
    constructor
    · rintro (h | h | h)
      · exact .inl (.inl h)
      · exact .inr h
      · exact .inl (.inr h)
    · rintro ((h | h) | h)
      · exact .inl h
      · exact .inr (.inr h)
      · exact .inr (.inl h)

/-! frozen states, counted over the words -/
theorem between {p x y z : List UInt8} (h1 : sless x y = true) (h2 : sless y z = true) (hx : p <+: x) (hz : p <+: z) : p <+: y := by
  induction p generalizing x y z with
  | nil => exact List.nil_prefix
  | cons c p ih =>
    obtain ⟨x, rfl⟩ : ∃ r, x = c :: r := by obtain ⟨r, rfl⟩ := hx; exact ⟨p ++ r, rfl⟩
    obtain ⟨z, rfl⟩ : ∃ r, z = c :: r := by obtain ⟨r, rfl⟩ := hz; exact ⟨p ++ r, rfl⟩
    rw [List.cons_prefix_cons] at hx hz
    cases y with
    | nil => rw [sless_nil_r] at h1; cases h1
    | cons d y =>
      rw [sless_cons] at h1 h2
      simp only [Bool.or_eq_true, decide_eq_true_eq, Bool.and_eq_true, beq_iff_eq] at h1 h2
      rcases h1 with h1 | ⟨rfl, h1⟩
      · rcases h2 with h2 | ⟨rfl, h2⟩
        · exact absurd (UInt8.lt_trans h1 h2) (UInt8.lt_irrefl _)
        · exact absurd h1 (UInt8.lt_irrefl _)
      · rcases h2 with h2 | ⟨_, h2⟩
        · exact absurd h2 (UInt8.lt_irrefl _)
        · rw [List.cons_prefix_cons]; exact ⟨rfl, ih h1 h2 hx.2 hz.2⟩
theorem rst_none {p : List UInt8} {L : Tl} (h : ∀ t ∈ L, ¬ p <+: t) : rst p L = [] := by
  refine List.eq_nil_iff_forall_not_mem.2 fun t ht => ?_
  rw [mem_rst] at ht
  exact h _ ht (List.prefix_append p t)
theorem rst_all {p : List UInt8} {L : Tl} (h : ∀ t ∈ L, p <+: t) : rst p L = L.map (List.drop p.length) := by
  induction L with
  | nil => exact rst_empty p
  | cons a L ih =>
    rw [show a :: L = [a] ++ L from rfl, rst_app, rst_one, if_pos (h a (by simp)), ih (fun t ht => h t (by simp [ht]))]; rfl
/-- the rest of a beginning, as a range of the words -/
theorem rst_rng {ws : Tl} {p : List UInt8} {i hi : Nat} (h1 : i ≤ hi) (h2 : hi ≤ ws.length) (ha : ∀ j, j < i → ¬ p <+: ws.getD j []) (hb : ∀ j, i ≤ j → j < hi → p <+: ws.getD j []) (hc : ∀ j, hi ≤ j → j < ws.length → ¬ p <+: ws.getD j []) : rst p ws = rng ws i hi p.length := by
  have e : ws = ws.take i ++ ((ws.take hi).drop i ++ ws.drop hi) := by
    have e1 := List.take_append_drop i (ws.take hi)
    rw [List.take_take, Nat.min_eq_left h1] at e1
    rw [← List.append_assoc, e1, List.take_append_drop]
  have h3 : rst p (ws.take i) = [] := rst_none fun t ht => by
    obtain ⟨j, hj, rfl⟩ := List.mem_iff_getElem.1 ht
    simp only [List.length_take] at hj
    have := ha j (by omega)
    rw [getD_get [] (by omega)] at this
    rw [List.getElem_take]; exact this
  have h4 : rst p (ws.drop hi) = [] := rst_none fun t ht => by
    obtain ⟨j, hj, rfl⟩ := List.mem_iff_getElem.1 ht
    simp only [List.length_drop] at hj
    have := hc (hi + j) (by omega) (by omega)
    rw [getD_get [] (by omega)] at this
    rw [List.getElem_drop]; exact this
  have h5 : rst p ((ws.take hi).drop i) = ((ws.take hi).drop i).map (List.drop p.length) := rst_all fun t ht => by
    obtain ⟨j, h6, h7, _, rfl⟩ := mem_take_drop (d := []) ht
    exact hb j h6 h7
  rw [show rst p ws = rst p (ws.take i ++ ((ws.take hi).drop i ++ ws.drop hi)) from by rw [← e], rst_app, rst_app, h3, h4, h5]
  simp [rng]
/-- where the words go over to another beginning, no later one has it -/
theorem run_end {ws : Tl} {p : List UInt8} (hu : Up ws) {i k : Nat} (hik : i < k) (hi : p <+: ws.getD i []) (hk : k < ws.length) (hn : ¬ p <+: ws.getD k []) : ∀ j, k ≤ j → j < ws.length → ¬ p <+: ws.getD j [] := by
  intro j hj hjl hp
  rcases Nat.lt_or_eq_of_le hj with h | rfl
  · exact hn (between (pw_get hu hik hk) (pw_get hu h hjl) hi hp)
  · exact hn hp
theorem run_start {ws : Tl} {p : List UInt8} (hu : Up ws) {i : Nat} (hi : p <+: ws.getD i []) (hil : i < ws.length) (hn : 0 < i → ¬ p <+: ws.getD (i - 1) []) : ∀ j, j < i → ¬ p <+: ws.getD j [] := by
  intro j hj hp
  rcases Nat.lt_or_ge j (i - 1) with h | h
  · exact hn (by omega) (between (pw_get hu h (by omega)) (pw_get hu (show i - 1 < i by omega) hil) hp hi)
  · obtain rfl : j = i - 1 := by omega
    exact hn (by omega) hp
theorem begins_pre {a b : List UInt8} {d : Nat} (hd : d ≤ b.length) : (d ≤ a.length ∧ a.take d = b.take d) ↔ b.take d <+: a := by
  constructor
  · rintro ⟨_, h⟩; rw [← h]; exact List.take_prefix _ _
  · intro h
    have h1 := h.length_le
    have h2 := pref_take h
    rw [List.length_take, Nat.min_eq_left hd] at h1 h2
    exact ⟨h1, h2.symm⟩
/-- this beginning is counted -/
def FzC (ws : Tl) (i d : Nat) : Prop := i + 1 < ws.length ∧ 1 ≤ d ∧ d ≤ (ws.getD i []).length ∧ ¬ ((ws.getD i []).take d <+: ws.getLastD []) ∧ (0 < i → ¬ ((ws.getD i []).take d <+: ws.getD (i - 1) []))
def FzS (ws : Tl) (i d : Nat) (r : List UInt8) : Prop := ∃ i' d', (i' < i ∨ (i' = i ∧ d' < d)) ∧ FzC ws i' d' ∧ r = frame (rst ((ws.getD i' []).take d') ws)
theorem fzs_no {ws : Tl} {i d : Nat} {r : List UInt8} (h : ¬ FzC ws i d) : FzS ws i (d + 1) r ↔ FzS ws i d r := by
  constructor
  · rintro ⟨i', d', h1, h2, h3⟩
    refine ⟨i', d', ?_, h2, h3⟩
    rcases h1 with h1 | ⟨rfl, h1⟩
    · exact .inl h1
    · by_cases hd : d' = d
      · subst hd; exact absurd h2 h
      · exact .inr ⟨rfl, by omega⟩
  · rintro ⟨i', d', h1, h2, h3⟩
    exact ⟨i', d', h1.imp id (fun h => ⟨h.1, by omega⟩), h2, h3⟩
theorem fzs_yes {ws : Tl} {i d : Nat} {r : List UInt8} (h : FzC ws i d) : FzS ws i (d + 1) r ↔ FzS ws i d r ∨ r = frame (rst ((ws.getD i []).take d) ws) := by
  constructor
  · rintro ⟨i', d', h1, h2, h3⟩
    by_cases hd : i' = i ∧ d' = d
    · obtain ⟨rfl, rfl⟩ := hd; exact .inr h3
    · refine .inl ⟨i', d', ?_, h2, h3⟩
      rcases h1 with h1 | ⟨rfl, h1⟩
      · exact .inl h1
      · exact .inr ⟨rfl, by omega⟩
  · rintro (⟨i', d', h1, h2, h3⟩ | h3)
    · exact ⟨i', d', h1.imp id (fun h => ⟨h.1, by omega⟩), h2, h3⟩
    · exact ⟨i, d, .inr ⟨rfl, by omega⟩, h, h3⟩
theorem fzs_row {ws : Tl} {i d : Nat} {r : List UInt8} (h : (ws.getD i []).length < d) : FzS ws i d r ↔ FzS ws (i + 1) 1 r := by
  constructor
  · rintro ⟨i', d', h1, h2, h3⟩
    exact ⟨i', d', .inl (by rcases h1 with h1 | ⟨rfl, _⟩ <;> omega), h2, h3⟩
  · rintro ⟨i', d', h1, h2, h3⟩
    refine ⟨i', d', ?_, h2, h3⟩
    rcases h1 with h1 | ⟨rfl, h1⟩
    · rcases Nat.lt_or_ge i' i with h4 | h4
      · exact .inl h4
      · obtain rfl : i' = i := by omega
        exact .inr ⟨rfl, by have := h2.2.2.1; omega⟩
    · have := h2.2.1; omega
theorem fzs_zero {ws : Tl} {r : List UInt8} : ¬ FzS ws 0 1 r := by
  rintro ⟨i', d', h1, h2, _⟩
  have := h2.2.1
  omega
theorem fzs_end {ws : Tl} {Ls : List Tl} {n : Nat} {r : List UInt8} (h : BI ws Ls) (hn : ws.length ≤ n + 1) : FzS ws n 1 r ↔ ∃ L ∈ Ls, r = frame L := by
  have hl := (bld_last ws).1
  have hf := h.fz
  rw [hl] at hf
  constructor
  · rintro ⟨i, d, h1, ⟨h2, h3, h4, h5, h6⟩, rfl⟩
    refine ⟨_, (hf _).2 ⟨?_, _, h5, rfl⟩, rfl⟩
    refine List.ne_nil_of_mem (a := (ws.getD i []).drop d) (mem_rst.2 ?_)
    rw [List.take_append_drop, getD_get [] (by omega)]; exact List.getElem_mem _
  · rintro ⟨L, hL, rfl⟩
    obtain ⟨h1, p, h2, h3⟩ := (hf L).1 hL
    have hex : ∃ i, i < ws.length ∧ p <+: ws.getD i [] := by
      obtain ⟨t, ht⟩ := List.exists_mem_of_ne_nil _ h1
      rw [← h3, mem_rst] at ht
      obtain ⟨i, hi, he⟩ := List.mem_iff_getElem.1 ht
      exact ⟨i, hi, by rw [getD_get [] hi, he]; exact List.prefix_append p t⟩
    obtain ⟨i, hi, hmin⟩ : ∃ i, (i < ws.length ∧ p <+: ws.getD i []) ∧ ∀ j, j < i → ¬ (j < ws.length ∧ p <+: ws.getD j []) := by
      obtain ⟨i, hi⟩ := hex
      induction i using Nat.strongRecOn with
      | _ i ih =>
        by_cases hj : ∃ j, j < i ∧ j < ws.length ∧ p <+: ws.getD j []
        · obtain ⟨j, h4, h5⟩ := hj; exact ih j h4 h5
        · exact ⟨i, hi, fun j h4 h5 => hj ⟨j, h4, h5⟩⟩
    have hp := pref_take hi.2
    have hpl := hi.2.length_le
    have hp0 : 1 ≤ p.length := by
      rcases Nat.eq_zero_or_pos p.length with h0 | h0
      · exact absurd (by rw [List.eq_nil_of_length_eq_zero h0]; exact List.nil_prefix) h2
      · exact h0
    have hil : i + 1 < ws.length := by
      rcases Nat.lt_or_ge (i + 1) ws.length with h4 | h4
      · exact h4
      · exfalso
        have e : ws.getD i [] = ws.getLastD [] := by
          have h0 : ws ≠ [] := by rintro rfl; simp at hi
          rw [getD_get [] hi.1, List.getLastD_eq_getLast?, List.getLast?_eq_getElem?, List.getElem?_eq_getElem (by omega), Option.getD_some]
          congr 1; omega
        exact h2 (e ▸ hi.2)
    refine ⟨i, p.length, .inl (by omega), ⟨hil, hp0, hpl, ?_, fun h0 => ?_⟩, ?_⟩
    · rw [← hp]; exact h2
    · rw [← hp]; exact fun h4 => hmin (i - 1) (by omega) ⟨by omega, h4⟩
    · rw [← hp, h3]
/-- a rising list of all frames has as many -/
theorem frozen_count {ws : Tl} {n : Nat} {rs : Tl} (hu : Up ws) (hn : ws.length ≤ n + 1) (hs : Up rs) (h : ∀ r, r ∈ rs ↔ FzS ws n 1 r) : rs.length = frozenN ws := by
  obtain ⟨Ls, hb⟩ := bi_all _ ws rfl hu
  have e : frozenN ws = Ls.length := by unfold frozenN; rw [hb.ri.e, List.length_map]
  have hnd : rs.Nodup := hs.imp fun {a b} hab he => by rw [he, sless_irr] at hab; cases hab
  have hnd2 : (Ls.map frame).Nodup := List.Pairwise.map _ (fun a b hab he => hab (frame_inj he)) hb.ri.nd
  rw [e, ← List.length_map (as := Ls) (f := frame)]
  refine perm_len hnd hnd2 fun r => ?_
  rw [h r, fzs_end hb hn, List.mem_map]
  exact ⟨fun ⟨L, h1, h2⟩ => ⟨L, h1, h2.symm⟩, fun ⟨L, h1, h2⟩ => ⟨L, h1, h2.symm⟩⟩
/-- what is frozen is a state of every later automaton -/
theorem frozen_aut {ws l : Tl} (h : Fit (ws ++ l)) : frozenN ws ≤ (aut (ws ++ l)).length := by
  obtain ⟨Ls, hb⟩ := bi_all _ ws rfl (fit_pre h).1
  obtain ⟨K, hK⟩ := aut_is h
  have e : frozenN ws = Ls.length := by unfold frozenN; rw [hb.ri.e, List.length_map]
  rw [e, hK.len]
  refine List.Nodup.length_le_of_subset hb.ri.nd fun L hL => (hK.mem L).2 (.inr ?_)
  obtain ⟨h1, p, h2, h3⟩ := (hb.fz L).1 hL
  refine ⟨h1, p, ?_⟩
  have hu := List.pairwise_append.1 h.1
  have hnone : rst p l = [] := by
    refine rst_none fun t ht hp => ?_
    obtain ⟨s, hs⟩ := List.exists_mem_of_ne_nil _ h1
    rw [← h3, mem_rst] at hs
    have hne : ws ≠ [] := List.ne_nil_of_mem hs
    rw [(bld_last ws).1] at h2
    have hlm := last_mem hne
    have h4 := up_last hu.1 _ hs
    rcases sless_total (p ++ s) (ws.getLastD []) with h5 | h5 | h5
    · exact h2 (between h5 (hu.2.2 _ hlm t ht) (List.prefix_append p s) hp)
    · exact h2 (h5 ▸ List.prefix_append p s)
    · rw [h4] at h5; cases h5
  rw [rst_app, hnone, List.append_nil, h3]
/-- rising words: all are taken, or the limit is met -/
theorem addW_01 {most : Int} : ∀ {l ws rest : Tl}, Fit (ws ++ l ++ rest) → addW most ws l = (0, ws ++ l) ∨ ((addW most ws l).1 = 181 ∧ most < ((aut (ws ++ l ++ rest)).length : Int))
  | [], ws, rest, h => .inl (by simp [addW])
  | w :: l, ws, rest, h => by
    have e : ws ++ (w :: l) ++ rest = (ws ++ [w]) ++ l ++ rest := by simp
    have h0 : Fit (ws ++ [w]) := by rw [e, List.append_assoc] at h; exact fit_pre h
    obtain ⟨h1, h2⟩ := up_snoc.1 h0.1
    have h3 := add1W_ok (most := most) (ws := ws) (w := w) (h0.2 w (by simp)) (fun hne => h2 _ (last_mem hne))
    have h4 : frozenN (ws ++ [w]) ≤ (aut (ws ++ (w :: l) ++ rest)).length := by
      rw [e, List.append_assoc]
      exact frozen_aut (by rw [← List.append_assoc, ← e]; exact h)
    simp only [addW, h3]
    by_cases hm : most < (frozenN (ws ++ [w]) : Int)
    · rw [if_pos hm, if_neg (by decide)]
      exact .inr ⟨rfl, by omega⟩
    · rw [if_neg hm, if_pos rfl, e]
      have := addW_01 (most := most) (l := l) (ws := ws ++ [w]) (rest := rest) (by rw [← e]; exact h)
      rcases this with h5 | h5
      · exact .inl (by rw [h5]; simp)
      · exact .inr h5
theorem book_pre {most : Int} {ws l : Tl} {j : Nat} (h : Fit ws) (hl : l = (ws.drop j).take l.length) (hj : j ≤ ws.length) : ∃ st w2, bookAdd most (ws.take j) 0 l = (st, w2, st) ∧ w2.length ≤ j + l.length ∧ ((st = 0 ∧ w2 = ws.take (j + l.length)) ∨ (st = 181 ∧ most < ((aut ws).length : Int))) := by
  have e : ws.take j ++ l = ws.take (j + l.length) := by
    conv => lhs; rw [hl]
    rw [List.take_add]
  have e2 : ws.take j ++ l ++ ws.drop (j + l.length) = ws := by rw [e, List.take_append_drop]
  have h1 := addW_01 (most := most) (l := l) (ws := ws.take j) (rest := ws.drop (j + l.length)) (by rw [e2]; exact h)
  rw [e2] at h1
  have hlen := (addW_len most l (ws.take j)).1
  rw [List.length_take] at hlen
  unfold bookAdd
  rw [if_pos rfl]
  rcases h1 with h1 | ⟨h1, h2⟩
  · rw [h1] at hlen ⊢
    exact ⟨0, _, by rw [if_neg (show ¬ ((0 : Int) = 181) by decide)], by simp only at hlen; omega, .inl ⟨rfl, e⟩⟩
  · rw [h1, if_pos rfl]
    exact ⟨181, _, rfl, by omega, .inr ⟨rfl, h2⟩⟩
end Go.Hb
