/-
  Plain functions on lists, and what is known of them: no program in sight. No conditions.
-/
namespace Go.Hb

/-- how many bytes both begin with -/
def common : List UInt8 → List UInt8 → Nat
  | x :: a, y :: b => if x = y then common a b + 1 else 0
  | _, _ => 0
theorem common_le (a b : List UInt8) : common a b ≤ a.length ∧ common a b ≤ b.length := by
  induction a generalizing b with
  | nil => simp [common]
  | cons x a ih =>
    cases b with
    | nil => simp [common]
    | cons y b =>
      have := ih b
      simp only [common, List.length_cons]
      split <;> omega
/-- the first k bytes are alike, the next are not -/
theorem common_eq {a b : List UInt8} {k : Nat} (h : ∀ i, i < k → a.getD i 0 = b.getD i 0) (ha : k ≤ a.length) (hb : k ≤ b.length)
    (hn : k < a.length → k < b.length → a.getD k 0 ≠ b.getD k 0) : common a b = k := by
  induction k generalizing a b with
  | zero =>
    cases a with
    | nil => simp [common]
    | cons x a =>
      cases b with
      | nil => simp [common]
      | cons y b =>
        have := hn (by simp) (by simp)
        simp only [List.getD_cons_zero] at this
        simp [common, this]
  | succ k ih =>
    cases a with
    | nil => simp at ha
    | cons x a =>
      cases b with
      | nil => simp at hb
      | cons y b =>
        have h0 := h 0 (by omega)
        simp only [List.getD_cons_zero] at h0
        simp only [List.length_cons] at ha hb hn
        simp only [common, h0, if_true]
        rw [ih (fun i hi => by simpa using h (i + 1) (by omega)) (by omega) (by omega) (fun h1 h2 => by simpa using hn (by omega) (by omega))]

/-- a number in groups of seven bits, the lowest first -/
def uintF : Nat → Nat → List UInt8
  | 0, n => [UInt8.ofNat n]
  | f + 1, n => if n < 128 then [UInt8.ofNat n] else UInt8.ofNat (n % 128 + 128) :: uintF f (n / 128)
def uintB (n : Nat) : List UInt8 := uintF n n
theorem uintF_fuel : ∀ (f g n : Nat), n ≤ f → n ≤ g → uintF f n = uintF g n
  | 0, g, n, h, _ => by
    obtain rfl : n = 0 := by omega
    cases g <;> simp [uintF]
  | f + 1, 0, n, _, h => by
    obtain rfl : n = 0 := by omega
    simp [uintF]
  | f + 1, g + 1, n, h, h' => by
    simp only [uintF]
    split
    · rfl
    · rw [uintF_fuel f g (n / 128) (by omega) (by omega)]
theorem uintB_eq (n : Nat) : uintB n = if n < 128 then [UInt8.ofNat n] else UInt8.ofNat (n % 128 + 128) :: uintB (n / 128) := by
  cases n with
  | zero => simp [uintB, uintF]
  | succ n =>
    show uintF (n + 1) (n + 1) = _
    simp only [uintF]
    split
    · rfl
    · rw [uintF_fuel n ((n + 1) / 128) _ (by omega) (by omega)]; rfl
theorem uintB_lt {n : Nat} (h : n < 128) : uintB n = [UInt8.ofNat n] := by rw [uintB_eq, if_pos h]
theorem uintB_ge {n : Nat} (h : ¬ n < 128) : uintB n = UInt8.ofNat (n % 128 + 128) :: uintB (n / 128) := by rw [uintB_eq, if_neg h]
theorem uintB_len (k : Nat) : ∀ n, n < 128 ^ (k + 1) → (uintB n).length ≤ k + 1 := by
  induction k with
  | zero => intro n h; rw [uintB_lt (by simpa using h)]; simp
  | succ k ih =>
    intro n h
    by_cases h1 : n < 128
    · rw [uintB_lt h1]; simp
    · rw [uintB_ge h1]
      have : n / 128 < 128 ^ (k + 1) := by rw [Nat.div_lt_iff_lt_mul (by omega)]; rw [Nat.pow_succ] at h; exact h
      have := ih _ this
      simp only [List.length_cons]; omega
theorem uintB_len10 {n : Nat} (h : n < 18446744073709551616) : (uintB n).length ≤ 10 := uintB_len 9 n (Nat.lt_trans h (by decide))
theorem uintB_pos (n : Nat) : 0 < (uintB n).length := by rw [uintB_eq]; split <;> simp

/-- records, each behind its length -/
def frame : List (List UInt8) → List UInt8
  | [] => []
  | r :: l => uintB r.length ++ (r ++ frame l)
theorem frame_app (a b : List (List UInt8)) : frame (a ++ b) = frame a ++ frame b := by
  induction a with
  | nil => rfl
  | cons r a ih => simp [frame, ih]
theorem take_succ_getD {α : Type} (l : List α) (i : Nat) (d : α) (h : i < l.length) : l.take (i + 1) = l.take i ++ [l.getD i d] := by
  rw [List.take_succ_eq_append_getElem h]; simp [List.getD_eq_getElem?_getD, h]
theorem frame_take {l : List (List UInt8)} {i : Nat} (h : i < l.length) : frame (l.take (i + 1)) = frame (l.take i) ++ (uintB (l.getD i []).length ++ l.getD i []) := by
  rw [take_succ_getD l i [] h, frame_app]; simp [frame]
theorem frame_le (l : List (List UInt8)) (i : Nat) : (frame (l.take i)).length ≤ (frame l).length := by
  have : frame l = frame (l.take i) ++ frame (l.drop i) := by rw [← frame_app, List.take_append_drop]
  rw [this]; simp
theorem frame_take_le {l : List (List UInt8)} {i : Nat} (h : i < l.length) : (frame (l.take i)).length + (uintB (l.getD i []).length).length + (l.getD i []).length ≤ (frame l).length := by
  have := frame_le l (i + 1)
  rw [frame_take h] at this
  simp only [List.length_append] at this; omega

theorem take_drop_succ {α : Type} {l : List α} {i lo : Nat} {d : α} (h1 : lo ≤ i) (h2 : i < l.length) : (l.take (i + 1)).drop lo = (l.take i).drop lo ++ [l.getD i d] := by
  rw [take_succ_getD l i d h2, List.drop_append_of_le_length (by simp; omega)]
theorem mem_take_drop {α : Type} {l : List α} {hi lo : Nat} {x d : α} (h : x ∈ (l.take hi).drop lo) : ∃ i, lo ≤ i ∧ i < hi ∧ i < l.length ∧ l.getD i d = x := by
  obtain ⟨j, hj, he⟩ := List.mem_iff_getElem.1 h
  simp only [List.length_drop, List.length_take] at hj
  refine ⟨lo + j, by omega, by omega, by omega, ?_⟩
  rw [List.getElem_drop, List.getElem_take] at he
  rw [List.getD_eq_getElem?_getD, List.getElem?_eq_getElem (by omega)]; exact he
theorem rest_mem {ws : List (List UInt8)} {lo hi d : Nat} (_hhi : hi ≤ ws.length) (hd : ∀ i, lo ≤ i → i < hi → d ≤ (ws.getD i []).length ∧ (ws.getD i []).length ≤ 255) :
    ∀ r, r ∈ ((ws.take hi).drop lo).map (List.drop d) → r.length ≤ 255 := by
  intro r hr
  obtain ⟨x, hx, rfl⟩ := List.mem_map.1 hr
  obtain ⟨i, h1, h2, _, rfl⟩ := mem_take_drop (d := []) hx
  have := hd i h1 h2
  simp only [List.length_drop]; omega
theorem frame_bound {l : List (List UInt8)} (h : ∀ r, r ∈ l → r.length ≤ 255) : (frame l).length ≤ l.length * 265 := by
  induction l with
  | nil => simp [frame]
  | cons r l ih =>
    have h1 := h r (by simp)
    have h2 := ih (fun x hx => h x (by simp [hx]))
    have h3 := uintB_len10 (n := r.length) (by omega)
    simp only [frame, List.length_append, List.length_cons]; omega

/-- a list in which all from a place on have moved by one -/
def cont {α : Type} (d : α) (l : List α) (i : Nat) : List α := (l ++ [d]).take (i + 1) ++ l.drop i
theorem cont_get {α : Type} {d : α} {l : List α} {i : Nat} (hi : i ≤ l.length) (j : Nat) : (cont d l i)[j]? = if j ≤ i then (l ++ [d])[j]? else l[j - 1]? := by
  unfold cont
  rw [List.getElem?_append]
  have hl : ((l ++ [d]).take (i + 1)).length = i + 1 := by simp; omega
  rw [hl]
  by_cases h : j ≤ i
  · rw [if_pos (by omega), if_pos h, List.getElem?_take, if_pos (by omega)]
  · rw [if_neg (by omega), if_neg h, List.getElem?_drop, show i + (j - (i + 1)) = j - 1 from by omega]
theorem cont_len {α : Type} {d : α} {l : List α} {i : Nat} (hi : i ≤ l.length) : (cont d l i).length = l.length + 1 := by
  unfold cont; simp; omega
theorem cont_top {α : Type} (d : α) (l : List α) : cont d l l.length = l ++ [d] := by
  unfold cont; rw [List.drop_length, List.append_nil, List.take_of_length_le (by simp)]
theorem cont_step {α : Type} {d : α} {l : List α} {i : Nat} (h0 : 0 < i) (hi : i ≤ l.length) : (cont d l i).set i (l.getD (i - 1) d) = cont d l (i - 1) := by
  apply List.ext_getElem?
  intro j
  rw [cont_get (by omega), List.getElem?_set, cont_len hi]
  by_cases h : i = j
  · subst h
    rw [if_pos rfl, if_pos (by omega), if_neg (by omega), List.getD_eq_getElem?_getD, List.getElem?_eq_getElem (by omega)]; rfl
  · rw [if_neg h, cont_get hi]
    by_cases h2 : j ≤ i - 1
    · rw [if_pos h2, if_pos (by omega)]
    · rw [if_neg h2, if_neg (by omega)]
theorem cont_get0 {α : Type} {d : α} {l : List α} {i : Nat} (h0 : 0 < i) (hi : i ≤ l.length) : (cont d l i)[i - 1]? = some (l.getD (i - 1) d) := by
  rw [cont_get hi, if_pos (by omega), List.getElem?_append_left (by omega), List.getD_eq_getElem?_getD, List.getElem?_eq_getElem (by omega)]; rfl
theorem cont_end {α : Type} {d x : α} {l : List α} {q : Nat} (hq : q ≤ l.length) : (cont d l q).set q x = l.take q ++ x :: l.drop q := by
  apply List.ext_getElem?
  intro j
  rw [List.getElem?_set, cont_len hq, List.getElem?_append, List.length_take, Nat.min_eq_left hq]
  by_cases h : q = j
  · subst h; rw [if_pos rfl, if_pos (by omega), if_neg (by omega)]; simp
  · rw [if_neg h, cont_get hq]
    by_cases h2 : j < q
    · rw [if_pos (by omega), if_pos h2, List.getElem?_take, if_pos h2, List.getElem?_append_left (by omega)]
    · rw [if_neg (by omega), if_neg h2]
      obtain ⟨m, hm⟩ : ∃ m, j - q = m + 1 := ⟨j - q - 1, by omega⟩
      rw [hm, List.getElem?_cons_succ, List.getElem?_drop, show q + m = j - 1 from by omega]
end Go.Hb
