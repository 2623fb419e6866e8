/-
  The visit of an automaton of rising words: laws on the plain functions of 'Dawg'. No program in sight. No conditions but those that each lemma names.
-/
import Derived.Test.YtbfcjgfnlcbojaaDawg
import Derived.Test.YtbfcjgfnlcbojaaPure
import Derived.Test.YtbfcjgfnlcbojaaOps
namespace Go.Hb

/-! frames tell lists apart -/
theorem u8_inj {a b : Nat} (ha : a < 256) (hb : b < 256) (h : UInt8.ofNat a = UInt8.ofNat b) : a = b := by
  have := congrArg UInt8.toNat h
  simp only [UInt8.toNat_ofNat'] at this
  omega
theorem uintB_inj : ∀ {n m : Nat} {x y : List UInt8}, uintB n ++ x = uintB m ++ y → n = m ∧ x = y := by
  intro n
  induction n using Nat.strongRecOn with
  | _ n ih =>
    intro m x y h
    by_cases hn : n < 128
    · by_cases hm : m < 128
      · rw [uintB_lt hn, uintB_lt hm] at h
        simp only [List.cons_append, List.nil_append, List.cons.injEq] at h
        exact ⟨u8_inj (by omega) (by omega) h.1, h.2⟩
      · rw [uintB_lt hn, uintB_ge hm] at h
        simp only [List.cons_append, List.nil_append, List.cons.injEq] at h
        have := u8_inj (by omega) (by omega) h.1; omega
    · by_cases hm : m < 128
      · rw [uintB_ge hn, uintB_lt hm] at h
        simp only [List.cons_append, List.nil_append, List.cons.injEq] at h
        have := u8_inj (by omega) (by omega) h.1; omega
      · rw [uintB_ge hn, uintB_ge hm] at h
        simp only [List.cons_append, List.cons.injEq] at h
        have h1 := u8_inj (by omega) (by omega) h.1
        obtain ⟨h2, h3⟩ := ih (n / 128) (by omega) h.2
        exact ⟨by omega, h3⟩
theorem frame_inj : ∀ {a b : List (List UInt8)}, frame a = frame b → a = b
  | [], [], _ => rfl
  | [], r :: b, h => by
    have := congrArg List.length h
    have h1 := uintB_pos r.length
    simp only [frame, List.length_nil, List.length_append] at this; omega
  | r :: a, [], h => by
    have := congrArg List.length h
    have h1 := uintB_pos r.length
    simp only [frame, List.length_nil, List.length_append] at this; omega
  | r :: a, q :: b, h => by
    simp only [frame] at h
    obtain ⟨h1, h2⟩ := uintB_inj h
    have h3 := List.append_inj h2 h1
    rw [h3.1, frame_inj h3.2]

theorem u8eq {a b : UInt8} (h : (a.toNat : Int) = (b.toNat : Int)) : a = b := UInt8.toNat_inj.1 (by omega)
/-! the table -/
structure Tb (known : List Tl) (tb : List (List UInt8 × Nat)) : Prop where
  sorted : (tb.map Prod.fst).Pairwise (fun x y => sless x y = true)
  val : ∀ p ∈ tb, p.2 < known.length ∧ p.1 = frame (known.getD p.2 [])
  all : ∀ i, i < known.length → ∃ p ∈ tb, p.2 = i
  nodup : known.Nodup
  len : tb.length = known.length
theorem Tb.nil : Tb [] [] := ⟨List.Pairwise.nil, fun _ h => by simp at h, fun _ h => by simp at h, List.nodup_nil, rfl⟩
theorem getD_get {α : Type} {l : List α} {i : Nat} (d : α) (h : i < l.length) : l.getD i d = l[i] := by
  rw [List.getD_eq_getElem?_getD, List.getElem?_eq_getElem h]; rfl
theorem Tb.found {known : List Tl} {tb : List (List UInt8 × Nat)} (h : Tb known tb) {q : Nat} {ts : Tl} (hq : q < tb.length) (he : (tb.map Prod.fst).getD q [] = frame ts) : ts ∈ known ∧ (tb.map Prod.snd)[q]? = some (known.idxOf ts) := by
  rw [getD_get [] (by simpa using hq), List.getElem_map] at he
  obtain ⟨h1, h2⟩ := h.val tb[q] (List.getElem_mem hq)
  rw [h2] at he
  have h3 := frame_inj he
  rw [getD_get [] h1] at h3
  subst h3
  refine ⟨List.getElem_mem h1, ?_⟩
  rw [List.getElem?_map, List.getElem?_eq_getElem hq, Option.map_some, h.nodup.idxOf_getElem]
theorem Tb.missing {known : List Tl} {tb : List (List UInt8 × Nat)} (h : Tb known tb) {q : Nat} {ts : Tl} (h1 : ∀ i, i < q → sless ((tb.map Prod.fst).getD i []) (frame ts) = true) (h2 : ∀ i, q ≤ i → i < (tb.map Prod.fst).length → sless ((tb.map Prod.fst).getD i []) (frame ts) = false)
    (hne : q < tb.length → (tb.map Prod.fst).getD q [] ≠ frame ts) : ts ∉ known := by
  intro hm
  obtain ⟨i, hi, rfl⟩ := List.mem_iff_getElem.1 hm
  obtain ⟨p, hp, rfl⟩ := h.all i hi
  obtain ⟨j, hj, rfl⟩ := List.mem_iff_getElem.1 hp
  have hv := (h.val _ hp).2
  rw [getD_get [] hi] at hv
  have hjj : (tb.map Prod.fst).getD j [] = frame known[tb[j].2] := by rw [getD_get [] (by simpa using hj), List.getElem_map]; exact hv
  rcases Nat.lt_trichotomy j q with hlt | rfl | hgt
  · have := h1 j hlt; rw [hjj, sless_irr] at this; cases this
  · exact hne hj hjj
  · have h3 := pw_get h.sorted hgt (by simpa using hj)
    have h4 := h2 q (Nat.le_refl _) (by simp; omega)
    rw [hjj, h4] at h3; cases h3
theorem Tb.put {known : List Tl} {tb : List (List UInt8 × Nat)} (h : Tb known tb) {q : Nat} {ts : Tl} (hq : q ≤ tb.length) (h1 : ∀ i, i < q → sless ((tb.map Prod.fst).getD i []) (frame ts) = true) (h2 : ∀ i, q ≤ i → i < (tb.map Prod.fst).length → sless ((tb.map Prod.fst).getD i []) (frame ts) = false)
    (hn : ts ∉ known) : Tb (known ++ [ts]) (tb.take q ++ (frame ts, known.length) :: tb.drop q) := by
  have hval : ∀ p ∈ tb, p.2 < (known ++ [ts]).length ∧ p.1 = frame ((known ++ [ts]).getD p.2 []) := by
    intro p hp
    obtain ⟨h3, h4⟩ := h.val p hp
    refine ⟨by simp; omega, ?_⟩
    rw [h4]; simp only [List.getD_eq_getElem?_getD, List.getElem?_append_left h3]
  refine ⟨?_, ?_, ?_, ?_, by simp [h.len.symm]; omega⟩
  · have hs := h.sorted
    rw [← List.take_append_drop q tb, List.map_append, List.pairwise_append] at hs
    simp only [List.map_append, List.map_cons]
    rw [List.pairwise_append]
    have hlo : ∀ a ∈ (tb.take q).map Prod.fst, sless a (frame ts) = true := by
      intro a ha
      obtain ⟨p, hp, rfl⟩ := List.mem_map.1 ha
      obtain ⟨i, hi, rfl⟩ := List.mem_iff_getElem.1 hp
      simp only [List.length_take] at hi
      have := h1 i (by omega)
      rw [getD_get [] (by simp; omega), List.getElem_map] at this
      rw [List.getElem_take]; exact this
    have hhi : ∀ a ∈ (tb.drop q).map Prod.fst, sless (frame ts) a = true := by
      intro a ha
      obtain ⟨p, hp, rfl⟩ := List.mem_map.1 ha
      obtain ⟨i, hi, rfl⟩ := List.mem_iff_getElem.1 hp
      simp only [List.length_drop] at hi
      have h5 := h2 (q + i) (by omega) (by simp; omega)
      rw [getD_get [] (by simp; omega), List.getElem_map] at h5
      rw [List.getElem_drop]
      rcases sless_total (frame ts) tb[q + i].1 with h6 | h6 | h6
      · exact h6
      · exfalso
        obtain ⟨h7, h8⟩ := h.val tb[q + i] (List.getElem_mem (by omega))
        rw [h8, getD_get [] h7] at h6
        exact hn (frame_inj h6 ▸ List.getElem_mem h7)
      · rw [h5] at h6; cases h6
    refine ⟨hs.1, List.pairwise_cons.2 ⟨hhi, hs.2.1⟩, ?_⟩
    intro a ha b hb
    rcases List.mem_cons.1 hb with rfl | hb
    · exact hlo a ha
    · exact hs.2.2 a ha b hb
  · intro p hp
    rcases List.mem_append.1 hp with hp | hp
    · exact hval p (List.mem_of_mem_take hp)
    · rcases List.mem_cons.1 hp with rfl | hp
      · refine ⟨by simp, ?_⟩
        simp [List.getD_eq_getElem?_getD]
      · exact hval p (List.mem_of_mem_drop hp)
  · intro i hi
    simp only [List.length_append, List.length_singleton] at hi
    by_cases hi' : i < known.length
    · obtain ⟨p, hp, rfl⟩ := h.all i hi'
      refine ⟨p, ?_, rfl⟩
      rw [← List.take_append_drop q tb] at hp
      rcases List.mem_append.1 hp with hp | hp
      · exact List.mem_append_left _ hp
      · exact List.mem_append_right _ (List.mem_cons_of_mem _ hp)
    · exact ⟨_, List.mem_append_right _ List.mem_cons_self, by simp; omega⟩
  · rw [List.nodup_append]
    exact ⟨h.nodup, by simp, fun a ha b hb => by simp only [List.mem_singleton] at hb; subst hb; rintro rfl; exact hn ha⟩

/-! how much there is -/
def vol (ts : Tl) : Nat := (ts.map List.length).sum
theorem vol_append (a b : Tl) : vol (a ++ b) = vol a + vol b := by simp [vol]
theorem vol_tail {ts : Tl} (h : ∀ t ∈ ts, t ≠ []) : vol ts = vol (ts.map List.tail) + ts.length := by
  induction ts with
  | nil => rfl
  | cons t ts ih =>
    have h1 := ih (fun x hx => h x (by simp [hx]))
    have h2 : t.length = t.tail.length + 1 := by
      have := h t (by simp)
      cases t with
      | nil => exact absurd rfl this
      | cons c t => simp
    simp only [vol, List.map_cons, List.sum_cons, List.length_cons] at *
    omega
theorem vol_rng {ws : Tl} {lo k hi d : Nat} (h1 : lo ≤ k) (h2 : k ≤ hi) : vol (rng ws lo hi d) = vol (rng ws lo k d) + vol (rng ws k hi d) := by
  rw [← rng_take h1 h2, ← rng_drop (hi := hi) (d := d) h1, ← vol_append, List.take_append_drop]
theorem sless_tail {c : UInt8} {a b : List UInt8} (h : sless (c :: a) (c :: b) = true) : sless a b = true := by
  rw [sless_cons] at h
  simpa using h
theorem sless_nil_r (a : List UInt8) : sless a [] = false := by cases a <;> rfl

/-! ranges of rising words -/
theorem rng_cons {ws : Tl} {lo hi d : Nat} (h : lo < hi) (hh : hi ≤ ws.length) : rng ws lo hi d = (ws.getD lo []).drop d :: rng ws (lo + 1) hi d := by
  unfold rng
  rw [List.drop_eq_getElem_cons (by simp; omega), List.map_cons, List.getElem_take, getD_get [] (by omega)]
theorem pw_sub {ws : Tl} {lo hi d i k : Nat} (h1 : lo ≤ i) (h2 : k ≤ hi) (hik : i ≤ k) (h : (rng ws lo hi d).Pairwise (fun x y => sless x y = true)) : (rng ws i k d).Pairwise (fun x y => sless x y = true) := by
  rw [← rng_take (hi := hi) hik h2, ← rng_drop (lo := lo) h1]
  exact (h.sublist (List.drop_sublist _ _)).sublist (List.take_sublist _ _)
theorem rng_ne {ws : Tl} {lo hi d j : Nat} (h : (rng ws lo hi d).Pairwise (fun x y => sless x y = true)) (hh : hi ≤ ws.length) (h1 : lo < j) (h2 : j < hi) : d < (ws.getD j []).length := by
  rcases Nat.lt_or_ge d (ws.getD j []).length with h3 | h3
  · exact h3
  · exfalso
    have h4 := pw_get h (i := 0) (j := j - lo) (by omega) (by rw [rng_len hh]; omega)
    rw [rng_getD (j := j - lo) hh (by omega), show lo + (j - lo) = j from by omega, List.drop_eq_nil_of_le h3, sless_nil_r] at h4
    cases h4
theorem drop_head {l : List UInt8} {d : Nat} (h : d < l.length) : l.drop d = l.getD d 0 :: l.drop (d + 1) := by
  rw [List.drop_eq_getElem_cons h, getD_get 0 h]
theorem rng_run {ws : Tl} {i k hi d : Nat} (hh : hi ≤ ws.length) (h1 : i < k) (h2 : k ≤ hi) (hne : ∀ j, i ≤ j → j < hi → d < (ws.getD j []).length) (heq : ∀ j, i ≤ j → j < k → (ws.getD j []).getD d 0 = (ws.getD i []).getD d 0)
    (hst : k < hi → (ws.getD k []).getD d 0 ≠ (ws.getD i []).getD d 0) : groups (rng ws i hi d) = ((ws.getD i []).getD d 0, rng ws i k (d + 1)) :: groups (rng ws k hi d) := by
  have h := groups_run (L := rng ws i hi d) (c := (ws.getD i []).getD d 0) (r := k - i) (by omega) (by rw [rng_len hh]; omega)
    (fun j hj => by rw [rng_getD hh (by omega), drop_head (hne _ (by omega) (by omega)), List.head?_cons, heq _ (by omega) (by omega)])
    (fun hlt => by
      rw [rng_len hh] at hlt
      refine ⟨_, ?_, hst (by omega)⟩
      rw [rng_getD hh (by omega), show i + (k - i) = k from by omega, drop_head (hne _ (by omega) (by omega)), List.head?_cons])
  rw [rng_take (by omega) h2, rng_drop (by omega), rng_tail] at h
  exact h
theorem rng_memv {ws : Tl} {lo hi d : Nat} {t : List UInt8} (h : t ∈ rng ws lo hi d) : ∃ j, lo ≤ j ∧ j < hi ∧ j < ws.length ∧ t = (ws.getD j []).drop d := by
  obtain ⟨x, hx, rfl⟩ := List.mem_map.1 h
  obtain ⟨i, h1, h2, h3, rfl⟩ := mem_take_drop (d := []) hx
  exact ⟨i, h1, h2, h3, rfl⟩
theorem pw_tail {ws : Tl} {i k d : Nat} (hne : ∀ j, i ≤ j → j < k → d < (ws.getD j []).length) (heq : ∀ j, i ≤ j → j < k → (ws.getD j []).getD d 0 = (ws.getD i []).getD d 0) (h : (rng ws i k d).Pairwise (fun x y => sless x y = true)) :
    (rng ws i k (d + 1)).Pairwise (fun x y => sless x y = true) := by
  rw [← rng_tail, List.pairwise_map]
  refine h.imp_of_mem fun {a b} ha hb hab => ?_
  obtain ⟨j, h1, h2, _, rfl⟩ := rng_memv ha
  obtain ⟨j', h1', h2', _, rfl⟩ := rng_memv hb
  rw [drop_head (hne j h1 h2), drop_head (hne j' h1' h2')] at hab ⊢
  rw [heq j h1 h2, heq j' h1' h2'] at hab
  exact sless_tail hab
theorem vol_run {ws : Tl} {i k d : Nat} (hk : k ≤ ws.length) (hne : ∀ j, i ≤ j → j < k → d < (ws.getD j []).length) : vol (rng ws i k d) = vol (rng ws i k (d + 1)) + (k - i) := by
  rw [vol_tail, rng_tail, rng_len hk]
  intro t ht
  obtain ⟨j, h1, h2, _, rfl⟩ := rng_memv ht
  rw [drop_head (hne j h1 h2)]; exact List.cons_ne_nil _ _
theorem dropE_T {ws : Tl} {lo hi d : Nat} (h : lo < hi) (hh : hi ≤ ws.length) (hd : (ws.getD lo []).length = d) : isE (rng ws lo hi d) = true ∧ dropE (rng ws lo hi d) = rng ws (lo + 1) hi d := by
  rw [rng_cons h hh, List.drop_eq_nil_of_le (by omega)]; exact ⟨rfl, rfl⟩
theorem dropE_F {ws : Tl} {lo hi d : Nat} (hh : hi ≤ ws.length) (hd : lo < hi → d < (ws.getD lo []).length) : isE (rng ws lo hi d) = false ∧ dropE (rng ws lo hi d) = rng ws lo hi d := by
  by_cases h : lo < hi
  · rw [rng_cons h hh, drop_head (hd h)]; exact ⟨rfl, rfl⟩
  · rw [rng_nil (by omega)]; exact ⟨rfl, rfl⟩
theorem vis_old {f : Nat} {ts : Tl} {s : VS} (h : ts ∈ s.known) : vis (f + 1) ts s = (s.known.idxOf ts, s) := by simp only [vis]; rw [if_pos h]
theorem vis_new {f : Nat} {ts : Tl} {s s' : VS} {es : List (UInt8 × Nat)} (h : ts ∉ s.known) (hf : (groups (dropE ts)).foldl (visG (vis f)) ([], s.add ts) = (es, s')) :
    vis (f + 1) ts s = (s.known.length, ⟨s'.known, s'.sts.set s.known.length (isE ts, es)⟩) := by simp only [vis]; rw [if_neg h, hf]
theorem le_T {a b : List UInt8} (h : (sless a b || decide (a = b)) = true) : sless b a = false := by
  rcases Bool.or_eq_true _ _ |>.mp h with h | h
  · exact sless_asymm h
  · rw [of_decide_eq_true h]; exact sless_irr b
theorem le_F {a b : List UInt8} (h : (sless a b || decide (a = b)) = false) : sless b a = true := by
  rw [Bool.or_eq_false_iff] at h
  rcases sless_total a b with h1 | h1 | h1
  · rw [h.1] at h1; cases h1
  · exact absurd h1 (of_decide_eq_false h.2)
  · exact h1
theorem rng_all (ws : Tl) : rng ws 0 ws.length 0 = ws := by
  have : (List.drop 0 : List UInt8 → List UInt8) = id := rfl
  rw [rng, List.take_length, List.drop_zero, this, List.map_id]
end Go.Hb
