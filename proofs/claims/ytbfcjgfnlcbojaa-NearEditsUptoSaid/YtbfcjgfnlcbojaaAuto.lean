/-
  A builder of automata as plain functions: words added, the end, the states numbered. No program in sight. No conditions but those that each lemma names.
-/
import Derived.Test.YtbfcjgfnlcbojaaNode
namespace Go.Hb
/-- a builder: the last word, whether there is one, the register's entries, the path's -/
structure AB where
  last : List UInt8
  any : Bool
  s : List Ent × List Ent
/-- one word more -/
def add1 (most : Int) (x : AB) (wd : List UInt8) : Int × AB :=
  if 255 < wd.length then (22, x) else if x.any = true ∧ sless x.last wd = false then (180, x) else
    (if most < (addS x.last wd x.s).1.length then 181 else 0, ⟨wd, true, addS x.last wd x.s⟩)
/-- words till the first refusal -/
def addL (most : Int) : AB → List (List UInt8) → Int × AB
  | x, [] => (0, x)
  | x, wd :: l => if (add1 most x wd).1 = 0 then addL most (add1 most x wd).2 l else add1 most x wd
/-- the end: the root's number, the register -/
def finS (x : AB) : Nat × List Ent :=
  let c := cutS x.last 0 x.last.length x.s
  frzS c.1 (c.2.getD 0 dE)
/-- the states by their numbers in the register, in the order in which they are met -/
def visIG (v : Nat → List Nat × List Ent → Nat × (List Nat × List Ent)) (p : List (UInt8 × Nat) × (List Nat × List Ent)) (g : UInt8 × Nat) : List (UInt8 × Nat) × (List Nat × List Ent) :=
  (p.1 ++ [(g.1, (v g.2 p.2).1)], (v g.2 p.2).2)
def visI (ents : List Ent) : Nat → Nat → List Nat × List Ent → Nat × (List Nat × List Ent)
  | 0, _, s => (0, s)
  | f + 1, id, s =>
    if id ∈ s.1 then (s.1.idxOf id, s) else
      let z := ents.getD (id - 1) dE
      let r := z.2.foldl (visIG (visI ents f)) ([], (s.1 ++ [id], s.2 ++ [(z.1, [])]))
      (s.1.length, (r.2.1, r.2.2.set s.1.length (z.1, r.1)))

theorem clo_len {cs : List UInt8} {i : Nat} {s : List Ent × List Ent} (h0 : 0 < i) (h : s.2.length = i + 1) : (clo cs i s).2.length = i ∧ (clo cs i s).1.length ≤ s.1.length + 1 := by
  refine ⟨by simp only [clo, List.length_append, List.length_take, List.length_singleton]; omega, ?_⟩
  simp only [clo, frzS]
  split <;> simp
theorem cutS_len {cs : List UInt8} {n : Nat} : ∀ (i : Nat) (s : List Ent × List Ent), s.2.length = i + 1 → n ≤ i → (cutS cs n i s).2.length = n + 1 ∧ (cutS cs n i s).1.length ≤ s.1.length + (i - n)
  | 0, s, h, hn => by
    obtain rfl : n = 0 := by omega
    exact ⟨h, by simp [cutS]⟩
  | i + 1, s, h, hn => by
    by_cases hi : i + 1 ≤ n
    · obtain rfl : n = i + 1 := by omega
      rw [cutS_done (Nat.le_refl _)]; exact ⟨h, by omega⟩
    · obtain ⟨h1, h2⟩ := clo_len (cs := cs) (i := i + 1) (s := s) (by omega) h
      rw [cutS_step (i := i + 1) (by omega), Nat.add_sub_cancel]
      obtain ⟨h3, h4⟩ := cutS_len (cs := cs) (n := n) i (clo cs (i + 1) s) h1 (by omega)
      exact ⟨h3, by omega⟩
theorem addS_len {last wd : List UInt8} {s : List Ent × List Ent} (h : s.2.length = last.length + 1) : (addS last wd s).2.length = wd.length + 1 ∧ (addS last wd s).1.length + wd.length ≤ s.1.length + last.length + wd.length := by
  obtain ⟨h1, h2⟩ := common_le wd last
  obtain ⟨h3, h4⟩ := cutS_len (cs := last) (n := common wd last) last.length s h h2
  refine ⟨?_, ?_⟩
  · simp only [addS, List.length_append, List.length_take, List.length_replicate, List.length_singleton, h3]; omega
  · simp only [addS]; omega

/-! edges rise by their bytes -/
def ris (l : List (UInt8 × Nat)) : Prop := l.Pairwise (fun a b => a.1.toNat < b.1.toNat)
theorem rise_len : ∀ (l : List Nat) (a b : Nat), l.Pairwise (· < ·) → (∀ x ∈ l, a ≤ x ∧ x < b) → l.length ≤ b - a
  | [], _, _, _, _ => Nat.zero_le _
  | x :: l, a, b, h, hb => by
    rw [List.pairwise_cons] at h
    have h1 := hb x (by simp)
    have h2 := rise_len l (x + 1) b h.2 (fun y hy => ⟨h.1 y hy, (hb y (by simp [hy])).2⟩)
    simp only [List.length_cons]; omega
theorem ris_len {l : List (UInt8 × Nat)} (h : ris l) : l.length ≤ 256 := by
  have h1 := rise_len (l.map fun x => x.1.toNat) 0 256 (by rw [List.pairwise_map]; exact h) (fun x hx => by
    obtain ⟨y, _, rfl⟩ := List.mem_map.1 hx
    have := y.1.toNat_lt
    exact ⟨Nat.zero_le _, by omega⟩)
  simpa using h1
theorem ris_snoc {l : List (UInt8 × Nat)} {c : UInt8} {n : Nat} (h : ris l) (hc : ∀ x ∈ l, x.1.toNat < c.toNat) : ris (l ++ [(c, n)]) := by
  unfold ris at *
  rw [List.pairwise_append]
  exact ⟨h, by simp, fun a ha b hb => by simp only [List.mem_singleton] at hb; subst hb; exact hc a ha⟩
/-- every entry's edges rise; those of the path lie below the open edge -/
structure GoodS (cs : List UInt8) (s : List Ent × List Ent) : Prop where
  re : ∀ z ∈ s.1, ris z.2
  rp : ∀ (i : Nat) z, s.2[i]? = some z → ris z.2 ∧ (∀ x ∈ z.2, i < cs.length → x.1.toNat ≤ (cs.getD i 0).toNat) ∧ ∀ x ∈ z.2, i + 1 < s.2.length → x.1.toNat < (cs.getD i 0).toNat
theorem frzS_mem {ents : List Ent} {z y : Ent} (h : y ∈ (frzS ents z).2) : y ∈ ents ∨ y = z := by
  unfold frzS at h
  split at h
  · exact .inl h
  · simpa using h
theorem clo_good {cs : List UInt8} {i : Nat} {s : List Ent × List Ent} (hg : GoodS cs s) (h0 : 0 < i) (h : s.2.length = i + 1) : GoodS cs (clo cs i s) := by
  have hi : s.2[i]? = some (s.2.getD i dE) := by rw [getD_get dE (by omega), List.getElem?_eq_getElem (by omega)]
  have hj : s.2[i - 1]? = some (s.2.getD (i - 1) dE) := by rw [getD_get dE (by omega), List.getElem?_eq_getElem (by omega)]
  have htl : (s.2.take (i - 1)).length = i - 1 := by rw [List.length_take]; omega
  obtain ⟨h1, h2, h3⟩ := hg.rp _ _ hj
  have hl := (clo_len (cs := cs) h0 h).1
  refine ⟨fun z hz => ?_, fun j z hz => ?_⟩
  · rcases frzS_mem hz with hz | rfl
    · exact hg.re z hz
    · exact (hg.rp _ _ hi).1
  · rw [hl]
    simp only [clo] at hz
    by_cases hjl : j < i - 1
    · rw [List.getElem?_append_left (by omega), List.getElem?_take, if_pos hjl] at hz
      obtain ⟨h4, h5, h6⟩ := hg.rp j z hz
      exact ⟨h4, h5, fun x hx _ => h6 x hx (by omega)⟩
    · rw [List.getElem?_append_right (by omega), htl] at hz
      by_cases hj0 : j - (i - 1) = 0
      · rw [hj0] at hz
        simp only [List.getElem?_cons_zero, Option.some.injEq] at hz
        subst hz
        obtain rfl : j = i - 1 := by omega
        refine ⟨ris_snoc h1 (fun x hx => h3 x hx (by omega)), fun x hx hc => ?_, fun x hx hlt => by omega⟩
        rcases List.mem_append.1 hx with hx | hx
        · exact h2 x hx hc
        · simp only [List.mem_singleton] at hx; subst hx; exact Nat.le_refl _
      · rw [List.getElem?_eq_none (by simp; omega)] at hz; cases hz
theorem cutS_good {cs : List UInt8} {n : Nat} : ∀ (i : Nat) (s : List Ent × List Ent), GoodS cs s → s.2.length = i + 1 → n ≤ i → GoodS cs (cutS cs n i s)
  | 0, s, hg, _, _ => hg
  | i + 1, s, hg, h, hn => by
    by_cases hi : i + 1 ≤ n
    · rw [cutS_done hi]; exact hg
    · rw [cutS_step (i := i + 1) (by omega), Nat.add_sub_cancel]
      exact cutS_good i _ (clo_good hg (by omega) h) (clo_len (by omega) h).1 (by omega)
theorem sless_common : ∀ {a b : List UInt8}, sless a b = true → common b a < a.length → common b a < b.length ∧ (a.getD (common b a) 0).toNat < (b.getD (common b a) 0).toNat
  | [], _, _, h => by simp at h
  | _ :: _, [], h, _ => by rw [sless_nil_r] at h; cases h
  | c :: a, d :: b, h, hl => by
    rw [sless_cons] at h
    by_cases hc : d = c
    · subst hc
      have h1 : common (d :: b) (d :: a) = common b a + 1 := by simp [common]
      rw [h1] at hl ⊢
      have h2 : sless a b = true := by simpa using h
      simp only [List.length_cons] at hl ⊢
      obtain ⟨h3, h4⟩ := sless_common h2 (by omega)
      exact ⟨by omega, by simpa using h4⟩
    · have h1 : common (d :: b) (c :: a) = 0 := by simp [common, hc]
      rw [h1]
      have h2 : c < d := by
        simp only [Bool.or_eq_true, decide_eq_true_eq, Bool.and_eq_true, beq_iff_eq] at h
        rcases h with h | h
        · exact h
        · exact absurd h.1.symm hc
      exact ⟨by simp, by simpa using UInt8.lt_iff_toNat_lt.1 h2⟩
theorem common_get : ∀ {a b : List UInt8} {i : Nat}, i < common a b → a.getD i 0 = b.getD i 0
  | [], _, i, h => by simp [common] at h
  | _ :: _, [], i, h => by simp [common] at h
  | c :: a, d :: b, i, h => by
    by_cases hc : c = d
    · subst hc
      cases i with
      | zero => rfl
      | succ i =>
        have h1 : common (c :: a) (c :: b) = common a b + 1 := by simp [common]
        rw [h1] at h
        simp only [List.getD_cons_succ]
        exact common_get (by omega)
    · have h1 : common (c :: a) (d :: b) = 0 := by simp [common, hc]
      omega
theorem addS_good {last wd : List UInt8} {s : List Ent × List Ent} (hg : GoodS last s) (h : s.2.length = last.length + 1) (hl : ∀ z, s.2[last.length]? = some z → z.2 = []) (hs : sless last wd = true ∨ last = []) :
    GoodS wd (addS last wd s) ∧ ∀ z, (addS last wd s).2[wd.length]? = some z → z.2 = [] := by
  obtain ⟨h1, h2⟩ := common_le wd last
  have hc := cutS_good (n := common wd last) last.length s hg h h2
  have hcl := (cutS_len (cs := last) (n := common wd last) last.length s h h2).1
  have hcn : common wd last = last.length → ∀ z, (cutS last (common wd last) last.length s).2[common wd last]? = some z → z.2 = [] := fun he z hz => by
    rw [cutS_done (by omega), he] at hz; exact hl z hz
  have hlt : common wd last < last.length → common wd last < wd.length ∧ (last.getD (common wd last) 0).toNat < (wd.getD (common wd last) 0).toNat := fun hx => by
    rcases hs with hs | hs
    · exact sless_common hs hx
    · subst hs; simp at hx
  obtain ⟨L, hL⟩ : ∃ L, L = (cutS last (common wd last) last.length s).2 ++ List.replicate (wd.length - common wd last) dE := ⟨_, rfl⟩
  have hLl : L.length = wd.length + 1 := by rw [hL, List.length_append, List.length_replicate, hcl]; omega
  have hLi : ∀ i z, L[i]? = some z → (i ≤ common wd last ∧ (cutS last (common wd last) last.length s).2[i]? = some z) ∨ (common wd last < i ∧ z = dE) := fun i z hz => by
    rw [hL] at hz
    by_cases hi : i ≤ common wd last
    · rw [List.getElem?_append_left (by omega)] at hz; exact .inl ⟨hi, hz⟩
    · rw [List.getElem?_append_right (by omega), List.getElem?_replicate] at hz
      split at hz
      · exact .inr ⟨by omega, by cases hz; rfl⟩
      · cases hz
  have hlast : ∀ z, L[wd.length]? = some z → z.2 = [] := fun z hz => by
    rcases hLi _ _ hz with ⟨h3, h4⟩ | ⟨_, rfl⟩
    · have he : common wd last = wd.length := by omega
      rw [← he] at h4
      rcases Nat.lt_or_ge (common wd last) last.length with hx | hx
      · have := (hlt hx).1; omega
      · exact hcn (by omega) z h4
    · rfl
  have hp : (addS last wd s).2 = L.take wd.length ++ [(true, (L.getD wd.length dE).2)] := by rw [hL]; rfl
  have hwl : L[wd.length]? = some (L.getD wd.length dE) := by rw [getD_get dE (by omega), List.getElem?_eq_getElem (by omega)]
  have hlen := (addS_len (wd := wd) h).1
  refine ⟨⟨fun z hz => hc.re z hz, fun i z hz => ?_⟩, fun z hz => ?_⟩
  · rw [hlen]
    rw [hp] at hz
    by_cases hi : i < wd.length
    · rw [List.getElem?_append_left (by rw [List.length_take]; omega), List.getElem?_take, if_pos hi] at hz
      rcases hLi _ _ hz with ⟨h3, h4⟩ | ⟨_, rfl⟩
      · obtain ⟨h5, h6, h7⟩ := hc.rp i z h4
        rw [hcl] at h7
        have key : ∀ x ∈ z.2, x.1.toNat < (wd.getD i 0).toNat := fun x hx => by
          rcases Nat.lt_or_ge i (common wd last) with hlt2 | hge
          · have := h7 x hx (by omega)
            rw [common_get hlt2]; exact this
          · obtain rfl : i = common wd last := by omega
            rcases Nat.lt_or_ge (common wd last) last.length with hx2 | hx2
            · have := h6 x hx hx2
              have := (hlt hx2).2; omega
            · have := hcn (by omega) z h4
              rw [this] at hx; simp at hx
        exact ⟨h5, fun x hx _ => by have := key x hx; omega, fun x hx _ => key x hx⟩
      · exact ⟨List.Pairwise.nil, fun x hx => by simp [dE] at hx, fun x hx => by simp [dE] at hx⟩
    · rw [List.getElem?_append_right (by rw [List.length_take]; omega), List.length_take, show min wd.length L.length = wd.length from by omega] at hz
      by_cases h0 : i - wd.length = 0
      · rw [h0] at hz
        simp only [List.getElem?_cons_zero, Option.some.injEq] at hz
        subst hz
        have := hlast _ hwl
        simp only [this]
        exact ⟨List.Pairwise.nil, fun x hx => by simp at hx, fun x hx => by simp at hx⟩
      · rw [List.getElem?_eq_none (by simp; omega)] at hz; cases hz
  · rw [hp, List.getElem?_append_right (by rw [List.length_take]; omega), List.length_take, show min wd.length L.length = wd.length from by omega, Nat.sub_self] at hz
    simp only [List.getElem?_cons_zero, Option.some.injEq] at hz
    subst hz
    exact hlast (L.getD wd.length dE) hwl
/-- what holds of every builder -/
structure GoodX (x : AB) : Prop where
  g : GoodS x.last x.s
  len : x.s.2.length = x.last.length + 1
  l255 : x.last.length ≤ 255
  lst : ∀ z, x.s.2[x.last.length]? = some z → z.2 = []
  any : x.any = false → x.last = []
/-- a builder without words -/
def ab0 : AB := ⟨[], false, ([], [dE])⟩
theorem good_new : GoodX ab0 := by
  unfold ab0
  exact ⟨⟨fun z hz => by simp at hz, fun i z hz => by
    cases i with
    | zero =>
      simp only [List.getElem?_cons_zero, Option.some.injEq] at hz; subst hz
      exact ⟨List.Pairwise.nil, fun x hx => by simp [dE] at hx, fun x hx => by simp [dE] at hx⟩
    | succ i => simp at hz⟩, rfl, by simp, fun z hz => by simp at hz; subst hz; rfl, fun _ => rfl⟩
theorem add_good {x : AB} {wd : List UInt8} (h : GoodX x) (hl : wd.length ≤ 255) (hs : x.any = true → sless x.last wd = true) : GoodX ⟨wd, true, addS x.last wd x.s⟩ := by
  obtain ⟨h1, h2⟩ := addS_good (wd := wd) h.g h.len h.lst (by
    cases ha : x.any
    · exact .inr (h.any ha)
    · exact .inl (hs ha))
  exact ⟨h1, (addS_len h.len).1, hl, h2, fun h => Bool.noConfusion h⟩
theorem add_grow {x : AB} {wd : List UInt8} (h : GoodX x) : (addS x.last wd x.s).1.length ≤ x.s.1.length + 255 := by
  have := (addS_len (wd := wd) h.len).2
  have := h.l255
  omega
theorem addL_snoc {most : Int} {x : AB} {ws : List (List UInt8)} {i : Nat} {x1 : AB} (hi : i < ws.length) (h : addL most x ws = addL most x1 (ws.drop i)) : addL most x ws = if (add1 most x1 (ws.getD i [])).1 = 0 then addL most (add1 most x1 (ws.getD i [])).2 (ws.drop (i + 1)) else add1 most x1 (ws.getD i []) := by
  rw [h, List.drop_eq_getElem_cons hi, ← getD_get [] hi]; rfl
theorem add1_22 {most : Int} {x : AB} {wd : List UInt8} (h : 255 < wd.length) : add1 most x wd = (22, x) := by unfold add1; rw [if_pos h]
theorem add1_180 {most : Int} {x : AB} {wd : List UInt8} (h0 : wd.length ≤ 255) (h : x.any = true) (h2 : sless x.last wd = false) : add1 most x wd = (180, x) := by unfold add1; rw [if_neg (by omega), if_pos ⟨h, h2⟩]
theorem add1_ok {most : Int} {x : AB} {wd : List UInt8} (h0 : wd.length ≤ 255) (h : x.any = true → sless x.last wd = true) : add1 most x wd = (if most < (addS x.last wd x.s).1.length then 181 else 0, ⟨wd, true, addS x.last wd x.s⟩) := by
  unfold add1
  rw [if_neg (by omega), if_neg (fun h1 => by rw [h h1.1] at h1; exact Bool.noConfusion h1.2)]
end Go.Hb
