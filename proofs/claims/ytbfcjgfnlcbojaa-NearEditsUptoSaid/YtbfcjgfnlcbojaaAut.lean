/-
  The automaton that a builder answers is the one of its words: laws on plain lists. No program in sight. No conditions but those that each lemma names.
-/
import Derived.Test.YtbfcjgfnlcbojaaLaw
namespace Go.Hb

theorem bi_nil : BI [] [] := by
  refine ⟨⟨rfl, List.nodup_nil, fun L h => by simp at h, fun k L h => by simp at h⟩, ⟨rfl, fun i hi => ?_⟩, fun L => ⟨fun h => by simp at h, fun ⟨h, p, _, h2⟩ => absurd (h2.symm.trans (rst_empty p)) h⟩⟩
  have h0 : (bldW []).last = [] := rfl
  rw [h0] at hi ⊢
  simp only [List.length_nil, Nat.le_zero_eq] at hi
  subst hi
  exact ⟨[], rfl, rfl, fun p hp => by simp at hp⟩
theorem bi_all : ∀ (n : Nat) (ws : Tl), ws.length = n → Up ws → ∃ Ls, BI ws Ls
  | 0, ws, h, _ => by
    obtain rfl := List.eq_nil_of_length_eq_zero h
    exact ⟨[], bi_nil⟩
  | n + 1, ws, h, hu => by
    rcases List.eq_nil_or_concat ws with rfl | ⟨l, w, he⟩
    · simp at h
    · rw [List.concat_eq_append] at he
      subst he
      obtain ⟨h1, h2⟩ := up_snoc.1 hu
      obtain ⟨Ls, h3⟩ := bi_all n l (by simpa using h) h1
      refine add_law h1 h3 ?_
      by_cases hl : l = []
      · exact .inr hl
      · rw [(bld_last l).1]; exact .inl (h2 _ (last_mem hl))
theorem fin_law {ws : Tl} {Ls : List Tl} (hu : Up ws) (h : BI ws Ls) : ∃ Ls', RI Ls' (finS (bldW ws)).2 ∧ (finS (bldW ws)).1 = Ls'.idxOf ws + 1 ∧ ∀ L, L ∈ Ls' ↔ L = ws ∨ (L ≠ [] ∧ ∃ p, rst p ws = L) := by
  obtain ⟨last, hlast⟩ : ∃ l, l = (bldW ws).last := ⟨_, rfl⟩
  have hl1 := (bld_last ws).1
  have hpi := h.pi
  have hfz := h.fz
  have hfin : finS (bldW ws) = frzS (cutS last 0 last.length (bldW ws).s).1 ((cutS last 0 last.length (bldW ws).s).2.getD 0 dE) := by rw [hlast]; rfl
  rw [← hlast] at hpi hl1 hfz
  obtain ⟨L1, h1, h2, h3⟩ := cutS_law (n := 0) hu last.length (bldW ws).s Ls h.ri hpi (Nat.zero_le _)
  obtain ⟨cl, g1, g2, g3⟩ := h2.st 0 (Nat.le_refl _)
  rw [if_neg (Nat.lt_irrefl _), List.append_nil, List.take_zero, rst_nil] at g1
  rw [List.take_zero, rst_nil] at g2
  have hz : (cutS last 0 last.length (bldW ws).s).2.getD 0 dE = enc L1 ws := by
    rw [List.getD_eq_getElem?_getD, g2]; simp only [Option.getD_some, enc, g1]
  obtain ⟨h4, h5⟩ := frz_law h1 hu (R := ws) (by rw [g1]; exact g3)
  rw [hfin, hz]
  refine ⟨_, h5, h4, fun L => ?_⟩
  rw [mem_putL, h3, hfz]
  constructor
  · rintro ((⟨h6, p, _, h7⟩ | ⟨j, h6, h7, h8⟩) | h6)
    · exact .inr ⟨h6, p, h7⟩
    · refine .inr ⟨?_, _, h8.symm⟩
      have hws : ws ≠ [] := by rintro rfl; rw [hl1] at h7; simp at h7; omega
      have hm : last.drop j ∈ rst (last.take j) ws := by rw [mem_rst, List.take_append_drop, hl1]; exact last_mem hws
      rw [h8]; exact List.ne_nil_of_mem hm
    · exact .inl h6
  · rintro (h6 | ⟨h6, p, h7⟩)
    · exact .inr h6
    · by_cases hp : p <+: last
      · have e1 := pref_take hp
        rcases Nat.eq_zero_or_pos p.length with h8 | h8
        · have : p = [] := List.eq_nil_of_length_eq_zero h8
          subst this
          exact .inr h7.symm
        · exact .inl (.inr ⟨p.length, h8, hp.length_le, by rw [← e1, h7]⟩)
      · exact .inl (.inl ⟨h6, p, hp, h7⟩)

/-! the same numbering -/
def nm (Ls : List Tl) (i : Nat) : Tl := Ls.getD (i - 1) []
theorem nm_inj {Ls : List Tl} (hn : Ls.Nodup) {i j : Nat} (hi : 1 ≤ i ∧ i ≤ Ls.length) (hj : 1 ≤ j ∧ j ≤ Ls.length) (h : nm Ls i = nm Ls j) : i = j := by
  unfold nm at h
  rw [getD_get [] (by omega), getD_get [] (by omega)] at h
  have h1 := hn.idxOf_getElem (i - 1) (by omega)
  have h2 := hn.idxOf_getElem (j - 1) (by omega)
  rw [h] at h1
  omega
def inR (n : Nat) (l : List Nat) : Prop := ∀ i ∈ l, 1 ≤ i ∧ i ≤ n
theorem set_app {α : Type} (l : List α) (x y : α) (m : List α) : ((l ++ [x]) ++ m).set l.length y = l ++ y :: m := by
  rw [List.append_assoc, List.set_append_right _ _ (Nat.le_refl _), Nat.sub_self]; rfl
theorem vis_same {Ls : List Tl} {ents : List Ent} (h : RI Ls ents) : ∀ (f g id : Nat) (L : Tl) (s : List Nat × List Ent) (st : List Ent), Ls[id - 1]? = some L → 1 ≤ id → id ≤ f → (∀ t ∈ L, t.length < g) → 0 < g → inR Ls.length s.1 → st.length = s.1.length → s.2.length = s.1.length →
    ∃ nw, vis g L ⟨s.1.map (nm Ls), st⟩ = ((visI ents f id s).1, ⟨(visI ents f id s).2.1.map (nm Ls), st ++ nw⟩) ∧ (visI ents f id s).2.2 = s.2 ++ nw ∧ inR Ls.length (visI ents f id s).2.1 ∧ (visI ents f id s).2.2.length = (visI ents f id s).2.1.length := by
  intro f
  induction f with
  | zero => intro g id L s st _ h1 h2; omega
  | succ f ih =>
    intro g id L s st hL h1 h2 hg hg0 hr hst hs2
    obtain ⟨g, rfl⟩ : ∃ k, g = k + 1 := ⟨g - 1, by omega⟩
    have hidl := (List.getElem?_eq_some_iff.1 hL).1
    have hnm : nm Ls id = L := by unfold nm; rw [List.getD_eq_getElem?_getD, hL]; rfl
    have hinj : ∀ x ∈ s.1, nm Ls x = nm Ls id → x = id := fun x hx he => nm_inj h.nd (hr x hx) ⟨h1, by omega⟩ he
    have hmem : L ∈ s.1.map (nm Ls) ↔ id ∈ s.1 := by
      rw [← hnm, List.mem_map]
      exact ⟨fun ⟨x, hx, he⟩ => hinj x hx he ▸ hx, fun hx => ⟨id, hx, rfl⟩⟩
    by_cases hin : id ∈ s.1
    · rw [vis_old (hmem.2 hin)]
      have : visI ents (f + 1) id s = (s.1.idxOf id, s) := by simp only [visI]; rw [if_pos hin]
      rw [this]
      refine ⟨[], ?_, by simp, hr, hs2⟩
      rw [List.append_nil]
      simp only
      rw [← hnm, idxOf_map_inj hinj]
    · have hz : ents.getD (id - 1) dE = (isE L, (groups (dropE L)).map (enc1 Ls)) := by
        rw [h.e, List.getD_eq_getElem?_getD, List.getElem?_map, hL]; rfl
      have key : ∀ (gs : List (UInt8 × Tl)) (es : List (UInt8 × Nat)) (s1 : List Nat × List Ent) (st1 : List Ent), (∀ p ∈ gs, p ∈ groups (dropE L)) → inR Ls.length s1.1 → st1.length = s1.1.length → s1.2.length = s1.1.length →
          ∃ nw, gs.foldl (visG (vis g)) (es, ⟨s1.1.map (nm Ls), st1⟩) = (((gs.map (enc1 Ls)).foldl (visIG (visI ents f)) (es, s1)).1, ⟨((gs.map (enc1 Ls)).foldl (visIG (visI ents f)) (es, s1)).2.1.map (nm Ls), st1 ++ nw⟩) ∧ ((gs.map (enc1 Ls)).foldl (visIG (visI ents f)) (es, s1)).2.2 = s1.2 ++ nw ∧ inR Ls.length ((gs.map (enc1 Ls)).foldl (visIG (visI ents f)) (es, s1)).2.1 ∧ ((gs.map (enc1 Ls)).foldl (visIG (visI ents f)) (es, s1)).2.2.length = ((gs.map (enc1 Ls)).foldl (visIG (visI ents f)) (es, s1)).2.1.length := by
        intro gs
        induction gs with
        | nil => intro es s1 st1 _ hr1 _ h4; exact ⟨[], by rw [List.append_nil]; rfl, by rw [List.append_nil]; rfl, hr1, h4⟩
        | cons p gs ihg =>
          intro es s1 st1 hp hr1 h3 h4
          have hpm := hp p (by simp)
          obtain ⟨j, hj, hj2⟩ := h.cl _ _ hL p hpm
          have hjl := (List.getElem?_eq_some_iff.1 hj2).1
          have hidx : Ls.idxOf p.2 = j := by
            have := (List.getElem?_eq_some_iff.1 hj2).2
            rw [← this, h.nd.idxOf_getElem]
          have hlt : ∀ t ∈ p.2, t.length < g := fun t ht => by
            have h3 := mem_dropE.1 ((mem_groups p hpm).2 t ht)
            have := hg _ h3
            simp only [List.length_cons] at this; omega
          obtain ⟨nw1, i1, i2, i3, i4⟩ := ih g (j + 1) p.2 s1 st1 (by simpa using hj2) (by omega) (by omega) hlt (by
              obtain ⟨t, ht⟩ := List.exists_mem_of_ne_nil _ (mem_groups p hpm).1
              have := hlt t ht; omega) hr1 h3 h4
          have e1 : enc1 Ls p = (p.1, j + 1) := by unfold enc1; rw [hidx]
          have e2 : visG (vis g) (es, ⟨s1.1.map (nm Ls), st1⟩) p = (es ++ [(p.1, (visI ents f (j + 1) s1).1)], ⟨(visI ents f (j + 1) s1).2.1.map (nm Ls), st1 ++ nw1⟩) := by
            simp only [visG, i1]
          have e3 : visIG (visI ents f) (es, s1) (p.1, j + 1) = (es ++ [(p.1, (visI ents f (j + 1) s1).1)], (visI ents f (j + 1) s1).2) := rfl
          rw [List.foldl_cons, List.map_cons, List.foldl_cons, e1, e2, e3]
          obtain ⟨nw2, k1, k2, k3, k4⟩ := ihg (es ++ [(p.1, (visI ents f (j + 1) s1).1)]) (visI ents f (j + 1) s1).2 (st1 ++ nw1) (fun q hq => hp q (by simp [hq])) i3 (by rw [List.length_append, ← i4, i2, List.length_append]; omega) i4
          refine ⟨nw1 ++ nw2, ?_, ?_, k3, k4⟩
          · rw [k1, List.append_assoc]
          · rw [k2, i2, List.append_assoc]
      obtain ⟨nw, k1, k2, k3, k4⟩ := key (groups (dropE L)) [] (s.1 ++ [id], s.2 ++ [(isE L, [])]) (st ++ [(false, [])]) (fun _ h => h) (fun i hi => by
        rcases List.mem_append.1 hi with hi | hi
        · exact hr i hi
        · simp only [List.mem_singleton] at hi; omega) (by simp [hst]) (by simp [hs2])
      have k0 : (⟨s.1.map (nm Ls), st⟩ : VS).add L = ⟨(s.1 ++ [id]).map (nm Ls), st ++ [(false, [])]⟩ := by simp [VS.add, hnm]
      obtain ⟨R, hR⟩ : ∃ R, R = ((groups (dropE L)).map (enc1 Ls)).foldl (visIG (visI ents f)) ([], (s.1 ++ [id], s.2 ++ [(isE L, [])])) := ⟨_, rfl⟩
      rw [← hR] at k1 k2 k3 k4
      have hv := vis_new (f := g) (s := ⟨s.1.map (nm Ls), st⟩) (es := R.1) (s' := ⟨R.2.1.map (nm Ls), st ++ [(false, [])] ++ nw⟩) (fun hx => hin (hmem.1 hx)) (by rw [k0]; exact k1)
      have hI : visI ents (f + 1) id s = (s.1.length, (R.2.1, R.2.2.set s.1.length (isE L, R.1))) := by
        simp only [visI]; rw [if_neg hin, hz]; simp only; rw [← hR]
      rw [hv, hI]
      refine ⟨(isE L, R.1) :: nw, ?_, ?_, k3, by simpa using k4⟩
      · simp only [List.length_map]
        rw [← hst, set_app]
      · simp only; rw [k2, ← hs2, set_app]

/-! what the numbering gives -/
theorem groups_up {L : Tl} (hu : Up L) (hn : ∀ t ∈ L, t ≠ []) : (groups L).Pairwise (fun a b => a.1.toNat < b.1.toNat) := by
  induction L with
  | nil => exact List.Pairwise.nil
  | cons a L ih =>
    cases a with
    | nil => exact absurd rfl (hn [] (by simp))
    | cons x r =>
      rw [Up, List.pairwise_cons] at hu
      have ih := ih hu.2 (fun t ht => hn t (by simp [ht]))
      have hm := mem_groups (L := L)
      rw [groups_cons]
      cases hg : groups L with
      | nil => exact List.pairwise_singleton _ _
      | cons q l =>
        obtain ⟨c', g⟩ := q
        rw [hg, List.pairwise_cons] at ih
        rw [hg] at hm
        simp only [gcons]
        split
        · rename_i hx
          subst hx
          exact List.pairwise_cons.2 ih
        · rename_i hx
          have hlt : x.toNat < c'.toNat := by
            obtain ⟨h1, h2⟩ := hm (c', g) (by simp)
            obtain ⟨t, ht⟩ := List.exists_mem_of_ne_nil _ h1
            have h3 := hu.1 _ (h2 t ht)
            rw [sless_cons] at h3
            simp only [Bool.or_eq_true, decide_eq_true_eq, Bool.and_eq_true, beq_iff_eq] at h3
            rcases h3 with h3 | h3
            · exact UInt8.lt_iff_toNat_lt.1 h3
            · exact absurd h3.1 hx
          refine List.pairwise_cons.2 ⟨fun b hb => ?_, List.pairwise_cons.2 ih⟩
          rcases List.mem_cons.1 hb with rfl | hb
          · exact hlt
          · have := ih.1 b hb
            simp only at this ⊢; omega
theorem der_one (c x : UInt8) (g : Tl) : der c (g.map (x :: ·)) = if x = c then g else [] := by
  induction g with
  | nil => simp [der]
  | cons t g ih =>
    have h1 : der c ((t :: g).map (x :: ·)) = (match der1 c (x :: t) with | some r => [r] | none => []) ++ der c (g.map (x :: ·)) := by
      simp only [der, List.map_cons, List.filterMap_cons]
      cases der1 c (x :: t) <;> rfl
    rw [h1, ih]
    by_cases h : x = c <;> simp [der1, h]
theorem der_ungr {gs : List (UInt8 × Tl)} (h : gs.Pairwise (fun a b => a.1.toNat < b.1.toNat)) {p : UInt8 × Tl} (hp : p ∈ gs) : der p.1 (ungr gs) = p.2 := by
  induction gs with
  | nil => simp at hp
  | cons q gs ih =>
    rw [List.pairwise_cons] at h
    have e : ungr (q :: gs) = q.2.map (q.1 :: ·) ++ ungr gs := by simp [ungr]
    rw [e, der_app, der_one]
    rcases List.mem_cons.1 hp with rfl | hp
    · have h0 : der p.1 (ungr gs) = [] := by
        refine List.eq_nil_iff_forall_not_mem.2 fun t ht => ?_
        rw [mem_der] at ht
        simp only [ungr, List.mem_flatMap, List.mem_map] at ht
        obtain ⟨b, hb, u, _, hu⟩ := ht
        have := h.1 b hb
        simp only [List.cons.injEq] at hu
        rw [hu.1] at this; omega
      rw [if_pos rfl, h0, List.append_nil]
    · have := h.1 p hp
      rw [if_neg (fun e => by rw [e] at this; omega), List.nil_append]
      exact ih h.2 hp
theorem der_dropE (c : UInt8) (L : Tl) : der c (dropE L) = der c L := by
  cases L with
  | nil => rfl
  | cons a L => cases a <;> rfl
/-- a group is what stands behind its byte -/
theorem group_der {L : Tl} (hu : Up L) {p : UInt8 × Tl} (hp : p ∈ groups (dropE L)) : p.2 = der p.1 L := by
  have h1 := der_ungr (groups_up (dropE_up hu) (dropE_ne hu)) hp
  rw [ungr_groups (dropE_ne hu), der_dropE] at h1
  exact h1.symm
theorem der_group {L : Tl} (hu : Up L) {c : UInt8} (h : der c L ≠ []) : (c, der c L) ∈ groups (dropE L) := by
  obtain ⟨t, ht⟩ := List.exists_mem_of_ne_nil _ h
  rw [← der_dropE, mem_der, ← ungr_groups (dropE_ne hu)] at ht
  simp only [ungr, List.mem_flatMap, List.mem_map] at ht
  obtain ⟨p, hp, u, _, he⟩ := ht
  simp only [List.cons.injEq] at he
  have := group_der hu hp
  rw [he.1] at this
  rw [← this, ← he.1]; exact hp
/-- states that are done -/
structure VI (s : VS) (pend : List Tl) : Prop where
  nd : s.known.Nodup
  len : s.sts.length = s.known.length
  st : ∀ (k : Nat) L, s.known[k]? = some L → L ∉ pend → s.sts[k]? = some (isE L, (groups (dropE L)).map fun p => (p.1, s.known.idxOf p.2)) ∧ ∀ p ∈ groups (dropE L), p.2 ∈ s.known
theorem vis_inv : ∀ (f : Nat) (L : Tl) (s : VS) (pend : List Tl), Up L → (∀ t ∈ L, t.length < f) → 0 < f → VI s pend → (∀ M ∈ pend, M ∈ s.known) →
    VI (vis f L s).2 pend ∧ L ∈ (vis f L s).2.known ∧ (vis f L s).1 = (vis f L s).2.known.idxOf L ∧ (∃ m, (vis f L s).2.known = s.known ++ m ∧ ∀ M ∈ m, ∃ p, M = rst p L ∧ (M = L ∨ M ≠ [])) := by
  intro f
  induction f with
  | zero => intro L s pend _ _ h; omega
  | succ f ih =>
    intro L s pend hu hf _ hV hpd
    by_cases hin : L ∈ s.known
    · rw [vis_old hin]
      exact ⟨hV, hin, rfl, [], by simp, fun M hM => by simp at hM⟩
    · have key : ∀ (gs done : List (UInt8 × Tl)) (s1 : VS), (∀ p ∈ gs, p ∈ groups (dropE L)) → VI s1 (L :: pend) → (∀ M ∈ L :: pend, M ∈ s1.known) → (∀ p ∈ done, p.2 ∈ s1.known) →
          ∃ r, gs.foldl (visG (vis f)) (done.map (fun p => (p.1, s1.known.idxOf p.2)), s1) = r ∧ VI r.2 (L :: pend) ∧ r.1 = (done ++ gs).map (fun p => (p.1, r.2.known.idxOf p.2)) ∧ (∀ p ∈ done ++ gs, p.2 ∈ r.2.known) ∧ ∃ m, r.2.known = s1.known ++ m ∧ ∀ M ∈ m, ∃ p, M = rst p L ∧ M ≠ [] := by
        intro gs
        induction gs with
        | nil =>
          intro done s1 _ h1 _ h3
          exact ⟨_, rfl, h1, by simp, by simpa using h3, [], by simp, fun M hM => by simp at hM⟩
        | cons p gs ihg =>
          intro done s1 hp h1 h2 h3
          have hpm := hp p (by simp)
          have hpd2 := group_der hu hpm
          obtain ⟨hp1, hp2⟩ := mem_groups p hpm
          have hlt : ∀ t ∈ p.2, t.length < f := fun t ht => by
            have := hf _ (mem_dropE.1 (hp2 t ht))
            simp only [List.length_cons] at this; omega
          obtain ⟨i1, i2, i3, m1, i4, i5⟩ := ih p.2 s1 (L :: pend) (by rw [hpd2]; exact der_up hu) hlt (by
            obtain ⟨t, ht⟩ := List.exists_mem_of_ne_nil _ hp1
            have := hlt t ht; omega) h1 h2
          have e1 : done.map (fun p => (p.1, s1.known.idxOf p.2)) = done.map (fun q => (q.1, (vis f p.2 s1).2.known.idxOf q.2)) := List.map_congr_left fun q hq => by
            show (q.1, s1.known.idxOf q.2) = (q.1, (vis f p.2 s1).2.known.idxOf q.2)
            rw [i4, List.idxOf_append, if_pos (h3 q hq)]
          obtain ⟨r, j1, j2, j3, j4, m2, j5, j6⟩ := ihg (done ++ [p]) (vis f p.2 s1).2 (fun q hq => hp q (by simp [hq])) i1 (fun M hM => by rw [i4]; exact List.mem_append_left _ (h2 M hM)) (fun q hq => by
            rcases List.mem_append.1 hq with hq | hq
            · rw [i4]; exact List.mem_append_left _ (h3 q hq)
            · simp only [List.mem_singleton] at hq; subst hq; exact i2)
          refine ⟨r, ?_, j2, by rw [j3, List.append_assoc]; rfl, by rw [List.append_assoc] at j4; exact j4, m1 ++ m2, by rw [j5, i4, List.append_assoc], fun M hM => ?_⟩
          · rw [List.foldl_cons, ← j1, e1]
            simp only [visG, List.map_append, List.map_cons, List.map_nil, i3]
          · rcases List.mem_append.1 hM with hM | hM
            · obtain ⟨q, h6, h7⟩ := i5 M hM
              refine ⟨p.1 :: q, by rw [rst_cons, ← hpd2]; exact h6, ?_⟩
              rcases h7 with h7 | h7
              · rw [h7]; exact hp1
              · exact h7
            · exact j6 M hM
      have hV1 : VI (s.add L) (L :: pend) := by
        refine ⟨?_, by simp [VS.add, hV.len], fun k M hk hM => ?_⟩
        · simp only [VS.add]
          rw [List.nodup_append]
          exact ⟨hV.nd, by simp, fun a ha b hb => by simp only [List.mem_singleton] at hb; subst hb; rintro rfl; exact hin ha⟩
        · simp only [VS.add] at hk ⊢
          by_cases hkl : k < s.known.length
          · rw [List.getElem?_append_left hkl] at hk
            obtain ⟨h1, h2⟩ := hV.st k M hk (fun h => hM (by simp [h]))
            refine ⟨?_, fun p hp => List.mem_append_left _ (h2 p hp)⟩
            rw [List.getElem?_append_left (by rw [hV.len]; exact hkl), h1]
            congr 2
            exact List.map_congr_left fun p hp => by rw [List.idxOf_append, if_pos (h2 p hp)]
          · rw [List.getElem?_append_right (by omega)] at hk
            have hk2 := List.mem_of_getElem? hk
            simp only [List.mem_singleton] at hk2
            exact absurd (by simp [hk2]) hM
      obtain ⟨r, j1, j2, j3, j4, m, j5, j6⟩ := key (groups (dropE L)) [] (s.add L) (fun _ h => h) hV1 (fun M hM => by
        simp only [VS.add]
        rcases List.mem_cons.1 hM with rfl | hM
        · simp
        · exact List.mem_append_left _ (hpd M hM)) (fun p hp => by simp at hp)
      have hv := vis_new (f := f) (s := s) (es := r.1) (s' := r.2) hin j1
      rw [hv]
      rw [List.nil_append] at j3 j4
      have j5' : r.2.known = s.known ++ ([L] ++ m) := by rw [j5]; simp [VS.add]
      have hLi : r.2.known[s.known.length]? = some L := by
        rw [j5', List.getElem?_append_right (Nat.le_refl _), Nat.sub_self]; rfl
      have hLl := (List.getElem?_eq_some_iff.1 hLi).1
      refine ⟨⟨j2.nd, by simpa using j2.len, fun k M hk hM => ?_⟩, List.mem_of_getElem? hLi, ?_, [L] ++ m, j5', fun M hM => ?_⟩
      · simp only at hk ⊢
        rw [List.getElem?_set]
        by_cases hkk : s.known.length = k
        · rw [if_pos hkk, if_pos (by rw [j2.len]; exact hLl)]
          rw [← hkk, hLi] at hk
          cases hk
          exact ⟨by rw [j3], j4⟩
        · rw [if_neg hkk]
          refine j2.st k M hk (fun h => ?_)
          rcases List.mem_cons.1 h with h | h
          · subst h
            have h1 := (List.getElem?_eq_some_iff.1 hk)
            have h2 := (List.getElem?_eq_some_iff.1 hLi)
            have h3 := j2.nd.idxOf_getElem k h1.1
            have h4 := j2.nd.idxOf_getElem _ h2.1
            rw [h1.2] at h3
            rw [h2.2] at h4
            omega
          · exact hM h
      · simp only
        have h2 := (List.getElem?_eq_some_iff.1 hLi)
        have h4 := j2.nd.idxOf_getElem _ h2.1
        rw [h2.2] at h4; exact h4.symm
      · rcases List.mem_append.1 hM with hM | hM
        · simp only [List.mem_singleton] at hM; subst hM
          exact ⟨[], rfl, .inl rfl⟩
        · obtain ⟨p, h1, h2⟩ := j6 M hM
          exact ⟨p, h1, .inr h2⟩

/-! the automaton of rising words -/
def aut (ws : Tl) : List Ent := (vis 257 ws ⟨[], []⟩).2.sts
structure AutIs (ws : Tl) (K : List Tl) : Prop where
  nd : K.Nodup
  len : (aut ws).length = K.length
  root : K[0]? = some ws
  mem : ∀ L, L ∈ K ↔ L = ws ∨ (L ≠ [] ∧ ∃ p, rst p ws = L)
  st : ∀ (k : Nat) L, K[k]? = some L → (aut ws)[k]? = some (isE L, (groups (dropE L)).map fun p => (p.1, K.idxOf p.2)) ∧ ∀ p ∈ groups (dropE L), p.2 ∈ K
abbrev Fit (ws : Tl) : Prop := Up ws ∧ ∀ x ∈ ws, x.length ≤ 255
theorem rst_ne {p : List UInt8} {c : UInt8} {ws : Tl} (h : rst (p ++ [c]) ws ≠ []) : rst p ws ≠ [] := by
  rintro h0
  rw [rst_snoc, h0] at h
  exact h rfl
theorem aut_is {ws : Tl} (h : Fit ws) : ∃ K, AutIs ws K := by
  obtain ⟨h1, h2, h3, m, h4, h5⟩ := vis_inv 257 ws ⟨[], []⟩ [] h.1 (fun t ht => by have := h.2 t ht; omega) (by omega) ⟨List.nodup_nil, rfl, fun k L hk => by simp at hk⟩ (fun M hM => by simp at hM)
  rw [List.nil_append] at h4
  have hst : ∀ (k : Nat) L, (vis 257 ws ⟨[], []⟩).2.known[k]? = some L → _ := fun k L hk => h1.st k L hk (by simp)
  refine ⟨(vis 257 ws ⟨[], []⟩).2.known, h1.nd, h1.len, ?_, fun L => ⟨fun hL => ?_, fun hL => ?_⟩, hst⟩
  · have h0 : (vis 257 ws ⟨[], []⟩).1 = 0 := by
      rw [show (257 : Nat) = 256 + 1 from rfl]
      rw [vis_new (f := 256) (s := ⟨[], []⟩) (by simp) rfl]; rfl
    rw [h0] at h3
    have h6 := List.getElem_idxOf (List.idxOf_lt_length_of_mem h2)
    have h7 := List.idxOf_lt_length_of_mem h2
    rw [← h3] at h7
    rw [List.getElem?_eq_getElem h7]
    simp only [← h3] at h6
    rw [h6]
  · rw [h4] at hL
    obtain ⟨p, h6, h7⟩ := h5 L hL
    rcases h7 with h7 | h7
    · exact .inl h7
    · exact .inr ⟨h7, p, h6.symm⟩
  · rcases hL with rfl | ⟨hL, p, rfl⟩
    · exact h2
    · have key : ∀ (n : Nat) (p : List UInt8), p.length = n → rst p ws ≠ [] → rst p ws ∈ (vis 257 ws ⟨[], []⟩).2.known := by
        intro n
        induction n with
        | zero => intro p hp _; rw [List.eq_nil_of_length_eq_zero hp]; exact h2
        | succ n ihn =>
          intro p hp hne
          rcases List.eq_nil_or_concat p with rfl | ⟨q, c, he⟩
          · simp at hp
          · rw [List.concat_eq_append] at he
            subst he
            have hq := ihn q (by simpa using hp) (rst_ne hne)
            obtain ⟨k, hk⟩ := List.mem_iff_getElem?.1 hq
            rw [rst_snoc] at hne ⊢
            exact (hst k _ hk).2 _ (der_group (rst_up h.1) hne)
      exact key _ p rfl hL
theorem perm_len {α : Type} {l l' : List α} [DecidableEq α] (h : l.Nodup) (h' : l'.Nodup) (hm : ∀ a, a ∈ l ↔ a ∈ l') : l.length = l'.length :=
  Nat.le_antisymm (List.Nodup.length_le_of_subset h (fun a ha => (hm a).1 ha)) (List.Nodup.length_le_of_subset h' (fun a ha => (hm a).2 ha))
/-- how large it is -/
theorem rst_count {ws : Tl} (hf : ∀ x ∈ ws, x.length ≤ 255) : ∃ M : List Tl, M.length ≤ 256 * ws.length ∧ ∀ p, rst p ws ≠ [] → rst p ws ∈ M := by
  refine ⟨ws.flatMap fun w => (List.range 256).map fun d => rst (w.take d) ws, ?_, fun p hp => ?_⟩
  · have : ∀ (l : Tl), (l.flatMap fun w => (List.range 256).map fun d => rst (w.take d) ws).length = 256 * l.length := by
      intro l
      induction l with
      | nil => rfl
      | cons a l ih => rw [List.flatMap_cons, List.length_append, ih, List.length_map, List.length_range, List.length_cons]; omega
    rw [this]; exact Nat.le_refl _
  · obtain ⟨t, ht⟩ := List.exists_mem_of_ne_nil _ hp
    rw [mem_rst] at ht
    have hl := hf _ ht
    rw [List.length_append] at hl
    exact List.mem_flatMap.2 ⟨_, ht, List.mem_map.2 ⟨p.length, List.mem_range.2 (by omega), by rw [List.take_left]⟩⟩
theorem aut_small {ws : Tl} (h : Fit ws) : (aut ws).length ≤ 256 * ws.length + 1 ∧ ∀ p ∈ aut ws, p.2.length ≤ 256 := by
  obtain ⟨K, hK⟩ := aut_is h
  obtain ⟨M, hM1, hM2⟩ := rst_count h.2
  refine ⟨?_, fun p hp => ?_⟩
  · rw [hK.len]
    have : K ⊆ ws :: M := fun L hL => by
      rcases (hK.mem L).1 hL with rfl | ⟨h1, p, rfl⟩
      · simp
      · exact List.mem_cons_of_mem _ (hM2 p h1)
    have := List.Nodup.length_le_of_subset hK.nd this
    simp only [List.length_cons] at this; omega
  · obtain ⟨k, hk, rfl⟩ := List.mem_iff_getElem.1 hp
    have hkl : k < K.length := by rw [← hK.len]; exact hk
    have h1 := (hK.st k _ (List.getElem?_eq_getElem hkl)).1
    rw [List.getElem?_eq_getElem hk, Option.some.injEq] at h1
    rw [h1]
    have hu : Up K[k] := by
      rcases (hK.mem K[k]).1 (List.getElem_mem hkl) with h2 | ⟨_, p, h2⟩
      · rw [h2]; exact h.1
      · rw [← h2]; exact rst_up h.1
    have h3 : ris (((groups (dropE K[k])).map fun p => (p.1, K.idxOf p.2))) := by
      unfold ris
      rw [List.pairwise_map]
      exact groups_up (dropE_up hu) (dropE_ne hu)
    exact ris_len h3
/-- what a builder answers at the end -/
theorem fin_aut {ws : Tl} (h : Fit ws) : (finS (bldW ws)).2.length = (aut ws).length ∧ (visI (finS (bldW ws)).2 (finS (bldW ws)).1 (finS (bldW ws)).1 ([], [])).2.2 = aut ws := by
  obtain ⟨Ls, hb⟩ := bi_all _ ws rfl h.1
  obtain ⟨L1, h1, h2, h3⟩ := fin_law h.1 hb
  obtain ⟨K, hK⟩ := aut_is h
  have hm : ws ∈ L1 := (h3 ws).2 (.inl rfl)
  have hi := List.idxOf_lt_length_of_mem hm
  refine ⟨?_, ?_⟩
  · rw [h1.e, List.length_map, hK.len]
    exact perm_len h1.nd hK.nd (fun L => (h3 L).trans (hK.mem L).symm)
  · obtain ⟨nw, k1, k2, _⟩ := vis_same h1 (finS (bldW ws)).1 257 (finS (bldW ws)).1 ws ([], []) [] (by rw [h2, Nat.add_sub_cancel, List.getElem?_eq_getElem hi, List.getElem_idxOf]) (by omega) (Nat.le_refl _) (fun t ht => by have := h.2 t ht; omega) (by omega) (fun i hi => by simp at hi) rfl rfl
    rw [k2]
    have k3 := congrArg (fun q : Nat × VS => q.2.sts) k1
    exact k3.symm
end Go.Hb
