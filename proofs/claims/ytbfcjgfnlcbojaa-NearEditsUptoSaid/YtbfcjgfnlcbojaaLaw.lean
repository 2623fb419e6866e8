/-
  A builder of automata holds just the rests of beginnings: laws on plain lists. No program in sight. No conditions but those that each lemma names.
-/
import Derived.Test.YtbfcjgfnlcbojaaAuto
namespace Go.Hb

/-! rests -/
/-- what stands behind the byte c -/
def der1 (c : UInt8) : List UInt8 → Option (List UInt8)
  | x :: r => if x = c then some r else none
  | [] => none
def der (c : UInt8) (L : Tl) : Tl := L.filterMap (der1 c)
def rst (p : List UInt8) (ws : Tl) : Tl := p.foldl (fun L c => der c L) ws
abbrev Up (L : Tl) : Prop := L.Pairwise (fun x y => sless x y = true)
theorem der1_eq {c : UInt8} {t r : List UInt8} : der1 c t = some r ↔ t = c :: r := by
  cases t with
  | nil => simp [der1]
  | cons x t =>
    simp only [der1]
    by_cases h : x = c
    · subst h; simp
    · simp [h]
theorem mem_der {c : UInt8} {L : Tl} {t : List UInt8} : t ∈ der c L ↔ c :: t ∈ L := by
  simp only [der, List.mem_filterMap, der1_eq]
  exact ⟨fun ⟨a, h1, h2⟩ => h2 ▸ h1, fun h => ⟨_, h, rfl⟩⟩
theorem rst_nil (ws : Tl) : rst [] ws = ws := rfl
theorem rst_cons (c : UInt8) (p : List UInt8) (ws : Tl) : rst (c :: p) ws = rst p (der c ws) := rfl
theorem rst_snoc (p : List UInt8) (c : UInt8) (ws : Tl) : rst (p ++ [c]) ws = der c (rst p ws) := by simp [rst]
theorem rst_rst (p q : List UInt8) (ws : Tl) : rst (p ++ q) ws = rst q (rst p ws) := by simp [rst]
theorem mem_rst {p t : List UInt8} {ws : Tl} : t ∈ rst p ws ↔ p ++ t ∈ ws := by
  induction p generalizing ws with
  | nil => rfl
  | cons c p ih => rw [rst_cons, ih, mem_der]; rfl
theorem der_app (c : UInt8) (a b : Tl) : der c (a ++ b) = der c a ++ der c b := List.filterMap_append
theorem rst_app (p : List UInt8) (a b : Tl) : rst p (a ++ b) = rst p a ++ rst p b := by
  induction p generalizing a b with
  | nil => rfl
  | cons c p ih => rw [rst_cons, der_app, ih]; rfl
theorem der_up {c : UInt8} {L : Tl} (h : Up L) : Up (der c L) := by
  unfold Up der at *
  rw [List.pairwise_filterMap]
  refine h.imp fun {a b} hab x hx y hy => ?_
  rw [der1_eq] at hx hy
  subst hx hy
  exact sless_tail hab
theorem rst_up {p : List UInt8} {ws : Tl} (h : Up ws) : Up (rst p ws) := by
  induction p generalizing ws with
  | nil => exact h
  | cons c p ih => exact ih (der_up h)
theorem rst_one (p w : List UInt8) : rst p [w] = if p <+: w then [w.drop p.length] else [] := by
  induction p generalizing w with
  | nil => simp [rst]
  | cons c p ih =>
    cases w with
    | nil =>
      have h0 : der c [[]] = [] := rfl
      have h1 : ∀ q, rst q [] = [] := fun q => by
        induction q with
        | nil => rfl
        | cons d q ih => exact ih
      rw [rst_cons, h0, h1, if_neg (by simp)]
    | cons x w =>
      by_cases h : x = c
      · subst h
        have h0 : der x [x :: w] = [w] := by simp [der, der1]
        rw [rst_cons, h0, ih]
        simp [List.cons_prefix_cons]
      · have h0 : der c [x :: w] = [] := by simp [der, der1, h]
        have h1 : ∀ q, rst q [] = [] := fun q => by
          induction q with
          | nil => rfl
          | cons d q ih => exact ih
        rw [rst_cons, h0, h1, if_neg (by rw [List.cons_prefix_cons]; exact fun h2 => h h2.1.symm)]
theorem rst_empty (p : List UInt8) : rst p [] = [] := by
  induction p with
  | nil => rfl
  | cons d q ih => exact ih

/-! groups -/
def gcons (x : UInt8) (r : List UInt8) : List (UInt8 × Tl) → List (UInt8 × Tl)
  | [] => [(x, [r])]
  | (c', g) :: l => if x = c' then (x, r :: g) :: l else (x, [r]) :: (c', g) :: l
def gsnoc : List (UInt8 × Tl) → UInt8 → List UInt8 → List (UInt8 × Tl)
  | [], c, t => [(c, [t])]
  | [p], c, t => if p.1 = c then [(p.1, p.2 ++ [t])] else [p, (c, [t])]
  | p :: q :: r, c, t => p :: gsnoc (q :: r) c t
theorem groups_cons (x : UInt8) (r : List UInt8) (L : Tl) : groups ((x :: r) :: L) = gcons x r (groups L) := by
  cases h : groups L with
  | nil => simp [groups, h, gcons]
  | cons p l => obtain ⟨c', g⟩ := p; simp [groups, h, gcons]
theorem gcons_gsnoc (x : UInt8) (r : List UInt8) (gs : List (UInt8 × Tl)) (c : UInt8) (t : List UInt8) : gcons x r (gsnoc gs c t) = gsnoc (gcons x r gs) c t := by
  match gs with
  | [] => simp only [gsnoc, gcons]; split <;> simp_all
  | [p] =>
    obtain ⟨c', g⟩ := p
    by_cases h1 : c' = c <;> by_cases h2 : x = c' <;> simp_all [gsnoc, gcons]
  | p :: q :: l =>
    obtain ⟨c', g⟩ := p
    by_cases h2 : x = c' <;> simp_all [gsnoc, gcons]
theorem groups_snoc (L : Tl) (c : UInt8) (t : List UInt8) : groups (L ++ [c :: t]) = gsnoc (groups L) c t := by
  induction L with
  | nil => simp [groups, gsnoc]
  | cons a L ih =>
    cases a with
    | nil => simpa [groups] using ih
    | cons x r => rw [List.cons_append, groups_cons, ih, gcons_gsnoc, groups_cons]
theorem gsnoc_same (gs : List (UInt8 × Tl)) (c : UInt8) (g : Tl) (t : List UInt8) : gsnoc (gs ++ [(c, g)]) c t = gs ++ [(c, g ++ [t])] := by
  induction gs with
  | nil => simp [gsnoc]
  | cons p gs ih =>
    cases gs with
    | nil => simp [gsnoc]
    | cons q gs => simpa [gsnoc] using ih
theorem gsnoc_new {gs : List (UInt8 × Tl)} {c : UInt8} {t : List UInt8} (h : ∀ p ∈ gs, p.1 ≠ c) : gsnoc gs c t = gs ++ [(c, [t])] := by
  induction gs with
  | nil => rfl
  | cons p gs ih =>
    cases gs with
    | nil => simp [gsnoc, h p (by simp)]
    | cons q gs =>
      have := ih (fun p hp => h p (by simp at hp ⊢; exact .inr hp))
      simp only [gsnoc, this, List.cons_append]
theorem mem_groups {L : Tl} : ∀ p ∈ groups L, p.2 ≠ [] ∧ ∀ t ∈ p.2, p.1 :: t ∈ L := by
  induction L with
  | nil => intro p hp; simp [groups] at hp
  | cons a L ih =>
    cases a with
    | nil =>
      intro p hp
      obtain ⟨h1, h2⟩ := ih p (by simpa [groups] using hp)
      exact ⟨h1, fun t ht => by simp [h2 t ht]⟩
    | cons x r =>
      rw [groups_cons]
      intro p hp
      cases hg : groups L with
      | nil =>
        rw [hg] at hp
        simp only [gcons, List.mem_singleton] at hp
        subst hp
        exact ⟨by simp, fun t ht => by simp only [List.mem_singleton] at ht; subst ht; simp⟩
      | cons q l =>
        obtain ⟨c', g⟩ := q
        rw [hg] at hp ih
        simp only [gcons] at hp
        split at hp
        · rename_i hx
          subst hx
          rcases List.mem_cons.1 hp with rfl | hp
          · obtain ⟨h1, h2⟩ := ih (x, g) (by simp)
            refine ⟨by simp, fun t ht => ?_⟩
            rcases List.mem_cons.1 ht with rfl | ht
            · simp
            · simp [h2 t ht]
          · obtain ⟨h1, h2⟩ := ih p (by simp [hp])
            exact ⟨h1, fun t ht => by simp [h2 t ht]⟩
        · rcases List.mem_cons.1 hp with rfl | hp
          · exact ⟨by simp, fun t ht => by simp only [List.mem_singleton] at ht; subst ht; simp⟩
          · obtain ⟨h1, h2⟩ := ih p hp
            exact ⟨h1, fun t ht => by simp [h2 t ht]⟩
def ungr (gs : List (UInt8 × Tl)) : Tl := gs.flatMap fun g => g.2.map (g.1 :: ·)
theorem ungr_groups {L : Tl} (h : ∀ t ∈ L, t ≠ []) : ungr (groups L) = L := by
  induction L with
  | nil => rfl
  | cons a L ih =>
    have ih := ih (fun t ht => h t (by simp [ht]))
    cases a with
    | nil => exact absurd rfl (h [] (by simp))
    | cons x r =>
      rw [groups_cons]
      cases hg : groups L with
      | nil => rw [hg] at ih; simp [ungr, gcons] at ih ⊢; exact ih
      | cons q l =>
        obtain ⟨c', g⟩ := q
        rw [hg] at ih
        simp only [gcons]
        split
        · rename_i hx
          subst hx
          simp only [ungr, List.flatMap_cons, List.map_cons, List.cons_append] at ih ⊢
          rw [ih]
        · simp only [ungr, List.flatMap_cons, List.map_cons, List.map_nil, List.cons_append, List.nil_append] at ih ⊢
          rw [ih]
theorem dropE_ne {L : Tl} (h : Up L) : ∀ t ∈ dropE L, t ≠ [] := by
  cases L with
  | nil => intro t ht; simp [dropE] at ht
  | cons a L =>
    rw [Up, List.pairwise_cons] at h
    cases a with
    | nil =>
      intro t ht
      simp only [dropE] at ht
      rintro rfl
      have := h.1 [] ht
      simp [sless_nil_r] at this
    | cons x r =>
      intro t ht
      simp only [dropE] at ht
      rintro rfl
      rcases List.mem_cons.1 ht with ht | ht
      · cases ht
      · have := h.1 [] ht
        simp [sless_nil_r] at this
theorem split_E (L : Tl) : L = (if isE L then [[]] else []) ++ dropE L := by
  cases L with
  | nil => rfl
  | cons a L => cases a <;> rfl
theorem dropE_up {L : Tl} (h : Up L) : Up (dropE L) := by
  cases L with
  | nil => exact h
  | cons a L =>
    cases a with
    | nil => exact (List.pairwise_cons.1 h).2
    | cons x r => exact h
theorem mem_dropE {L : Tl} {c : UInt8} {t : List UInt8} : c :: t ∈ dropE L ↔ c :: t ∈ L := by
  cases L with
  | nil => rfl
  | cons a L => cases a <;> simp [dropE]
theorem dropE_snoc (L : Tl) (c : UInt8) (t : List UInt8) : dropE (L ++ [c :: t]) = dropE L ++ [c :: t] ∧ isE (L ++ [c :: t]) = isE L := by
  cases L with
  | nil => exact ⟨rfl, rfl⟩
  | cons a L => cases a <;> exact ⟨rfl, rfl⟩
/-- rising lists are told apart by their mark and their groups -/
theorem lang_ext {L L' : Tl} (h : Up L) (h' : Up L') (he : isE L = isE L') (hg : groups (dropE L) = groups (dropE L')) : L = L' := by
  have h1 := ungr_groups (dropE_ne h)
  rw [hg, ungr_groups (dropE_ne h')] at h1
  rw [split_E L, split_E L', he, h1]

/-! the register as a list of rests -/
def enc1 (Ls : List Tl) (p : UInt8 × Tl) : UInt8 × Nat := (p.1, Ls.idxOf p.2 + 1)
def enc (Ls : List Tl) (L : Tl) : Ent := (isE L, (groups (dropE L)).map (enc1 Ls))
structure RI (Ls : List Tl) (ents : List Ent) : Prop where
  e : ents = Ls.map (enc Ls)
  nd : Ls.Nodup
  up : ∀ L ∈ Ls, Up L
  cl : ∀ (k : Nat) L, Ls[k]? = some L → ∀ p ∈ groups (dropE L), ∃ j, j < k ∧ Ls[j]? = some p.2
theorem RI.mem {Ls : List Tl} {ents : List Ent} (h : RI Ls ents) {L : Tl} (hL : L ∈ Ls) : ∀ p ∈ groups (dropE L), p.2 ∈ Ls := fun p hp => by
  obtain ⟨k, hk⟩ := List.mem_iff_getElem?.1 hL
  obtain ⟨j, _, hj⟩ := h.cl k L hk p hp
  exact List.mem_of_getElem? hj
theorem idxOf_inj {α : Type} [BEq α] [LawfulBEq α] {l : List α} {a b : α} (ha : a ∈ l) (hb : b ∈ l) (h : l.idxOf a = l.idxOf b) : a = b := by
  have h1 := List.getElem_idxOf (List.idxOf_lt_length_of_mem ha)
  have h2 := List.getElem_idxOf (List.idxOf_lt_length_of_mem hb)
  rw [← h1, ← h2]; simp only [h]
theorem map_inj_on {α β : Type} {f : α → β} : ∀ {l l' : List α}, (∀ a ∈ l, ∀ b ∈ l', f a = f b → a = b) → l.map f = l'.map f → l = l'
  | [], [], _, _ => rfl
  | [], _ :: _, _, h => by simp at h
  | _ :: _, [], _, h => by simp at h
  | a :: l, b :: l', hi, h => by
    simp only [List.map_cons, List.cons.injEq] at h
    rw [hi a (by simp) b (by simp) h.1, map_inj_on (fun x hx y hy => hi x (by simp [hx]) y (by simp [hy])) h.2]
theorem enc_inj {Ls : List Tl} {L L' : Tl} (hu : Up L) (hu' : Up L') (hm : ∀ p ∈ groups (dropE L), p.2 ∈ Ls) (hm' : ∀ p ∈ groups (dropE L'), p.2 ∈ Ls) (h : enc Ls L = enc Ls L') : L = L' := by
  simp only [enc, Prod.mk.injEq] at h
  refine lang_ext hu hu' h.1 (map_inj_on (fun a ha b hb hab => ?_) h.2)
  simp only [enc1, Prod.mk.injEq, Nat.add_right_cancel_iff] at hab
  exact Prod.ext hab.1 (idxOf_inj (hm a ha) (hm' b hb) hab.2)
theorem enc1_app {Ls M : List Tl} {p : UInt8 × Tl} (h : p.2 ∈ Ls) : enc1 (Ls ++ M) p = enc1 Ls p := by
  simp only [enc1]; rw [List.idxOf_append, if_pos h]
theorem enc1s_app {Ls M : List Tl} {l : List (UInt8 × Tl)} (h : ∀ p ∈ l, p.2 ∈ Ls) : l.map (enc1 (Ls ++ M)) = l.map (enc1 Ls) := List.map_congr_left fun p hp => enc1_app (h p hp)
theorem enc_app {Ls M : List Tl} {L : Tl} (h : ∀ p ∈ groups (dropE L), p.2 ∈ Ls) : enc (Ls ++ M) L = enc Ls L := by simp only [enc]; rw [enc1s_app h]
def putL (Ls : List Tl) (R : Tl) : List Tl := if R ∈ Ls then Ls else Ls ++ [R]
theorem mem_putL {Ls : List Tl} {R L : Tl} : L ∈ putL Ls R ↔ L ∈ Ls ∨ L = R := by
  unfold putL
  split
  · rename_i h; exact ⟨.inl, fun h2 => h2.elim id (fun e => e ▸ h)⟩
  · simp
theorem putL_enc1 {Ls : List Tl} {R : Tl} {l : List (UInt8 × Tl)} (h : ∀ p ∈ l, p.2 ∈ Ls) : l.map (enc1 (putL Ls R)) = l.map (enc1 Ls) := by
  unfold putL; split
  · rfl
  · exact enc1s_app h
theorem idxOf_map_inj {α β : Type} [BEq α] [LawfulBEq α] [BEq β] [LawfulBEq β] {f : α → β} {l : List α} {a : α} (h : ∀ x ∈ l, f x = f a → x = a) : (l.map f).idxOf (f a) = l.idxOf a := by
  induction l with
  | nil => rfl
  | cons x l ih =>
    rw [List.map_cons, List.idxOf_cons, List.idxOf_cons, ih (fun y hy => h y (by simp [hy]))]
    by_cases hx : x = a
    · subst hx; simp
    · have h2 : f x ≠ f a := fun he => hx (h x (by simp) he)
      rw [show (x == a) = false from by simp [hx], show (f x == f a) = false from by simp [h2]]
theorem frz_law {Ls : List Tl} {ents : List Ent} {R : Tl} (h : RI Ls ents) (hu : Up R) (hm : ∀ p ∈ groups (dropE R), p.2 ∈ Ls) : (frzS ents (enc Ls R)).1 = (putL Ls R).idxOf R + 1 ∧ RI (putL Ls R) (frzS ents (enc Ls R)).2 := by
  have hinj : ∀ x ∈ Ls, enc Ls x = enc Ls R → x = R := fun x hx he => enc_inj (h.up x hx) hu (h.mem hx) hm he
  have hmem : enc Ls R ∈ ents ↔ R ∈ Ls := by
    rw [h.e, List.mem_map]
    exact ⟨fun ⟨x, hx, he⟩ => hinj x hx he ▸ hx, fun hx => ⟨R, hx, rfl⟩⟩
  unfold frzS putL
  by_cases hR : R ∈ Ls
  · rw [if_pos (hmem.2 hR), if_pos hR]
    refine ⟨?_, h⟩
    show ents.idxOf (enc Ls R) + 1 = Ls.idxOf R + 1
    rw [h.e, idxOf_map_inj hinj]
  · rw [if_neg (fun hx => hR (hmem.1 hx)), if_neg hR]
    have hl : ents.length = Ls.length := by rw [h.e]; simp
    refine ⟨?_, ?_, ?_, ?_, ?_⟩
    · simp only; rw [List.idxOf_append, if_neg hR]; simp [hl]
    · simp only [List.map_append, List.map_cons, List.map_nil]
      rw [enc_app hm, h.e]
      congr 1
      exact List.map_congr_left fun x hx => (enc_app (h.mem hx)).symm
    · rw [List.nodup_append]
      exact ⟨h.nd, by simp, fun a ha b hb => by simp only [List.mem_singleton] at hb; subst hb; rintro rfl; exact hR ha⟩
    · intro L hL
      rcases List.mem_append.1 hL with hL | hL
      · exact h.up L hL
      · simp only [List.mem_singleton] at hL; subst hL; exact hu
    · intro k L hk p hp
      by_cases hkl : k < Ls.length
      · rw [List.getElem?_append_left hkl] at hk
        obtain ⟨j, hj, hj2⟩ := h.cl k L hk p hp
        exact ⟨j, hj, by rw [List.getElem?_append_left (by omega)]; exact hj2⟩
      · rw [List.getElem?_append_right (by omega)] at hk
        have h0 : k - Ls.length = 0 := by
          rcases Nat.eq_zero_or_pos (k - Ls.length) with h0 | h0
          · exact h0
          · rw [List.getElem?_eq_none (by simp; omega)] at hk; cases hk
        rw [h0] at hk
        simp only [List.getElem?_cons_zero, Option.some.injEq] at hk
        subst hk
        obtain ⟨j, hj⟩ := List.mem_iff_getElem?.1 (hm p hp)
        have hjl := (List.getElem?_eq_some_iff.1 hj).1
        exact ⟨j, by omega, by rw [List.getElem?_append_left hjl]; exact hj⟩

/-! the path -/
structure PI (ws : Tl) (cs : List UInt8) (n : Nat) (Ls : List Tl) (pa : List Ent) : Prop where
  len : pa.length = n + 1
  st : ∀ i, i ≤ n → ∃ cl, groups (dropE (rst (cs.take i) ws)) = cl ++ (if i < n then [(cs.getD i 0, rst (cs.take (i + 1)) ws)] else []) ∧ pa[i]? = some (isE (rst (cs.take i) ws), cl.map (enc1 Ls)) ∧ ∀ p ∈ cl, p.2 ∈ Ls
theorem clo_law {ws : Tl} {cs : List UInt8} {n : Nat} {Ls : List Tl} {s : List Ent × List Ent} (hu : Up ws) (hr : RI Ls s.1) (hp : PI ws cs n Ls s.2) (h0 : 0 < n) :
    RI (putL Ls (rst (cs.take n) ws)) (clo cs n s).1 ∧ PI ws cs (n - 1) (putL Ls (rst (cs.take n) ws)) (clo cs n s).2 := by
  obtain ⟨cln, h1, h2, h3⟩ := hp.st n (Nat.le_refl _)
  rw [if_neg (Nat.lt_irrefl _), List.append_nil] at h1
  have hz : s.2.getD n dE = enc Ls (rst (cs.take n) ws) := by
    rw [List.getD_eq_getElem?_getD, h2]; simp only [Option.getD_some, enc, h1]
  obtain ⟨h4, h5⟩ := frz_law hr (rst_up hu) (R := rst (cs.take n) ws) (by rw [h1]; exact h3)
  refine ⟨by simp only [clo, hz]; exact h5, ⟨(clo_len h0 hp.len).1.trans (by omega), fun i hi => ?_⟩⟩
  obtain ⟨cl, g1, g2, g3⟩ := hp.st i (by omega)
  rw [if_pos (by omega)] at g1
  by_cases hin : i < n - 1
  · refine ⟨cl, by rw [if_pos hin]; exact g1, ?_, fun p hp => mem_putL.2 (.inl (g3 p hp))⟩
    rw [putL_enc1 g3, ← g2]
    simp only [clo]
    rw [List.getElem?_append_left (by rw [List.length_take, hp.len]; omega), List.getElem?_take, if_pos hin]
  · obtain rfl : i = n - 1 := by omega
    refine ⟨cl ++ [(cs.getD (n - 1) 0, rst (cs.take n) ws)], ?_, ?_, ?_⟩
    · rw [if_neg (Nat.lt_irrefl _), List.append_nil, g1, show n - 1 + 1 = n from by omega]
    · simp only [clo]
      rw [List.getElem?_append_right (by rw [List.length_take, hp.len]; omega), List.length_take, hp.len, show n - 1 - min (n - 1) (n + 1) = 0 from by omega]
      rw [List.getElem?_cons_zero, List.getD_eq_getElem?_getD (l := s.2) (i := n - 1), g2, hz, h4]
      simp only [Option.getD_some, List.map_append, List.map_cons, List.map_nil]
      rw [putL_enc1 g3]; rfl
    · intro p hp
      rcases List.mem_append.1 hp with hp | hp
      · exact mem_putL.2 (.inl (g3 p hp))
      · simp only [List.mem_singleton] at hp; subst hp; exact mem_putL.2 (.inr rfl)
theorem cutS_law {ws : Tl} {cs : List UInt8} {n : Nat} (hu : Up ws) : ∀ (i : Nat) (s : List Ent × List Ent) (Ls : List Tl), RI Ls s.1 → PI ws cs i Ls s.2 → n ≤ i →
    ∃ Ls', RI Ls' (cutS cs n i s).1 ∧ PI ws cs n Ls' (cutS cs n i s).2 ∧ ∀ L, L ∈ Ls' ↔ L ∈ Ls ∨ ∃ j, n < j ∧ j ≤ i ∧ L = rst (cs.take j) ws
  | 0, s, Ls, hr, hp, hn => by
    obtain rfl : n = 0 := by omega
    exact ⟨Ls, hr, hp, fun L => ⟨.inl, fun h => h.elim id (fun ⟨j, h1, h2, _⟩ => by omega)⟩⟩
  | i + 1, s, Ls, hr, hp, hn => by
    by_cases hi : i + 1 ≤ n
    · obtain rfl : n = i + 1 := by omega
      rw [cutS_done (Nat.le_refl _)]
      exact ⟨Ls, hr, hp, fun L => ⟨.inl, fun h => h.elim id (fun ⟨j, h1, h2, _⟩ => by omega)⟩⟩
    · rw [cutS_step (n := n) (i := i + 1) (by omega), Nat.add_sub_cancel]
      obtain ⟨h1, h2⟩ := clo_law hu hr hp (by omega)
      obtain ⟨Ls', h3, h4, h5⟩ := cutS_law (n := n) hu i _ _ h1 h2 (by omega)
      refine ⟨Ls', h3, h4, fun L => (h5 L).trans ?_⟩
      rw [mem_putL]
      constructor
      · rintro ((h | h) | ⟨j, h6, h7, h8⟩)
        · exact .inl h
        · exact .inr ⟨i + 1, by omega, Nat.le_refl _, h⟩
        · exact .inr ⟨j, h6, by omega, h8⟩
      · rintro (h | ⟨j, h6, h7, h8⟩)
        · exact .inl (.inl h)
        · by_cases hj : j = i + 1
          · subst hj; exact .inl (.inr h8)
          · exact .inr ⟨j, h6, by omega, h8⟩
/-! words added -/
def bldW1 (x : AB) (w : List UInt8) : AB := ⟨w, true, addS x.last w x.s⟩
/-- a builder of words -/
def bldW (ws : Tl) : AB := ws.foldl bldW1 ab0
theorem bld_snoc (ws : Tl) (w : List UInt8) : bldW (ws ++ [w]) = bldW1 (bldW ws) w := by simp [bldW]
theorem bld_last (ws : Tl) : (bldW ws).last = ws.getLastD [] ∧ (bldW ws).any = !ws.isEmpty := by
  rcases List.eq_nil_or_concat ws with rfl | ⟨l, w, h⟩
  · exact ⟨rfl, rfl⟩
  · rw [List.concat_eq_append] at h
    subst h
    rw [bld_snoc]; simp [bldW1]
structure BI (ws : Tl) (Ls : List Tl) : Prop where
  ri : RI Ls (bldW ws).s.1
  pi : PI ws (bldW ws).last (bldW ws).last.length Ls (bldW ws).s.2
  fz : ∀ L, L ∈ Ls ↔ L ≠ [] ∧ ∃ p, ¬ p <+: (bldW ws).last ∧ rst p ws = L
theorem up_snoc {ws : Tl} {w : List UInt8} : Up (ws ++ [w]) ↔ Up ws ∧ ∀ t ∈ ws, sless t w = true := by
  unfold Up; rw [List.pairwise_append]; simp
theorem up_last {ws : Tl} (h : Up ws) : ∀ t ∈ ws, sless (ws.getLastD []) t = false := by
  rcases List.eq_nil_or_concat ws with rfl | ⟨l, w, he⟩
  · intro t ht; simp at ht
  · rw [List.concat_eq_append] at he
    subst he
    intro t ht
    rw [List.getLastD_concat]
    rcases List.mem_append.1 ht with ht | ht
    · exact sless_asymm ((up_snoc.1 h).2 t ht)
    · simp only [List.mem_singleton] at ht; subst ht; exact sless_irr t
theorem last_mem {ws : Tl} (h : ws ≠ []) : ws.getLastD [] ∈ ws := by
  rcases List.eq_nil_or_concat ws with rfl | ⟨l, w, he⟩
  · exact absurd rfl h
  · rw [List.concat_eq_append] at he
    subst he; simp
theorem sless_app (p a b : List UInt8) : sless (p ++ a) (p ++ b) = sless a b := by
  induction p with
  | nil => rfl
  | cons x p ih =>
    have hx : ¬ x < x := UInt8.lt_irrefl x
    rw [List.cons_append, List.cons_append, sless_cons, ih]; simp [hx]
theorem common_take : ∀ (a b : List UInt8), a.take (common a b) = b.take (common a b)
  | [], _ => by simp [common]
  | _ :: _, [] => by simp [common]
  | x :: a, y :: b => by
    simp only [common]
    split
    · rename_i h; subst h; simp [common_take a b]
    · simp
theorem pref_take {p l : List UInt8} (h : p <+: l) : p = l.take p.length := by
  obtain ⟨r, rfl⟩ := h; simp
theorem common_comm : ∀ (a b : List UInt8), common a b = common b a
  | [], [] => rfl
  | [], _ :: _ => rfl
  | _ :: _, [] => rfl
  | x :: a, y :: b => by
    simp only [common]
    by_cases h : x = y
    · subst h; simp [common_comm a b]
    · rw [if_neg h, if_neg (fun e => h e.symm)]
theorem take_pref_common {a b : List UInt8} {i : Nat} (hi : i ≤ a.length) (h : a.take i <+: b) : i ≤ common a b := by
  induction a generalizing b i with
  | nil => simp at hi; omega
  | cons x a ih =>
    cases i with
    | zero => omega
    | succ i =>
      cases b with
      | nil => simp at h
      | cons y b =>
        rw [List.take_succ_cons, List.cons_prefix_cons] at h
        obtain ⟨rfl, h⟩ := h
        have := ih (by simpa using hi) h
        simp only [common, if_true]; omega
/-- behind what both words share no word goes on as the new one does -/
theorem rst_new {ws : Tl} {wd last : List UInt8} (hle : ∀ t ∈ ws, sless last t = false) (hs : sless last wd = true ∨ ws = []) {i : Nat} (hi : common wd last < i) (hil : i ≤ wd.length) : rst (wd.take i) ws = [] := by
  rcases hs with hs | rfl
  · refine List.eq_nil_iff_forall_not_mem.2 fun t ht => ?_
    rw [mem_rst] at ht
    have h1 := hle _ ht
    obtain ⟨n, hn⟩ : ∃ n, n = common wd last := ⟨_, rfl⟩
    rw [← hn] at hi
    have hc := common_le wd last
    have ht2 := common_take wd last
    rw [← hn] at hc ht2
    have e1 : last = wd.take n ++ last.drop n := by rw [ht2, List.take_append_drop]
    have e2 : wd.take i ++ t = wd.take n ++ ((wd.take i).drop n ++ t) := by
      have := List.take_append_drop n (wd.take i)
      rw [List.take_take, show min n i = n from by omega] at this
      rw [← List.append_assoc, this]
    rw [e1, e2, sless_app] at h1
    have e3 : (wd.take i).drop n = wd.getD n 0 :: (wd.take i).drop (n + 1) := by
      rw [drop_head (d := n) (by rw [List.length_take]; omega)]
      congr 1
      simp only [List.getD_eq_getElem?_getD, List.getElem?_take]; rw [if_pos (by omega)]
    rw [e3] at h1
    rcases Nat.lt_or_ge n last.length with h | h
    · rw [drop_head h, List.cons_append, sless_cons] at h1
      have h2 := (sless_common hs (by omega)).2
      rw [← hn] at h2
      have h3 : last.getD n 0 < wd.getD n 0 := UInt8.lt_iff_toNat_lt.2 h2
      rw [show decide (last.getD n 0 < wd.getD n 0) = true from decide_eq_true h3, Bool.true_or] at h1
      cases h1
    · rw [List.drop_eq_nil_of_le h] at h1; cases h1
  · exact rst_empty _
theorem add_law {ws : Tl} {wd : List UInt8} {Ls : List Tl} (hu : Up ws) (h : BI ws Ls) (hs : sless (bldW ws).last wd = true ∨ ws = []) : ∃ Ls', BI (ws ++ [wd]) Ls' := by
  obtain ⟨hl1, _⟩ := bld_last ws
  obtain ⟨last, hlast⟩ : ∃ l, l = (bldW ws).last := ⟨_, rfl⟩
  obtain ⟨n, hn⟩ : ∃ n, n = common wd last := ⟨_, rfl⟩
  have hc := common_le wd last
  have htk := common_take wd last
  rw [← hn] at hc htk
  have hri := h.ri
  have hpi := h.pi
  have hfz := h.fz
  rw [← hlast] at hl1 hpi hfz hs
  have hle : ∀ t ∈ ws, sless last t = false := by rw [hl1]; exact up_last hu
  obtain ⟨Ls', h1, h2, h3⟩ := cutS_law (n := n) hu last.length (bldW ws).s Ls hri hpi hc.2
  have hnew : ∀ i, n < i → i ≤ wd.length → rst (wd.take i) ws = [] := fun i hi hil => rst_new hle hs (hn ▸ hi) hil
  have htake : ∀ i, i ≤ n → wd.take i = last.take i := fun i hi => by
    have h4 := congrArg (List.take i) htk
    rw [List.take_take, List.take_take, Nat.min_eq_left hi] at h4; exact h4
  have hrs : ∀ i, i ≤ wd.length → rst (wd.take i) (ws ++ [wd]) = rst (wd.take i) ws ++ [wd.drop i] := fun i hi => by
    rw [rst_app, rst_one, if_pos (List.take_prefix i wd), List.length_take, Nat.min_eq_left hi]
  have hbl : bldW (ws ++ [wd]) = ⟨wd, true, addS last wd (bldW ws).s⟩ := by rw [bld_snoc, hlast]; rfl
  have hlen := h2.len
  have hwn : n = wd.length → ws = [] := fun he => by
    rcases hs with hs | hs
    · exfalso
      rcases Nat.lt_or_ge n last.length with hx | hx
      · have := (sless_common hs (by omega)).1; omega
      · have e1 : wd = last := by
          have e2 := htk
          rw [List.take_of_length_le (by omega), List.take_of_length_le hx] at e2; exact e2
        rw [e1, sless_irr] at hs; cases hs
    · exact hs
  refine ⟨Ls', ?_, ?_, ?_⟩
  · rw [hbl]; simp only [addS, ← hn]; exact h1
  · rw [hbl]
    simp only
    obtain ⟨L, hL⟩ : ∃ L, L = (cutS last n last.length (bldW ws).s).2 ++ List.replicate (wd.length - n) dE := ⟨_, rfl⟩
    have hLl : L.length = wd.length + 1 := by rw [hL, List.length_append, List.length_replicate, hlen]; omega
    have hp : (addS last wd (bldW ws).s).2 = L.take wd.length ++ [(true, (L.getD wd.length dE).2)] := by rw [hL]; simp only [addS, ← hn]
    have hst : ∀ i, i ≤ wd.length → ∃ cl, groups (dropE (rst (wd.take i) (ws ++ [wd]))) = cl ++ (if i < wd.length then [(wd.getD i 0, rst (wd.take (i + 1)) (ws ++ [wd]))] else []) ∧ (i < wd.length → L[i]? = some (isE (rst (wd.take i) (ws ++ [wd])), cl.map (enc1 Ls'))) ∧ (i = wd.length → isE (rst (wd.take i) (ws ++ [wd])) = true ∧ (L.getD i dE).2 = cl.map (enc1 Ls')) ∧ ∀ p ∈ cl, p.2 ∈ Ls' := by
      intro i hi
      rw [hrs i hi]
      by_cases hin : i ≤ n
      · obtain ⟨cl, g1, g2, g3⟩ := h2.st i hin
        rw [← htake i hin] at g1 g2
        have hLi : L[i]? = some (isE (rst (wd.take i) ws), cl.map (enc1 Ls')) := by rw [hL, List.getElem?_append_left (by omega)]; exact g2
        by_cases hiw : i < wd.length
        · rw [drop_head hiw, if_pos hiw]
          obtain ⟨d1, d2⟩ := dropE_snoc (rst (wd.take i) ws) (wd.getD i 0) (wd.drop (i + 1))
          rw [d1, d2, groups_snoc, g1, hrs (i + 1) (by omega)]
          by_cases hin2 : i < n
          · refine ⟨cl, ?_, fun _ => hLi, fun h => by omega, g3⟩
            have hc1 : last.getD i 0 = wd.getD i 0 := (common_get (by omega)).symm
            rw [if_pos hin2, hc1, gsnoc_same, ← htake (i + 1) (by omega)]
          · obtain rfl : i = n := by omega
            refine ⟨cl, ?_, fun _ => hLi, fun h => by omega, g3⟩
            rw [if_neg (Nat.lt_irrefl _), List.append_nil] at g1 ⊢
            rw [hnew (i + 1) (by omega) (by omega), List.nil_append]
            refine gsnoc_new fun p hp he => ?_
            obtain ⟨g4, g5⟩ := mem_groups p (g1 ▸ hp)
            obtain ⟨t, ht⟩ := List.exists_mem_of_ne_nil _ g4
            have g6 := mem_dropE.1 (g5 t ht)
            rw [he, ← mem_der, ← rst_snoc] at g6
            have e1 : wd.take i ++ [wd.getD i 0] = wd.take (i + 1) := (take_succ_getD wd i 0 hiw).symm
            rw [e1, hnew (i + 1) (by omega) (by omega)] at g6
            simp at g6
        · have he : i = wd.length := by omega
          have hw0 := hwn (by omega)
          subst hw0
          rw [if_neg hiw]
          refine ⟨cl, ?_, fun h => absurd h hiw, fun _ => ?_, g3⟩
          · rw [rst_empty, List.nil_append, List.drop_eq_nil_of_le (by omega), List.append_nil]
            rw [rst_empty] at g1
            have e0 : groups (dropE []) = [] := rfl
            rw [e0] at g1
            have := List.append_eq_nil_iff.1 g1.symm
            rw [this.1]; rfl
          · refine ⟨?_, by rw [List.getD_eq_getElem?_getD, hLi]; rfl⟩
            rw [rst_empty, List.drop_eq_nil_of_le (by omega)]; rfl
      · have hLi : L[i]? = some dE := by
          rw [hL, List.getElem?_append_right (by omega), List.getElem?_replicate, if_pos (by omega)]
        rw [hnew i (by omega) hi, List.nil_append]
        by_cases hiw : i < wd.length
        · rw [if_pos hiw, hrs (i + 1) (by omega), hnew (i + 1) (by omega) (by omega), drop_head hiw]
          exact ⟨[], rfl, fun _ => hLi, fun h => by omega, fun p hp => by simp at hp⟩
        · rw [if_neg hiw, List.drop_eq_nil_of_le (by omega)]
          exact ⟨[], rfl, fun h => absurd h hiw, fun _ => ⟨rfl, by rw [List.getD_eq_getElem?_getD, hLi]; rfl⟩, fun p hp => by simp at hp⟩
    refine ⟨by rw [hp, List.length_append, List.length_take, List.length_singleton]; omega, fun i hi => ?_⟩
    obtain ⟨cl, g1, g2, g3, g4⟩ := hst i hi
    refine ⟨cl, g1, ?_, g4⟩
    rw [hp]
    by_cases hiw : i < wd.length
    · rw [List.getElem?_append_left (by rw [List.length_take]; omega), List.getElem?_take, if_pos hiw]; exact g2 hiw
    · obtain rfl : i = wd.length := by omega
      obtain ⟨g5, g6⟩ := g3 rfl
      rw [List.getElem?_append_right (by rw [List.length_take]; omega), List.length_take, show wd.length - min wd.length L.length = 0 from by omega, List.getElem?_cons_zero, g5, g6]
  · rw [hbl]
    simp only
    intro L
    rw [h3 L, hfz L]
    have hsame : ∀ p, ¬ p <+: wd → rst p (ws ++ [wd]) = rst p ws := fun p hp => by rw [rst_app, rst_one, if_neg hp, List.append_nil]
    constructor
    · rintro (⟨h4, p, h5, h6⟩ | ⟨j, h4, h5, h6⟩)
      · refine ⟨h4, p, fun hpw => ?_, ?_⟩
        · have e1 := pref_take hpw
          rcases Nat.lt_or_ge n p.length with h7 | h7
          · have := hnew p.length h7 hpw.length_le
            rw [← e1, h6] at this; exact h4 this
          · rw [htake _ h7] at e1
            exact h5 (e1 ▸ List.take_prefix _ _)
        · rw [hsame p (fun hpw => ?_)]
          · exact h6
          · have e1 := pref_take hpw
            rcases Nat.lt_or_ge n p.length with h7 | h7
            · have := hnew p.length h7 hpw.length_le
              rw [← e1, h6] at this; exact h4 this
            · rw [htake _ h7] at e1
              exact h5 (e1 ▸ List.take_prefix _ _)
      · have hnp : ¬ last.take j <+: wd := fun hpw => by
          have := take_pref_common h5 hpw
          have e : common last wd = common wd last := common_comm _ _
          omega
        refine ⟨?_, last.take j, hnp, by rw [hsame _ hnp, h6]⟩
        have hws : ws ≠ [] := by rintro rfl; rw [hl1] at h5; simp at h5; omega
        have hm : last.drop j ∈ rst (last.take j) ws := by rw [mem_rst, List.take_append_drop, hl1]; exact last_mem hws
        rw [h6]; exact List.ne_nil_of_mem hm
    · rintro ⟨h4, p, h5, h6⟩
      rw [hsame p h5] at h6
      by_cases hpl : p <+: last
      · have e1 := pref_take hpl
        refine .inr ⟨p.length, ?_, hpl.length_le, by rw [← e1, h6]⟩
        rcases Nat.lt_or_ge n p.length with h7 | h7
        · exact h7
        · rw [← htake _ h7] at e1
          exact absurd (e1 ▸ List.take_prefix _ _) h5
      · exact .inl ⟨h4, p, hpl, h6⟩
end Go.Hb
