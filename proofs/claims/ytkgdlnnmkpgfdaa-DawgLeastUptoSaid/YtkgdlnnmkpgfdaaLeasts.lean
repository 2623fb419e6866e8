/-
  hornbooklaw18.DawgLeast: the plain law of the marks. No conditions but those that each theorem names.
-/
import Derived.Test.YtkgdlnnmkpgfdaaChecked
import Derived.Test.YtkgdlnnmkpgfdaaEff
import Derived.Test.YtkgdlnnmkpgfdaaRef08
import Derived.Test.YtkgdlnnmkpgfdaaVisit
import Derived.Test.YtkgdlnnmkpgfdaaReg
import Derived.Test.YtkgdlnnmkpgfdaaCut
import Derived.Test.YtkgdlnnmkpgfdaaBuild
import Derived.Test.YtkgdlnnmkpgfdaaAdd
import Derived.Test.YtkgdlnnmkpgfdaaAdds
import Derived.Test.YtkgdlnnmkpgfdaaAsked
import Derived.Test.YtkgdlnnmkpgfdaaNumb
import Derived.Test.YtkgdlnnmkpgfdaaFin
import Derived.Test.YtkgdlnnmkpgfdaaRfrz
import Derived.Test.YtkgdlnnmkpgfdaaSame
import Derived.Test.YtkgdlnnmkpgfdaaLawA
import Derived.Test.YtkgdlnnmkpgfdaaLawB
import Derived.Test.YtkgdlnnmkpgfdaaLeast
import Derived.Test.YtkgdlnnmkpgfdaaStr
import Derived.Test.YtkgdlnnmkpgfdaaPure
import Derived.Test.YtkgdlnnmkpgfdaaDawg
import Derived.Test.YtkgdlnnmkpgfdaaVis
import Derived.Test.YtkgdlnnmkpgfdaaRow
import Derived.Test.YtkgdlnnmkpgfdaaNode
import Derived.Test.YtkgdlnnmkpgfdaaMap
import Derived.Test.YtkgdlnnmkpgfdaaAuto
import Derived.Test.YtkgdlnnmkpgfdaaLast
import Derived.Test.YtkgdlnnmkpgfdaaTag
import Derived.Test.YtkgdlnnmkpgfdaaFrz
import Derived.Test.YtkgdlnnmkpgfdaaSet
import Derived.Test.YtkgdlnnmkpgfdaaPost
import Derived.Test.YtkgdlnnmkpgfdaaBulk
import Derived.Test.YtkgdlnnmkpgfdaaOpens
import Derived.Test.YtkgdlnnmkpgfdaaMake
set_option maxRecDepth 20000
set_option linter.unusedVariables false
namespace Go.Hb.Leasts
open Go.Proofs
open Go.Hb.Ref08 Go.Hb.Visit Go.Hb.Reg Go.Hb.Cut Go.Hb.Build Go.Hb.Add Go.Hb.Adds Go.Hb.Asked Go.Hb.Numb Go.Hb.Fin Go.Hb.Rfrz Go.Hb.Same Go.Hb.LawA Go.Hb.LawB Go.Hb.Least

theorem difB_inv {sts : List Ent} {mk : List Bool} {i j : Nat} (h : difB sts mk i j = false) : (sts.getD i dE).1 = (sts.getD j dE).1 ∧ (sts.getD i dE).2.length = (sts.getD j dE).2.length ∧ ∀ k, k < (sts.getD i dE).2.length → ((sts.getD i dE).2.getD k dG).1 = ((sts.getD j dE).2.getD k dG).1 ∧ mk.getD (((sts.getD i dE).2.getD k dG).2 * sts.length + ((sts.getD j dE).2.getD k dG).2) false = false := by
  unfold difB at h
  rw [Bool.or_eq_false_iff, Bool.or_eq_false_iff] at h
  obtain ⟨⟨h1, h2⟩, h3⟩ := h
  refine ⟨Classical.not_not.1 (of_decide_eq_false h1), Classical.not_not.1 (of_decide_eq_false h2), fun k hk => ?_⟩
  unfold difP at h3
  rw [List.any_eq_false] at h3
  have h4 := h3 k (List.mem_range.2 hk)
  unfold difE at h4
  rw [Bool.not_eq_true, Bool.or_eq_false_iff] at h4
  exact ⟨Classical.not_not.1 (of_decide_eq_false h4.1), h4.2⟩
theorem getD_edge {l : List (UInt8 × Nat)} {e : UInt8 × Nat} (h : e ∈ l) : ∃ k, k < l.length ∧ l.getD k dG = e := by
  obtain ⟨k, hk, rfl⟩ := List.mem_iff_getElem.1 h
  exact ⟨k, hk, by rw [List.getD_eq_getElem?_getD, List.getElem?_eq_getElem hk]; rfl⟩
theorem edge_mem {l : List (UInt8 × Nat)} {k : Nat} (h : k < l.length) : l.getD k dG ∈ l := by
  rw [List.getD_eq_getElem?_getD, List.getElem?_eq_getElem h]; exact List.getElem_mem h
theorem fix_sub {ws : Tl} {K : List Tl} (hK : AutIs ws K) (hu : Up ws) {mk : List Bool} (hs : SymM mk (aut ws).length) (hp : PassOK (aut ws) mk (aut ws).length (aut ws).length 0) :
    ∀ (t : List UInt8) (i j : Nat) (Li Lj : Tl), K[i]? = some Li → K[j]? = some Lj → mk.getD (i * (aut ws).length + j) false = false → t ∈ Li → t ∈ Lj := by
  have hlt : ∀ (i : Nat) L, K[i]? = some L → ∀ e ∈ ((aut ws).getD i dE).2, e.2 < (aut ws).length := fun i L hi e he => by
    obtain ⟨_, h2, h3⟩ := edge_der hK hu hi (aut_up hK hu (List.mem_of_getElem? hi)) he
    rw [h2, hK.len]; exact List.idxOf_lt_length_of_mem h3
  have hil : ∀ (i : Nat) L, K[i]? = some L → i < (aut ws).length := fun i L hi => by rw [hK.len]; exact (List.getElem?_eq_some_iff.1 hi).1
  have key : ∀ (i j : Nat) (Li Lj : Tl), K[i]? = some Li → K[j]? = some Lj → mk.getD (i * (aut ws).length + j) false = false → i ≠ j → ((aut ws).getD i dE).1 = ((aut ws).getD j dE).1 ∧ ∀ e ∈ ((aut ws).getD i dE).2, ∃ e' ∈ ((aut ws).getD j dE).2, e.1 = e'.1 ∧ mk.getD (e.2 * (aut ws).length + e'.2) false = false := by
    intro i j Li Lj hi hj hm hne
    rcases Nat.lt_or_gt_of_ne hne with h | h
    · obtain ⟨g1, g2, g3⟩ := difB_inv (hp j i h (.inl (hil j Lj hj)) (by rw [hs j i (hil j Lj hj) (hil i Li hi)]; exact hm))
      refine ⟨g1.symm, fun e he => ?_⟩
      obtain ⟨k, hk, rfl⟩ := getD_edge he
      obtain ⟨g4, g5⟩ := g3 k (by omega)
      have hm2 := edge_mem (l := ((aut ws).getD j dE).2) (k := k) (by omega)
      exact ⟨_, hm2, g4.symm, by rw [hs _ _ (hlt i Li hi _ he) (hlt j Lj hj _ hm2)]; exact g5⟩
    · obtain ⟨g1, g2, g3⟩ := difB_inv (hp i j h (.inl (hil i Li hi)) hm)
      refine ⟨g1, fun e he => ?_⟩
      obtain ⟨k, hk, rfl⟩ := getD_edge he
      obtain ⟨g4, g5⟩ := g3 k hk
      exact ⟨_, edge_mem (by omega), g4, g5⟩
  have hfin : ∀ (i : Nat) L, K[i]? = some L → ((aut ws).getD i dE).1 = decide ([] ∈ L) := fun i L hi => by
    rw [List.getD_eq_getElem?_getD, (hK.st i L hi).1]
    exact isE_mem (aut_up hK hu (List.mem_of_getElem? hi))
  intro t
  induction t with
  | nil =>
    intro i j Li Lj hi hj hm ht
    by_cases hij : i = j
    · subst hij; rw [hi] at hj; cases hj; exact ht
    · have h1 := (key i j Li Lj hi hj hm hij).1
      rw [hfin i Li hi, hfin j Lj hj, decide_eq_true ht] at h1
      exact of_decide_eq_true h1.symm
  | cons c t ih =>
    intro i j Li Lj hi hj hm ht
    by_cases hij : i = j
    · subst hij; rw [hi] at hj; cases hj; exact ht
    · obtain ⟨_, h2⟩ := key i j Li Lj hi hj hm hij
      have hd : t ∈ der c Li := mem_der.2 ht
      have hui := aut_up hK hu (List.mem_of_getElem? hi)
      have huj := aut_up hK hu (List.mem_of_getElem? hj)
      have hex : ∃ e ∈ ((aut ws).getD i dE).2, e.1 = c := Classical.byContradiction fun hno => by
        rw [edge_none hK hi hui (c := c) (fun e he h => hno ⟨e, he, h⟩)] at hd
        cases hd
      obtain ⟨e, he, rfl⟩ := hex
      obtain ⟨e', he', hc, hm'⟩ := h2 e he
      obtain ⟨_, a2, a3⟩ := edge_der hK hu hi hui he
      obtain ⟨_, b2, b3⟩ := edge_der hK hu hj huj he'
      have hkk : ∀ L, L ∈ K → K[K.idxOf L]? = some L := fun L hL => by
        rw [List.getElem?_eq_getElem (List.idxOf_lt_length_of_mem hL), List.getElem_idxOf]
      have h9 := ih e.2 e'.2 _ _ (by rw [a2]; exact hkk _ a3) (by rw [b2]; exact hkk _ b3) hm' hd
      rw [hc]
      exact mem_der.1 h9
theorem fix_all {ws : Tl} (hf : Fit ws) {mk : List Bool} (hs : SymM mk (aut ws).length) (hp : PassOK (aut ws) mk (aut ws).length (aut ws).length 0) (i j : Nat) (hji : j < i) (hi : i < (aut ws).length) : mk.getD (i * (aut ws).length + j) false = true := by
  obtain ⟨K, hK⟩ := aut_is hf
  cases hm : mk.getD (i * (aut ws).length + j) false with
  | true => rfl
  | false =>
    exfalso
    have hi' : i < K.length := by rw [← hK.len]; exact hi
    have h1 := List.getElem?_eq_getElem hi'
    have h2 := List.getElem?_eq_getElem (show j < K.length by omega)
    have hm2 : mk.getD (j * (aut ws).length + i) false = false := by rw [hs j i (by omega) hi]; exact hm
    have he : K[i] = K[j]'(by omega) := up_ext (aut_up hK hf.1 (List.mem_of_getElem? h1)) (aut_up hK hf.1 (List.mem_of_getElem? h2)) (fun t => ⟨fix_sub hK hf.1 hs hp t i j _ _ h1 h2 hm, fix_sub hK hf.1 hs hp t j i _ _ h2 h1 hm2⟩)
    exact List.pairwise_iff_getElem.1 hK.nd j i (by omega) hi' hji he.symm
theorem rst_ne_self {q : List UInt8} {ws : Tl} (hq : q ≠ []) (hf : ∀ x ∈ ws, x.length ≤ 255) (hne : ws ≠ []) : rst q ws ≠ ws := fun h => by
  have key : ∀ n : Nat, ∃ t ∈ ws, n ≤ t.length := by
    intro n
    induction n with
    | zero => obtain ⟨t, ht⟩ := List.exists_mem_of_ne_nil _ hne; exact ⟨t, ht, Nat.zero_le _⟩
    | succ n ih =>
      obtain ⟨t, ht, hn⟩ := ih
      rw [← h] at ht
      have hql : 0 < q.length := List.length_pos_iff.2 hq
      exact ⟨q ++ t, mem_rst.1 ht, by rw [List.length_append]; omega⟩
  obtain ⟨t, ht, hn⟩ := key 256
  have := hf t ht
  omega
/-- no edge leads to the first state -/
theorem edge_pos {ws : Tl} {K : List Tl} (hf : Fit ws) (hK : AutIs ws K) {k : Nat} {L : Tl} (hk : K[k]? = some L) {e : UInt8 × Nat} (he : e ∈ ((aut ws).getD k dE).2) : 0 < e.2 := by
  obtain ⟨h1, h2, h3⟩ := edge_der hK hf.1 hk (aut_up hK hf.1 (List.mem_of_getElem? hk)) he
  rcases Nat.eq_zero_or_pos e.2 with h0 | h0
  · exfalso
    have hlt := List.idxOf_lt_length_of_mem h3
    have h4 : K[K.idxOf (der e.1 L)]? = some (der e.1 L) := by rw [List.getElem?_eq_getElem hlt, List.getElem_idxOf]
    rw [← h2, h0, hK.root] at h4
    have h5 : der e.1 L = ws := (Option.some.inj h4).symm
    have hp : ∃ p, rst p ws = L := ((hK.mem L).1 (List.mem_of_getElem? hk)).elim (fun h => ⟨[], h.symm⟩) (fun h => h.2)
    obtain ⟨p, hp⟩ := hp
    exact rst_ne_self (q := p ++ [e.1]) (by simp) hf.2 (fun h => h1 (h5.trans h)) (by rw [rst_snoc, hp]; exact h5)
  · exact h0
theorem edges_at {ws : Tl} {K : List Tl} (hK : AutIs ws K) {k : Nat} {L : Tl} (hk : K[k]? = some L) : (aut ws).getD k dE = (isE L, (groups (dropE L)).map fun p => (p.1, K.idxOf p.2)) := by
  rw [List.getD_eq_getElem?_getD, (hK.st k L hk).1]; rfl
theorem edge_rise {ws : Tl} {K : List Tl} (hK : AutIs ws K) (hu : Up ws) {k : Nat} {L : Tl} (hk : K[k]? = some L) : ((aut ws).getD k dE).2.Pairwise (fun a b => a.1.toNat < b.1.toNat) := by
  have hL := aut_up hK hu (List.mem_of_getElem? hk)
  rw [edges_at hK hk]
  exact List.pairwise_map.2 (groups_up (dropE_up hL) (dropE_ne hL))
theorem ent_all {ws : Tl} {K : List Tl} (hK : AutIs ws K) (hu : Up ws) {i : Nat} (h0 : 0 < i) {L : Tl} (hi : K[i]? = some L) : entB (aut ws) (i : Int) = true := by
  have hil := (List.getElem?_eq_some_iff.1 hi).1
  have hne : ∀ j, j < i → K[j]? ≠ some L := fun j hj h => by
    obtain ⟨hjl, h1⟩ := List.getElem?_eq_some_iff.1 h
    obtain ⟨_, h2⟩ := List.getElem?_eq_some_iff.1 hi
    exact List.pairwise_iff_getElem.1 hK.nd j i hjl hil hj (h1.trans h2.symm)
  rcases (hK.mem L).1 (List.mem_of_getElem? hi) with h | ⟨hL, p, hp⟩
  · exact absurd (h ▸ hK.root) (hne 0 h0)
  · rcases List.eq_nil_or_concat p with rfl | ⟨p', c, rfl⟩
    · exact absurd (show K[0]? = some L from hp ▸ hK.root) (hne 0 h0)
    · rw [List.concat_eq_append, rst_snoc] at hp
      have hM : rst p' ws ≠ [] := fun h => hL (by rw [← hp, h]; rfl)
      have hMK : rst p' ws ∈ K := (hK.mem _).2 (.inr ⟨hM, p', rfl⟩)
      obtain ⟨k, hkl, hk⟩ := List.mem_iff_getElem.1 hMK
      have hk' : K[k]? = some (rst p' ws) := by rw [List.getElem?_eq_getElem hkl, hk]
      have hg := der_group (aut_up hK hu hMK) (c := c) (by rw [hp]; exact hL)
      rw [hp] at hg
      have hix : K.idxOf L = i := by
        have h7 := List.idxOf_lt_length_of_mem (List.mem_of_getElem? hi)
        have h8 : K[K.idxOf L] = K[i] := by rw [List.getElem_idxOf]; exact ((List.getElem?_eq_some_iff.1 hi).2).symm
        exact (List.getElem_inj hK.nd).1 h8
      refine List.any_eq_true.2 ⟨(aut ws).getD k dE, getD_mem (d := dE) (by rw [hK.len]; exact hkl), List.any_eq_true.2 ⟨(c, K.idxOf L), ?_, ?_⟩⟩
      · rw [edges_at hK hk']
        exact List.mem_map.2 ⟨(c, L), hg, rfl⟩
      · exact decide_eq_true (by rw [hix])
theorem leaf_fin {ws : Tl} {K : List Tl} (hK : AutIs ws K) (hu : Up ws) (hw : ws ≠ []) {k : Nat} {L : Tl} (hk : K[k]? = some L) (h : ((aut ws).getD k dE).2 = []) : ((aut ws).getD k dE).1 = true := by
  have hL := aut_up hK hu (List.mem_of_getElem? hk)
  have hne : L ≠ [] := ((hK.mem L).1 (List.mem_of_getElem? hk)).elim (fun h => h ▸ hw) (fun h => h.1)
  rw [edges_at hK hk] at h ⊢
  show isE L = true
  have hg : groups (dropE L) = [] := List.map_eq_nil_iff.1 h
  rw [isE_mem hL]
  refine decide_eq_true (Classical.byContradiction fun hno => ?_)
  obtain ⟨t, ht⟩ := List.exists_mem_of_ne_nil _ hne
  cases t with
  | nil => exact hno ht
  | cons c t =>
    have h9 := der_group hL (c := c) (List.ne_nil_of_mem (mem_der.2 ht))
    rw [hg] at h9; cases h9

end Go.Hb.Leasts
