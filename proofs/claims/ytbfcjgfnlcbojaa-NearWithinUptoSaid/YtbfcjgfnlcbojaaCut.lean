/-
  Walks of package dawg: a builder in memory, and its cut. No conditions but those that each theorem names.
-/
import Derived.Test.YtbfcjgfnlcbojaaChecked
import Derived.Test.YtbfcjgfnlcbojaaCore
import Derived.Test.YtbfcjgfnlcbojaaRef18
import Derived.Test.YtbfcjgfnlcbojaaVisit
import Derived.Test.YtbfcjgfnlcbojaaReg
import Derived.Test.YtbfcjgfnlcbojaaPlan
set_option maxRecDepth 20000
set_option linter.unusedVariables false
namespace Go.Hb.Cut
open Go.Proofs
open Go.Hb.Ref18 Go.Hb.Visit Go.Hb.Reg
theorem ag99 : aggN Try.prog 99 = some none := by kernel_rfl
theorem ag100 : aggN Try.prog 100 = some none := by kernel_rfl
theorem ag103 : aggN Try.prog 103 = some none := by kernel_rfl
theorem c45 : Callable Try.prog 45 := callable Try.func45 (by kernel_rfl) (by kernel_rfl)
theorem cz99 : cellsN Try.prog 99 = some 1 := by kernel_rfl
theorem cz103 : cellsN Try.prog 103 = some 1 := by kernel_rfl
theorem es100 : elemSize Try.prog 100 = some 2 := by kernel_rfl
theorem es103 : elemSize Try.prog 103 = some 1 := by kernel_rfl
theorem fo102_1 : fieldOff Try.prog 102 1 = some 1 := by kernel_rfl
theorem fo106_3 : fieldOff Try.prog 106 3 = some 3 := by kernel_rfl
theorem fo118_1 : fieldOff Try.prog 118 1 = some 1 := by kernel_rfl
theorem u100 : Try.prog.underlying 100 = some (.slice 118) := by kernel_rfl
theorem u103 : Try.prog.underlying 103 = some (.slice 99) := by kernel_rfl
theorem wide : Try.prog.follows .mixedOrders = true := by kernel_rfl

theorem own_cellne {w : World} {B t size n pp t' : Nat} {v : Value} {xs : List Value} {cs : Array Value} {z : Nat × Nat} (h : w.ownsRow B t size v n xs) (hp : w.heap[pp]? = some (.cells cs t' z)) (hne : t ≠ t') : v.ownBlock ≠ some pp := by
  intro hk
  rcases h.2 with ⟨h1, _⟩ | ⟨g, cap, cur, h1, _, hg, _⟩
  · rw [h1] at hk; simp [Value.ownBlock] at hk
  · rw [h1] at hk; simp only [Value.ownBlock, Option.some.injEq] at hk; subst hk
    rw [hg] at hp
    simp only [Option.some.injEq, Obj.cells.injEq] at hp
    exact hne hp.2.1
theorem own_mapne {w : World} {B t size n m : Nat} {v : Value} {xs : List Value} {kvs : List (Value × Value)} (h : w.ownsRow B t size v n xs) (hm : MapIs w.heap m kvs) : v.ownBlock ≠ some m := by
  intro hk
  obtain ⟨es, c, hm, _⟩ := hm
  rcases h.2 with ⟨h1, _⟩ | ⟨g, cap, cur, h1, _, hg, _⟩
  · rw [h1] at hk; simp [Value.ownBlock] at hk
  · rw [h1] at hk; simp only [Value.ownBlock, Option.some.injEq] at hk; subst hk
    rw [hg] at hm; cases hm
theorem own_take {w : World} {B t size n cap k : Nat} {a : Option Addr} {xs : List Value} (h : w.ownsRow B t size (.slice a n cap) n xs) (hk : k ≤ n) (h0 : 0 < k) : w.ownsRow B t size (.slice a k cap) k (xs.take (k * size)) := by
  have hks : k * size ≤ n * size := Nat.mul_le_mul_right _ hk
  obtain ⟨hl, h | ⟨g, cp, cur, h1, h2, h3, h4, h5, h6, h7⟩⟩ := h
  · omega
  · simp only [Value.slice.injEq, true_and] at h1
    obtain ⟨rfl, rfl⟩ := h1
    exact ⟨by rw [List.length_take, hl]; omega, .inr ⟨g, cap, cur, rfl, h2, h3, by omega, h5, h6, by rw [← h7, List.take_take, show min (k * size) (n * size) = k * size from by omega]⟩⟩
/-- the open edge of a state of the path -/
def opn (cs : List UInt8) (pa : List FN) (i : Nat) : List (UInt8 × Nat) := match pa[i + 1]? with | some y => [(cs.getD i 0, y.p)] | none => []
def pe (x : FN) : Nat × Value := (x.p, x.ev)
def apartP (x y : Nat × Value) : Prop := x.1 ≠ y.1 ∧ ∀ k, x.2.ownBlock = some k → y.2.ownBlock ≠ some k
theorem apartP.symm {x y : Nat × Value} (h : apartP x y) : apartP y x := ⟨fun q => h.1 q.symm, fun k h1 h2 => h.2 k h2 h1⟩
theorem apart_ix {l : List FN} (h : (l.map pe).Pairwise apartP) {j k : Nat} {x y : FN} (hj : l[j]? = some x) (hk : l[k]? = some y) (hne : j ≠ k) : apartP (pe x) (pe y) := by
  obtain ⟨h1, rfl⟩ := List.getElem?_eq_some_iff.1 hj
  obtain ⟨h2, rfl⟩ := List.getElem?_eq_some_iff.1 hk
  rw [List.pairwise_map, List.pairwise_iff_getElem] at h
  rcases Nat.lt_or_gt_of_ne hne with hlt | hlt
  · exact h j k h1 h2 hlt
  · exact (h k j h2 h1 hlt).symm
theorem cell_ne {w : World} {a b t t' : Nat} {cs cs' : Array Value} {z z' : Nat × Nat} (ha : w.heap[a]? = some (.cells cs t z)) (hb : w.heap[b]? = some (.cells cs' t' z')) (hne : t ≠ t') : a ≠ b := by
  rintro rfl
  rw [ha] at hb
  simp only [Option.some.injEq, Obj.cells.injEq] at hb
  exact hne hb.2.1
/-- a builder in memory -/
structure DB (w : World) (b m : Nat) (most st cnt : Int) (last : List UInt8) (any : Bool) (vp : Value) (row : List Nat) (fz pa : List FN) (cs : List UInt8) : Prop where
  blk : w.heap[b]? = some (.cells [.int .i64 most, str last, .bool any, vp, .map (some m), .int .i64 st, .int .i64 cnt].toArray 106 (0, 0))
  map : MapIs w.heap m (kvl fz)
  path : w.ownsRow 0 99 1 vp row.length (row.map (fun p : Nat => Value.pointer (some ⟨p, 0, none⟩)))
  hfz : FzAt w fz
  nd : (fz.map ent).Nodup
  hpa : ∀ (i : Nat) x, pa[i]? = some x → NdAt w x.p x.ev x.f (x.es.map (tg fz) ++ opn cs pa i) 0 ∧ ∀ q ∈ x.es, 1 ≤ q.2 ∧ q.2 ≤ fz.length
  sep : (fz.map pe ++ pa.map pe).Pairwise apartP
theorem nflat_set {l : List (UInt8 × Nat)} {c : UInt8} {p q : Nat} : (nflat (l ++ [(c, p)])).set (l.length * 2 + 1) (.pointer (some ⟨q, 0, none⟩)) = nflat (l ++ [(c, q)]) := by
  have hl : (nflat l).length = l.length * 2 := flat_len (f := fun e : UInt8 × Nat => [Value.int .u8 e.1.toNat, .pointer (some ⟨e.2, 0, none⟩)]) (m := 2) (fun _ => rfl) l
  simp only [nflat, List.flatMap_append, List.flatMap_cons, List.flatMap_nil, List.append_nil]
  rw [List.set_append_right _ _ (by rw [show (List.flatMap _ l).length = l.length * 2 from hl]; omega), show (List.flatMap _ l).length = l.length * 2 from hl, show l.length * 2 + 1 - l.length * 2 = 1 from by omega]
  rfl
theorem cut_step {w w2 w3 : World} {b m : Nat} {most st cnt : Int} {last : List UInt8} {any : Bool} {vp : Value} {row : List Nat} {fz pa fz2 : List FN} {cs : List UInt8} {i id q : Nat} {a z : FN} (hD : DB w b m most st cnt last any vp row fz pa cs) (hl : pa.length = i + 1) (h0 : 0 < i) (ha : pa[i - 1]? = some a) (hz : pa[i]? = some z)
    (hc : fz2 = fz ∨ fz2 = fz ++ [z]) (hid1 : 1 ≤ id) (hid2 : id ≤ fz2.length) (hq : (fz2.map FN.p).getD (id - 1) 0 = q) (hM : Md (fun k => k = z.p ∨ k = m) w w2) (hm2 : MapIs w2.heap m (kvl fz2)) (hf2 : FzAt w2 fz2) (hn2 : (fz2.map ent).Nodup)
    (hM3 : Md (fun k => a.ev.ownBlock = some k) w2 w3) (ho3 : w3.ownsRow 0 118 2 a.ev (a.es.length + 1) (nflat (a.es.map (tg fz) ++ [(cs.getD (i - 1) 0, q)]))) :
    DB w3 b m most st cnt last any vp row fz2 (pa.take (i - 1) ++ [⟨a.p, a.ev, a.f, a.es ++ [(cs.getD (i - 1) 0, id)]⟩]) cs := by
  obtain ⟨hNa, hba⟩ := hD.hpa _ _ ha
  obtain ⟨hNz, hbz⟩ := hD.hpa _ _ hz
  have hsp := hD.sep
  rw [List.pairwise_append] at hsp
  obtain ⟨hs1, hs2, hs3⟩ := hsp
  have haz := apart_ix hs2 ha hz (by omega)
  have hlen : fz.length ≤ fz2.length := by rcases hc with rfl | rfl <;> simp
  have htg : ∀ l : List (UInt8 × Nat), (∀ x ∈ l, 1 ≤ x.2 ∧ x.2 ≤ fz.length) → l.map (tg fz2) = l.map (tg fz) := by
    intro l h
    rcases hc with rfl | rfl
    · rfl
    · exact tg_map h
  have hzb := cell_ne hNz.blk hD.blk (by decide)
  have hzm := map_ne hD.map hNz.B
  have hbm := map_ne hD.map ⟨_, hD.blk⟩
  have ham := own_mapne hNa.row hD.map
  have hapz : ∀ k, vp.ownBlock = some k → ¬ (k = z.p ∨ k = m) := fun k hk h => by
    rcases h with h | h
    · exact own_cellne hD.path hNz.blk (by decide) (h ▸ hk)
    · exact own_mapne hD.path hD.map (h ▸ hk)
  have hpt := List.take_append_drop (i - 1) pa
  refine ⟨hM3.blk (hM.blk hD.blk (fun h => by rcases h with h | h; exact hzb h.symm; exact hbm h)) (own_cellne hNa.row hD.blk (by decide)), hm2.md hM3 ham, own_md (own_md hD.path hM hapz) hM3 (fun k hk => own_ne hD.path hNa.row (by decide) hk), ?_, hn2, ?_, ?_⟩
  · intro j x hx
    obtain ⟨h1, h2⟩ := hf2 j x hx
    refine ⟨h1.md hM3 ?_ ?_, h2⟩
    · exact own_cellne (own_md hNa.row hM (fun k hk h => by
        rcases h with h | h
        · exact row_node hNa hNz (h ▸ hk)
        · exact ham (h ▸ hk))) h1.blk (by decide)
    · intro k hk hak
      have hxm := List.mem_of_getElem? hx
      rcases hc with rfl | rfl
      · exact (hs3 _ (List.mem_map_of_mem hxm) _ (List.mem_map_of_mem (List.mem_of_getElem? ha))).2 k hk hak
      · rcases List.mem_append.1 hxm with hxm | hxm
        · exact (hs3 _ (List.mem_map_of_mem hxm) _ (List.mem_map_of_mem (List.mem_of_getElem? ha))).2 k hk hak
        · simp only [List.mem_singleton] at hxm; subst hxm
          exact haz.2 k hak hk
  · intro j x hx
    have htl : (pa.take (i - 1)).length = i - 1 := by rw [List.length_take]; omega
    by_cases hj : j < i - 1
    · rw [List.getElem?_append_left (by omega), List.getElem?_take, if_pos hj] at hx
      obtain ⟨h1, h2⟩ := hD.hpa j x hx
      have hxz := apart_ix hs2 hx hz (by omega)
      have hxa := apart_ix hs2 hx ha (by omega)
      have ho : opn cs (pa.take (i - 1) ++ [⟨a.p, a.ev, a.f, a.es ++ [(cs.getD (i - 1) 0, id)]⟩]) j = opn cs pa j := by
        unfold opn
        by_cases hj2 : j + 1 < i - 1
        · rw [List.getElem?_append_left (by omega), List.getElem?_take, if_pos hj2]
        · rw [List.getElem?_append_right (by omega), htl, show j + 1 - (i - 1) = 0 from by omega, show j + 1 = i - 1 from by omega, ha]; rfl
      rw [ho, htg _ h2]
      exact ⟨(h1.md hM (fun h => by rcases h with h | h; exact hxz.1 h; exact map_ne hD.map h1.B h) (fun k hk h => by
        rcases h with h | h
        · exact row_node h1 hNz (h ▸ hk)
        · exact row_map h1 hD.map (h ▸ hk))).md hM3 (fun h => row_node hNa h1 h) (fun k hk hak => hxa.2 k hk hak), fun y hy => ⟨(h2 y hy).1, by have := (h2 y hy).2; omega⟩⟩
    · rw [List.getElem?_append_right (by omega), htl] at hx
      by_cases hj0 : j - (i - 1) = 0
      · rw [hj0] at hx
        simp only [List.getElem?_cons_zero, Option.some.injEq] at hx
        subst hx
        have hji : j = i - 1 := by omega
        have ho : opn cs (pa.take (i - 1) ++ [⟨a.p, a.ev, a.f, a.es ++ [(cs.getD (i - 1) 0, id)]⟩]) j = [] := by
          unfold opn
          rw [List.getElem?_eq_none (by simp only [List.length_append, htl, List.length_singleton]; omega)]
        rw [ho, List.append_nil, List.map_append, htg _ hba]
        refine ⟨⟨hM3.blk (hM.blk hNa.blk (fun h => by rcases h with h | h; exact haz.1 h; exact map_ne hD.map hNa.B h)) (row_node hNa hNa), ?_⟩, fun y hy => ?_⟩
        · have e1 : [(cs.getD (i - 1) 0, id)].map (tg fz2) = [(cs.getD (i - 1) 0, q)] := by simp only [List.map_cons, List.map_nil, tg, hq]
          rw [e1, List.length_append, List.length_map]; exact ho3
        · rcases List.mem_append.1 hy with hy | hy
          · exact ⟨(hba y hy).1, by have := (hba y hy).2; omega⟩
          · simp only [List.mem_singleton] at hy; subst hy; exact ⟨hid1, hid2⟩
      · rw [List.getElem?_eq_none (by simp; omega)] at hx; cases hx
  · have hsplit : pa = pa.take (i - 1) ++ [a, z] := by
      have e1 : pa.drop (i - 1) = a :: pa.drop i := by
        rw [List.drop_eq_getElem_cons (by omega)]
        obtain ⟨h1, h2⟩ := List.getElem?_eq_some_iff.1 ha
        rw [h2, show i - 1 + 1 = i from by omega]
      have e2 : pa.drop i = [z] := by
        rw [List.drop_eq_getElem_cons (by omega), List.drop_eq_nil_of_le (by omega)]
        obtain ⟨h1, h2⟩ := List.getElem?_eq_some_iff.1 hz
        rw [h2]
      rw [← e2, ← e1, List.take_append_drop]
    have hold := hD.sep
    rw [hsplit, List.map_append] at hold
    have hpea : pe ⟨a.p, a.ev, a.f, a.es ++ [(cs.getD (i - 1) 0, id)]⟩ = pe a := rfl
    rw [List.map_append, List.map_cons, List.map_nil, hpea]
    generalize (pa.take (i - 1)).map pe = B at hold ⊢
    rcases hc with rfl | rfl
    · refine hold.sublist ?_
      refine List.Sublist.append_left (List.Sublist.append_left ?_ _) _
      simp
    · rw [List.map_append, List.map_cons, List.map_nil]
      refine (List.Perm.pairwise_iff (fun h => apartP.symm h) ?_).1 hold
      simp only [List.map_cons, List.map_nil, List.append_assoc]
      refine List.Perm.append_left _ ?_
      exact (List.perm_append_comm (l₁ := B ++ [pe a]) (l₂ := [pe z])).symm.symm |> fun h => by simpa using h
theorem fz_wk {w w' : World} {fz : List FN} (h : FzAt w fz) (hw : Wk w w') : FzAt w' fz := fun j x hx => ⟨(h j x hx).1.md hw (fun x => x) (fun _ _ x => x), (h j x hx).2⟩
/-- the builder's own block is written -/
theorem DB.upd {w w' : World} {b m : Nat} {most st cnt most' st' cnt' : Int} {last last' : List UInt8} {any any' : Bool} {vp vp' : Value} {row row' : List Nat} {fz pa : List FN} {cs : List UInt8} (hD : DB w b m most st cnt last any vp row fz pa cs) (hM : Md (fun k => k = b) w w')
    (hB : w'.heap[b]? = some (.cells [.int .i64 most', str last', .bool any', vp', .map (some m), .int .i64 st', .int .i64 cnt'].toArray 106 (0, 0))) (hp : w'.ownsRow 0 99 1 vp' row'.length (row'.map (fun p : Nat => Value.pointer (some ⟨p, 0, none⟩)))) : DB w' b m most' st' cnt' last' any' vp' row' fz pa cs := by
  have hN : ∀ (p : Nat) (ev : Value) (f : Bool) (es : List (UInt8 × Nat)) (id : Nat), NdAt w p ev f es id → NdAt w' p ev f es id := fun p ev f es id h =>
    h.md hM (cell_ne h.blk hD.blk (by decide)) (fun k hk hkb => own_cellne h.row hD.blk (by decide) (hkb ▸ hk))
  exact ⟨hB, hD.map.md hM (fun h => map_ne hD.map ⟨_, hD.blk⟩ h.symm), hp, fun j x hx => ⟨hN _ _ _ _ _ (hD.hfz j x hx).1, (hD.hfz j x hx).2⟩, hD.nd, fun i x hx => ⟨hN _ _ _ _ _ (hD.hpa i x hx).1, (hD.hpa i x hx).2⟩, hD.sep⟩
theorem pe_ix {pa pa1 : List FN} {i j : Nat} {x : FN} (hpe : pa1.map pe = (pa.map pe).take i) (hj : j < i) (h : pa1[j]? = some x) : (pa.map FN.p)[j]? = some x.p ∧ ∃ y, pa[j]? = some y ∧ pe y = pe x := by
  have h1 : (pa1.map pe)[j]? = some (pe x) := by rw [List.getElem?_map, h]; rfl
  rw [hpe, List.getElem?_take, if_pos hj, List.getElem?_map, Option.map_eq_some_iff] at h1
  obtain ⟨y, h2, h3⟩ := h1
  refine ⟨?_, y, h2, h3⟩
  rw [List.getElem?_map, h2]
  exact congrArg (fun q : Nat × Value => some q.1) h3
theorem pe_step {pa pa1 : List FN} {i : Nat} {a a' : FN} (hpe : pa1.map pe = (pa.map pe).take (i + 1)) (h0 : 0 < i) (ha : pa1[i - 1]? = some a) (he : pe a' = pe a) : (pa1.take (i - 1) ++ [a']).map pe = (pa.map pe).take (i - 1 + 1) := by
  have h1 : (pa1.map pe)[i - 1]? = some (pe a) := by rw [List.getElem?_map, ha]; rfl
  rw [hpe, List.getElem?_take, if_pos (by omega)] at h1
  rw [List.map_append, List.map_take, hpe, List.take_take, show min (i - 1) (i + 1) = i - 1 from by omega, List.take_add_one, h1, List.map_cons, List.map_nil, he]; rfl
theorem clo_eq {fz1 fz2 pa1 : List FN} {cs : List UInt8} {i : Nat} {a z : FN} (ha : pa1[i - 1]? = some a) (hz : pa1[i]? = some z) (h : fz2.map ent = (frzS (fz1.map ent) (ent z)).2) :
    clo cs i (fz1.map ent, pa1.map ent) = (fz2.map ent, (pa1.take (i - 1) ++ [(⟨a.p, a.ev, a.f, a.es ++ [(cs.getD (i - 1) 0, (frzS (fz1.map ent) (ent z)).1)]⟩ : FN)]).map ent) := by
  have e1 : (pa1.map ent).getD i dE = ent z := by rw [List.getD_eq_getElem?_getD, List.getElem?_map, hz]; rfl
  have e2 : (pa1.map ent).getD (i - 1) dE = ent a := by rw [List.getD_eq_getElem?_getD, List.getElem?_map, ha]; rfl
  simp only [clo, e1, e2, ← h, List.map_append, List.map_take]
  rfl

set_option maxHeartbeats 1000000 in
theorem cut_w (b m n K : Nat) (most st cnt : Int) (last : List UInt8) (any : Bool) (vp : Value) (fz pa : List FN) (cs : List UInt8) (w : World) (hD : DB w b m most st cnt last any vp (pa.map FN.p) fz pa cs) (hn0 : n < pa.length) (hpl : pa.length ≤ 1000) (hfl : fz.length + pa.length ≤ 137438953472) (hK : ∀ x ∈ pa, x.es.length ≤ K) (hK2 : K ≤ 68719476736) :
    Ret Try.prog 44 (List.toArray [.pointer (some ⟨b, 0, none⟩), .int .i64 n]) w (fun v w' => v = .tuple #[] ∧ ∃ vp' fz' pa', DB w' b m most st cnt last any vp' (pa'.map FN.p) fz' pa' cs ∧ pa'.length = n + 1 ∧ cutS cs n (pa.length - 1) (fz.map ent, pa.map ent) = (fz'.map ent, pa'.map ent) ∧ Md (fun k => k = b ∨ k = m ∨ ∃ x ∈ pa, k = x.p ∨ x.ev.ownBlock = some k) w w' ∧ pa'.map pe = (pa.map pe).take (n + 1) ∧ vp'.ownBlock = vp.ownBlock ∧ (∀ x ∈ pa', x.es.length ≤ K + 1) ∧ ∀ x ∈ fz', x ∈ fz ∨ ∃ y ∈ pa, pe y = pe x) := by
  obtain ⟨ap, cp, rfl⟩ := own_slice hD.path
  have hb0 : Blk w.heap b [.int .i64 most, str last, .bool any, (.slice ap (pa.map FN.p).length cp), .map (some m), .int .i64 st, .int .i64 cnt] := ⟨_, hD.blk⟩
  have hml : (pa.map FN.p).length = pa.length := List.length_map ..
  have hcap := (own_cellsS hD.path).1
  refine enter Try.func44 rfl Try.ntmps44 rfl ?_
  refine sq (fun K1 hK1 => ?_)
  refine sq (fun K2 hK2 => ?_)
  refine rg ?_
  refine p (mvt (.pointer (some ⟨b, 0, none⟩)) rfl) ?_
  refine p (nc rfl) ?_
  refine p (fa fo106_3 rfl) ?_
  refine p (ld ag103 rfl (hb0.cel 3)) ?_
  refine p (lnl u103 rfl rfl) ?_
  refine p (sbv ((pa.length - 1 : Nat) : Int) rfl rfl (w64n (by omega) (by omega))) ?_
  refine p asg ?_
  refine nl ?_
  refine tn (hK2 _ _ ?_)
  refine blk ?_
  refine lp (fun gm σ1 wL => ∃ (i : Nat) (fz1 pa1 : List FN), (n ≤ i) ∧ (i < pa.length) ∧ (pa1.length = i + 1) ∧ (cutS cs n (pa.length - 1) (fz.map ent, pa.map ent) = cutS cs n i (fz1.map ent, pa1.map ent)) ∧ (DB wL b m most st cnt last any (.slice ap (pa.map FN.p).length cp) (pa.map FN.p) fz1 pa1 cs) ∧ (Md (fun k => k = b ∨ k = m ∨ ∃ x ∈ pa, k = x.p ∨ x.ev.ownBlock = some k) w wL) ∧ (pa1.map pe = (pa.map pe).take (i + 1)) ∧ (fz1.length + i ≤ fz.length + pa.length) ∧ (∀ j x, pa1[j]? = some x → x.es.length ≤ K + 1 ∧ (j < i → x.es.length ≤ K)) ∧ (∀ x ∈ fz1, x ∈ fz ∨ ∃ y ∈ pa, pe y = pe x) ∧ (σ1 0 = .pointer (some ⟨b, 0, none⟩)) ∧ (σ1 1 = .int .i64 n) ∧ (σ1 4 = .int .i64 i) ∧ (i - n = gm)) _ ⟨pa.length - 1, fz, pa, (by omega), (by omega), (by omega), rfl, hD, (Md.refl _ _), (by rw [List.take_of_length_le (by simp; omega)]), (by omega), (fun j x hx => ⟨by have := hK x (List.mem_of_getElem? hx); omega, fun _ => hK x (List.mem_of_getElem? hx)⟩), (fun x hx => .inl hx), rfl, rfl, rfl, rfl⟩ ?_
  rintro gm σ1 wL ⟨i, fz1, pa1, hi1, hi2, hl1, hcut, hD1, hM1, hpe, hfl1, hKb, hfn, hs1_0, hs1_1, hs1_4, rfl⟩
  refine fx 0 hs1_0 (fx 1 hs1_1 (fx 4 hs1_4 ?_))
  have hb1 : Blk wL.heap b [.int .i64 most, str last, .bool any, (.slice ap (pa.map FN.p).length cp), .map (some m), .int .i64 st, .int .i64 cnt] := ⟨_, hD1.blk⟩
  refine sq (fun K3 hK3 => ?_)
  refine sq (fun K4 hK4 => ?_)
  refine rg ?_
  refine p (mvt (.int .i64 i) rfl) ?_
  refine p (mvt (.int .i64 n) rfl) ?_
  refine p (gt rfl rfl) ?_
  refine nl ?_
  refine tn (hK4 _ _ ?_)
  refine cd rfl (fun hc14 => ?_) (fun hc14 => ?_)
  · refine skp ?_
    refine tn (hK3 _ _ ?_)
    refine sq (fun K5 hK5 => ?_)
    refine blk ?_
    refine sq (fun K6 hK6 => ?_)
    obtain ⟨⟨p1, ev1, f1, es1⟩, ha⟩ : ∃ a, pa1[i - 1]? = some a := ⟨pa1[i - 1]'(by omega), List.getElem?_eq_getElem (by omega)⟩
    obtain ⟨z, hz⟩ : ∃ a, pa1[i]? = some a := ⟨pa1[i]'(by omega), List.getElem?_eq_getElem (by omega)⟩
    obtain ⟨hra, ya, hya, hyae⟩ := pe_ix hpe (by omega) ha
    obtain ⟨hrz, yz, hyz, hyze⟩ := pe_ix hpe (by omega) hz
    have hNa : NdAt wL p1 ev1 f1 (es1.map (tg fz1) ++ [(cs.getD (i - 1) 0, z.p)]) 0 := by
      have h := (hD1.hpa _ _ ha).1
      rw [opn, show i - 1 + 1 = i from by omega, hz] at h; exact h
    obtain ⟨ae, ce, rfl⟩ := own_slice hNa.row
    have hlna : (es1.map (tg fz1) ++ [(cs.getD (i - 1) 0, z.p)]).length = es1.length + 1 := by simp
    have hlnb : (es1.map (tg fz1)).length = es1.length := List.length_map ..
    have hKa := (hKb _ _ ha).1
    simp only at hKa
    have hNz : NdAt wL z.p z.ev z.f (z.es.map (tg fz1)) 0 := by
      have h := (hD1.hpa _ _ hz).1
      rw [opn, List.getElem?_eq_none (by omega), List.append_nil] at h; exact h
    have hbz := (hD1.hpa _ _ hz).2
    have hzb : z.p ≠ b := cell_ne hNz.blk hD1.blk (by decide)
    have hbm : b ≠ m := map_ne hD1.map hb1
    have hsp := hD1.sep
    rw [List.pairwise_append] at hsp
    have hsz : ∀ x ∈ fz1, x.p ≠ z.p := fun x hx => (hsp.2.2 _ (List.mem_map_of_mem hx) _ (List.mem_map_of_mem (List.mem_of_getElem? hz))).1
    have haz : p1 ≠ z.p := (apart_ix hsp.2.1 ha hz (by omega)).1
    have hpm : p1 ≠ m := map_ne hD1.map hNa.B
    have hvk : (Value.slice ap (pa.map FN.p).length cp).ownBlock = some (bk ap) := by
      have h := (own_cellsS hD1.path).2.ok (ne_map (by omega))
      rw [h]; rfl
    have hdw : Wk wL wL.drew := (Md.refl _ _).drew
    refine rg ?_
    refine p (mvt (.pointer (some ⟨b, 0, none⟩)) rfl) ?_
    refine p (nc rfl) ?_
    refine p (fa fo106_3 rfl) ?_
    refine p (ld ag103 rfl (hb1.cel 3)) ?_
    refine p (mvt (.int .i64 i) rfl) ?_
    refine p (sbv ((i - 1 : Nat) : Int) rfl rfl (w64n (by omega) (by omega))) ?_
    refine p (ia' es103 rfl rfl (by omega) (Cells.ok ((own_cellsS hD1.path).2) (ne_map (by omega)))) ?_
    refine p (ld ag99 rfl ((own_cellsS hD1.path).2.at1 (i := i - 1) (u := .pointer (some ⟨p1, 0, none⟩)) (by rw [List.getElem?_map, hra]; rfl))) ?_
    refine p asg ?_
    refine nl ?_
    refine tn (hK6 _ _ ?_)
    have hS4 : (fun w' => Blk w'.heap b [.int .i64 most, str last, .bool any, (.slice ap (pa.map FN.p).length cp), .map (some m), .int .i64 st, .int .i64 cnt] ∧ cel w'.heap (bk ap) (fo ap + i * 1) = some (.pointer (some ⟨z.p, 0, none⟩)) ∧ cel w'.heap p1 1 = some (.slice ae (es1.map (tg fz1) ++ [(cs.getD (i - 1) 0, z.p)]).length ce)) wL.drew := ⟨hb1, (own_cellsS hD1.path).2.at1 (by rw [List.getElem?_map, hrz]; rfl), hNa.B.cel 1⟩
    refine hst (fun w' => Blk w'.heap b [.int .i64 most, str last, .bool any, (.slice ap (pa.map FN.p).length cp), .map (some m), .int .i64 st, .int .i64 cnt] ∧ cel w'.heap (bk ap) (fo ap + i * 1) = some (.pointer (some ⟨z.p, 0, none⟩)) ∧ cel w'.heap p1 1 = some (.slice ae (es1.map (tg fz1) ++ [(cs.getD (i - 1) 0, z.p)]).length ce)) wide hS4 ?_
    refine hp 0 rfl (by kernel_rfl) (fun _ _ => mv) hS4 ?_
    refine hp 1 rfl (by kernel_rfl) (fun _ _ => nc rfl) hS4 ?_
    refine hp 2 rfl (by kernel_rfl) (fun _ _ => fa fo102_1 rfl) hS4 ?_
    refine hp 3 rfl (by kernel_rfl) (fun w' hS => ld ag100 rfl (hS.2.2)) hS4 ?_
    refine hp 4 rfl (by kernel_rfl) (fun _ _ => mv) hS4 ?_
    refine hp 5 rfl (by kernel_rfl) (fun _ _ => nc rfl) hS4 ?_
    refine hp 6 rfl (by kernel_rfl) (fun _ _ => fa fo102_1 rfl) hS4 ?_
    refine hp 7 rfl (by kernel_rfl) (fun w' hS => ld ag100 rfl (hS.2.2)) hS4 ?_
    refine hp 8 rfl (by kernel_rfl) (fun _ _ => lnl u100 rfl rfl) hS4 ?_
    refine hp 9 rfl (by kernel_rfl) (fun _ _ => sbv (((es1.map (tg fz1)).length : Nat) : Int) rfl rfl (w64n (by omega) (by omega))) hS4 ?_
    refine hp 10 rfl (by kernel_rfl) (fun _ _ => mvt (.pointer (some ⟨b, 0, none⟩)) rfl) hS4 ?_
    refine hp 11 rfl (by kernel_rfl) (fun _ _ => mvt (.pointer (some ⟨b, 0, none⟩)) rfl) hS4 ?_
    refine hp 12 rfl (by kernel_rfl) (fun _ _ => nc rfl) hS4 ?_
    refine hp 13 rfl (by kernel_rfl) (fun _ _ => fa fo106_3 rfl) hS4 ?_
    refine hp 14 rfl (by kernel_rfl) (fun w' hS => ld ag103 rfl (hS.1.cel 3)) hS4 ?_
    refine hp 15 rfl (by kernel_rfl) (fun _ _ => mvt (.int .i64 i) rfl) hS4 ?_
    refine hp 16 rfl (by kernel_rfl) (fun _ _ => ia' es103 rfl rfl (by omega) (Cells.ok ((own_cellsS hD1.path).2) (ne_map (by omega)))) hS4 ?_
    refine hp 17 rfl (by kernel_rfl) (fun w' hS => ld ag99 rfl (hS.2.1)) hS4 ?_
    refine he 18 rfl (by kernel_rfl) (cl c45 (freeze2_w b m 0 [.int .i64 most, str last, .bool any, (.slice ap (pa.map FN.p).length cp), .map (some m), .int .i64 st, .int .i64 cnt] z fz1 wL.drew hb1 rfl hD1.map (fz_wk hD1.hfz hdw) hD1.nd (hNz.md hdw (fun x => x) (fun _ _ x => x)) hbz (by omega) (by have := (hKb _ _ hz).1; omega) hzb hsz) rfl fun v43 w43 hR43 => ?_)
    obtain ⟨fz2, q, rfl, hc2, hen2, hi21, hi22, hq2, hM2, hm2, hf2, hnd2⟩ := hR43
    have hMs : Md (fun k => k = z.p ∨ k = m) wL w43 := Md.trans (Md.refl _ _).drew hM2
    have hro2 := own_md hNa.row hMs (fun k hk h => by
      rcases h with h | h
      · exact row_node hNa hNz (h ▸ hk)
      · exact own_mapne hNa.row hD1.map (h ▸ hk))
    have hS4_18 : (fun w' => Blk w'.heap b [.int .i64 most, str last, .bool any, (.slice ap (pa.map FN.p).length cp), .map (some m), .int .i64 st, .int .i64 cnt] ∧ cel w'.heap (bk ap) (fo ap + i * 1) = some (.pointer (some ⟨z.p, 0, none⟩)) ∧ cel w'.heap p1 1 = some (.slice ae (es1.map (tg fz1) ++ [(cs.getD (i - 1) 0, z.p)]).length ce)) w43 := ⟨hM2.B hS4.1 (fun h => by
        rcases h with h | h
        · exact hzb h.symm
        · exact hbm h), hM2.cel hS4.2.1 (fun h => by
        rcases h with h | h
        · exact own_cellne hD1.path hNz.blk (by decide) (h ▸ hvk)
        · exact own_mapne hD1.path hD1.map (h ▸ hvk)), hM2.cel hS4.2.2 (fun h => by
        rcases h with h | h
        · exact haz h
        · exact hpm h)⟩
    refine ⟨hS4_18, ?_⟩
    refine hp 19 rfl (by kernel_rfl) (fun _ _ => ia' es100 rfl rfl (by omega) (Cells.ok ((own_cellsS hNa.row).2) (nflat_ne (by omega)))) hS4_18 ?_
    refine hp 20 rfl (by kernel_rfl) (fun _ _ => fa fo118_1 rfl) hS4_18 ?_
    refine he 21 rfl (by kernel_rfl) (sto (u := .pointer (some ⟨q, 0, none⟩)) (j := (es1.map (tg fz1)).length * 2 + 1) hro2 cz99 rfl rfl rfl rfl (by omega) fun w9 hM9 ho9 => ?_)
    have ho9' : World.ownsRow w9 0 118 2 (.slice ae (es1.map (tg fz1) ++ [(cs.getD (i - 1) 0, z.p)]).length ce) (es1.length + 1) (nflat (es1.map (tg fz1) ++ [(cs.getD (i - 1) 0, q)])) := by
      rw [nflat_set] at ho9
      rw [show es1.length + 1 = (es1.map (tg fz1) ++ [(cs.getD (i - 1) 0, z.p)]).length from hlna.symm]; exact ho9
    have hD3 := cut_step (a := ⟨p1, .slice ae (es1.map (tg fz1) ++ [(cs.getD (i - 1) 0, z.p)]).length ce, f1, es1⟩) hD1 hl1 (by omega) ha hz hc2 hi21 hi22 hq2 hMs hm2 hf2 hnd2 hM9 ho9'
    have hM3 : Md (fun k => k = b ∨ k = m ∨ ∃ x ∈ pa, k = x.p ∨ x.ev.ownBlock = some k) w w9 := Md.trans' (Md.trans' hM1 hMs (fun k _ h => by
      rcases h with h | h
      · exact .inr (.inr ⟨yz, List.mem_of_getElem? hyz, .inl (h.trans (congrArg Prod.fst hyze).symm)⟩)
      · exact .inr (.inl h))) hM9 (fun k _ h => .inr (.inr ⟨ya, List.mem_of_getElem? hya, .inr ((congrArg (fun q : Nat × Value => q.2.ownBlock) hyae).trans h)⟩))
    have hcut3 := hcut.trans ((cutS_step (by omega)).trans (congrArg (cutS cs n (i - 1)) (clo_eq (cs := cs) ha hz hen2)))
    have hpe3 := pe_step (a' := ⟨p1, .slice ae (es1.map (tg fz1) ++ [(cs.getD (i - 1) 0, z.p)]).length ce, f1, es1 ++ [(cs.getD (i - 1) 0, (frzS (fz1.map ent) (ent z)).1)]⟩) hpe (by omega) ha rfl
    have hfl3 : fz2.length + (i - 1) ≤ fz.length + pa.length := by
      rcases hc2 with h | h
      · rw [h]; omega
      · rw [h, List.length_append, List.length_singleton]; omega
    have hfn3 : ∀ x ∈ fz2, x ∈ fz ∨ ∃ y ∈ pa, pe y = pe x := fun x hx => by
      rcases hc2 with h | h
      · rw [h] at hx; exact hfn x hx
      · rw [h] at hx
        rcases List.mem_append.1 hx with hx | hx
        · exact hfn x hx
        · simp only [List.mem_singleton] at hx; subst hx; exact .inr ⟨yz, List.mem_of_getElem? hyz, hyze⟩
    have hK3 : ∀ j x, (pa1.take (i - 1) ++ [⟨p1, .slice ae (es1.map (tg fz1) ++ [(cs.getD (i - 1) 0, z.p)]).length ce, f1, es1 ++ [(cs.getD (i - 1) 0, (frzS (fz1.map ent) (ent z)).1)]⟩])[j]? = some x → x.es.length ≤ K + 1 ∧ (j < i - 1 → x.es.length ≤ K) := by
      intro j x hx
      have htl : (pa1.take (i - 1)).length = i - 1 := by rw [List.length_take]; omega
      by_cases hj : j < i - 1
      · rw [List.getElem?_append_left (by omega), List.getElem?_take, if_pos hj] at hx
        have := (hKb j x hx).2 (by omega)
        exact ⟨by omega, fun _ => this⟩
      · rw [List.getElem?_append_right (by omega), htl] at hx
        by_cases hj0 : j - (i - 1) = 0
        · rw [hj0] at hx
          simp only [List.getElem?_cons_zero, Option.some.injEq] at hx
          subst hx
          have := (hKb _ _ ha).2 (by omega)
          simp only [List.length_append, List.length_singleton] at *
          exact ⟨by omega, fun h => absurd h hj⟩
        · rw [List.getElem?_eq_none (by simp; omega)] at hx; cases hx
    have hS4_21 : (fun w' => Blk w'.heap b [.int .i64 most, str last, .bool any, (.slice ap (pa.map FN.p).length cp), .map (some m), .int .i64 st, .int .i64 cnt] ∧ cel w'.heap (bk ap) (fo ap + i * 1) = some (.pointer (some ⟨z.p, 0, none⟩)) ∧ cel w'.heap p1 1 = some (.slice ae (es1.map (tg fz1) ++ [(cs.getD (i - 1) 0, z.p)]).length ce)) w9 := ⟨hM9.B hS4_18.1 (own_cellne hNa.row hD1.blk (by decide)), hM9.cel hS4_18.2.1 (fun h => own_ne hD1.path hNa.row (by decide) hvk h), hM9.cel hS4_18.2.2 (row_node hNa hNa)⟩
    refine ⟨hS4_21, ?_⟩
    refine hn (by kernel_rfl) ?_
    refine bn ?_
    refine tn (hK5 _ _ ?_)
    refine rg ?_
    refine p (mvt (.int .i64 i) rfl) ?_
    refine p (sbv ((i - 1 : Nat) : Int) rfl rfl (w64n (by omega) (by omega))) ?_
    refine p asg ?_
    refine nl ?_
    refine tn ?_
    exact ⟨_, by omega, i - 1, fz2, pa1.take (i - 1) ++ [⟨p1, .slice ae (es1.map (tg fz1) ++ [(cs.getD (i - 1) 0, z.p)]).length ce, f1, es1 ++ [(cs.getD (i - 1) 0, (frzS (fz1.map ent) (ent z)).1)]⟩], (by omega), (by omega), (by rw [List.length_append, List.length_take, List.length_singleton]; omega), hcut3, hD3, hM3, hpe3, hfl3, hK3, hfn3, rfl, rfl, rfl, rfl⟩
  · refine ext ?_
    refine te _ ?_
    refine te _ ?_
    refine be ?_
    refine tn (hK1 _ _ ?_)
    obtain rfl : i = n := by omega
    refine rg ?_
    refine p (mvt (.pointer (some ⟨b, 0, none⟩)) rfl) ?_
    refine p (mvt (.pointer (some ⟨b, 0, none⟩)) rfl) ?_
    refine p (nc rfl) ?_
    refine p (fa fo106_3 rfl) ?_
    refine p (ld ag103 rfl (hb1.cel 3)) ?_
    refine p (mvt (.int .i64 i) rfl) ?_
    refine p (adv ((i + 1 : Nat) : Int) rfl rfl (w64n (by omega) (by omega))) ?_
    refine p (sllh es103 rfl rfl (by omega)) ?_
    refine p (nc rfl) ?_
    refine p (fa fo106_3 rfl) ?_
    refine e (stT cz103 rfl rfl rfl hD1.blk (by simp) fun w5 hM5 hB5 => ?_)
    refine nl ?_
    refine f0 rfl ?_
    have hrow : World.ownsRow w5 0 99 1 (.slice ap (i + 1) cp) (pa1.map FN.p).length ((pa1.map FN.p).map (fun p : Nat => Value.pointer (some ⟨p, 0, none⟩))) := by
      have e : pa1.map FN.p = (pa.map FN.p).take (i + 1) := by
        have h := congrArg (List.map Prod.fst) hpe
        rw [List.map_take, List.map_map, List.map_map] at h; exact h
      have h := own_take (own_md hD1.path hM5 (fun k hk h => own_cellne hD1.path hD1.blk (by decide) (h ▸ hk))) (k := i + 1) (by omega) (by omega)
      rw [Nat.mul_one, ← List.map_take, ← e] at h
      rw [show (pa1.map FN.p).length = i + 1 from by rw [List.length_map]; exact hl1]; exact h
    refine ⟨rfl, .slice ap (i + 1) cp, fz1, pa1, hD1.upd hM5 hB5 hrow, hl1, hcut.trans (cutS_done (Nat.le_refl _)), Md.trans' hM1 hM5 (fun k _ h => .inl h), hpe, by cases ap <;> rfl, fun x hx => ?_, hfn⟩
    obtain ⟨j, hj, rfl⟩ := List.mem_iff_getElem.1 hx
    exact (hKb j _ (List.getElem?_eq_getElem hj)).1
end Go.Hb.Cut
