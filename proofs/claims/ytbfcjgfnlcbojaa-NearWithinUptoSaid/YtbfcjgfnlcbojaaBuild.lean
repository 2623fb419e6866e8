/-
  Walks of package dawg: a builder made, asked, fed. No conditions but those that each theorem names.
-/
import Derived.Test.YtbfcjgfnlcbojaaChecked
import Derived.Test.YtbfcjgfnlcbojaaCore
import Derived.Test.YtbfcjgfnlcbojaaWords
import Derived.Test.YtbfcjgfnlcbojaaRef18
import Derived.Test.YtbfcjgfnlcbojaaVisit
import Derived.Test.YtbfcjgfnlcbojaaReg
import Derived.Test.YtbfcjgfnlcbojaaCut
import Derived.Test.YtbfcjgfnlcbojaaPlan
set_option maxRecDepth 20000
set_option linter.unusedVariables false
namespace Go.Hb.Build
open Go.Proofs
open Go.Hb.Words Go.Hb.Ref18 Go.Hb.Visit Go.Hb.Reg Go.Hb.Cut
theorem ag36 : aggN Try.prog 36 = some none := by kernel_rfl
theorem fo106_5 : fieldOff Try.prog 106 5 = some 5 := by kernel_rfl
theorem so103 : sliceOk Try.prog 103 99 1 8 = true := by kernel_rfl
theorem st102 : structOk Try.prog 102 = some ([(0, 1), (1, 1), (2, 1)], [.bool false, .slice none 0 0, .int .i64 0]) := by kernel_rfl
theorem st106 : structOk Try.prog 106 = some ([(0, 1), (1, 1), (2, 1), (3, 1), (4, 1), (5, 1), (6, 1)], [.int .i64 0, .string ⟨⟨[]⟩⟩, .bool false, .slice none 0 0, .map none, .int .i64 0, .int .i64 0]) := by kernel_rfl
theorem u84 : Try.prog.underlying 84 = some (.pointer 106) := by kernel_rfl

theorem db_cs {w : World} {b m : Nat} {most st cnt : Int} {last : List UInt8} {any : Bool} {vp : Value} {row : List Nat} {fz pa : List FN} {cs cs' : List UInt8} (hD : DB w b m most st cnt last any vp row fz pa cs) (h : ∀ i, i + 1 < pa.length → cs.getD i 0 = cs'.getD i 0) : DB w b m most st cnt last any vp row fz pa cs' := by
  refine ⟨hD.blk, hD.map, hD.path, hD.hfz, hD.nd, fun i x hx => ?_, hD.sep⟩
  have ho : opn cs' pa i = opn cs pa i := by
    unfold opn
    cases hp : pa[i + 1]? with
    | none => rfl
    | some y => simp only; rw [h i (List.getElem?_eq_some_iff.1 hp).1]
  rw [ho]; exact hD.hpa i x hx
/-- the last state of the path turns: its final mark, its edges' block; perhaps a state behind it -/
theorem db_last {w w' : World} {b m : Nat} {most st cnt : Int} {last : List UInt8} {any : Bool} {vp : Value} {row : List Nat} {fz B : List FN} {cs : List UInt8} {z : FN} {f' : Bool} (hD : DB w b m most st cnt last any vp row fz (B ++ [z]) cs)
    (hM : Md (fun k => k = z.p) w w') (hz : w'.heap[z.p]? = some (.cells [.bool f', z.ev, .int .i64 (0 : Nat)].toArray 102 (0, 0))) :
    DB w' b m most st cnt last any vp row fz (B ++ [⟨z.p, z.ev, f', z.es⟩]) cs := by
  have hzi : (B ++ [z])[B.length]? = some z := by rw [List.getElem?_append_right (Nat.le_refl _), Nat.sub_self]; rfl
  obtain ⟨hNz, hbz⟩ := hD.hpa _ _ hzi
  have hsp := hD.sep
  rw [List.pairwise_append] at hsp
  have hpath : ∀ k, vp.ownBlock = some k → ¬ k = z.p := fun k hk h => own_cellne hD.path hNz.blk (by decide) (h ▸ hk)
  have hrow : ∀ (x : FN) (es : List (UInt8 × Nat)) (id : Nat), NdAt w x.p x.ev x.f es id → ∀ k, x.ev.ownBlock = some k → ¬ k = z.p := fun x es id h k hk hkz => row_node h hNz (hkz ▸ hk)
  have hop : ∀ i, opn cs (B ++ [⟨z.p, z.ev, f', z.es⟩]) i = opn cs (B ++ [z]) i := by
    intro i
    unfold opn
    by_cases hi : i + 1 < B.length
    · rw [List.getElem?_append_left hi, List.getElem?_append_left hi]
    · rw [List.getElem?_append_right (by omega), List.getElem?_append_right (by omega)]
      cases i + 1 - B.length with
      | zero => rfl
      | succ n => rfl
  refine ⟨hM.blk hD.blk (fun h => cell_ne hNz.blk hD.blk (by decide) h.symm), hD.map.md hM (fun h => map_ne hD.map hNz.B h.symm), own_md hD.path hM hpath, fun j x hx => ?_, hD.nd, fun i x hx => ?_, ?_⟩
  · obtain ⟨h1, h2⟩ := hD.hfz j x hx
    exact ⟨h1.md hM (hsp.2.2 _ (List.mem_map_of_mem (List.mem_of_getElem? hx)) _ (List.mem_map_of_mem (List.mem_of_getElem? hzi))).1 (hrow x _ _ h1), h2⟩
  · rw [hop]
    by_cases hi : i < B.length
    · rw [List.getElem?_append_left hi] at hx
      have hx' : (B ++ [z])[i]? = some x := by rw [List.getElem?_append_left hi]; exact hx
      obtain ⟨h1, h2⟩ := hD.hpa i x hx'
      exact ⟨h1.md hM (apart_ix hsp.2.1 hx' hzi (by omega)).1 (hrow x _ _ h1), h2⟩
    · rw [List.getElem?_append_right (by omega)] at hx
      by_cases h0 : i - B.length = 0
      · rw [h0] at hx
        simp only [List.getElem?_cons_zero, Option.some.injEq] at hx
        subst hx
        obtain rfl : i = B.length := by omega
        exact ⟨⟨hz, own_md hNz.row hM (hrow z _ _ hNz)⟩, hbz⟩
      · rw [List.getElem?_eq_none (by simp; omega)] at hx; cases hx
  · have := hD.sep
    rw [List.map_append] at this ⊢
    exact this
/-- a state more at the path's end -/
theorem db_push {w w' : World} {b m q : Nat} {most st cnt : Int} {last : List UInt8} {any : Bool} {vp vp2 v2 : Value} {row : List Nat} {fz B : List FN} {cs : List UInt8} {a : FN} (hD : DB w b m most st cnt last any vp row fz (B ++ [a]) cs)
    (hM : Md (fun k => a.ev.ownBlock = some k ∨ k = a.p ∨ vp.ownBlock = some k ∨ k = b) w w') (hB : w'.heap[b]? = some (.cells [.int .i64 most, str last, .bool any, vp2, .map (some m), .int .i64 st, .int .i64 cnt].toArray 106 (0, 0))) (hN : w'.heap[a.p]? = some (.cells [.bool a.f, v2, .int .i64 (0 : Nat)].toArray 102 (0, 0)))
    (hv2 : w'.ownsRow 0 118 2 v2 (a.es.length + 1) (nflat (a.es.map (tg fz) ++ [(cs.getD B.length 0, q)]))) (hq : w'.heap[q]? = some (.cells [.bool false, .slice none 0 0, .int .i64 (0 : Nat)].toArray 102 (0, 0))) (hq2 : w.heap.size ≤ q)
    (hf2 : ∀ k, v2.ownBlock = some k → a.ev.ownBlock = some k ∨ w.heap.size ≤ k) (hp2 : w'.ownsRow 0 99 1 vp2 (row ++ [q]).length ((row ++ [q]).map (fun p : Nat => Value.pointer (some ⟨p, 0, none⟩)))) :
    DB w' b m most st cnt last any vp2 (row ++ [q]) fz (B ++ [⟨a.p, v2, a.f, a.es⟩] ++ [⟨q, .slice none 0 0, false, []⟩]) cs := by
  have hai : (B ++ [a])[B.length]? = some a := by rw [List.getElem?_append_right (Nat.le_refl _), Nat.sub_self]; rfl
  obtain ⟨hNa, hba⟩ := hD.hpa _ _ hai
  have hsp := hD.sep
  rw [List.pairwise_append] at hsp
  have keep : ∀ (x : FN) (es : List (UInt8 × Nat)) (id : Nat), NdAt w x.p x.ev x.f es id → apartP (pe x) (pe a) → NdAt w' x.p x.ev x.f es id := fun x es id h hap => h.md hM
    (fun hk => by
      rcases hk with hk | hk | hk | hk
      · exact row_node hNa h hk
      · exact hap.1 hk
      · exact own_cellne hD.path h.blk (by decide) hk
      · exact cell_ne h.blk hD.blk (by decide) hk)
    (fun k hk hk2 => by
      rcases hk2 with h2 | h2 | h2 | h2
      · exact hap.2 k hk h2
      · exact row_node h hNa (h2 ▸ hk)
      · exact own_ne h.row hD.path (by decide) hk h2
      · exact own_cellne h.row hD.blk (by decide) (h2 ▸ hk))
  have hlt : ∀ (x : FN) (es : List (UInt8 × Nat)) (id : Nat), NdAt w x.p x.ev x.f es id → x.p < w.heap.size ∧ ∀ k, x.ev.ownBlock = some k → k < w.heap.size := fun x es id h => ⟨h.B.lt, fun k hk => (own_lt h.row hk).2⟩
  refine ⟨hB, hD.map.md hM (fun hk => ?_), hp2, fun j x hx => ?_, hD.nd, fun j x hx => ?_, ?_⟩
  · rcases hk with hk | hk | hk | hk
    · exact row_map hNa hD.map hk
    · exact map_ne hD.map hNa.B hk.symm
    · exact own_mapne hD.path hD.map hk
    · exact map_ne hD.map ⟨_, hD.blk⟩ hk.symm
  · obtain ⟨h1, h2⟩ := hD.hfz j x hx
    exact ⟨keep x _ _ h1 (hsp.2.2 _ (List.mem_map_of_mem (List.mem_of_getElem? hx)) _ (List.mem_map_of_mem (List.mem_of_getElem? hai))), h2⟩
  · by_cases hj : j < B.length
    · rw [List.append_assoc, List.getElem?_append_left hj] at hx
      have hx' : (B ++ [a])[j]? = some x := by rw [List.getElem?_append_left hj]; exact hx
      obtain ⟨h1, h2⟩ := hD.hpa j x hx'
      have ho : opn cs (B ++ [⟨a.p, v2, a.f, a.es⟩] ++ [⟨q, .slice none 0 0, false, []⟩]) j = opn cs (B ++ [a]) j := by
        unfold opn
        by_cases hj2 : j + 1 < B.length
        · rw [List.append_assoc, List.getElem?_append_left hj2, List.getElem?_append_left hj2]
        · have hBl : B.length = j + 1 := by omega
          have e1 : (B ++ [(⟨a.p, v2, a.f, a.es⟩ : FN)] ++ [⟨q, .slice none 0 0, false, []⟩])[j + 1]? = some ⟨a.p, v2, a.f, a.es⟩ := by
            rw [← hBl, List.append_assoc, List.getElem?_append_right (Nat.le_refl _), Nat.sub_self]; rfl
          have e2 : (B ++ [a])[j + 1]? = some a := by rw [← hBl]; exact hai
          rw [e1, e2]
      rw [ho]
      exact ⟨keep x _ _ h1 (apart_ix hsp.2.1 hx' hai (by omega)), h2⟩
    · rw [List.append_assoc, List.getElem?_append_right (by omega)] at hx
      by_cases h0 : j - B.length = 0
      · rw [h0] at hx
        simp only [List.cons_append, List.nil_append, List.getElem?_cons_zero, Option.some.injEq] at hx
        subst hx
        obtain rfl : j = B.length := by omega
        have ho : opn cs (B ++ [⟨a.p, v2, a.f, a.es⟩] ++ [⟨q, .slice none 0 0, false, []⟩]) B.length = [(cs.getD B.length 0, q)] := by
          unfold opn
          rw [List.append_assoc, List.getElem?_append_right (by omega), show B.length + 1 - B.length = 1 from by omega]
          rfl
        rw [ho]
        refine ⟨⟨hN, ?_⟩, hba⟩
        rw [List.length_append, List.length_map]; exact hv2
      · by_cases h1 : j - B.length = 1
        · rw [h1] at hx
          simp only [List.cons_append, List.nil_append, List.getElem?_cons_succ, List.getElem?_cons_zero, Option.some.injEq] at hx
          subst hx
          have ho : opn cs (B ++ [⟨a.p, v2, a.f, a.es⟩] ++ [⟨q, .slice none 0 0, false, []⟩]) j = [] := by
            unfold opn
            rw [List.getElem?_eq_none (by simp; omega)]
          rw [ho]
          exact ⟨⟨hq, World.ownsRow_nil _ _ _ _⟩, fun y hy => by simp at hy⟩
        · rw [List.getElem?_eq_none (by simp; omega)] at hx; cases hx
  · have hold := hD.sep
    rw [List.map_append, List.map_cons, List.map_nil, ← List.append_assoc] at hold
    rw [List.pairwise_append] at hold
    obtain ⟨hA, _, hAa⟩ := hold
    have hAlt : ∀ y ∈ fz.map pe ++ B.map pe, y.1 < w.heap.size ∧ ∀ k, y.2.ownBlock = some k → k < w.heap.size := by
      intro y hy
      rcases List.mem_append.1 hy with hy | hy
      · obtain ⟨x, hx, rfl⟩ := List.mem_map.1 hy
        obtain ⟨j, hj, rfl⟩ := List.mem_iff_getElem.1 hx
        exact hlt _ _ _ (hD.hfz j _ (List.getElem?_eq_getElem hj)).1
      · obtain ⟨x, hx, rfl⟩ := List.mem_map.1 hy
        obtain ⟨j, hj, rfl⟩ := List.mem_iff_getElem.1 hx
        exact hlt _ _ _ (hD.hpa j _ (by rw [List.getElem?_append_left hj]; exact List.getElem?_eq_getElem hj)).1
    have hal := hlt _ _ _ hNa
    simp only [List.map_append, List.map_cons, List.map_nil]
    rw [← List.append_assoc, ← List.append_assoc, List.pairwise_append, List.pairwise_append]
    refine ⟨⟨hA, by simp, fun y hy y2 hy2 => ?_⟩, by simp, fun y hy y2 hy2 => ?_⟩
    · simp only [List.mem_singleton] at hy2; subst hy2
      refine ⟨(hAa y hy (pe a) (by simp)).1, fun k hk hk2 => ?_⟩
      rcases hf2 k hk2 with h | h
      · exact (hAa y hy (pe a) (by simp)).2 k hk h
      · have := (hAlt y hy).2 k hk; omega
    · simp only [List.mem_singleton] at hy2; subst hy2
      refine ⟨?_, fun k hk hk2 => by simp [pe, Value.ownBlock] at hk2⟩
      rcases List.mem_append.1 hy with hy | hy
      · have := (hAlt y hy).1; show y.1 ≠ q; omega
      · simp only [List.mem_singleton] at hy; subst hy
        show a.p ≠ q; omega

theorem fresh_w (most : Int) (w : World) :
    Ret Try.prog 32 (List.toArray [.int .i64 most]) w (fun v w' => ∃ b m vp pp, v = .pointer (some ⟨b, 0, none⟩) ∧ DB w' b m most 0 0 [] false vp [pp] [] [⟨pp, .slice none 0 0, false, []⟩] [] ∧ Wk w w' ∧ w.heap.size ≤ b ∧ w.heap.size ≤ m ∧ w.heap.size ≤ pp ∧ ∀ k, vp.ownBlock = some k → w.heap.size ≤ k) := by
  refine enter Try.func32 rfl Try.ntmps32 rfl ?_
  refine sq (fun K1 hK1 => ?_)
  refine rg ?_
  refine p asg ?_
  refine nl ?_
  refine tn (hK1 _ _ ?_)
  refine sq (fun K2 hK2 => ?_)
  refine rg ?_
  refine p (mvt (.int .i64 most) rfl) ?_
  refine p (bld (ps := []) (L := [.bool false, .slice none 0 0, .int .i64 0]) st102 rfl (rfl)) ?_
  refine e (bxaT rfl fun b5 w5 hb5 hN5 hB5 => ?_)
  refine e (bs1o so103 rfl rfl fun b6 w6 hb6 hN6 hB6 => ?_)
  refine e (mkm fun b7 w7 hb7 hN7 hB7 => ?_)
  refine p (bld (ps := [(0, .int .i64 most), (3, .slice (some ⟨b6, 0, none⟩) 1 1), (4, .map (some b7))]) (L := [.int .i64 most, .string ⟨⟨[]⟩⟩, .bool false, .slice (some ⟨b6, 0, none⟩) 1 1, .map (some b7), .int .i64 0, .int .i64 0]) st106 rfl (rfl)) ?_
  refine e (bxaT rfl fun b9 w9 hb9 hN9 hB9 => ?_)
  refine p asg ?_
  refine nl ?_
  refine tn (hK2 _ _ ?_)
  refine rt ?_
  refine f1 rfl rfl ?_
  have h1 := hN5.size
  have h2 := hN6.size
  have h3 := hN7.size
  have hE7 : Wk w5 w7 := Md.trans hN6.md hN7.md
  have hE9 : Wk w5 w9 := Md.trans hE7 hN9.md
  refine ⟨b9, b7, _, b5, rfl, ⟨hB9, ⟨_, _, Wk.blk hN9.md hB7, rfl⟩, own_nw (own_nw (hB6 0 (by omega)) hN7.md) hN9.md, fun j x hx => by simp at hx, List.nodup_nil, ?_, by simp⟩, Md.trans hN5.md hE9, by omega, by omega, by omega, ?_⟩
  · intro i x hx
    cases i with
    | zero =>
      simp only [List.getElem?_cons_zero, Option.some.injEq] at hx; subst hx
      exact ⟨⟨Wk.blk hE9 hB5, World.ownsRow_nil _ _ _ _⟩, fun q hq => by simp at hq⟩
    | succ i => simp at hx
  · intro k hk
    simp only [Value.ownBlock, Option.some.injEq] at hk; omega
theorem ready_nil (w : World) :
    Ret Try.prog 42 (List.toArray [.pointer none]) w (fun v w' => v = .int .i64 1 ∧ w' = w) := by
  refine enter Try.func42 rfl Try.ntmps42 rfl ?_
  refine sq (fun K1 hK1 => ?_)
  refine rg ?_
  refine p asg ?_
  refine nl ?_
  refine tn (hK1 _ _ ?_)
  refine sq (fun K2 hK2 => ?_)
  refine sq (fun K3 hK3 => ?_)
  refine rg ?_
  refine p (mvt (.pointer none) rfl) ?_
  refine p (eqpn u84 rfl rfl) ?_
  refine nl ?_
  refine tn (hK3 _ _ ?_)
  refine cb rfl (fun hc4 => ?_) (fun hc4 => ?_)
  · refine sq (fun K4 hK4 => ?_)
    refine rg ?_
    refine p asg ?_
    refine nl ?_
    refine tn (hK4 _ _ ?_)
    refine rt ?_
    refine tr ?_
    refine f1 rfl rfl ?_
    exact ⟨rfl, rfl⟩
  · simp at hc4
theorem ready_w (b : Nat) (st : Int) (w : World) (hb : cel w.heap b 5 = some (.int .i64 st)) :
    Ret Try.prog 42 (List.toArray [.pointer (some ⟨b, 0, none⟩)]) w (fun v w' => v = .int .i64 st ∧ w' = w) := by
  refine enter Try.func42 rfl Try.ntmps42 rfl ?_
  refine sq (fun K1 hK1 => ?_)
  refine rg ?_
  refine p asg ?_
  refine nl ?_
  refine tn (hK1 _ _ ?_)
  refine sq (fun K2 hK2 => ?_)
  refine sq (fun K3 hK3 => ?_)
  refine rg ?_
  refine p (mvt (.pointer (some ⟨b, 0, none⟩)) rfl) ?_
  refine p (eqpn u84 rfl rfl) ?_
  refine nl ?_
  refine tn (hK3 _ _ ?_)
  refine cb rfl (fun hc4 => ?_) (fun hc4 => ?_)
  · simp at hc4
  · refine skp ?_
    refine tn (hK2 _ _ ?_)
    refine sq (fun K4 hK4 => ?_)
    refine rg ?_
    refine p (mvt (.pointer (some ⟨b, 0, none⟩)) rfl) ?_
    refine p (nc rfl) ?_
    refine p (fa fo106_5 rfl) ?_
    refine p (ld ag36 rfl (hb)) ?_
    refine p asg ?_
    refine nl ?_
    refine tn (hK4 _ _ ?_)
    refine rt ?_
    refine f1 rfl rfl ?_
    exact ⟨rfl, rfl⟩
end Go.Hb.Build
