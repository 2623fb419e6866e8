/-
  Walks of package dawg: the automaton finished, and built at once. No conditions but those that each theorem names.
-/
import Derived.Test.YtbfcjgfnlcbojaaChecked
import Derived.Test.YtbfcjgfnlcbojaaCore
import Derived.Test.YtbfcjgfnlcbojaaWords
import Derived.Test.YtbfcjgfnlcbojaaRecord
import Derived.Test.YtbfcjgfnlcbojaaBuilder
import Derived.Test.YtbfcjgfnlcbojaaRef18
import Derived.Test.YtbfcjgfnlcbojaaVisit
import Derived.Test.YtbfcjgfnlcbojaaReg
import Derived.Test.YtbfcjgfnlcbojaaCut
import Derived.Test.YtbfcjgfnlcbojaaBuild
import Derived.Test.YtbfcjgfnlcbojaaAdd
import Derived.Test.YtbfcjgfnlcbojaaAdds
import Derived.Test.YtbfcjgfnlcbojaaNumb
import Derived.Test.YtbfcjgfnlcbojaaAsked
import Derived.Test.YtbfcjgfnlcbojaaPlan
set_option maxRecDepth 20000
set_option linter.unusedVariables false
namespace Go.Hb.Fin
open Go.Proofs
open Go.Hb.Words Go.Hb.Record Go.Hb.Builder Go.Hb.Ref18 Go.Hb.Visit Go.Hb.Reg Go.Hb.Cut Go.Hb.Build Go.Hb.Add Go.Hb.Adds Go.Hb.Numb Go.Hb.Asked
theorem ag3 : aggN Try.prog 3 = some none := by kernel_rfl
theorem ag32 : aggN Try.prog 32 = some none := by kernel_rfl
theorem ag99 : aggN Try.prog 99 = some none := by kernel_rfl
theorem ag103 : aggN Try.prog 103 = some none := by kernel_rfl
theorem ag104 : aggN Try.prog 104 = some none := by kernel_rfl
theorem ag133 : aggN Try.prog 133 = some none := by kernel_rfl
theorem c32 : Callable Try.prog 32 := callable Try.func32 (by kernel_rfl) (by kernel_rfl)
theorem c33 : Callable Try.prog 33 := callable Try.func33 (by kernel_rfl) (by kernel_rfl)
theorem c34 : Callable Try.prog 34 := callable Try.func34 (by kernel_rfl) (by kernel_rfl)
theorem c42 : Callable Try.prog 42 := callable Try.func42 (by kernel_rfl) (by kernel_rfl)
theorem c44 : Callable Try.prog 44 := callable Try.func44 (by kernel_rfl) (by kernel_rfl)
theorem c45 : Callable Try.prog 45 := callable Try.func45 (by kernel_rfl) (by kernel_rfl)
theorem c46 : Callable Try.prog 46 := callable Try.func46 (by kernel_rfl) (by kernel_rfl)
theorem c57 : Callable Try.prog 57 := callable Try.func57 (by kernel_rfl) (by kernel_rfl)
theorem cz3 : cellsN Try.prog 3 = some 1 := by kernel_rfl
theorem cz36 : cellsN Try.prog 36 = some 1 := by kernel_rfl
theorem cz132 : cellsN Try.prog 132 = some 1 := by kernel_rfl
theorem cz133 : cellsN Try.prog 133 = some 1 := by kernel_rfl
theorem es103 : elemSize Try.prog 103 = some 1 := by kernel_rfl
theorem fo106_0 : fieldOff Try.prog 106 0 = some 0 := by kernel_rfl
theorem fo106_3 : fieldOff Try.prog 106 3 = some 3 := by kernel_rfl
theorem fo106_4 : fieldOff Try.prog 106 4 = some 4 := by kernel_rfl
theorem fo106_5 : fieldOff Try.prog 106 5 = some 5 := by kernel_rfl
theorem fo106_6 : fieldOff Try.prog 106 6 = some 6 := by kernel_rfl
theorem u104 : Try.prog.underlying 104 = some (.map 131 99) := by kernel_rfl
theorem wide : Try.prog.follows .mixedOrders = true := by kernel_rfl
theorem zs32 : zeroOf Try.prog 32 = some (some [.slice none 0 0]) := by kernel_rfl
theorem zs132 : zeroOf Try.prog 132 = some (some [.map none]) := by kernel_rfl
theorem zs133 : zeroOf Try.prog 133 = some (some [.nilFunc]) := by kernel_rfl

/-- an automaton as it is answered: new memory, its states' edges apart -/
def Aut (w : World) (B : Nat) (v : Value) (sts : List Ent) : Prop := ∃ svs, w.ownsRow B 76 2 v svs.length (sflat svs) ∧ StsT 81 w B sts svs ∧ sepV svs
theorem fin_len {x : AB} (h : GoodX x) : (finS x).2.length ≤ x.s.1.length + 256 := by
  have h1 := (cutS_len (cs := x.last) (n := 0) x.last.length x.s h.len (Nat.zero_le _)).2
  have h2 := h.l255
  have h3 : ∀ (e : List Ent) (z : Ent), (frzS e z).2.length ≤ e.length + 1 := fun e z => by unfold frzS; split <;> simp
  have h4 := h3 (cutS x.last 0 x.last.length x.s).1 ((cutS x.last 0 x.last.length x.s).2.getD 0 dE)
  show (frzS (cutS x.last 0 x.last.length x.s).1 ((cutS x.last 0 x.last.length x.s).2.getD 0 dE)).2.length ≤ _
  omega
theorem fin_good {x : AB} (h : GoodX x) : ∀ z ∈ (finS x).2, z.2.length ≤ 256 := by
  intro z hz
  have hc := cutS_good (n := 0) x.last.length x.s h.g h.len (Nat.zero_le _)
  have hl := (cutS_len (cs := x.last) (n := 0) x.last.length x.s h.len (Nat.zero_le _)).1
  rcases frzS_mem hz with hz | rfl
  · exact ris_len (hc.re z hz)
  · exact ris_len (hc.rp 0 _ (by rw [getD_get dE (by omega), List.getElem?_eq_getElem (by omega)])).1

theorem number_w (rid : Nat) (x : FN) (fz : List FN) (w : World) (hz : FzAt w fz) (h1 : 1 ≤ rid) (hx : fz[rid - 1]? = some x) (hfl : fz.length ≤ 68719476736) (hel : ∀ y ∈ fz, y.es.length ≤ 68719476736) :
    Ret Try.prog 46 (List.toArray [.pointer (some ⟨x.p, 0, none⟩)]) w (fun v w' => Wk w w' ∧ Aut w' w.heap.size v (visI (fz.map ent) rid rid ([], [])).2.2) := by
  refine enter Try.func46 rfl Try.ntmps46 rfl ?_
  refine sq (fun K1 hK1 => ?_)
  refine rg ?_
  refine p asg ?_
  refine nl ?_
  refine tn (hK1 _ _ ?_)
  refine sq (fun K2 hK2 => ?_)
  refine rg ?_
  refine e (alT zs32 fun b3 w3 hb3 hN3 hB3 => ?_)
  refine nl ?_
  refine tn (hK2 _ _ ?_)
  refine sq (fun K3 hK3 => ?_)
  refine rg ?_
  refine e (mkm fun b6 w6 hb6 hN6 hB6 => ?_)
  refine e (alT zs132 fun b4 w4 hb4 hN4 hB4 => ?_)
  refine e (stT cz132 rfl rfl rfl hB4 (by simp) fun w2 hM2 hB2 => ?_)
  refine nl ?_
  refine tn (hK3 _ _ ?_)
  refine sq (fun K4 hK4 => ?_)
  refine rg ?_
  refine e (alT zs133 fun b5 w5 hb5 hN5 hB5 => ?_)
  refine nl ?_
  refine tn (hK4 _ _ ?_)
  refine sq (fun K5 hK5 => ?_)
  refine rg ?_
  refine p mfl ?_
  refine e (stT cz133 rfl rfl rfl hB5 (by simp) fun w7 hM7 hB7 => ?_)
  have s3 := hN3.size
  have s6 := hN6.size
  have s4 := hN4.size
  have s2 := hM2.size
  have s5 := hN5.size
  have s7 := hM7.size
  have hE4 : Wk w w4 := Md.trans hN3.md (Md.trans hN6.md hN4.md)
  have hE2 : Wk w w2 := Md.trans' hE4 hM2 (fun k hk h => by omega)
  have hE5 : Wk w w5 := Md.trans hE2 hN5.md
  have hE7 : Wk w w7 := Md.trans' hE5 hM7 (fun k hk h => by omega)
  have k3 : w7.heap[b3]? = some (.cells [Value.slice none 0 0].toArray 32 (0, 0)) := hM7.blk (Wk.blk hN5.md (hM2.blk (Wk.blk hN4.md (Wk.blk hN6.md hB3)) (fun h => by omega))) (fun h => by omega)
  have k6 : MapIs w7.heap b6 (kvI []) := ⟨_, _, hM7.blk (Wk.blk hN5.md (hM2.blk (Wk.blk hN4.md hB6) (fun h => by omega))) (fun h => by omega), rfl⟩
  have k4 : w7.heap[b4]? = some (.cells [Value.map (some b6)].toArray 132 (0, 0)) := hM7.blk (Wk.blk hN5.md hB2) (fun h => by omega)
  have k5 : w7.heap[b5]? = some (.cells [(Value.func (.func 57) #[] #[.pointer (some ⟨b4, 0, none⟩), .pointer (some ⟨b3, 0, none⟩), .pointer (some ⟨b5, 0, none⟩)])].toArray 133 (0, 0)) := hB7
  have hV : NB w7 w.heap.size b4 b3 b5 b6 (.slice none 0 0) fz ([], []) [] := ⟨k4, k6, k3, k5, World.ownsRow_nil _ _ _ _, ⟨rfl, fun i p q hp hq => by simp at hp⟩, rfl, fz_wk hz hE7, List.nodup_nil, fun i hi => by simp at hi, by omega, by omega, List.Pairwise.nil⟩
  refine nl ?_
  refine tn (hK5 _ _ ?_)
  refine sq (fun K6 hK6 => ?_)
  refine rg ?_
  refine p (ld ag133 rfl (Blk.cel ⟨_, k5⟩ 0)) ?_
  refine p (mvt (.pointer (some ⟨x.p, 0, none⟩)) rfl) ?_
  refine e (clv c57 rfl (number1_w w.heap.size b4 b3 b5 b6 rid rid x (.slice none 0 0) fz ([], []) [] w7 hV h1 (Nat.le_refl _) hx hfl hel hE7.size) rfl fun v10 w10 hR10 => ?_)
  obtain ⟨rfl, vs1, svs1, hV1, hM1, hf1, hns1⟩ := hR10
  rw [List.nil_append] at hV1
  have hE10 : Wk w w10 := Md.trans' hE7 hM1 (fun k hk h => by have := (hV.lt h).1; omega)
  refine nl ?_
  refine tn (hK6 _ _ ?_)
  refine sq (fun K7 hK7 => ?_)
  refine rg ?_
  refine p (ld ag32 rfl (Blk.cel ⟨_, hV1.c2⟩ 0)) ?_
  refine p asg ?_
  refine nl ?_
  refine tn (hK7 _ _ ?_)
  refine rt ?_
  refine f1 rfl rfl ?_
  exact ⟨hE10, svs1, hV1.rs, hV1.sts, hV1.sep⟩
theorem finish_nil (w : World) :
    Ret Try.prog 34 (List.toArray [.pointer none]) w (fun v w' => v = .tuple #[.slice none 0 0, .int .i64 1] ∧ w' = w) := by
  refine enter Try.func34 rfl Try.ntmps34 rfl ?_
  refine sq (fun K1 hK1 => ?_)
  refine rg ?_
  refine p asg ?_
  refine p asg ?_
  refine nl ?_
  refine tn (hK1 _ _ ?_)
  refine sq (fun K2 hK2 => ?_)
  refine sq (fun K3 hK3 => ?_)
  refine rg ?_
  refine p (mvt (.pointer none) rfl) ?_
  refine e (cl c42 (ready_nil _) rfl fun v7 w7 hR7 => ?_)
  obtain ⟨rfl, rfl⟩ := hR7
  refine p asg ?_
  refine nl ?_
  refine tn (hK3 _ _ ?_)
  refine sq (fun K4 hK4 => ?_)
  refine rg ?_
  refine p mv ?_
  refine p (nei rfl rfl) ?_
  refine nl ?_
  refine tn (hK4 _ _ ?_)
  refine cd rfl (fun hc9 => ?_) (fun h => absurd (by decide) h)
  refine sq (fun K5 hK5 => ?_)
  refine rg ?_
  refine p mv ?_
  refine p asg ?_
  refine p asg ?_
  refine nl ?_
  refine tn (hK5 _ _ ?_)
  refine rt ?_
  refine tr ?_
  refine f2 rfl rfl rfl ?_
  exact ⟨rfl, rfl⟩
theorem finish_done (b : Nat) (st : Int) (w : World) (hb : cel w.heap b 5 = some (.int .i64 st)) (hst : st ≠ 0) :
    Ret Try.prog 34 (List.toArray [.pointer (some ⟨b, 0, none⟩)]) w (fun v w' => v = .tuple #[.slice none 0 0, .int .i64 st] ∧ w' = w) := by
  refine enter Try.func34 rfl Try.ntmps34 rfl ?_
  refine sq (fun K1 hK1 => ?_)
  refine rg ?_
  refine p asg ?_
  refine p asg ?_
  refine nl ?_
  refine tn (hK1 _ _ ?_)
  refine sq (fun K2 hK2 => ?_)
  refine sq (fun K3 hK3 => ?_)
  refine rg ?_
  refine p (mvt (.pointer (some ⟨b, 0, none⟩)) rfl) ?_
  refine e (cl c42 (ready_w b st _ hb) rfl fun v7 w7 hR7 => ?_)
  obtain ⟨rfl, rfl⟩ := hR7
  refine p asg ?_
  refine nl ?_
  refine tn (hK3 _ _ ?_)
  refine sq (fun K4 hK4 => ?_)
  refine rg ?_
  refine p mv ?_
  refine p (nei rfl rfl) ?_
  refine nl ?_
  refine tn (hK4 _ _ ?_)
  refine cd rfl (fun hc9 => ?_) (fun h => absurd hst h)
  refine sq (fun K5 hK5 => ?_)
  refine rg ?_
  refine p mv ?_
  refine p asg ?_
  refine p asg ?_
  refine nl ?_
  refine tn (hK5 _ _ ?_)
  refine rt ?_
  refine tr ?_
  refine f2 rfl rfl rfl ?_
  exact ⟨rfl, rfl⟩
set_option maxHeartbeats 1000000 in
theorem finish_w (b m : Nat) (most cnt : Int) (x : AB) (vp : Value) (fz pa : List FN) (w : World) (hB : BA w b m most 0 cnt vp fz pa x) (hfl : fz.length ≤ 34359738368) :
    Ret Try.prog 34 (List.toArray [.pointer (some ⟨b, 0, none⟩)]) w (fun v w' => Md (AL b m vp fz pa) w w' ∧ ((most < ((finS x).2.length : Int) ∧ v = .tuple #[.slice none 0 0, .int .i64 181] ∧ cel w'.heap b 5 = some (.int .i64 181) ∧ cel w'.heap b 6 = some (.int .i64 cnt)) ∨ (¬ most < ((finS x).2.length : Int) ∧ ∃ va, v = .tuple #[va, .int .i64 0] ∧ Aut w' w.heap.size va (visI (finS x).2 (finS x).1 (finS x).1 ([], [])).2.2 ∧ cel w'.heap b 5 = some (.int .i64 182) ∧ cel w'.heap b 6 = some (.int .i64 (finS x).2.length)))) := by
  have hb0 : Blk w.heap b [.int .i64 most, str x.last, .bool x.any, vp, .map (some m), .int .i64 (0 : Int), .int .i64 cnt] := ⟨_, hB.db.blk⟩
  have hpl := hB.plen
  have h255 := hB.good.l255
  refine enter Try.func34 rfl Try.ntmps34 rfl ?_
  refine sq (fun K1 hK1 => ?_)
  refine rg ?_
  refine p asg ?_
  refine p asg ?_
  refine nl ?_
  refine tn (hK1 _ _ ?_)
  refine sq (fun K2 hK2 => ?_)
  refine sq (fun K3 hK3 => ?_)
  refine rg ?_
  refine p (mvt (.pointer (some ⟨b, 0, none⟩)) rfl) ?_
  refine e (cl c42 (ready_w b 0 _ (hb0.cel 5)) rfl fun v7 w7 hR7 => ?_)
  obtain ⟨rfl, hw7⟩ := hR7
  subst w7
  refine p asg ?_
  refine nl ?_
  refine tn (hK3 _ _ ?_)
  refine sq (fun K4 hK4 => ?_)
  refine rg ?_
  refine p mv ?_
  refine p (nei rfl rfl) ?_
  refine nl ?_
  refine tn (hK4 _ _ ?_)
  refine cd rfl (fun h => absurd h (by decide)) (fun hc9 => ?_)
  refine skp ?_
  refine tn (hK2 _ _ ?_)
  refine sq (fun K5 hK5 => ?_)
  refine rg ?_
  refine p (mvt (.pointer (some ⟨b, 0, none⟩)) rfl) ?_
  refine e (cl c44 (cut_w b m 0 256 most 0 cnt x.last x.any vp fz pa x.last w hB.db (by omega) (by omega) (by omega) hB.K (by omega)) rfl fun v12 w12 hR12 => ?_)
  obtain ⟨rfl, vp1, fz1, pa1, hD1, hl1, hcut, hM1, hpe1, hvo1, hK1, hfn1⟩ := hR12
  obtain ⟨z, rfl⟩ : ∃ z, pa1 = [z] := List.length_eq_one_iff.1 (by omega)
  obtain ⟨ap, cp, rfl⟩ := own_slice hD1.path
  have hb1 : Blk w12.heap b [.int .i64 most, str x.last, .bool x.any, (.slice ap ([z].map FN.p).length cp), .map (some m), .int .i64 (0 : Int), .int .i64 cnt] := ⟨_, hD1.blk⟩
  have hNz : NdAt w12 z.p z.ev z.f (z.es.map (tg fz1)) 0 := by
    have h := (hD1.hpa 0 z rfl).1
    rw [opn, List.getElem?_eq_none (by simp), List.append_nil] at h; exact h
  have hzb : z.p ≠ b := cell_ne hNz.blk hD1.blk (by decide)
  have hsp := hD1.sep
  rw [List.pairwise_append] at hsp
  have hFA : ∀ k, (k = b ∨ k = m ∨ ∃ x ∈ pa, k = x.p ∨ x.ev.ownBlock = some k) → AL b m vp fz pa k := fun k h => by
    rcases h with h | h | h
    · exact .inl (.inl h)
    · exact .inl (.inr (.inl h))
    · exact .inl (.inr (.inr (.inr h)))
  have hzA : AL b m vp fz pa z.p := by
    have hm : pe z ∈ (pa.map pe).take (0 + 1) := by rw [← hpe1]; simp
    obtain ⟨y, hy, he⟩ := List.mem_map.1 (List.mem_of_mem_take hm)
    exact .inl (.inr (.inr (.inr ⟨y, hy, .inl (congrArg Prod.fst he).symm⟩)))
  have hfl1 : fz1.length ≤ fz.length + 255 := by
    have h := (cutS_len (cs := x.last) (n := 0) x.last.length x.s hB.good.len (Nat.zero_le _)).2
    rw [hB.s, show x.last.length = pa.length - 1 from by omega, hcut] at h
    simp only [List.length_map] at h
    omega
  refine nl ?_
  refine tn (hK5 _ _ ?_)
  refine sq (fun K6 hK6 => ?_)
  refine rg ?_
  refine p (mvt (.pointer (some ⟨b, 0, none⟩)) rfl) ?_
  refine p (mvt (.pointer (some ⟨b, 0, none⟩)) rfl) ?_
  refine p (nc rfl) ?_
  refine p (fa fo106_3 rfl) ?_
  refine p (ld ag103 rfl (hb1.cel 3)) ?_
  refine p (ia' es103 rfl rfl (by simp) (Cells.ok ((own_cellsS hD1.path).2) (by simp))) ?_
  refine p (ld ag99 rfl ((own_cellsS hD1.path).2.at1 (i := 0) (u := .pointer (some ⟨z.p, 0, none⟩)) rfl)) ?_
  refine e (cl c45 (freeze2_w b m 0 [.int .i64 most, str x.last, .bool x.any, (.slice ap ([z].map FN.p).length cp), .map (some m), .int .i64 (0 : Int), .int .i64 cnt] z fz1 w12 hb1 rfl hD1.map hD1.hfz hD1.nd hNz (hD1.hpa 0 z rfl).2 (by omega) (by have := hK1 z (by simp); omega) hzb (fun y hy => (hsp.2.2 _ (List.mem_map_of_mem hy) _ (List.mem_map_of_mem (by simp))).1)) rfl fun v20 w20 hR20 => ?_)
  obtain ⟨fz2, q, rfl, hc2, hen2, hi21, hi22, hq2, hM2, hm2, hf2, hnd2⟩ := hR20
  have hfin : finS x = ((frzS (fz1.map ent) (ent z)).1, fz2.map ent) := by
    unfold finS
    simp only [hB.s, show x.last.length = pa.length - 1 from by omega, hcut]
    rw [hen2]; rfl
  obtain ⟨rid, hrid⟩ : ∃ r, r = (frzS (fz1.map ent) (ent z)).1 := ⟨_, rfl⟩
  rw [← hrid] at hfin hi21 hi22 hq2
  have hT2 : TF w12 [104, 1] (fun k => k = z.p ∨ k = m) := (TF.eq (tag_cells hNz.blk) rfl).or (TF.eq (tag_map hD1.map) rfl)
  have hb2 := hM2.blkT hT2 hD1.blk rfl
  have hkl : (kvl fz2).length = fz2.length := by simp [kvl]
  have hM12 : Md (AL b m vp fz pa) w w20 := Md.trans' (hM1.mono (fun k _ h => hFA k h)) hM2 (fun k hk h => by
    rcases h with h | h
    · exact h ▸ hzA
    · exact hFA k (.inr (.inl h)))
  have hg2 : ∀ y ∈ fz2, y.es.length ≤ 68719476736 := fun y hy => by
    have h := fin_good hB.good (ent y) (by rw [hfin]; exact List.mem_map_of_mem hy)
    simp only [ent] at h; omega
  have hl2 : fz2.length ≤ fz1.length + 1 := by rcases hc2 with h | h <;> rw [h] <;> simp
  refine p asg ?_
  refine nl ?_
  refine tn (hK6 _ _ ?_)
  refine sq (fun K7 hK7 => ?_)
  refine sq (fun K8 hK8 => ?_)
  have hS6 : (fun w' => Blk w'.heap b [.int .i64 most, str x.last, .bool x.any, (.slice ap ([z].map FN.p).length cp), .map (some m), .int .i64 (0 : Int), .int .i64 cnt] ∧ MapIs w'.heap m (kvl fz2)) w20.drew := ⟨⟨_, hb2⟩, hm2⟩
  refine hst (fun w' => Blk w'.heap b [.int .i64 most, str x.last, .bool x.any, (.slice ap ([z].map FN.p).length cp), .map (some m), .int .i64 (0 : Int), .int .i64 cnt] ∧ MapIs w'.heap m (kvl fz2)) wide hS6 ?_
  refine hp 0 rfl (by kernel_rfl) (fun _ _ => mvt (.pointer (some ⟨b, 0, none⟩)) rfl) hS6 ?_
  refine hp 1 rfl (by kernel_rfl) (fun _ _ => nc rfl) hS6 ?_
  refine hp 2 rfl (by kernel_rfl) (fun _ _ => fa fo106_4 rfl) hS6 ?_
  refine hp 3 rfl (by kernel_rfl) (fun w' hS => ld ag104 rfl (hS.1.cel 4)) hS6 ?_
  refine hp 4 rfl (by kernel_rfl) (fun w' hS => lnm' u104 rfl rfl (hS.2)) hS6 ?_
  refine hp 5 rfl (by kernel_rfl) (fun _ _ => mvt (.pointer (some ⟨b, 0, none⟩)) rfl) hS6 ?_
  refine hp 6 rfl (by kernel_rfl) (fun _ _ => nc rfl) hS6 ?_
  refine hp 7 rfl (by kernel_rfl) (fun _ _ => fa fo106_0 rfl) hS6 ?_
  refine hp 8 rfl (by kernel_rfl) (fun w' hS => ld ag3 rfl (hS.1.cel 0)) hS6 ?_
  refine hp 9 rfl (by kernel_rfl) (fun _ _ => gt rfl rfl) hS6 ?_
  refine hn (by kernel_rfl) ?_
  refine tn (hK8 _ _ ?_)
  refine cd rfl (fun hc30 => ?_) (fun hc30 => ?_)
  · refine sq (fun K9 hK9 => ?_)
    refine rg ?_
    refine p (mvt (.pointer (some ⟨b, 0, none⟩)) rfl) ?_
    refine p (nc rfl) ?_
    refine p (fa fo106_5 rfl) ?_
    refine e (stT cz36 rfl rfl rfl (show w20.drew.heap[b]? = _ from hb2) (by simp) fun w7 hM7 hB7 => ?_)
    refine nl ?_
    refine tn (hK9 _ _ ?_)
    refine sq (fun K10 hK10 => ?_)
    refine rg ?_
    refine p asg ?_
    refine p asg ?_
    refine nl ?_
    refine tn (hK10 _ _ ?_)
    refine rt ?_
    refine tr ?_
    refine f2 rfl rfl rfl ?_
    refine ⟨Md.trans' hM12.drew hM7 (fun k _ h => .inl (.inl h)), .inl ⟨by rw [hfin]; simp only [List.length_map]; rw [← hkl]; exact hc30, rfl, Blk.cel ⟨_, hB7⟩ 5, Blk.cel ⟨_, hB7⟩ 6⟩⟩
  · refine skp ?_
    refine tn (hK7 _ _ ?_)
    refine sq (fun K9 hK9 => ?_)
    refine rg ?_
    refine p (mvt (.pointer (some ⟨b, 0, none⟩)) rfl) ?_
    refine p (mvt (.pointer (some ⟨b, 0, none⟩)) rfl) ?_
    refine p (mvt (.pointer (some ⟨b, 0, none⟩)) rfl) ?_
    refine p (nc rfl) ?_
    refine p (fa fo106_4 rfl) ?_
    refine p (ld ag104 rfl (Blk.cel ⟨_, show w20.drew.heap[b]? = _ from hb2⟩ 4)) ?_
    refine p (lnm' u104 rfl rfl (hm2)) ?_
    refine p (nc rfl) ?_
    refine p (fa fo106_5 rfl) ?_
    refine e (stT cz36 rfl rfl rfl (show w20.drew.heap[b]? = _ from hb2) (by simp) fun w8 hM8 hB8 => ?_)
    refine p (nc rfl) ?_
    refine p (fa fo106_6 rfl) ?_
    refine e (stT cz3 rfl rfl rfl hB8 (by simp) fun w9 hM9 hB9 => ?_)
    have hM29 : Md (fun k => k = b) w20 w9 := Md.trans (Md.trans (Md.refl _ _).drew hM8) hM9
    have hT9 : TF w20 [108] (fun k => k = b) := TF.eq (tag_cells hb2) rfl
    have hf9 := hf2.mdT hM29 hT9 rfl rfl
    have hb9x : Blk w9.heap b [.int .i64 most, str x.last, .bool x.any, (.slice ap ([z].map FN.p).length cp), .map (some m), .int .i64 (182 : Int), .int .i64 (kvl fz2).length] := ⟨_, hB9⟩
    obtain ⟨y, hy⟩ : ∃ y, fz2[rid - 1]? = some y := ⟨_, List.getElem?_eq_getElem (show rid - 1 < fz2.length by omega)⟩
    have hyp : y.p = q := by rw [← hq2, List.getD_eq_getElem?_getD, List.getElem?_map, hy]; rfl
    subst hyp
    have hM19 : Md (AL b m vp fz pa) w w9 := Md.trans' hM12 hM29 (fun k _ h => .inl (.inl h))
    refine nl ?_
    refine tn (hK9 _ _ ?_)
    refine sq (fun K10 hK10 => ?_)
    refine rg ?_
    refine p mv ?_
    refine e (cl c46 (number_w rid y fz2 w9 hf9 hi21 hy (by omega) hg2) rfl fun v46 w46 hR46 => ?_)
    obtain ⟨hE46, hA46⟩ := hR46
    refine p asg ?_
    refine p asg ?_
    refine nl ?_
    refine tn (hK10 _ _ ?_)
    refine rt ?_
    refine f2 rfl rfl rfl ?_
    refine ⟨Md.trans' hM19 hE46 (fun _ _ h => h.elim), .inr ⟨by rw [hfin]; simp only [List.length_map]; rw [← hkl]; exact hc30, _, rfl, ?_, Wk.cel hE46 (hb9x.cel 5), by rw [hfin]; simp only [List.length_map]; rw [← hkl]; exact Wk.cel hE46 (hb9x.cel 6)⟩⟩
    rw [hfin]
    obtain ⟨svs, h1, h2, h3⟩ := hA46
    exact ⟨svs, own_mono h1 hM19.size, h2.mono hM19.size, h3⟩

theorem ba_new {w : World} {b m pp : Nat} {most : Int} {vp : Value} (h : DB w b m most 0 0 [] false vp [pp] [] [⟨pp, .slice none 0 0, false, []⟩] []) : BA w b m most 0 0 vp [] [⟨pp, .slice none 0 0, false, []⟩] ab0 := ⟨h, rfl, good_new⟩
theorem al_new {b m pp n : Nat} {vp : Value} (h1 : n ≤ b) (h2 : n ≤ m) (h3 : n ≤ pp) (h4 : ∀ k, vp.ownBlock = some k → n ≤ k) : ∀ k, AL b m vp [] [⟨pp, .slice none 0 0, false, []⟩] k → n ≤ k := by
  rintro k ((rfl | rfl | h | ⟨x, hx, h⟩) | ⟨x, hx, _⟩)
  · exact h1
  · exact h2
  · exact h4 k h
  · simp only [List.mem_singleton] at hx; subst hx
    rcases h with h | h
    · simp only at h; omega
    · simp [Value.ownBlock] at h
  · simp at hx
/-- what Build answers for: no most at all -/
def bigN : Int := 4611686018427387904

theorem build_w (ws : Tl) (aw : Option Addr) (cw : Nat) (w : World) (hS : Strs w.heap aw ws) (hwl : ws.length ≤ 134217728) :
    Ret Try.prog 17 (List.toArray [.slice aw ws.length cw]) w (fun v w' => Wk w w' ∧ (((addL bigN ab0 ws).1 ≠ 0 ∧ v = .tuple #[.slice none 0 0, .int .i64 (addL bigN ab0 ws).1]) ∨ ((addL bigN ab0 ws).1 = 0 ∧ ∃ va, v = .tuple #[va, .int .i64 0] ∧ Aut w' w.heap.size va (visI (finS (addL bigN ab0 ws).2).2 (finS (addL bigN ab0 ws).2).1 (finS (addL bigN ab0 ws).2).1 ([], [])).2.2))) := by
  refine enter Try.func17 rfl Try.ntmps17 rfl ?_
  refine sq (fun K1 hK1 => ?_)
  refine rg ?_
  refine p asg ?_
  refine p asg ?_
  refine nl ?_
  refine tn (hK1 _ _ ?_)
  refine sq (fun K2 hK2 => ?_)
  refine rg ?_
  refine e (cl c32 (fresh_w 4611686018427387904 _) rfl fun v7 w7 hR7 => ?_)
  obtain ⟨b, m, vp, pp, rfl, hD, hE7, h1, h2, h3, h4⟩ := hR7
  have hB := ba_new hD
  have hal := al_new h1 h2 h3 h4
  refine p asg ?_
  refine nl ?_
  refine tn (hK2 _ _ ?_)
  refine sq (fun K3 hK3 => ?_)
  refine rg ?_
  refine p mv ?_
  refine p mfl ?_
  refine p asg ?_
  refine nl ?_
  refine tn (hK3 _ _ ?_)
  refine sq (fun K4 hK4 => ?_)
  refine sq (fun K5 hK5 => ?_)
  refine rg ?_
  refine p mv ?_
  refine p (mvt (.slice aw ws.length cw) rfl) ?_
  refine e (clv c33 rfl (adds_w b m 4611686018427387904 0 ab0 vp [] [⟨pp, .slice none 0 0, false, []⟩] ws aw cw _ hB (hS.wk hE7) (fun hne h => by have := hal _ h; have := hS.lt hne; omega) (by simp only [List.length_nil]; omega) (by omega)) rfl fun v12 w12 hR12 => ?_)
  obtain ⟨hv12, vp1, fz1, pa1, hB1, hM1, hF1, hl1⟩ := hR12
  subst hv12
  have hE12 : Wk w w12 := Md.trans' hE7 hM1 (fun k hk h => by have := hal k h; omega)
  refine p asg ?_
  refine nl ?_
  refine tn (hK5 _ _ ?_)
  refine sq (fun K6 hK6 => ?_)
  refine rg ?_
  refine p mv ?_
  refine p (nei rfl rfl) ?_
  refine nl ?_
  refine tn (hK6 _ _ ?_)
  refine cd rfl (fun hc14 => ?_) (fun hc14 => ?_)
  · refine sq (fun K7 hK7 => ?_)
    refine rg ?_
    refine p mv ?_
    refine p asg ?_
    refine p asg ?_
    refine nl ?_
    refine tn (hK7 _ _ ?_)
    refine rt ?_
    refine tr ?_
    refine f2 rfl rfl rfl ?_
    exact ⟨hE12, .inl ⟨hc14, rfl⟩⟩
  · refine skp ?_
    refine tn (hK4 _ _ ?_)
    refine sq (fun K7 hK7 => ?_)
    have h0 : (addL bigN ab0 ws).1 = 0 := by
      have h9 : ¬ (addL bigN ab0 ws).1 ≠ 0 := hc14
      omega
    refine rg ?_
    refine p mv ?_
    refine e (cl c34 (finish_w b m 4611686018427387904 0 _ vp1 fz1 pa1 w12 (by have h9 := hB1; rw [if_neg (by rw [show addL 4611686018427387904 ab0 ws = addL bigN ab0 ws from rfl, h0]; decide)] at h9; exact h9) (by simp only [List.length_nil] at hl1; omega)) rfl fun v17 w17 hR17 => ?_)
    obtain ⟨hM17, hor17⟩ := hR17
    have hE17 : Wk w w17 := Md.trans' hE12 hM17 (fun k hk h => by
      rcases hF1 k h with h | h
      · have := hal k h; omega
      · have := hE7.size; omega)
    obtain ⟨va, rfl, hA⟩ : ∃ va, v17 = .tuple #[va, .int .i64 0] ∧ Aut w17 w12.heap.size va (visI (finS (addL bigN ab0 ws).2).2 (finS (addL bigN ab0 ws).2).1 (finS (addL bigN ab0 ws).2).1 ([], [])).2.2 := by
      rcases hor17 with ⟨hlt, _⟩ | ⟨hge, va, hv, hA, _⟩
      · exfalso
        have h9 := fin_len hB1.good
        rw [hB1.s] at h9
        simp only [List.length_map, List.length_nil] at h9 hl1
        omega
      · exact ⟨va, hv, hA⟩
    refine p (xt rfl rfl) ?_
    refine p (xt rfl rfl) ?_
    refine p asg ?_
    refine p asg ?_
    refine nl ?_
    refine tn (hK7 _ _ ?_)
    refine rt ?_
    refine f2 rfl rfl rfl ?_
    exact ⟨hE17, .inr ⟨h0, va, rfl, by obtain ⟨svs, g1, g2, g3⟩ := hA; exact ⟨svs, own_mono g1 hE12.size, g2.mono hE12.size, g3⟩⟩⟩
end Go.Hb.Fin
