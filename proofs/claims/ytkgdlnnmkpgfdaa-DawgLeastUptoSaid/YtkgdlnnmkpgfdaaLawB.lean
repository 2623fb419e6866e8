/-
  Walks of hornbooklaw18: rising words, what an automaton accepts, and DawgAccepts. No conditions but those that each theorem names.
-/
import Derived.Test.YtkgdlnnmkpgfdaaChecked
import Derived.Test.YtkgdlnnmkpgfdaaEff
import Derived.Test.YtkgdlnnmkpgfdaaRef08
import Derived.Test.YtkgdlnnmkpgfdaaVisit
import Derived.Test.YtkgdlnnmkpgfdaaReg
import Derived.Test.YtkgdlnnmkpgfdaaCut
import Derived.Test.YtkgdlnnmkpgfdaaBuild
import Derived.Test.YtkgdlnnmkpgfdaaAdd
import Derived.Test.YtkgdlnnmkpgfdaaAdds
import Derived.Test.YtkgdlnnmkpgfdaaNumb
import Derived.Test.YtkgdlnnmkpgfdaaFin
import Derived.Test.YtkgdlnnmkpgfdaaSame
import Derived.Test.YtkgdlnnmkpgfdaaLawA
import Derived.Test.YtkgdlnnmkpgfdaaStr
import Derived.Test.YtkgdlnnmkpgfdaaPure
import Derived.Test.YtkgdlnnmkpgfdaaDawg
import Derived.Test.YtkgdlnnmkpgfdaaVis
import Derived.Test.YtkgdlnnmkpgfdaaRow
import Derived.Test.YtkgdlnnmkpgfdaaNode
import Derived.Test.YtkgdlnnmkpgfdaaMap
import Derived.Test.YtkgdlnnmkpgfdaaAuto
import Derived.Test.YtkgdlnnmkpgfdaaLast
import Derived.Test.YtkgdlnnmkpgfdaaTag
import Derived.Test.YtkgdlnnmkpgfdaaFrz
import Derived.Test.YtkgdlnnmkpgfdaaSet
import Derived.Test.YtkgdlnnmkpgfdaaPost
import Derived.Test.YtkgdlnnmkpgfdaaBulk
set_option maxRecDepth 20000
set_option linter.unusedVariables false
namespace Go.Hb.LawB
open Go.Proofs
open Go.Hb.Ref08 Go.Hb.Visit Go.Hb.Reg Go.Hb.Cut Go.Hb.Build Go.Hb.Add Go.Hb.Adds Go.Hb.Numb Go.Hb.Fin Go.Hb.Same Go.Hb.LawA
theorem ag3 : aggN Try.prog 3 = some none := by kernel_rfl
theorem ag4 : aggN Try.prog 4 = some none := by kernel_rfl
theorem ag5 : aggN Try.prog 5 = some none := by kernel_rfl
theorem ag9 : aggN Try.prog 9 = some none := by kernel_rfl
theorem ag38 : aggN Try.prog 38 = some none := by kernel_rfl
theorem ag42 : aggN Try.prog 42 = some (some 2) := by kernel_rfl
theorem c10 : Callable Try.prog 10 := callable Try.func10 (by kernel_rfl) (by kernel_rfl)
theorem c11 : Callable Try.prog 11 := callable Try.func11 (by kernel_rfl) (by kernel_rfl)
theorem c13 : Callable Try.prog 13 := callable Try.func13 (by kernel_rfl) (by kernel_rfl)
theorem c16 : Callable Try.prog 16 := callable Try.func16 (by kernel_rfl) (by kernel_rfl)
theorem c17 : Callable Try.prog 17 := callable Try.func17 (by kernel_rfl) (by kernel_rfl)
theorem c18 : Callable Try.prog 18 := callable Try.func18 (by kernel_rfl) (by kernel_rfl)
theorem c28 : Callable Try.prog 28 := callable Try.func28 (by kernel_rfl) (by kernel_rfl)
theorem cz42 : cellsN Try.prog 42 = some 2 := by kernel_rfl
theorem es22 : elemSize Try.prog 22 = some 1 := by kernel_rfl
theorem es23 : elemSize Try.prog 23 = some 2 := by kernel_rfl
theorem es38 : elemSize Try.prog 38 = some 2 := by kernel_rfl
theorem fo40_0 : fieldOff Try.prog 40 0 = some 0 := by kernel_rfl
theorem fo40_1 : fieldOff Try.prog 40 1 = some 1 := by kernel_rfl
theorem fo42_0 : fieldOff Try.prog 42 0 = some 0 := by kernel_rfl
theorem fo42_1 : fieldOff Try.prog 42 1 = some 1 := by kernel_rfl
theorem so22 : sliceOk Try.prog 22 9 1 16 = true := by kernel_rfl
theorem u4 : Try.prog.underlying 4 = some (.bool) := by kernel_rfl
theorem u9 : Try.prog.underlying 9 = some (.string) := by kernel_rfl
theorem u22 : Try.prog.underlying 22 = some (.slice 9) := by kernel_rfl
theorem u23 : Try.prog.underlying 23 = some (.slice 40) := by kernel_rfl
theorem u38 : Try.prog.underlying 38 = some (.slice 42) := by kernel_rfl
theorem wide : Try.prog.follows .mixedOrders = true := by kernel_rfl
theorem zs42 : zeroOf Try.prog 42 = some (some [.int .u8 0, .int .i64 0]) := by kernel_rfl

/-- the texts that may be words, as a set -/
def fitS (l : Tl) : Tl := setS (l.filter fun x => decide (x.length ≤ 255))
theorem fitS_fit (l : Tl) : Fit (fitS l) := ⟨setS_up _, fun x hx => by
  have := mem_setS.1 hx
  simp only [List.mem_filter, decide_eq_true_eq] at this
  exact this.2⟩
theorem fitS_len (l : Tl) : (fitS l).length ≤ l.length := Nat.le_trans (setS_len _) (List.length_filter_le _ _)
theorem filter_vol (f : List UInt8 → Bool) : ∀ l : Tl, vol (l.filter f) ≤ vol l
  | [] => Nat.le_refl _
  | x :: l => by
    have := filter_vol f l
    rw [List.filter_cons]
    split <;> simp only [vol, List.map_cons, List.sum_cons] at * <;> omega
theorem fitS_vol (l : Tl) : vol (fitS l) ≤ vol l := Nat.le_trans (setS_vol _) (filter_vol _ l)
theorem eflat_cells {h : Array Obj} {a : Option Addr} {l : List (UInt8 × Nat)} {i : Nat} {c : UInt8} {q : Nat} (hc : Cells h a (eflat l)) (hl : l[i]? = some (c, q)) : ∀ j, j < 2 → Hb.cel h (bk a) (fo a + i * 2 + j) = [Value.int .u8 c.toNat, .int .i64 q][j]? :=
  flat_cells (f := fun e : UInt8 × Nat => [Value.int .u8 e.1.toNat, .int .i64 e.2]) (m := 2) (fun _ => rfl) hc hl
theorem isE_mem {L : Tl} (h : Up L) : isE L = decide ([] ∈ L) := by
  cases L with
  | nil => rfl
  | cons a L =>
    cases a with
    | nil => simp [isE]
    | cons c t =>
      have h2 : [] ∉ (c :: t) :: L := fun hm => by
        rcases List.mem_cons.1 hm with h3 | h3
        · cases h3
        · have := (List.pairwise_cons.1 h).1 [] h3
          rw [sless_nil_r] at this; cases this
      simp only [isE, h2, decide_false]
/-- what an edge of a state tells -/
theorem edge_der {ws : Tl} {K : List Tl} (hK : AutIs ws K) (hu : Up ws) {k : Nat} {L : Tl} (hk : K[k]? = some L) (hL : Up L) {e : UInt8 × Nat} (he : e ∈ ((aut ws).getD k dE).2) : der e.1 L ≠ [] ∧ e.2 = K.idxOf (der e.1 L) ∧ der e.1 L ∈ K := by
  obtain ⟨h1, h2⟩ := hK.st k L hk
  rw [List.getD_eq_getElem?_getD, h1] at he
  simp only [Option.getD_some] at he
  obtain ⟨p, hp, rfl⟩ := List.mem_map.1 he
  have h3 := group_der hL hp
  simp only
  rw [← h3]
  exact ⟨(mem_groups p hp).1, rfl, h2 p hp⟩
theorem edge_none {ws : Tl} {K : List Tl} (hK : AutIs ws K) {k : Nat} {L : Tl} (hk : K[k]? = some L) (hL : Up L) {c : UInt8} (h : ∀ e ∈ ((aut ws).getD k dE).2, e.1 ≠ c) : der c L = [] := by
  obtain ⟨h1, h2⟩ := hK.st k L hk
  rw [List.getD_eq_getElem?_getD, h1] at h
  simp only [Option.getD_some] at h
  by_cases h0 : der c L = []
  · exact h0
  · exact absurd rfl (h (c, _) (List.mem_map.2 ⟨_, der_group hL h0, rfl⟩))
theorem aut_up {ws : Tl} {K : List Tl} (hK : AutIs ws K) (hu : Up ws) {L : Tl} (hL : L ∈ K) : Up L := by
  rcases (hK.mem L).1 hL with h | ⟨_, p, h⟩
  · rw [h]; exact hu
  · rw [← h]; exact rst_up hu
theorem mem_take_succ' {α : Type} {l : List α} {i : Nat} {a x : α} (h : l[i]? = some a) : x ∈ l.take (i + 1) ↔ x ∈ l.take i ∨ x = a := by
  rw [List.take_add_one, h]; simp
theorem acc_end {ws : Tl} {K : List Tl} (hK : AutIs ws K) (hu : Up ws) {k : Nat} {L : Tl} (hk : K[k]? = some L) (hL : Up L) {c : UInt8} {nx : Int} (h : (nx = -1 ∧ ∀ e ∈ ((aut ws).getD k dE).2, e.1 ≠ c) ∨ ∃ e ∈ ((aut ws).getD k dE).2, e.1 = c ∧ nx = e.2) :
    (nx = -1 ∧ der c L = []) ∨ (0 ≤ nx ∧ K[nx.toNat]? = some (der c L)) := by
  rcases h with ⟨h1, h2⟩ | ⟨e, h1, rfl, rfl⟩
  · exact .inl ⟨h1, edge_none hK hk hL h2⟩
  · obtain ⟨h2, h3, h4⟩ := edge_der hK hu hk hL h1
    refine .inr ⟨by omega, ?_⟩
    have h5 := List.idxOf_lt_length_of_mem h4
    rw [h3, Int.toNat_natCast, List.getElem?_eq_getElem h5, List.getElem_idxOf]
theorem not_in {ws : Tl} {wd : List UInt8} {i : Nat} (hi : i < wd.length) (h : der (wd.getD i 0) (rst (wd.take i) ws) = []) : wd ∉ ws := fun hm => by
  rw [← rst_snoc, ← take_succ_getD wd i 0 hi] at h
  have : wd.drop (i + 1) ∈ rst (wd.take (i + 1)) ws := by rw [mem_rst, List.take_append_drop]; exact hm
  rw [h] at this; simp at this

theorem rising_w (l : Tl) (a : Option Addr) (cap : Nat) (w : World) (hS : Strs w.heap a l) (hlen : l.length ≤ 1073741824) :
    Ret Try.prog 16 (List.toArray [.slice a l.length cap]) w (fun v w' => Wk w w' ∧ World.ownsRow w' w.heap.size 9 1 v (fitS l).length ((fitS l).map str)) := by
  refine enter Try.func16 rfl Try.ntmps16 rfl ?_
  refine sq (fun K1 hK1 => ?_)
  refine rg ?_
  refine p asg ?_
  refine nl ?_
  refine tn (hK1 _ _ ?_)
  refine sq (fun K2 hK2 => ?_)
  refine rg ?_
  refine p asg ?_
  refine nl ?_
  refine tn (hK2 _ _ ?_)
  refine sq (fun K3 hK3 => ?_)
  refine sq (fun K4 hK4 => ?_)
  refine rg ?_
  refine p (mvt (.slice a l.length cap) rfl) ?_
  refine p (lnl u22 rfl rfl) ?_
  refine p mv ?_
  refine nl ?_
  refine tn (hK4 _ _ ?_)
  refine blk ?_
  refine lp (fun gm σ1 wL => ∃ (i : Nat) (m : Tl) (v : Value), (i ≤ l.length) ∧ (Wk w wL) ∧ (World.ownsRow wL w.heap.size 9 1 v m.length (m.map str)) ∧ (m = (l.take i).filter fun x => decide (x.length ≤ 255)) ∧ (m.length ≤ i) ∧ (σ1 3 = v) ∧ (σ1 6 = .slice a l.length cap) ∧ (σ1 7 = .int .i64 l.length) ∧ (σ1 8 = .int .i64 i) ∧ (l.length - i = gm)) _ ⟨0, [], .slice none 0 0, (by omega), (Md.refl _ _), (World.ownsRow_nil _ _ _ _), (by simp), (by simp), rfl, rfl, rfl, rfl, rfl⟩ ?_
  rintro gm σ1 wL ⟨i, m, v, hi, hE, ho, hm, hml, hs1_3, hs1_6, hs1_7, hs1_8, rfl⟩
  refine fx 3 hs1_3 (fx 6 hs1_6 (fx 7 hs1_7 (fx 8 hs1_8 ?_)))
  refine sq (fun K5 hK5 => ?_)
  refine rg ?_
  refine p (lt rfl rfl) ?_
  refine nl ?_
  refine tn (hK5 _ _ ?_)
  refine sq (fun K6 hK6 => ?_)
  refine cd rfl (fun hc9 => ?_) (fun hc9 => ?_)
  · refine skp ?_
    refine tn (hK6 _ _ ?_)
    refine sq (fun K7 hK7 => ?_)
    refine blk ?_
    refine sq (fun K8 hK8 => ?_)
    refine rg ?_
    refine p (ia' es22 rfl rfl (by omega) (Cells.ok (hS.wk hE) (ne_map (by omega)))) ?_
    refine p (ld ag9 rfl (Strs.get (i := i) (hS.wk hE) (by omega))) ?_
    refine p asg ?_
    refine nl ?_
    refine tn (hK8 _ _ ?_)
    refine sq (fun K9 hK9 => ?_)
    refine rg ?_
    refine p mv ?_
    refine p (lns u9 rfl rfl) ?_
    refine p (le rfl rfl) ?_
    refine nl ?_
    refine tn (hK9 _ _ ?_)
    refine cd rfl (fun hc14 => ?_) (fun hc14 => ?_)
    · refine rg ?_
      refine p (mvt (v) rfl) ?_
      refine p mv ?_
      refine e (bs1 so22 rfl rfl fun b17 w17 hb17 hN17 hB17 => ?_)
      refine e (ap so22 (own_nw ho hN17.md) rfl (by have := hN17.size; have := hE.size; omega) rfl (Cells.of_blk hB17) (rfl) (rfl) (by omega) (by omega) fun v18 w18 ho18 hM18 hz18 hf18 => ?_)
      have hE18 := Wk.own (Md.trans hE hN17.md) (own_nw ho hN17.md) hM18 (Nat.le_refl _)
      have ho18' : World.ownsRow w18 w.heap.size 9 1 v18 (m ++ [l.getD i []]).length ((m ++ [l.getD i []]).map str) := by rw [List.length_append, List.map_append]; exact ho18
      refine p asg ?_
      refine nl ?_
      refine bn ?_
      refine tn (hK7 _ _ ?_)
      refine rg ?_
      refine p (ad rfl rfl (wi64 (by omega))) ?_
      refine p mv ?_
      refine nl ?_
      refine tn ?_
      exact ⟨_, by omega, i + 1, m ++ [l.getD i []], v18, (by omega), hE18, ho18', (by rw [take_succ_getD l i [] (by omega), List.filter_append, ← hm, List.filter_cons, if_pos (decide_eq_true (by omega))]; rfl), (by simp; omega), rfl, rfl, rfl, rfl, rfl⟩
    · refine skp ?_
      refine bn ?_
      refine tn (hK7 _ _ ?_)
      refine rg ?_
      refine p (ad rfl rfl (wi64 (by omega))) ?_
      refine p mv ?_
      refine nl ?_
      refine tn ?_
      exact ⟨_, by omega, i + 1, m, v, (by omega), hE, ho, (by rw [take_succ_getD l i [] (by omega), List.filter_append, ← hm, List.filter_cons, if_neg (fun h => by have := of_decide_eq_true h; omega)]; simp), (by omega), rfl, rfl, rfl, rfl, rfl⟩
  · refine ext ?_
    refine te _ ?_
    refine te _ ?_
    refine be ?_
    refine tn (hK3 _ _ ?_)
    refine sq (fun K7 hK7 => ?_)
    obtain ⟨a21, c21, rfl⟩ := own_slice ho
    refine rg ?_
    refine p (mvt (.slice a21 m.length c21) rfl) ?_
    refine e (cl c28 (of_w m.length m a21 c21 _ rfl (own_cellsS ho).2 (own_cellsS ho).1 (by omega)) rfl fun v21 w21 hR21 => ?_)
    obtain ⟨hE21, ho21⟩ := hR21
    refine p asg ?_
    refine nl ?_
    refine tn (hK7 _ _ ?_)
    refine rt ?_
    refine f1 rfl rfl ?_
    refine ⟨Md.trans hE hE21, ?_⟩
    rw [hm, List.take_of_length_le (by omega)] at ho21
    exact own_mono ho21 hE.size
set_option maxHeartbeats 1000000 in
theorem accepts_w (ws : Tl) (wd : List UInt8) (aa : Option Addr) (cc : Nat) (svs : List (Bool × Value)) (w : World) (hA : SR w aa svs (aut ws)) (hf : Fit ws) (hl : svs.length ≤ 1073741824) (hwd : wd.length ≤ 1073741824) :
    Ret Try.prog 17 (List.toArray [.slice aa svs.length cc, str wd]) w (fun v w' => v = .bool (decide (wd ∈ ws)) ∧ Wk w w') := by
  obtain ⟨K, hK⟩ := aut_is hf
  have hlK : svs.length = K.length := by rw [← hA.len, hK.len]
  have hsm := (aut_small hf).2
  refine enter Try.func17 rfl Try.ntmps17 rfl ?_
  refine sq (fun K1 hK1 => ?_)
  refine rg ?_
  refine p asg ?_
  refine nl ?_
  refine tn (hK1 _ _ ?_)
  refine sq (fun K2 hK2 => ?_)
  refine rg ?_
  refine p asg ?_
  refine nl ?_
  refine tn (hK2 _ _ ?_)
  refine sq (fun K3 hK3 => ?_)
  refine sq (fun K4 hK4 => ?_)
  refine rg ?_
  refine p asg ?_
  refine nl ?_
  refine tn (hK4 _ _ ?_)
  refine blk ?_
  refine lp (fun gm σ1 wL => ∃ (i n : Nat), (i ≤ wd.length) ∧ (Wk w wL) ∧ (K[n]? = some (rst (wd.take i) ws)) ∧ (n < K.length) ∧ (σ1 0 = .slice aa svs.length cc) ∧ (σ1 1 = str wd) ∧ (σ1 5 = .int .i64 n) ∧ (σ1 6 = .int .i64 i) ∧ (wd.length - i = gm)) _ ⟨0, 0, (by omega), (Md.refl _ _), (by rw [List.take_zero]; exact hK.root), ((List.getElem?_eq_some_iff.1 hK.root).1), rfl, rfl, (iv (by omega)), rfl, rfl⟩ ?_
  rintro gm σ1 wL ⟨i, n, hi, hE, hKn, hnl, hs1_0, hs1_1, hs1_5, hs1_6, rfl⟩
  refine fx 0 hs1_0 (fx 1 hs1_1 (fx 5 hs1_5 (fx 6 hs1_6 ?_)))
  have hLu := aut_up hK hf.1 (List.mem_of_getElem? hKn)
  refine sq (fun K5 hK5 => ?_)
  refine sq (fun K6 hK6 => ?_)
  refine rg ?_
  refine p (mvt (.int .i64 i) rfl) ?_
  refine p (mvt (str wd) rfl) ?_
  refine p (lns u9 rfl rfl) ?_
  refine p (lt rfl rfl) ?_
  refine nl ?_
  refine tn (hK6 _ _ ?_)
  refine cd rfl (fun hc13 => ?_) (fun hc13 => ?_)
  · refine skp ?_
    refine tn (hK5 _ _ ?_)
    refine sq (fun K7 hK7 => ?_)
    refine blk ?_
    refine sq (fun K8 hK8 => ?_)
    refine rg ?_
    refine p asg ?_
    refine nl ?_
    refine tn (hK8 _ _ ?_)
    refine sqc (fun σ2 wN => ∃ (nx : Int), (Wk w wN) ∧ ((nx = -1 ∧ der (wd.getD i 0) (rst (wd.take i) ws) = []) ∨ (0 ≤ nx ∧ K[nx.toNat]? = some (der (wd.getD i 0) (rst (wd.take i) ws)))) ∧ (σ2 0 = .slice aa svs.length cc) ∧ (σ2 1 = str wd) ∧ (σ2 6 = .int .i64 i) ∧ (σ2 7 = .int .i64 nx)) ?_ ?_
    · refine sq (fun K9 hK9 => ?_)
      have hA1 := hA.wk hE
      obtain ⟨g1, ea1, ec1, hq1, hp1, hc1⟩ := hA1.get (i := n) (by omega)
      have hlen1 : ((aut ws).getD n dE).2.length ≤ 256 := hsm _ (getD_mem (by rw [hA.len]; omega))
      refine rg ?_
      refine p (mvt (.slice aa svs.length cc) rfl) ?_
      refine p (mvt (.int .i64 n) rfl) ?_
      refine p (ia' es23 rfl rfl (by omega) (Cells.ok (hA1.cells) (sflat_ne (by omega)))) ?_
      refine p (fa fo40_1 rfl) ?_
      refine p (ld ag38 rfl (cel2 hA1.cells (i := n) (c := 1) ((sflat_get hq1 (by decide)).trans rfl))) ?_
      refine p (lnl u38 rfl rfl) ?_
      refine p mv ?_
      refine nl ?_
      refine tn (hK9 _ _ ?_)
      refine blk ?_
      refine lp (fun gm σ3 wM => ∃ (k : Nat) (nx : Int), (k ≤ ((aut ws).getD n dE).2.length) ∧ (Wk wL wM) ∧ ((nx = -1 ∧ ∀ e ∈ ((aut ws).getD n dE).2.take k, e.1 ≠ wd.getD i 0) ∨ ∃ e ∈ ((aut ws).getD n dE).2, e.1 = wd.getD i 0 ∧ nx = e.2) ∧ (σ3 0 = .slice aa svs.length cc) ∧ (σ3 1 = str wd) ∧ (σ3 5 = .int .i64 n) ∧ (σ3 6 = .int .i64 i) ∧ (σ3 7 = .int .i64 nx) ∧ (σ3 20 = .slice ea1 ((aut ws).getD n dE).2.length ec1) ∧ (σ3 21 = .int .i64 ((aut ws).getD n dE).2.length) ∧ (σ3 22 = .int .i64 k) ∧ (((aut ws).getD n dE).2.length - k = gm)) _ ⟨0, -1, (by omega), (Md.refl _ _), (.inl ⟨rfl, fun e he => by simp at he⟩), rfl, rfl, rfl, rfl, rfl, rfl, rfl, rfl, rfl⟩ ?_
      rintro gm σ3 wM ⟨k, nx, hk, hEM, hnx, hs3_0, hs3_1, hs3_5, hs3_6, hs3_7, hs3_20, hs3_21, hs3_22, rfl⟩
      refine fx 0 hs3_0 (fx 1 hs3_1 (fx 5 hs3_5 (fx 6 hs3_6 (fx 7 hs3_7 (fx 20 hs3_20 (fx 21 hs3_21 (fx 22 hs3_22 ?_)))))))
      refine sq (fun K10 hK10 => ?_)
      refine rg ?_
      refine p (lt rfl rfl) ?_
      refine nl ?_
      refine tn (hK10 _ _ ?_)
      refine sq (fun K11 hK11 => ?_)
      refine cd rfl (fun hc23 => ?_) (fun hc23 => ?_)
      · refine skp ?_
        refine tn (hK11 _ _ ?_)
        refine sq (fun K12 hK12 => ?_)
        refine blk ?_
        refine sq (fun K13 hK13 => ?_)
        have hcm := hc1.wk hEM
        obtain ⟨⟨c, q⟩, hek⟩ : ∃ e, ((aut ws).getD n dE).2[k]? = some e := ⟨_, List.getElem?_eq_getElem (show k < ((aut ws).getD n dE).2.length by omega)⟩
        refine rg ?_
        refine p (ia' es38 rfl rfl (by omega) (Cells.ok (hcm) (eflat_ne (by omega)))) ?_
        refine p (lda ag42 rfl rfl (show ∀ j, j < 2 → cel wM.heap (bk ea1) (fo ea1 + k * 2 + j) = [Value.int .u8 c.toNat, .int .i64 q][j]? from eflat_cells hcm hek)) ?_
        refine e (alT zs42 fun b9 w9 hb9 hN9 hB9 => ?_)
        refine e (staT cz42 rfl rfl rfl rfl hB9 (by simp) fun w8 hM8 hB8 => ?_)
        have hB8x : Blk w8.heap b9 [Value.int .u8 c.toNat, .int .i64 q] := ⟨_, hB8⟩
        have hE8 : Wk wM w8 := Md.trans' hN9.md hM8 (fun k hk h => by omega)
        refine nl ?_
        refine tn (hK13 _ _ ?_)
        refine sq (fun K14 hK14 => ?_)
        have hS9 : (fun w' => Wk w8 w') w8.drew := (Md.refl _ _).drew
        refine hst (fun w' => Wk w8 w') wide hS9 ?_
        refine hp 0 rfl (by kernel_rfl) (fun _ _ => fa fo42_0 rfl) hS9 ?_
        refine hp 1 rfl (by kernel_rfl) (fun w' hS => ld ag5 rfl (Wk.cel hS (hB8x.cel 0))) hS9 ?_
        refine hp 2 rfl (by kernel_rfl) (fun _ _ => mvt (str wd) rfl) hS9 ?_
        refine hp 3 rfl (by kernel_rfl) (fun _ _ => mvt (.int .i64 i) rfl) hS9 ?_
        refine hp 4 rfl (by kernel_rfl) (fun _ _ => ixs u9 rfl rfl (by omega)) hS9 ?_
        refine hp 5 rfl (by kernel_rfl) (fun _ _ => eqi rfl rfl) hS9 ?_
        refine hn (by kernel_rfl) ?_
        refine tn (hK14 _ _ ?_)
        refine cd rfl (fun hc31 => ?_) (fun hc31 => ?_)
        · have hcq : c = wd.getD i 0 := UInt8.toNat_inj.1 (by have := hc31; simp only [Int.toNat_natCast] at this; omega)
          refine rg ?_
          refine p (fa fo42_1 rfl) ?_
          refine p (ld ag3 rfl (Wk.cel (Md.refl _ _).drew (hB8x.cel 1))) ?_
          refine p asg ?_
          refine nl ?_
          refine bn ?_
          refine tn (hK12 _ _ ?_)
          refine rg ?_
          refine p (ad rfl rfl (wi64 (by omega))) ?_
          refine p mv ?_
          refine nl ?_
          refine tn ?_
          exact ⟨_, by omega, k + 1, q, (by omega), ((Md.trans hEM hE8).drew), (.inr ⟨(c, q), List.mem_of_getElem? hek, hcq, rfl⟩), rfl, rfl, rfl, rfl, rfl, rfl, rfl, rfl, rfl⟩
        · have hcq : c ≠ wd.getD i 0 := fun h => hc31 (by simp only [Int.toNat_natCast]; rw [h])
          refine skp ?_
          refine bn ?_
          refine tn (hK12 _ _ ?_)
          refine rg ?_
          refine p (ad rfl rfl (wi64 (by omega))) ?_
          refine p mv ?_
          refine nl ?_
          refine tn ?_
          exact ⟨_, by omega, k + 1, nx, (by omega), ((Md.trans hEM hE8).drew), (hnx.imp (fun h => ⟨h.1, fun e he => by rcases (mem_take_succ' hek).1 he with h2 | h2; exact h.2 e h2; subst h2; exact hcq⟩) id), rfl, rfl, rfl, rfl, rfl, rfl, rfl, rfl, rfl⟩
      · refine ext ?_
        refine te _ ?_
        refine te _ ?_
        refine be ?_
        refine tn ?_
        exact ⟨nx, (Md.trans hE hEM), (acc_end hK hf.1 hKn hLu (by rw [List.take_of_length_le (by omega)] at hnx; exact hnx)), rfl, rfl, rfl, rfl⟩
    rintro σ2 wN ⟨nx, hEM, hnx, hs2_0, hs2_1, hs2_6, hs2_7⟩
    refine fx 0 hs2_0 (fx 1 hs2_1 (fx 6 hs2_6 (fx 7 hs2_7 ?_)))
    refine sq (fun K9 hK9 => ?_)
    refine sq (fun K10 hK10 => ?_)
    refine rg ?_
    refine p (mvt (.int .i64 nx) rfl) ?_
    refine p (lt rfl rfl) ?_
    refine p mv ?_
    refine gs (t := 37) rfl (fun hg37 => ?_) (fun hg37 => ?_)
    · refine sk rfl rfl rfl rfl ?_
      refine sk rfl rfl rfl rfl ?_
      refine sk rfl rfl rfl rfl ?_
      refine sk rfl rfl rfl rfl ?_
      refine p (pkt rfl) ?_
      refine nl ?_
      refine tn (hK10 _ _ ?_)
      refine ct rfl ?_
      refine sq (fun K11 hK11 => ?_)
      refine rg ?_
      refine p asg ?_
      refine nl ?_
      refine tn (hK11 _ _ ?_)
      refine rt ?_
      refine tr ?_
      refine br ?_
      refine tr ?_
      refine tr ?_
      refine br ?_
      refine tr ?_
      refine f1 rfl rfl ?_
      rcases hnx with ⟨h1, h2⟩ | ⟨h1, _⟩
      · exact ⟨bF (not_in (by omega) h2), hEM⟩
      · omega
    · refine pg rfl rfl rfl (mvt (.int .i64 nx) rfl) ?_
      refine pg rfl rfl rfl (mvt (.slice aa svs.length cc) rfl) ?_
      refine pg rfl rfl rfl (lnl u23 rfl rfl) ?_
      refine pg rfl rfl rfl (ge rfl rfl) ?_
      refine p (pkf rfl) ?_
      refine nl ?_
      refine tn (hK10 _ _ ?_)
      refine cd rfl (fun hc42 => ?_) (fun hc42 => ?_)
      · refine sq (fun K11 hK11 => ?_)
        refine rg ?_
        refine p asg ?_
        refine nl ?_
        refine tn (hK11 _ _ ?_)
        refine rt ?_
        refine tr ?_
        refine br ?_
        refine tr ?_
        refine tr ?_
        refine br ?_
        refine tr ?_
        refine f1 rfl rfl ?_
        rcases hnx with ⟨h1, _⟩ | ⟨h1, h2⟩
        · omega
        · have := (List.getElem?_eq_some_iff.1 h2).1
          omega
      · have hKx : K[nx.toNat]? = some (rst (wd.take (i + 1)) ws) := by
          rcases hnx with ⟨h1, _⟩ | ⟨h1, h2⟩
          · omega
          · rw [take_succ_getD wd i 0 (by omega), rst_snoc]; exact h2
        refine skp ?_
        refine tn (hK9 _ _ ?_)
        refine rg ?_
        refine p (mvt (.int .i64 nx) rfl) ?_
        refine p (ast (.int .i64 nx) rfl) ?_
        refine nl ?_
        refine bn ?_
        refine tn (hK7 _ _ ?_)
        refine rg ?_
        refine p (mvt (.int .i64 i) rfl) ?_
        refine p (adv ((i + 1 : Nat) : Int) rfl rfl (w64n (by omega) (by omega))) ?_
        refine p asg ?_
        refine nl ?_
        refine tn ?_
        exact ⟨_, by omega, i + 1, nx.toNat, (by omega), hEM, hKx, ((List.getElem?_eq_some_iff.1 hKx).1), rfl, rfl, (iv (by omega)), rfl, rfl⟩
  · refine ext ?_
    refine te _ ?_
    refine te _ ?_
    refine be ?_
    refine tn (hK3 _ _ ?_)
    refine sq (fun K7 hK7 => ?_)
    obtain ⟨g2, ea2, ec2, hq2, hp2, hc2⟩ := (hA.wk hE).get (i := n) (by omega)
    refine rg ?_
    refine p (mvt (.int .i64 n) rfl) ?_
    refine p (mvt (.slice aa svs.length cc) rfl) ?_
    refine p (lnl u23 rfl rfl) ?_
    refine p (lt rfl rfl) ?_
    refine p mv ?_
    refine gs (t := 48) rfl (fun hg48 => ?_) (fun h => absurd (by omega) h)
    refine pg rfl rfl rfl (mvt (.slice aa svs.length cc) rfl) ?_
    refine pg rfl rfl rfl (mvt (.int .i64 n) rfl) ?_
    refine pg rfl rfl rfl (ia' es23 rfl rfl (by omega) (Cells.ok ((hA.wk hE).cells) (sflat_ne (by omega)))) ?_
    refine pg rfl rfl rfl (fa fo40_0 rfl) ?_
    refine pg rfl rfl rfl (ld ag4 rfl (cel2 (hA.wk hE).cells (i := n) (c := 0) ((sflat_get hq2 (by decide)).trans rfl))) ?_
    refine p (pkt rfl) ?_
    refine p asg ?_
    refine nl ?_
    refine tn (hK7 _ _ ?_)
    refine rt ?_
    refine f1 rfl rfl ?_
    refine ⟨?_, hE⟩
    have h1 := (hK.st n _ hKn).1
    have h2 : g2 = isE (rst wd ws) := by
      rw [← hp2, List.getD_eq_getElem?_getD, h1, List.take_of_length_le (by omega)]; rfl
    have h3 : isE (rst wd ws) = decide (wd ∈ ws) := by
      rw [isE_mem (rst_up hf.1)]
      exact decide_eq_decide.2 (by rw [mem_rst, List.append_nil])
    exact congrArg Value.bool (h2.trans h3)

theorem aut_pos {ws : Tl} (h : Fit ws) : 0 < (aut ws).length := by
  obtain ⟨K, hK⟩ := aut_is h
  rw [hK.len]; exact (List.getElem?_eq_some_iff.1 hK.root).1
theorem addW_fitS (l : Tl) (hl : l.length ≤ 1048576) : addW bigN [] (fitS l) = (0, fitS l) := by
  have h1 := fitS_len l
  have := addW_all (most := bigN) (l := fitS l) (ws := []) (by simpa using fitS_fit l) (by rw [List.nil_append]; unfold bigN; omega)
  simpa using this
theorem vol_mem {l : Tl} {i : Nat} (h : i < l.length) : (l.getD i []).length ≤ vol l := by
  induction l generalizing i with
  | nil => simp at h
  | cons a l ih =>
    cases i with
    | zero => simp [vol]
    | succ i =>
      have := ih (i := i) (by simpa using h)
      simp only [List.getD_cons_succ, vol, List.map_cons, List.sum_cons] at *; omega

set_option maxHeartbeats 1000000 in
theorem acceptsL_w (l l1 : Tl) (a a1 : Option Addr) (cap cap1 : Nat) (w : World) (hS : Strs w.heap a l) (hS1 : Strs w.heap a1 l1) (hl : l.length + vol l + (l1.length + vol l1) ≤ 1048576) :
    Ret Try.prog 4 (List.toArray [.slice a l.length cap, .slice a1 l1.length cap1]) w (fun v w' => v = .bool true ∧ Wk w w') := by
  refine enter Try.func4 rfl Try.ntmps4 rfl ?_
  refine sq (fun K1 hK1 => ?_)
  refine rg ?_
  refine p asg ?_
  refine nl ?_
  refine tn (hK1 _ _ ?_)
  refine sq (fun K2 hK2 => ?_)
  refine sq (fun K3 hK3 => ?_)
  refine rg ?_
  refine e (cl c13 (wakes_w _) rfl fun v12 w12 hR12 => ?_)
  obtain ⟨rfl, hE12⟩ := hR12
  refine p (no rfl) ?_
  refine nl ?_
  refine tn (hK3 _ _ ?_)
  refine cf (rfl) ?_
  refine skp ?_
  refine tn (hK2 _ _ ?_)
  refine sq (fun K4 hK4 => ?_)
  refine rg ?_
  refine p (mvt (.slice a l.length cap) rfl) ?_
  refine e (cl c16 (rising_w l a cap _ (hS.wk hE12) (by omega)) rfl fun v15 w15 hR15 => ?_)
  obtain ⟨hE15, ho15⟩ := hR15
  obtain ⟨a5, c5, rfl⟩ := own_slice ho15
  have hS5 : Strs w15.heap a5 (fitS l) := (own_cellsS ho15).2
  have hfl := fitS_len l
  have hfv := fitS_vol l
  have hff := fitS_fit l
  refine p asg ?_
  refine nl ?_
  refine tn (hK4 _ _ ?_)
  refine sq (fun K5 hK5 => ?_)
  refine rg ?_
  refine p mv ?_
  refine e (cl c11 (twin_w (fitS l) a5 c5 _ hS5 (by omega)) rfl fun v18 w18 hR18 => ?_)
  obtain ⟨hE18, ho18⟩ := hR18
  obtain ⟨a9, c9, rfl⟩ := own_slice ho18
  have hS9 : Strs w18.heap a9 (fitS l) := (own_cellsS ho18).2
  refine e (cl c10 (built_w (fitS l) a9 c9 _ hS9 (by omega)) rfl fun v19 w19 hR19 => ?_)
  obtain ⟨hE19, aa, n, cc, rfl, _, hok⟩ := hR19
  rw [addW_fitS l (by omega)] at hok
  obtain ⟨svs, rfl, hA⟩ := hok rfl
  rw [addW_fitS l (by omega)]
  have hSR := hA.sr
  simp only at hSR
  have hlen := hSR.len
  have hpos := aut_pos hff
  have hsm := (aut_small hff).1
  have hE0 : Wk w w19 := Md.trans (Md.trans (Md.trans hE12 hE15) hE18) hE19
  have hS50 := hS5.wk (Md.trans hE18 hE19)
  refine p mv ?_
  refine p (xt rfl rfl) ?_
  refine p (xt rfl rfl) ?_
  refine p asg ?_
  refine p asg ?_
  refine nl ?_
  refine tn (hK5 _ _ ?_)
  refine sq (fun K6 hK6 => ?_)
  refine sq (fun K7 hK7 => ?_)
  refine rg ?_
  refine p mv ?_
  refine p (nei rfl rfl) ?_
  refine p mv ?_
  refine gs (t := 24) rfl (fun h => absurd h (fun h => h rfl)) (fun hg24 => ?_)
  refine pg rfl rfl rfl mv ?_
  refine pg rfl rfl rfl (lnl u23 rfl rfl) ?_
  refine pg rfl rfl rfl (eqi rfl rfl) ?_
  refine p (pkf rfl) ?_
  refine nl ?_
  refine tn (hK7 _ _ ?_)
  refine cd rfl (fun h => absurd h (by omega)) (fun hc28 => ?_)
  refine skp ?_
  refine tn (hK6 _ _ ?_)
  refine sq (fun K8 hK8 => ?_)
  refine sq (fun K9 hK9 => ?_)
  refine rg ?_
  refine p mv ?_
  refine p (lnl u22 rfl rfl) ?_
  refine p mv ?_
  refine nl ?_
  refine tn (hK9 _ _ ?_)
  refine blk ?_
  refine lp (fun gm σ1 wL => ∃ (i : Nat), (i ≤ (fitS l).length) ∧ (Wk w19 wL) ∧ (σ1 1 = .slice a1 l1.length cap1) ∧ (σ1 5 = .slice a5 (fitS l).length c5) ∧ (σ1 6 = .slice aa svs.length cc) ∧ (σ1 29 = .slice a5 (fitS l).length c5) ∧ (σ1 30 = .int .i64 (fitS l).length) ∧ (σ1 31 = .int .i64 i) ∧ ((fitS l).length - i = gm)) _ ⟨0, (by omega), (Md.refl _ _), rfl, rfl, rfl, rfl, rfl, rfl, rfl⟩ ?_
  rintro gm σ1 wL ⟨i, hi, hE, hs1_1, hs1_5, hs1_6, hs1_29, hs1_30, hs1_31, rfl⟩
  refine fx 1 hs1_1 (fx 5 hs1_5 (fx 6 hs1_6 (fx 29 hs1_29 (fx 30 hs1_30 (fx 31 hs1_31 ?_)))))
  refine sq (fun K10 hK10 => ?_)
  refine rg ?_
  refine p (lt rfl rfl) ?_
  refine nl ?_
  refine tn (hK10 _ _ ?_)
  refine sq (fun K11 hK11 => ?_)
  refine cd rfl (fun hc32 => ?_) (fun hc32 => ?_)
  · refine skp ?_
    refine tn (hK11 _ _ ?_)
    refine sq (fun K12 hK12 => ?_)
    refine blk ?_
    refine sq (fun K13 hK13 => ?_)
    refine rg ?_
    refine p (ia' es22 rfl rfl (by omega) (Cells.ok (hS50.wk hE) (ne_map (by omega)))) ?_
    refine p (ld ag9 rfl (Strs.get (i := i) (hS50.wk hE) (by omega))) ?_
    refine p asg ?_
    refine nl ?_
    refine tn (hK13 _ _ ?_)
    refine sq (fun K14 hK14 => ?_)
    refine rg ?_
    refine p (mvt (.slice aa svs.length cc) rfl) ?_
    refine p mv ?_
    refine e (cl c17 (accepts_w (fitS l) ((fitS l).getD i []) aa cc svs _ (hSR.wk hE) hff (by omega) (by have := vol_mem (l := fitS l) (i := i) (by omega); omega)) rfl fun v37 w37 hR37 => ?_)
    obtain ⟨rfl, hE37⟩ := hR37
    refine p (no rfl) ?_
    refine nl ?_
    refine tn (hK14 _ _ ?_)
    refine cf (congrArg (fun b => Value.bool (!b)) (decide_eq_true (getD_mem (by omega)))) ?_
    refine skp ?_
    refine bn ?_
    refine tn (hK12 _ _ ?_)
    refine rg ?_
    refine p (ad rfl rfl (wi64 (by omega))) ?_
    refine p mv ?_
    refine nl ?_
    refine tn ?_
    exact ⟨_, by omega, i + 1, (by omega), (Md.trans hE hE37), rfl, rfl, rfl, rfl, rfl, rfl, rfl⟩
  · refine ext ?_
    refine te _ ?_
    refine te _ ?_
    refine be ?_
    refine tn (hK8 _ _ ?_)
    refine sq (fun K12 hK12 => ?_)
    refine sq (fun K13 hK13 => ?_)
    refine rg ?_
    refine p (mvt (.slice a1 l1.length cap1) rfl) ?_
    refine p (lnl u22 rfl rfl) ?_
    refine p mv ?_
    refine nl ?_
    refine tn (hK13 _ _ ?_)
    refine blk ?_
    refine lp (fun gm σ2 wM => ∃ (i : Nat), (i ≤ l1.length) ∧ (Wk w19 wM) ∧ (σ2 5 = .slice a5 (fitS l).length c5) ∧ (σ2 6 = .slice aa svs.length cc) ∧ (σ2 40 = .slice a1 l1.length cap1) ∧ (σ2 41 = .int .i64 l1.length) ∧ (σ2 42 = .int .i64 i) ∧ (l1.length - i = gm)) _ ⟨0, (by omega), hE, rfl, rfl, rfl, rfl, rfl, rfl⟩ ?_
    rintro gm σ2 wM ⟨i, hi, hEM, hs2_5, hs2_6, hs2_40, hs2_41, hs2_42, rfl⟩
    refine fx 5 hs2_5 (fx 6 hs2_6 (fx 40 hs2_40 (fx 41 hs2_41 (fx 42 hs2_42 ?_))))
    refine sq (fun K14 hK14 => ?_)
    refine rg ?_
    refine p (lt rfl rfl) ?_
    refine nl ?_
    refine tn (hK14 _ _ ?_)
    refine sq (fun K15 hK15 => ?_)
    refine cd rfl (fun hc43 => ?_) (fun hc43 => ?_)
    · refine skp ?_
      refine tn (hK15 _ _ ?_)
      refine sq (fun K16 hK16 => ?_)
      refine blk ?_
      refine sq (fun K17 hK17 => ?_)
      refine rg ?_
      refine p (ia' es22 rfl rfl (by omega) (Cells.ok (hS1.wk (Md.trans hE0 hEM)) (ne_map (by omega)))) ?_
      refine p (ld ag9 rfl (Strs.get (i := i) (hS1.wk (Md.trans hE0 hEM)) (by omega))) ?_
      refine p asg ?_
      refine nl ?_
      refine tn (hK17 _ _ ?_)
      refine sq (fun K18 hK18 => ?_)
      refine rg ?_
      refine p (mvt (.slice aa svs.length cc) rfl) ?_
      refine p mv ?_
      refine e (cl c17 (accepts_w (fitS l) (l1.getD i []) aa cc svs _ (hSR.wk hEM) hff (by omega) (by have := vol_mem (l := l1) (i := i) (by omega); omega)) rfl fun v48 w48 hR48 => ?_)
      obtain ⟨rfl, hE48⟩ := hR48
      refine p (mvt (.slice a5 (fitS l).length c5) rfl) ?_
      refine p mv ?_
      refine e (cl c18 (has_w (fitS l) (l1.getD i []) a5 c5 _ ((hS50.wk hEM).wk hE48) hff.1 (by omega)) rfl fun v51 w51 hR51 => ?_)
      obtain ⟨rfl, hE51⟩ := hR51
      refine p (nebb u4 rfl rfl) ?_
      refine nl ?_
      refine tn (hK18 _ _ ?_)
      refine cd rfl (fun h => absurd h (fun h => h rfl)) (fun hc52 => ?_)
      refine skp ?_
      refine bn ?_
      refine tn (hK16 _ _ ?_)
      refine rg ?_
      refine p (ad rfl rfl (wi64 (by omega))) ?_
      refine p mv ?_
      refine nl ?_
      refine tn ?_
      exact ⟨_, by omega, i + 1, (by omega), (Md.trans hEM (Md.trans hE48 hE51)), rfl, rfl, rfl, rfl, rfl, rfl⟩
    · refine ext ?_
      refine te _ ?_
      refine te _ ?_
      refine be ?_
      refine tn (hK12 _ _ ?_)
      refine sq (fun K16 hK16 => ?_)
      refine rg ?_
      refine p asg ?_
      refine nl ?_
      refine tn (hK16 _ _ ?_)
      refine rt ?_
      refine f1 rfl rfl ?_
      exact ⟨rfl, Md.trans hE0 hEM⟩
end Go.Hb.LawB
