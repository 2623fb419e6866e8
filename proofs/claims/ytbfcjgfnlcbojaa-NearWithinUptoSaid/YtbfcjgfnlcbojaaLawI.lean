/-
  Walk of hornbooklaw23.NearWithin. No conditions but those that each theorem names.
-/
import Derived.Test.YtbfcjgfnlcbojaaChecked
import Derived.Test.YtbfcjgfnlcbojaaCore
import Derived.Test.YtbfcjgfnlcbojaaVisit
import Derived.Test.YtbfcjgfnlcbojaaReg
import Derived.Test.YtbfcjgfnlcbojaaCut
import Derived.Test.YtbfcjgfnlcbojaaBuild
import Derived.Test.YtbfcjgfnlcbojaaAdd
import Derived.Test.YtbfcjgfnlcbojaaAdds
import Derived.Test.YtbfcjgfnlcbojaaNumb
import Derived.Test.YtbfcjgfnlcbojaaFin
import Derived.Test.YtbfcjgfnlcbojaaSame
import Derived.Test.YtbfcjgfnlcbojaaLawA
import Derived.Test.YtbfcjgfnlcbojaaDist
import Derived.Test.YtbfcjgfnlcbojaaShape
import Derived.Test.YtbfcjgfnlcbojaaCounts
import Derived.Test.YtbfcjgfnlcbojaaFind
import Derived.Test.YtbfcjgfnlcbojaaSortN
import Derived.Test.YtbfcjgfnlcbojaaSymm
import Derived.Test.YtbfcjgfnlcbojaaStable
import Derived.Test.YtbfcjgfnlcbojaaWithin
import Derived.Test.YtbfcjgfnlcbojaaLawN
import Derived.Test.YtbfcjgfnlcbojaaHeights
import Derived.Test.YtbfcjgfnlcbojaaCountsR
import Derived.Test.YtbfcjgfnlcbojaaNthR
import Derived.Test.YtbfcjgfnlcbojaaRWithin
import Derived.Test.YtbfcjgfnlcbojaaPlan
import Derived.Test.YtbfcjgfnlcbojaaOpn
import Derived.Test.YtbfcjgfnlcbojaaNrp
import Derived.Test.YtbfcjgfnlcbojaaHgt
import Derived.Test.YtbfcjgfnlcbojaaIr
import Derived.Test.YtbfcjgfnlcbojaaArr
set_option maxRecDepth 20000
set_option linter.unusedVariables false
namespace Go.Hb.LawI
open Go.Proofs
open Go.Hb.Visit Go.Hb.Reg Go.Hb.Cut Go.Hb.Build Go.Hb.Add Go.Hb.Adds Go.Hb.Numb Go.Hb.Fin Go.Hb.Same Go.Hb.LawA Go.Hb.Dist Go.Hb.Shape Go.Hb.Counts Go.Hb.Find Go.Hb.SortN Go.Hb.Symm Go.Hb.Stable Go.Hb.Within Go.Hb.LawN Go.Hb.Heights Go.Hb.CountsR Go.Hb.NthR Go.Hb.RWithin
theorem ag3 : aggN Try.prog 3 = some none := by kernel_rfl
theorem ag9 : aggN Try.prog 9 = some none := by kernel_rfl
theorem ag32 : aggN Try.prog 32 = some none := by kernel_rfl
theorem c9 : Callable Try.prog 9 := callable Try.func9 (by kernel_rfl) (by kernel_rfl)
theorem c13 : Callable Try.prog 13 := callable Try.func13 (by kernel_rfl) (by kernel_rfl)
theorem c14 : Callable Try.prog 14 := callable Try.func14 (by kernel_rfl) (by kernel_rfl)
theorem c15 : Callable Try.prog 15 := callable Try.func15 (by kernel_rfl) (by kernel_rfl)
theorem es35 : elemSize Try.prog 35 = some 2 := by kernel_rfl
theorem es39 : elemSize Try.prog 39 = some 2 := by kernel_rfl
theorem fo34_0 : fieldOff Try.prog 34 0 = some 0 := by kernel_rfl
theorem fo34_1 : fieldOff Try.prog 34 1 = some 1 := by kernel_rfl
theorem fo34_2 : fieldOff Try.prog 34 2 = some 2 := by kernel_rfl
theorem fo34_3 : fieldOff Try.prog 34 3 = some 3 := by kernel_rfl
theorem fo45_0 : fieldOff Try.prog 45 0 = some 0 := by kernel_rfl
theorem fo45_1 : fieldOff Try.prog 45 1 = some 1 := by kernel_rfl
theorem fo46_0 : fieldOff Try.prog 46 0 = some 0 := by kernel_rfl
theorem fo46_1 : fieldOff Try.prog 46 1 = some 1 := by kernel_rfl
theorem u35 : Try.prog.underlying 35 = some (.slice 45) := by kernel_rfl
theorem u39 : Try.prog.underlying 39 = some (.slice 46) := by kernel_rfl
theorem wide : Try.prog.follows .mixedOrders = true := by kernel_rfl

open Go.Hb.RWithin in
theorem withE_len (a : List EnI) (ws : List UInt8) (k most : Int) : (withE a ws k most).1.length ≤ 65536 := by
  unfold withE
  split
  · simp
  split
  · simp
  split
  · simp
  split
  · simp
  rename_i h
  have h1 := fnd_len ws k.toNat (wrds a 0)
  simp only [List.length_take, isort_len, found_root]
  unfold cnt at h; omega
theorem cel2i {h : Array Obj} {ad : Option Addr} {F : List Nr} {i : Nat} {t : List UInt8} {d : Nat} {v : Value} (hc : Cells h ad (nfl F)) (hx : F[i]? = some (t, d)) (c : Nat) (hv : [str t, .int .i64 (d : Nat)][c]? = some v) : cel h (bk ad) (fo ad + i * 2 + c) = some v := by
  have hlt : c < 2 := (List.getElem?_eq_some_iff.1 hv).1
  rw [nfl_cells hc hx c hlt]; exact hv
/-- states as they are opened -/
def edI (e : Int × Int) : UInt8 × Int := (UInt8.ofNat e.1.toNat, e.2)
def stI_ (q : Bool × List (Int × Int)) : EnI := (q.1, q.2.map edI)
theorem stI_get (A : List (Bool × List (Int × Int))) (i : Nat) (q) (h : A[i]? = some q) : stOf (A.map stI_) i = stI_ q := by
  unfold stOf; rw [List.getD_eq_getElem?_getD, List.getElem?_map, h]; rfl
theorem sum_ge {X : Type} (f : X → Nat) (l : List X) (x : X) (h : x ∈ l) : f x ≤ (l.map f).sum := by
  induction l with
  | nil => cases h
  | cons a l ih =>
    simp only [List.map_cons, List.sum_cons]
    rcases List.mem_cons.1 h with rfl | h
    · omega
    · have := ih h; omega
theorem sum_len {X : Type} (f : X → Nat) (l : List X) (h : ∀ x, 1 ≤ f x) : l.length ≤ (l.map f).sum := by
  induction l with
  | nil => simp
  | cons a l ih => simp only [List.map_cons, List.sum_cons, List.length_cons]; have := h a; omega
abbrev RE (W : World) (cs : List Value) (x : Int × Int) : Prop := ∃ c0 c1, cs = c0 ++ c1 ∧ c0.length = 1 ∧ (c0 = [.int .u8 x.1] ∧ (Lit.int .u8 x.1).wf = true) ∧ (c1 = [.int .i64 x.2] ∧ (Lit.int .i64 x.2).wf = true)
abbrev RQ (W : World) (cs : List Value) (x : Bool × List (Int × Int)) : Prop := ∃ c0 c1, cs = c0 ++ c1 ∧ c0.length = 1 ∧ c0 = [.bool x.1] ∧ RS (1 + 1) RE W c1 x.2
theorem rs_cel {X : Type} {R : World → List Value → X → Prop} {W : World} {cs : List Value} {xs : List X} (h : RS (1 + 1) R W cs xs) : ∃ a c, cs = [.slice a xs.length c] ∧ (0 < xs.length → a = some ⟨bk a, fo a, none⟩) ∧ ∀ (i : Nat) x, xs[i]? = some x → ∃ l, l.length = 2 ∧ R W l x ∧ ∀ j, j < 2 → cel W.heap (bk a) (fo a + i * 2 + j) = l[j]? := by
  obtain ⟨a, c, L, rfl, hl, hc, _, hx⟩ := h
  have hLm : ∀ l ∈ L, l.length = 2 := fun l hl' => by
    obtain ⟨i, hi⟩ := List.mem_iff_getElem?.1 hl'
    have hlt : i < xs.length := by have := (List.getElem?_eq_some_iff.1 hi).1; omega
    exact (hx i l _ hi (List.getElem?_eq_getElem hlt)).1
  refine ⟨a, c, rfl, fun h0 => hc.ok (by rw [Ne, ← List.length_eq_zero_iff, flatten_len hLm]; omega), fun i x hi => ?_⟩
  have hlt := (List.getElem?_eq_some_iff.1 hi).1
  have hLi : L[i]? = some (L[i]'(by omega)) := List.getElem?_eq_getElem (by omega)
  obtain ⟨h1, h2⟩ := hx i _ x hLi hi
  refine ⟨_, h1, h2, fun j hj => ?_⟩
  have h3 := flatten_get hLm hLi hj
  have h4 : j < (L[i]'(by omega)).length := by rw [hLm _ (List.getElem_mem _)]; exact hj
  rw [List.getElem?_eq_getElem h4] at h3 ⊢
  rw [Nat.add_assoc]; exact hc.cel _ _ h3
theorem sti_of {W : World} {cs : List Value} {A : List (Bool × List (Int × Int))} (h : RS (1 + 1) RQ W cs A) : ∃ a c, cs = [.slice a (A.map stI_).length c] ∧ StI W.heap a (A.map stI_) := by
  obtain ⟨a, c, rfl, hok, hx⟩ := rs_cel h
  refine ⟨a, c, by rw [List.length_map], fun h0 => hok (by rw [List.length_map] at h0; exact h0), fun i hi => ?_⟩
  rw [List.length_map] at hi
  have hq : A[i]? = some (A[i]'hi) := List.getElem?_eq_getElem hi
  obtain ⟨l, hl2, ⟨c0, c1, rfl, _, rfl, hR⟩, hcel⟩ := hx i _ hq
  rw [stI_get A i _ hq]
  obtain ⟨ea, ec, rfl, heok, hex⟩ := rs_cel hR
  refine ⟨ea, ec, hcel 0 (by omega), ?_, ?_⟩
  · rw [hcel 1 (by omega)]; unfold stI_; simp
  have key : ∀ k e, (stI_ (A[i]'hi)).2[k]? = some e → cel W.heap (bk ea) (fo ea + k * 2 + 0) = some (.int .u8 e.1.toNat) ∧ cel W.heap (bk ea) (fo ea + k * 2 + 1) = some (.int .i64 e.2) := by
    intro k e he
    unfold stI_ at he
    simp only [List.getElem?_map, Option.map_eq_some_iff] at he
    obtain ⟨x, hx1, rfl⟩ := he
    obtain ⟨l2, _, ⟨d0, d1, rfl, _, ⟨rfl, hw0⟩, rfl, _⟩, hc2⟩ := hex k x hx1
    obtain ⟨b, hb⟩ := u8_of hw0
    refine ⟨?_, hc2 1 (by omega)⟩
    rw [hc2 0 (by omega)]
    unfold edI
    rw [hb, Int.toNat_natCast]
    simp
  exact ⟨fun h0 => heok (by unfold stI_ at h0; rw [List.length_map] at h0; exact h0), fun k e he => (key k e he).1, fun k e he => (key k e he).2⟩

set_option maxHeartbeats 2000000 in
theorem nwithin_w (a : List EnI) (aa : Option Addr) (cA : Nat) (ws : List UInt8) (k most : Int) (w : World) (hA : StI w.heap aa a) (hal : a.length ≤ 1073741824) (hes : ∀ i, i < a.length → (stOf a i).2.length ≤ 1073741824) (hws : ws.length ≤ 1073741824) :
    Ret Try.prog 6 (List.toArray [.agg [.slice aa a.length cA, str ws, .int .i64 k, .int .i64 most].toArray]) w (fun v w' => v = .bool true ∧ Wk w w') := by
  refine enter Try.func6 rfl Try.ntmps6 rfl ?_
  refine sq (fun K1 hK1 => ?_)
  refine rg ?_
  refine e (bxa rfl fun b1 w1 hb1 hN1 hB1 => ?_)
  refine p asg ?_
  refine nl ?_
  refine tn (hK1 _ _ ?_)
  refine sq (fun K2 hK2 => ?_)
  refine sq (fun K3 hK3 => ?_)
  refine rg ?_
  refine e (cl c9 (wakes_w _) rfl fun v8 w8 hR8 => ?_)
  obtain ⟨rfl, hE8⟩ := hR8
  have hB8 := hE8.B hB1
  have hE8x : Wk w w8 := Md.trans hN1.md hE8
  refine p (no rfl) ?_
  refine nl ?_
  refine tn (hK3 _ _ ?_)
  refine cf (rfl) ?_
  refine skp ?_
  refine tn (hK2 _ _ ?_)
  refine sq (fun K4 hK4 => ?_)
  refine rg ?_
  refine p (fa fo34_0 rfl) ?_
  refine p (ld ag32 rfl (hB8.cel 0)) ?_
  refine p (fa fo34_1 rfl) ?_
  refine p (ld ag9 rfl (hB8.cel 1)) ?_
  refine p (fa fo34_2 rfl) ?_
  refine p (ld ag3 rfl (hB8.cel 2)) ?_
  refine p (fa fo34_3 rfl) ?_
  refine p (ld ag3 rfl (hB8.cel 3)) ?_
  refine e (cl c13 (within_w a aa cA ws k most _ (hA.wk hE8x) (by omega) hes hws) rfl fun v19 w19 hR19 => ?_)
  obtain ⟨nr, rfl, hnr, hE19⟩ := hR19
  obtain ⟨ad2, cp2, rfl, hcl⟩ := hnr
  have hB19 := hE19.B hB8
  have hE19x : Wk w w19 := Md.trans hE8x hE19
  have hFl := withE_len a ws k most
  refine p mv ?_
  refine p (xt rfl rfl) ?_
  refine p (xt rfl rfl) ?_
  refine p asg ?_
  refine p asg ?_
  refine nl ?_
  refine tn (hK4 _ _ ?_)
  refine sq (fun K5 hK5 => ?_)
  have hS4 : (fun w' => Wk w19 w') w19.drew := (Md.refl _ _).drew
  refine hst (fun w' => Wk w19 w') wide hS4 ?_
  refine hp 0 rfl (by kernel_rfl) (fun _ _ => fa fo34_0 rfl) hS4 ?_
  refine hp 1 rfl (by kernel_rfl) (fun w' hS => ld ag32 rfl (Wk.cel hS (hB19.cel 0))) hS4 ?_
  refine hp 3 rfl (by kernel_rfl) (fun _ _ => fa fo34_1 rfl) hS4 ?_
  refine hp 4 rfl (by kernel_rfl) (fun w' hS => ld ag9 rfl (Wk.cel hS (hB19.cel 1))) hS4 ?_
  refine hp 5 rfl (by kernel_rfl) (fun _ _ => fa fo34_2 rfl) hS4 ?_
  refine hp 6 rfl (by kernel_rfl) (fun w' hS => ld ag3 rfl (Wk.cel hS (hB19.cel 2))) hS4 ?_
  refine hp 7 rfl (by kernel_rfl) (fun _ _ => fa fo34_3 rfl) hS4 ?_
  refine hp 8 rfl (by kernel_rfl) (fun w' hS => ld ag3 rfl (Wk.cel hS (hB19.cel 3))) hS4 ?_
  refine he 2 rfl (by kernel_rfl) (cl c15 (states_w a aa cA _ (hA.wk hE19x.drew) hal hes) rfl fun v25 w25 hR25 => ?_)
  obtain ⟨hE25, ab, cB, rfl, hB25⟩ := hR25
  have hS4_2 : (fun w' => Wk w19 w') w25 := Md.trans hS4 hE25
  refine ⟨hS4_2, ?_⟩
  refine he 9 rfl (by kernel_rfl) (cl c14 (rwithin_w a ab cB ws k most _ hB25 (by omega) hes hws) rfl fun v32 w32 hR32 => ?_)
  obtain ⟨nr2, rfl, hnr2, hE32⟩ := hR32
  obtain ⟨ad3, cp3, rfl, hcl3⟩ := hnr2
  have hEr : Wk w19 w32 := Md.drewL (Md.trans hE25 hE32)
  have hcl2 := hcl.wk hEr
  have hE32x : Wk w w32 := Md.trans hE19x hEr
  have hS4_9 : (fun w' => Wk w19 w') w32 := Md.trans hS4_2 hE32
  refine ⟨hS4_9, ?_⟩
  refine hp 10 rfl (by kernel_rfl) (fun _ _ => mv) hS4_9 ?_
  refine hp 11 rfl (by kernel_rfl) (fun _ _ => xt rfl rfl) hS4_9 ?_
  refine hp 12 rfl (by kernel_rfl) (fun _ _ => xt rfl rfl) hS4_9 ?_
  refine hp 13 rfl (by kernel_rfl) (fun _ _ => asg) hS4_9 ?_
  refine hp 14 rfl (by kernel_rfl) (fun _ _ => asg) hS4_9 ?_
  refine hn (by kernel_rfl) ?_
  refine tn (hK5 _ _ ?_)
  refine sq (fun K6 hK6 => ?_)
  refine sq (fun K7 hK7 => ?_)
  refine rg ?_
  refine p mv ?_
  refine p mv ?_
  refine p (nei rfl rfl) ?_
  refine p mv ?_
  refine gs (t := 38) rfl (fun h => absurd h (fun h => h rfl)) (fun hg38 => ?_)
  refine pg rfl rfl rfl mv ?_
  refine pg rfl rfl rfl (lnl u35 rfl rfl) ?_
  refine pg rfl rfl rfl mv ?_
  refine pg rfl rfl rfl (lnl u39 rfl rfl) ?_
  refine pg rfl rfl rfl (nei rfl rfl) ?_
  refine p (pkf rfl) ?_
  refine nl ?_
  refine tn (hK7 _ _ ?_)
  refine cd rfl (fun h => absurd h (fun h => h rfl)) (fun hc44 => ?_)
  refine skp ?_
  refine tn (hK6 _ _ ?_)
  refine sq (fun K8 hK8 => ?_)
  refine sq (fun K9 hK9 => ?_)
  refine rg ?_
  refine p mv ?_
  refine p (lnl u35 rfl rfl) ?_
  refine p mv ?_
  refine nl ?_
  refine tn (hK9 _ _ ?_)
  refine blk ?_
  refine lp (fun gm σ1 wR => ∃ (i : Nat), (i ≤ (withE a ws k most).1.length) ∧ (Wk w32 wR) ∧ (σ1 3 = .slice ad2 (withE a ws k most).1.length cp2) ∧ (σ1 5 = .slice ad3 (withE a ws k most).1.length cp3) ∧ (σ1 45 = .slice ad2 (withE a ws k most).1.length cp2) ∧ (σ1 46 = .int .i64 (withE a ws k most).1.length) ∧ (σ1 47 = .int .i64 i) ∧ ((withE a ws k most).1.length - i = gm)) _ ⟨0, (by omega), (Md.refl _ _), rfl, rfl, rfl, rfl, rfl, rfl⟩ ?_
  rintro gm σ1 wR ⟨i, hi, hE4, hs1_3, hs1_5, hs1_45, hs1_46, hs1_47, rfl⟩
  refine fx 3 hs1_3 (fx 5 hs1_5 (fx 45 hs1_45 (fx 46 hs1_46 (fx 47 hs1_47 ?_))))
  refine sq (fun K10 hK10 => ?_)
  refine rg ?_
  refine p (lt rfl rfl) ?_
  refine nl ?_
  refine tn (hK10 _ _ ?_)
  refine sq (fun K11 hK11 => ?_)
  refine cd rfl (fun hc48 => ?_) (fun hc48 => ?_)
  · refine skp ?_
    refine tn (hK11 _ _ ?_)
    refine sq (fun K12 hK12 => ?_)
    refine blk ?_
    refine sq (fun K13 hK13 => ?_)
    refine rg ?_
    refine p (mvt (.int .i64 i) rfl) ?_
    refine p (ast (.int .i64 i) rfl) ?_
    refine nl ?_
    refine tn (hK13 _ _ ?_)
    refine sq (fun K14 hK14 => ?_)
    obtain ⟨⟨xt, xd⟩, hx⟩ : ∃ x, (withE a ws k most).1[i]? = some x := ⟨_, List.getElem?_eq_getElem (by omega)⟩
    have hS10 : (fun w' => Wk wR w') wR.drew := (Md.refl _ _).drew
    refine hst (fun w' => Wk wR w') wide hS10 ?_
    refine hp 0 rfl (by kernel_rfl) (fun _ _ => mvt (.slice ad2 (withE a ws k most).1.length cp2) rfl) hS10 ?_
    refine hp 1 rfl (by kernel_rfl) (fun _ _ => mvt (.int .i64 i) rfl) hS10 ?_
    refine hp 2 rfl (by kernel_rfl) (fun _ _ => ia' es35 rfl rfl (by omega) (Cells.ok (hcl2.wk hE4) (nfl_ne (l := (withE a ws k most).1) (by omega)))) hS10 ?_
    refine hp 3 rfl (by kernel_rfl) (fun _ _ => fa fo45_0 rfl) hS10 ?_
    refine hp 4 rfl (by kernel_rfl) (fun w' hS => ld ag9 rfl (Wk.cel hS (cel2i (hcl2.wk hE4) hx 0 rfl))) hS10 ?_
    refine hp 5 rfl (by kernel_rfl) (fun _ _ => mvt (.slice ad3 (withE a ws k most).1.length cp3) rfl) hS10 ?_
    refine hp 6 rfl (by kernel_rfl) (fun _ _ => mvt (.int .i64 i) rfl) hS10 ?_
    refine hp 7 rfl (by kernel_rfl) (fun _ _ => ia' es39 rfl rfl (by omega) (Cells.ok (hcl3.wk hE4) (nfl_ne (l := (withE a ws k most).1) (by omega)))) hS10 ?_
    refine hp 8 rfl (by kernel_rfl) (fun _ _ => fa fo46_0 rfl) hS10 ?_
    refine hp 9 rfl (by kernel_rfl) (fun w' hS => ld ag9 rfl (Wk.cel hS (cel2i (hcl3.wk hE4) hx 0 rfl))) hS10 ?_
    refine hp 10 rfl (by kernel_rfl) (fun _ _ => nes rfl rfl) hS10 ?_
    refine hp 11 rfl (by kernel_rfl) (fun _ _ => mv) hS10 ?_
    refine hgs (t := 61) rfl (fun h => absurd h (fun h => h rfl)) (fun hg61 => ?_)
    refine hpg 12 rfl (by kernel_rfl) rfl rfl rfl (fun _ _ => mvt (.slice ad2 (withE a ws k most).1.length cp2) rfl) hS10 ?_
    refine hpg 13 rfl (by kernel_rfl) rfl rfl rfl (fun _ _ => mvt (.int .i64 i) rfl) hS10 ?_
    refine hpg 14 rfl (by kernel_rfl) rfl rfl rfl (fun _ _ => ia' es35 rfl rfl (by omega) (Cells.ok (hcl2.wk hE4) (nfl_ne (l := (withE a ws k most).1) (by omega)))) hS10 ?_
    refine hpg 15 rfl (by kernel_rfl) rfl rfl rfl (fun _ _ => fa fo45_1 rfl) hS10 ?_
    refine hpg 16 rfl (by kernel_rfl) rfl rfl rfl (fun w' hS => ld ag3 rfl (Wk.cel hS (cel2i (hcl2.wk hE4) hx 1 rfl))) hS10 ?_
    refine hpg 17 rfl (by kernel_rfl) rfl rfl rfl (fun _ _ => mvt (.slice ad3 (withE a ws k most).1.length cp3) rfl) hS10 ?_
    refine hpg 18 rfl (by kernel_rfl) rfl rfl rfl (fun _ _ => mvt (.int .i64 i) rfl) hS10 ?_
    refine hpg 19 rfl (by kernel_rfl) rfl rfl rfl (fun _ _ => ia' es39 rfl rfl (by omega) (Cells.ok (hcl3.wk hE4) (nfl_ne (l := (withE a ws k most).1) (by omega)))) hS10 ?_
    refine hpg 20 rfl (by kernel_rfl) rfl rfl rfl (fun _ _ => fa fo46_1 rfl) hS10 ?_
    refine hpg 21 rfl (by kernel_rfl) rfl rfl rfl (fun w' hS => ld ag3 rfl (Wk.cel hS (cel2i (hcl3.wk hE4) hx 1 rfl))) hS10 ?_
    refine hpg 22 rfl (by kernel_rfl) rfl rfl rfl (fun _ _ => nei rfl rfl) hS10 ?_
    refine hp 23 rfl (by kernel_rfl) (fun _ _ => pkf rfl) hS10 ?_
    refine hn (by kernel_rfl) ?_
    refine tn (hK14 _ _ ?_)
    refine cd rfl (fun h => absurd h (fun h => h rfl)) (fun hc73 => ?_)
    refine skp ?_
    refine bn ?_
    refine tn (hK12 _ _ ?_)
    refine rg ?_
    refine p (ad rfl rfl (wi64 (by omega))) ?_
    refine p mv ?_
    refine nl ?_
    refine tn ?_
    exact ⟨_, by omega, i + 1, (by omega), hE4.drew, rfl, rfl, rfl, rfl, rfl, rfl⟩
  · refine ext ?_
    refine te _ ?_
    refine te _ ?_
    refine be ?_
    refine tn (hK8 _ _ ?_)
    refine sq (fun K12 hK12 => ?_)
    refine rg ?_
    refine p asg ?_
    refine nl ?_
    refine tn (hK12 _ _ ?_)
    refine rt ?_
    refine f1 rfl rfl ?_
    exact ⟨rfl, Md.trans hE32x hE4⟩
end Go.Hb.LawI
