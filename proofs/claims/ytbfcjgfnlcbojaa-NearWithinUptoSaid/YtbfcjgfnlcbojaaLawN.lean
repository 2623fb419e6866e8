/-
  Walks of hornbooklaw23: what is asked first, and the laws of distances. No conditions but those that each theorem names.
-/
import Derived.Test.YtbfcjgfnlcbojaaChecked
import Derived.Test.YtbfcjgfnlcbojaaCore
import Derived.Test.YtbfcjgfnlcbojaaVisit
import Derived.Test.YtbfcjgfnlcbojaaReg
import Derived.Test.YtbfcjgfnlcbojaaCut
import Derived.Test.YtbfcjgfnlcbojaaBuild
import Derived.Test.YtbfcjgfnlcbojaaAdd
import Derived.Test.YtbfcjgfnlcbojaaAdds
import Derived.Test.YtbfcjgfnlcbojaaNumb
import Derived.Test.YtbfcjgfnlcbojaaFin
import Derived.Test.YtbfcjgfnlcbojaaSame
import Derived.Test.YtbfcjgfnlcbojaaLawA
import Derived.Test.YtbfcjgfnlcbojaaDist
import Derived.Test.YtbfcjgfnlcbojaaShape
import Derived.Test.YtbfcjgfnlcbojaaCounts
import Derived.Test.YtbfcjgfnlcbojaaFind
import Derived.Test.YtbfcjgfnlcbojaaSortN
import Derived.Test.YtbfcjgfnlcbojaaSymm
import Derived.Test.YtbfcjgfnlcbojaaStable
import Derived.Test.YtbfcjgfnlcbojaaWithin
import Derived.Laws.StructEq
import Derived.Test.YtbfcjgfnlcbojaaPlan
import Derived.Test.YtbfcjgfnlcbojaaOpn
import Derived.Test.YtbfcjgfnlcbojaaNrp
set_option maxRecDepth 20000
set_option linter.unusedVariables false
namespace Go.Hb.LawN
open Go.Proofs
open Go.Hb.Visit Go.Hb.Reg Go.Hb.Cut Go.Hb.Build Go.Hb.Add Go.Hb.Adds Go.Hb.Numb Go.Hb.Fin Go.Hb.Same Go.Hb.LawA Go.Hb.Dist Go.Hb.Shape Go.Hb.Counts Go.Hb.Find Go.Hb.SortN Go.Hb.Symm Go.Hb.Stable Go.Hb.Within
theorem ag45 : aggN Try.prog 45 = some (some 2) := by kernel_rfl
theorem c8 : Callable Try.prog 8 := callable Try.func8 (by kernel_rfl) (by kernel_rfl)
theorem c9 : Callable Try.prog 9 := callable Try.func9 (by kernel_rfl) (by kernel_rfl)
theorem c10 : Callable Try.prog 10 := callable Try.func10 (by kernel_rfl) (by kernel_rfl)
theorem c11 : Callable Try.prog 11 := callable Try.func11 (by kernel_rfl) (by kernel_rfl)
theorem c13 : Callable Try.prog 13 := callable Try.func13 (by kernel_rfl) (by kernel_rfl)
theorem c17 : Callable Try.prog 17 := callable Try.func17 (by kernel_rfl) (by kernel_rfl)
theorem es35 : elemSize Try.prog 35 = some 2 := by kernel_rfl
theorem so48 : sliceOk Try.prog 48 9 1 16 = true := by kernel_rfl
theorem st45 : structOk Try.prog 45 = some ([(0, 1), (1, 1)], [.string ⟨⟨[]⟩⟩, .int .i64 0]) := by kernel_rfl
theorem u4 : Try.prog.underlying 4 = some (.bool) := by kernel_rfl
theorem u9 : Try.prog.underlying 9 = some (.string) := by kernel_rfl
theorem u35 : Try.prog.underlying 35 = some (.slice 45) := by kernel_rfl

/-! distances that can be reckoned by the kernel -/
def df : Nat → List UInt8 → List UInt8 → Nat
  | 0, _, _ => 0
  | _ + 1, [], t => t.length
  | _ + 1, _ :: s, [] => s.length + 1
  | f + 1, x :: s, y :: t => min (min (df f s t + ch1 x y) (df f (x :: s) t + 1)) (df f s (y :: t) + 1)
theorem df_dl : ∀ (f : Nat) (s t : List UInt8), s.length + t.length < f → df f s t = dl s t := by
  intro f
  induction f with
  | zero => intro s t h; omega
  | succ f ih =>
    intro s t h
    cases s with
    | nil => rw [df, dl_nl]
    | cons x s =>
      cases t with
      | nil => rw [df, dl_nr]; rfl
      | cons y t =>
        simp only [List.length_cons] at h
        rw [df, dl_c, ih s t (by omega), ih (x :: s) t (by simp only [List.length_cons]; omega), ih s (y :: t) (by simp only [List.length_cons]; omega)]
theorem dist_df (f : Nat) (s t : List UInt8) (h : s.length + t.length < f) : dist s t = df f s t := by rw [dist_dl, df_dl f s t h]
/-! automata whose edges lead to natural numbers -/
def liN (q : Ent) : EnI := (q.1, q.2.map fun e => (e.1, (e.2 : Int)))
def autI (ws : Tl) : List EnI := (aut ws).map liN
theorem liN_get (sts : List Ent) (i : Nat) : stOf (sts.map liN) i = liN (sts.getD i dE) := by
  unfold stOf
  rw [List.getD_eq_getElem?_getD, List.getD_eq_getElem?_getD, List.getElem?_map]
  cases sts[i]? <;> rfl
theorem eflat_at {h : Array Obj} {a : Option Addr} {l : List (UInt8 × Nat)} {i : Nat} {c : UInt8} {q : Nat} (hc : Cells h a (eflat l)) (hl : l[i]? = some (c, q)) : ∀ j, j < 2 → Hb.cel h (bk a) (fo a + i * 2 + j) = [Value.int .u8 c.toNat, .int .i64 q][j]? :=
  flat_cells (f := fun e : UInt8 × Nat => [Value.int .u8 e.1.toNat, .int .i64 e.2]) (m := 2) (fun _ => rfl) hc hl
theorem sr_sti {w : World} {aa : Option Addr} {svs : List (Bool × Value)} {sts : List Ent} (h : SR w aa svs sts) : StI w.heap aa (sts.map liN) := by
  have hl := h.len
  refine ⟨fun h0 => h.cells.ok (sflat_ne (by rw [List.length_map] at h0; omega)), fun i hi => ?_⟩
  rw [List.length_map] at hi
  obtain ⟨f, ea, ec, h1, h2, h3⟩ := h.get (i := i) (by omega)
  have h4 := flat_cells (f := fun q : Bool × Value => [Value.bool q.1, q.2]) (m := 2) (fun _ => rfl) h.cells h1
  rw [liN_get]
  refine ⟨ea, ec, ?_, ?_, ?_⟩
  · rw [h4 0 (by omega)]; unfold liN; rw [h2]; rfl
  · rw [h4 1 (by omega)]; unfold liN; rw [List.length_map]; rfl
  · refine ⟨fun h0 => h3.ok (eflat_ne (by unfold liN at h0; rw [List.length_map] at h0; exact h0)), fun k e he => ?_, fun k e he => ?_⟩
    · unfold liN at he
      rw [List.getElem?_map] at he
      cases h5 : (sts.getD i dE).2[k]? with
      | none => rw [h5] at he; cases he
      | some q => rw [h5] at he; cases he; exact eflat_at h3 h5 0 (by omega)
    · unfold liN at he
      rw [List.getElem?_map] at he
      cases h5 : (sts.getD i dE).2[k]? with
      | none => rw [h5] at he; cases he
      | some q => rw [h5] at he; cases he; exact eflat_at h3 h5 1 (by omega)
/-! the example -/
def exN : Tl := [[99, 97, 116], [99, 97, 116, 115], [99, 117, 116], [100, 111, 103]]
theorem exN_fit : Fit ([] ++ exN) := by
  unfold exN
  refine ⟨?_, ?_⟩
  · simp only [List.nil_append]; decide +kernel
  · simp only [List.nil_append]; decide +kernel
theorem exN_add : addW bigN [] exN = (0, exN) := addW_all (l := exN) (ws := []) exN_fit (by unfold exN bigN; decide)
theorem exN_len : (autI exN).length = (aut exN).length := List.length_map _
theorem exN_shaped : shaped (autI exN) = true := by decide +kernel
theorem exN_wrds : wrds (autI exN) 0 = exN := by decide +kernel
theorem exN_big : (autI exN).length = 8 := by decide +kernel
theorem exN_es : ∀ i, i < (autI exN).length → (stOf (autI exN) i).2.length ≤ 1073741824 := by
  have h : ∀ i, i < 8 → (stOf (autI exN) i).2.length ≤ 1073741824 := by decide +kernel
  intro i hi; rw [exN_big] at hi; exact h i hi
theorem exN_with : withE (autI exN) [99, 97, 116] 1 9 = ([([99, 97, 116], 0), ([99, 97, 116, 115], 1), ([99, 117, 116], 1)], 0) := by
  rw [with5 exN_shaped (by decide) (by decide) (by unfold cnt; rw [exN_wrds]; decide)]
  have h : foundAt (autI exN) [99, 97, 116] 1 [] 0 = [([99, 97, 116], 0), ([99, 97, 116, 115], 1), ([99, 117, 116], 1)] := by
    unfold foundAt fnd
    rw [exN_wrds]
    have d1 : dist [99, 97, 116] [99, 97, 116] = 0 := dist_self _
    have d2 : dist [99, 97, 116] [99, 97, 116, 115] = 1 := by rw [dist_df 20 _ _ (by decide)]; decide +kernel
    have d3 : dist [99, 97, 116] [99, 117, 116] = 1 := by rw [dist_df 20 _ _ (by decide)]; decide +kernel
    have d4 : dist [99, 97, 116] [100, 111, 103] = 3 := by rw [dist_df 20 _ _ (by decide)]; decide +kernel
    simp [exN, d1, d2, d3, d4]
  rw [show (1 : Int).toNat = 1 from rfl, h]
  decide +kernel
theorem ex_kit : dist [107, 105, 116, 116, 101, 110] [115, 105, 116, 116, 105, 110, 103] = 3 := by rw [dist_df 20 _ _ (by decide)]; decide +kernel
/-! near words held against each other -/
theorem eqNear (t1 t2 : List UInt8) (d1 d2 : Int) (w : World) : (binOp .eql 45 (.agg [str t1, .int .i64 d1].toArray) (.agg [str t2, .int .i64 d2].toArray)).run Try.prog w = .ok (.bool (decide (t1 = t2 ∧ d1 = d2))) w := by
  have u3 := Try.underlying3
  have u9 := Try.underlying9
  have hS : Try.prog.underlying 45 = some (.struct (Try.prog.fieldsOf 45)) := by kernel_rfl
  have hp : Try.prog.stoodInHeld 45 = false := by kernel_rfl
  rw [run_eql_struct, show (10000 : Nat) = 9999 + 1 from rfl, run_equalIn_agg w 9999 45 _ _ hS hp]
  simp only [Program.fieldsOf, Try.underlying45]
  go_simp
  have hb : (Op.equalIn 9999 9 (str t1) (str t2)).run Try.prog w = .ok (decide (t1 = t2)) w := by
    unfold str
    refine (run_equalIn_string w 9998 9 _ _ u9).trans ?_
    simp only [ByteArray.toList_eq]
    by_cases h : t1 = t2 <;> simp [h]
  rw [hb]
  by_cases h1 : t1 = t2 <;> by_cases h2 : d1 = d2 <;> simp [h1, h2]
section
variable {N : Nat} {σ : Nat → Value} {w : World} {dst : Option Nat} {ty : TypeId} {pos : String} {af : Array Edge} {g : Option (Nat × Bool)} {x y : Operand}
theorem eqsN {t' : TypeId} {t1 t2 : List UInt8} {d1 d2 : Int} (hx : ev N σ x = .agg [str t1, .int .i64 d1].toArray) (hy : ev N σ y = .agg [str t2, .int .i64 d2].toArray) :
    (execOp (ev N σ) ⟨dst, .binOp .eql 45 x y t', ty, pos, af, g⟩).run Try.prog w = .ok (.value (.bool (decide (t1 = t2 ∧ d1 = d2)))) w := by
  have hm : Try.prog.eqGuardType Try.prog.depth 45 = false := by kernel_rfl
  have hg := run_eqGuard_agg w .eql 45 x y [str t1, .int .i64 d1].toArray [str t2, .int .i64 d2].toArray hm
  have he := eqNear t1 t2 d1 d2 w
  simp only [execOp, hx, hy, Sem.run_bind, hg, he, Result.andThen_ok, Sem.run_pure]
end


theorem cut_len (l : List UInt8) : (l.take 2000).length ≤ 2000 := by rw [List.length_take]; omega

theorem cut_w (s : List UInt8) (w : World) :
    Ret Try.prog 8 (List.toArray [str s]) w (fun v w' => v = str (s.take 2000) ∧ Wk w w') := by
  refine enter Try.func8 rfl Try.ntmps8 rfl ?_
  refine sq (fun K1 hK1 => ?_)
  refine rg ?_
  refine p asg ?_
  refine nl ?_
  refine tn (hK1 _ _ ?_)
  refine sq (fun K2 hK2 => ?_)
  refine rg ?_
  refine p (mvt (str s) rfl) ?_
  refine p (mvt (str s) rfl) ?_
  refine p (lns u9 rfl rfl) ?_
  refine p (mn rfl rfl) ?_
  refine p (slsh u9 rfl rfl (by omega)) ?_
  refine p asg ?_
  refine nl ?_
  refine tn (hK2 _ _ ?_)
  refine rt ?_
  refine f1 rfl rfl ?_
  exact ⟨congrArg str (take_min s 2000 _ rfl), Md.refl _ _⟩
theorem beside_w (x y : Int) (w : World) (hx : -1000000 ≤ x ∧ x ≤ 1000000) (hy : -1000000 ≤ y ∧ y ≤ 1000000) :
    Ret Try.prog 12 (List.toArray [.int .i64 x, .int .i64 y]) w (fun v w' => v = .bool (decide (x - y ≤ 1 ∧ y - x ≤ 1)) ∧ Wk w w') := by
  refine enter Try.func12 rfl Try.ntmps12 rfl ?_
  refine sq (fun K1 hK1 => ?_)
  refine rg ?_
  refine p asg ?_
  refine nl ?_
  refine tn (hK1 _ _ ?_)
  refine sq (fun K2 hK2 => ?_)
  refine rg ?_
  refine p (mvt (.int .i64 x) rfl) ?_
  refine p (mvt (.int .i64 y) rfl) ?_
  refine p (sb rfl rfl (wi64 (by omega))) ?_
  refine p (le rfl rfl) ?_
  refine p mv ?_
  refine gs (t := 9) rfl (fun hg9 => ?_) (fun hg9 => ?_)
  · refine pg rfl rfl rfl (mvt (.int .i64 y) rfl) ?_
    refine pg rfl rfl rfl (mvt (.int .i64 x) rfl) ?_
    refine pg rfl rfl rfl (sb rfl rfl (wi64 (by omega))) ?_
    refine pg rfl rfl rfl (le rfl rfl) ?_
    refine p (pkt rfl) ?_
    refine p asg ?_
    refine nl ?_
    refine tn (hK2 _ _ ?_)
    refine rt ?_
    refine f1 rfl rfl ?_
    exact ⟨congrArg Value.bool (decide_eq_decide.2 ⟨fun h => ⟨hg9, h⟩, fun h => h.2⟩), Md.refl _ _⟩
  · refine sk rfl rfl rfl rfl ?_
    refine sk rfl rfl rfl rfl ?_
    refine sk rfl rfl rfl rfl ?_
    refine sk rfl rfl rfl rfl ?_
    refine p (pkf rfl) ?_
    refine p asg ?_
    refine nl ?_
    refine tn (hK2 _ _ ?_)
    refine rt ?_
    refine f1 rfl rfl ?_
    exact ⟨congrArg Value.bool (decide_eq_false (fun h => hg9 h.1)).symm, Md.refl _ _⟩
set_option maxHeartbeats 1000000 in
theorem wakes_w (w : World) :
    Ret Try.prog 9 (List.toArray []) w (fun v w' => v = .bool true ∧ Wk w w') := by
  refine enter Try.func9 rfl Try.ntmps9 rfl ?_
  refine sq (fun K1 hK1 => ?_)
  refine rg ?_
  refine p asg ?_
  refine nl ?_
  refine tn (hK1 _ _ ?_)
  refine sq (fun K2 hK2 => ?_)
  refine rg ?_
  refine e (bsL (L := exN.map str) so48 rfl rfl rfl rfl fun b6 w6 hb6 hN6 hB6 => ?_)
  have hS6 : Strs w6.heap (some ⟨b6, 0, none⟩) exN := Cells.of_blk ⟨_, hB6⟩
  refine e (cl c17 (built_w exN (some ⟨b6, 0, none⟩) 4 _ hS6 (by decide)) rfl fun v7 w7 hR7 => ?_)
  obtain ⟨hE7, aa, n, cA, rfl, _, hok⟩ := hR7
  rw [exN_add] at hok
  obtain ⟨svs, rfl, hA⟩ := hok rfl
  simp only at hA
  have hSt := sr_sti hA.sr
  have hln : svs.length = (autI exN).length := by rw [exN_len]; exact hA.sr.len.symm
  rw [exN_add]
  rw [hln]
  refine p mv ?_
  refine p (xt rfl rfl) ?_
  refine p (xt rfl rfl) ?_
  refine p asg ?_
  refine p asg ?_
  refine nl ?_
  refine tn (hK2 _ _ ?_)
  refine sq (fun K3 hK3 => ?_)
  refine rg ?_
  refine p mv ?_
  refine e (cl c13 (within_w (autI exN) aa cA [99, 97, 116] 1 9 _ hSt (by rw [exN_big]; decide) exN_es (by decide)) rfl fun v12 w12 hR12 => ?_)
  obtain ⟨nr, rfl, hnr, hE12⟩ := hR12
  rw [exN_with] at hnr
  rw [exN_with]
  obtain ⟨ad2, cp2, rfl, hcl⟩ := hnr
  refine p mv ?_
  refine p (xt rfl rfl) ?_
  refine p (xt rfl rfl) ?_
  refine p asg ?_
  refine p asg ?_
  refine nl ?_
  refine tn (hK3 _ _ ?_)
  refine sq (fun K4 hK4 => ?_)
  refine rg ?_
  refine e (cl c10 (dist_w [107, 105, 116, 116, 101, 110] [115, 105, 116, 116, 105, 110, 103] _ (by decide) (by decide)) rfl fun v15 w15 hR15 => ?_)
  obtain ⟨rfl, hE15⟩ := hR15
  rw [ex_kit]
  refine p (eqi rfl rfl) ?_
  refine p mv ?_
  refine gs (t := 17) rfl (fun hg17 => ?_) (fun h => absurd rfl h)
  refine pg rfl rfl rfl mv ?_
  refine pg rfl rfl rfl (eqi rfl rfl) ?_
  refine p (pkt rfl) ?_
  refine p mv ?_
  refine gs (t := 21) rfl (fun hg21 => ?_) (fun h => absurd rfl h)
  refine pg rfl rfl rfl mv ?_
  refine pg rfl rfl rfl (lnl u35 rfl rfl) ?_
  refine pg rfl rfl rfl (eqi rfl rfl) ?_
  refine p (pkt rfl) ?_
  refine p mv ?_
  refine gs (t := 26) rfl (fun hg26 => ?_) (fun h => absurd rfl h)
  refine pg rfl rfl rfl mv ?_
  refine pg rfl rfl rfl (ia' es35 rfl rfl (by decide) (Cells.ok ((hcl.wk hE15)) (nfl_ne (by decide)))) ?_
  refine pg rfl rfl rfl (lda ag45 rfl rfl (nfl_cells (i := 1) (hcl.wk hE15) rfl)) ?_
  refine pg rfl rfl rfl (bld (ps := [(0, str [99, 97, 116, 115]), (1, .int .i64 1)]) (L := [str [99, 97, 116, 115], .int .i64 1]) st45 rfl (rfl)) ?_
  refine pg rfl rfl rfl (eqsN rfl rfl) ?_
  refine p (pkt rfl) ?_
  refine p asg ?_
  refine nl ?_
  refine tn (hK4 _ _ ?_)
  refine rt ?_
  refine f1 rfl rfl ?_
  exact ⟨congrArg Value.bool (decide_eq_true ⟨rfl, rfl⟩), Md.trans (Md.trans (Md.trans hN6.md hE7) hE12) hE15⟩
theorem distances_w (s0 s1 : List UInt8) (w : World) :
    Ret Try.prog 3 (List.toArray [str s0, str s1]) w (fun v w' => v = .bool true ∧ Wk w w') := by
  have hl0 := cut_len s0
  have hl1 := cut_len s1
  refine enter Try.func3 rfl Try.ntmps3 rfl ?_
  refine sq (fun K1 hK1 => ?_)
  refine rg ?_
  refine p asg ?_
  refine nl ?_
  refine tn (hK1 _ _ ?_)
  refine sq (fun K2 hK2 => ?_)
  refine rg ?_
  refine p (mvt (str s0) rfl) ?_
  refine e (cl c8 (cut_w s0 _) rfl fun v6 w6 hR6 => ?_)
  obtain ⟨rfl, hE6⟩ := hR6
  refine p (mvt (str s1) rfl) ?_
  refine e (cl c8 (cut_w s1 _) rfl fun v8 w8 hR8 => ?_)
  obtain ⟨rfl, hE8⟩ := hR8
  refine p asg ?_
  refine p asg ?_
  refine nl ?_
  refine tn (hK2 _ _ ?_)
  refine sq (fun K3 hK3 => ?_)
  refine rg ?_
  refine e (cl c9 (wakes_w _) rfl fun v9 w9 hR9 => ?_)
  obtain ⟨rfl, hE9⟩ := hR9
  refine p mv ?_
  refine pg rfl rfl rfl mv ?_
  refine pg rfl rfl rfl mv ?_
  refine eg rfl rfl rfl (cl c10 (dist_w (s0.take 2000) (s1.take 2000) _ (by omega) (by omega)) rfl fun v13 w13 hR13 => ?_)
  obtain ⟨rfl, hE13⟩ := hR13
  refine pg rfl rfl rfl mv ?_
  refine pg rfl rfl rfl mv ?_
  refine eg rfl rfl rfl (cl c11 (rdist_w (s0.take 2000) (s1.take 2000) _ (by omega) (by omega)) rfl fun v16 w16 hR16 => ?_)
  obtain ⟨rfl, hE16⟩ := hR16
  refine pg rfl rfl rfl (eqi rfl rfl) ?_
  refine p (pkt rfl) ?_
  refine p asg ?_
  refine nl ?_
  refine tn (hK3 _ _ ?_)
  refine rt ?_
  refine f1 rfl rfl ?_
  exact ⟨congrArg Value.bool (decide_eq_true rfl), Md.trans (Md.trans (Md.trans (Md.trans (hE6) hE8) hE9) hE13) hE16⟩
set_option maxHeartbeats 1000000 in
theorem measure_w (s0 s1 s2 : List UInt8) (w : World) :
    Ret Try.prog 4 (List.toArray [str s0, str s1, str s2]) w (fun v w' => v = .bool true ∧ Wk w w') := by
  have hl0 := cut_len s0
  have hl1 := cut_len s1
  have hl2 := cut_len s2
  have hm1 := dist_max (s0.take 2000) (s1.take 2000)
  have hm2 := dist_max (s0.take 2000) (s2.take 2000)
  have hm3 := dist_max (s2.take 2000) (s1.take 2000)
  have hm4 := dist_lens (s0.take 2000) (s1.take 2000)
  have hm5 := dist_tri (s0.take 2000) (s2.take 2000) (s1.take 2000)
  refine enter Try.func4 rfl Try.ntmps4 rfl ?_
  refine sq (fun K1 hK1 => ?_)
  refine rg ?_
  refine p asg ?_
  refine nl ?_
  refine tn (hK1 _ _ ?_)
  refine sq (fun K2 hK2 => ?_)
  refine rg ?_
  refine p (mvt (str s0) rfl) ?_
  refine e (cl c8 (cut_w s0 _) rfl fun v9 w9 hR9 => ?_)
  obtain ⟨rfl, hE9⟩ := hR9
  refine p (mvt (str s1) rfl) ?_
  refine e (cl c8 (cut_w s1 _) rfl fun v11 w11 hR11 => ?_)
  obtain ⟨rfl, hE11⟩ := hR11
  refine p (mvt (str s2) rfl) ?_
  refine e (cl c8 (cut_w s2 _) rfl fun v13 w13 hR13 => ?_)
  obtain ⟨rfl, hE13⟩ := hR13
  refine p asg ?_
  refine p asg ?_
  refine p asg ?_
  refine nl ?_
  refine tn (hK2 _ _ ?_)
  refine sq (fun K3 hK3 => ?_)
  refine rg ?_
  refine p mv ?_
  refine p mv ?_
  refine e (cl c10 (dist_w (s0.take 2000) (s1.take 2000) _ (by omega) (by omega)) rfl fun v16 w16 hR16 => ?_)
  obtain ⟨rfl, hE16⟩ := hR16
  refine p asg ?_
  refine nl ?_
  refine tn (hK3 _ _ ?_)
  refine sq (fun K4 hK4 => ?_)
  refine sq (fun K5 hK5 => ?_)
  refine rg ?_
  refine e (cl c9 (wakes_w _) rfl fun v17 w17 hR17 => ?_)
  obtain ⟨rfl, hE17⟩ := hR17
  refine p (no rfl) ?_
  refine p mv ?_
  refine gb (t := 19) rfl (fun h => absurd (h.symm.trans (rfl)) Bool.noConfusion) (fun hg19 => ?_)
  refine pg rfl rfl rfl mv ?_
  refine pg rfl rfl rfl mv ?_
  refine eg rfl rfl rfl (cl c10 (dist_w (s0.take 2000) (s0.take 2000) _ (by omega) (by omega)) rfl fun v22 w22 hR22 => ?_)
  obtain ⟨rfl, hE22⟩ := hR22
  refine pg rfl rfl rfl (nei rfl rfl) ?_
  refine p (pkf rfl) ?_
  refine p mv ?_
  refine gs (t := 25) rfl (fun h => absurd h (fun h => h (by rw [dist_self]; rfl))) (fun hg25 => ?_)
  refine pg rfl rfl rfl mv ?_
  refine pg rfl rfl rfl (eqi rfl rfl) ?_
  refine pg rfl rfl rfl mv ?_
  refine pg rfl rfl rfl mv ?_
  refine pg rfl rfl rfl (eqs rfl rfl) ?_
  refine pg rfl rfl rfl (nebb u4 rfl rfl) ?_
  refine p (pkf rfl) ?_
  refine p mv ?_
  refine gs (t := 33) rfl (fun h => absurd h (fun h => h (decide_eq_decide.2 ⟨fun e => dist_zero.1 (by omega), fun e => by rw [e, dist_self]; rfl⟩))) (fun hg33 => ?_)
  refine pg rfl rfl rfl mv ?_
  refine pg rfl rfl rfl mv ?_
  refine eg rfl rfl rfl (cl c10 (dist_w (s1.take 2000) (s0.take 2000) _ (by omega) (by omega)) rfl fun v36 w36 hR36 => ?_)
  obtain ⟨rfl, hE36⟩ := hR36
  refine pg rfl rfl rfl mv ?_
  refine pg rfl rfl rfl (nei rfl rfl) ?_
  refine p (pkf rfl) ?_
  refine nl ?_
  refine tn (hK5 _ _ ?_)
  refine cd rfl (fun h => absurd h (fun h => h (by rw [dist_comm]))) (fun hc39 => ?_)
  refine skp ?_
  refine tn (hK4 _ _ ?_)
  refine sq (fun K6 hK6 => ?_)
  refine sq (fun K7 hK7 => ?_)
  refine rg ?_
  refine p mv ?_
  refine p mv ?_
  refine p (lns u9 rfl rfl) ?_
  refine p mv ?_
  refine p (lns u9 rfl rfl) ?_
  refine p (mx rfl rfl) ?_
  refine p (gt rfl rfl) ?_
  refine p mv ?_
  refine gs (t := 47) rfl (fun h => absurd h (by omega)) (fun hg47 => ?_)
  refine pg rfl rfl rfl mv ?_
  refine pg rfl rfl rfl mv ?_
  refine pg rfl rfl rfl (lns u9 rfl rfl) ?_
  refine pg rfl rfl rfl mv ?_
  refine pg rfl rfl rfl (lns u9 rfl rfl) ?_
  refine pg rfl rfl rfl (sb rfl rfl (wi64 (by omega))) ?_
  refine pg rfl rfl rfl (lt rfl rfl) ?_
  refine p (pkf rfl) ?_
  refine p mv ?_
  refine gs (t := 56) rfl (fun h => absurd h (by omega)) (fun hg56 => ?_)
  refine pg rfl rfl rfl mv ?_
  refine pg rfl rfl rfl mv ?_
  refine pg rfl rfl rfl (lns u9 rfl rfl) ?_
  refine pg rfl rfl rfl mv ?_
  refine pg rfl rfl rfl (lns u9 rfl rfl) ?_
  refine pg rfl rfl rfl (sb rfl rfl (wi64 (by omega))) ?_
  refine pg rfl rfl rfl (lt rfl rfl) ?_
  refine p (pkf rfl) ?_
  refine nl ?_
  refine tn (hK7 _ _ ?_)
  refine cd rfl (fun h => absurd h (by omega)) (fun hc64 => ?_)
  refine skp ?_
  refine tn (hK6 _ _ ?_)
  refine sq (fun K8 hK8 => ?_)
  refine rg ?_
  refine p mv ?_
  refine p mv ?_
  refine p mv ?_
  refine e (cl c10 (dist_w (s0.take 2000) (s2.take 2000) _ (by omega) (by omega)) rfl fun v68 w68 hR68 => ?_)
  obtain ⟨rfl, hE68⟩ := hR68
  refine p mv ?_
  refine p mv ?_
  refine e (cl c10 (dist_w (s2.take 2000) (s1.take 2000) _ (by omega) (by omega)) rfl fun v71 w71 hR71 => ?_)
  obtain ⟨rfl, hE71⟩ := hR71
  refine p (adv ((dist (s0.take 2000) (s2.take 2000) + dist (s2.take 2000) (s1.take 2000) : Nat) : Int) rfl rfl (w64n (by omega) (by omega))) ?_
  refine p (le rfl rfl) ?_
  refine p mv ?_
  refine gs (t := 74) rfl (fun hg74 => ?_) (fun h => absurd (by omega) h)
  refine pg rfl rfl rfl mv ?_
  refine pg rfl rfl rfl mv ?_
  refine pg rfl rfl rfl (cc rfl rfl (by omega)) ?_
  refine pg rfl rfl rfl mv ?_
  refine pg rfl rfl rfl mv ?_
  refine pg rfl rfl rfl (cc rfl rfl (by omega)) ?_
  refine eg rfl rfl rfl (cl c10 (dist_w ((s2.take 2000) ++ (s0.take 2000)) ((s2.take 2000) ++ (s1.take 2000)) _ (by rw [List.length_append]; omega) (by rw [List.length_append]; omega)) rfl fun v81 w81 hR81 => ?_)
  obtain ⟨rfl, hE81⟩ := hR81
  refine pg rfl rfl rfl mv ?_
  refine pg rfl rfl rfl (eqi rfl rfl) ?_
  refine p (pkt rfl) ?_
  refine p mv ?_
  refine gs (t := 85) rfl (fun hg85 => ?_) (fun h => absurd (by rw [dist_left]) h)
  refine pg rfl rfl rfl mv ?_
  refine pg rfl rfl rfl mv ?_
  refine pg rfl rfl rfl (cc rfl rfl (by omega)) ?_
  refine pg rfl rfl rfl mv ?_
  refine pg rfl rfl rfl mv ?_
  refine pg rfl rfl rfl (cc rfl rfl (by omega)) ?_
  refine eg rfl rfl rfl (cl c10 (dist_w ((s0.take 2000) ++ (s2.take 2000)) ((s1.take 2000) ++ (s2.take 2000)) _ (by rw [List.length_append]; omega) (by rw [List.length_append]; omega)) rfl fun v92 w92 hR92 => ?_)
  obtain ⟨rfl, hE92⟩ := hR92
  refine pg rfl rfl rfl mv ?_
  refine pg rfl rfl rfl (eqi rfl rfl) ?_
  refine p (pkt rfl) ?_
  refine p asg ?_
  refine nl ?_
  refine tn (hK8 _ _ ?_)
  refine rt ?_
  refine f1 rfl rfl ?_
  exact ⟨congrArg Value.bool (decide_eq_true (by rw [dist_right])), Md.trans (Md.trans (Md.trans (Md.trans (Md.trans (Md.trans (Md.trans (Md.trans (Md.trans (Md.trans (hE9) hE11) hE13) hE16) hE17) hE22) hE36) hE68) hE71) hE81) hE92⟩
end Go.Hb.LawN
