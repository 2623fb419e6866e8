/-
  Walk of hornbooklaw23.NearWhole. No conditions but those that each theorem names.
-/
import Derived.Test.YtbfcjgfnlcbojaaChecked
import Derived.Test.YtbfcjgfnlcbojaaCore
import Derived.Test.YtbfcjgfnlcbojaaRef08
import Derived.Test.YtbfcjgfnlcbojaaVisit
import Derived.Test.YtbfcjgfnlcbojaaReg
import Derived.Test.YtbfcjgfnlcbojaaCut
import Derived.Test.YtbfcjgfnlcbojaaBuild
import Derived.Test.YtbfcjgfnlcbojaaAdd
import Derived.Test.YtbfcjgfnlcbojaaAdds
import Derived.Test.YtbfcjgfnlcbojaaNumb
import Derived.Test.YtbfcjgfnlcbojaaFin
import Derived.Test.YtbfcjgfnlcbojaaSame
import Derived.Test.YtbfcjgfnlcbojaaLawA
import Derived.Test.YtbfcjgfnlcbojaaDist
import Derived.Test.YtbfcjgfnlcbojaaShape
import Derived.Test.YtbfcjgfnlcbojaaCounts
import Derived.Test.YtbfcjgfnlcbojaaFind
import Derived.Test.YtbfcjgfnlcbojaaSortN
import Derived.Test.YtbfcjgfnlcbojaaSymm
import Derived.Test.YtbfcjgfnlcbojaaStable
import Derived.Test.YtbfcjgfnlcbojaaWithin
import Derived.Test.YtbfcjgfnlcbojaaLawN
import Derived.Test.YtbfcjgfnlcbojaaPlan
import Derived.Test.YtbfcjgfnlcbojaaOpn
import Derived.Test.YtbfcjgfnlcbojaaNrp
set_option maxRecDepth 20000
set_option linter.unusedVariables false
namespace Go.Hb.LawH
open Go.Proofs
open Go.Hb.Ref08 Go.Hb.Visit Go.Hb.Reg Go.Hb.Cut Go.Hb.Build Go.Hb.Add Go.Hb.Adds Go.Hb.Numb Go.Hb.Fin Go.Hb.Same Go.Hb.LawA Go.Hb.Dist Go.Hb.Shape Go.Hb.Counts Go.Hb.Find Go.Hb.SortN Go.Hb.Symm Go.Hb.Stable Go.Hb.Within Go.Hb.LawN
theorem ag3 : aggN Try.prog 3 = some none := by kernel_rfl
theorem ag9 : aggN Try.prog 9 = some none := by kernel_rfl
theorem ag45 : aggN Try.prog 45 = some (some 2) := by kernel_rfl
theorem c9 : Callable Try.prog 9 := callable Try.func9 (by kernel_rfl) (by kernel_rfl)
theorem c10 : Callable Try.prog 10 := callable Try.func10 (by kernel_rfl) (by kernel_rfl)
theorem c13 : Callable Try.prog 13 := callable Try.func13 (by kernel_rfl) (by kernel_rfl)
theorem c16 : Callable Try.prog 16 := callable Try.func16 (by kernel_rfl) (by kernel_rfl)
theorem c17 : Callable Try.prog 17 := callable Try.func17 (by kernel_rfl) (by kernel_rfl)
theorem c18 : Callable Try.prog 18 := callable Try.func18 (by kernel_rfl) (by kernel_rfl)
theorem cz45 : cellsN Try.prog 45 = some 2 := by kernel_rfl
theorem es35 : elemSize Try.prog 35 = some 2 := by kernel_rfl
theorem es48 : elemSize Try.prog 48 = some 1 := by kernel_rfl
theorem fo45_0 : fieldOff Try.prog 45 0 = some 0 := by kernel_rfl
theorem fo45_1 : fieldOff Try.prog 45 1 = some 1 := by kernel_rfl
theorem so48 : sliceOk Try.prog 48 9 1 16 = true := by kernel_rfl
theorem u9 : Try.prog.underlying 9 = some (.string) := by kernel_rfl
theorem u35 : Try.prog.underlying 35 = some (.slice 45) := by kernel_rfl
theorem u48 : Try.prog.underlying 48 = some (.slice 9) := by kernel_rfl
theorem wide : Try.prog.follows .mixedOrders = true := by kernel_rfl
theorem zs45 : zeroOf Try.prog 45 = some (some [.string ⟨⟨[]⟩⟩, .int .i64 0]) := by kernel_rfl

theorem all_str (l : Tl) : (l.map str).all Value.oneCell' = true := by
  rw [List.all_eq_true]; intro u hu; obtain ⟨x, _, rfl⟩ := List.mem_map.1 hu; rfl
theorem with_aut {ws : Tl} {wd : List UInt8} {kk : Nat} (hf : Fit ws) (hl : ws.length ≤ 2000) (hw : wd.length ≤ 255) (hk : kk ≤ 3) : withE (autE ws) wd kk 65536 = (isort (fnd wd kk ws), 0) := by
  have hw0 := aut_wrds hf (by omega)
  rw [with5 (aut_shaped hf (by omega)) (by omega) (by omega) (by unfold cnt; rw [hw0]; omega)]
  have h : foundAt (autE ws) wd ((kk : Nat) : Int).toNat [] 0 = fnd wd kk ws := by
    unfold foundAt
    rw [hw0, Int.toNat_natCast, show ws.map ([] ++ ·) = ws from by simp]
  rw [h, List.take_of_length_le]
  rw [isort_len]
  have := fnd_len wd kk ws
  have h6 : (65536 : Int).toNat = 65536 := rfl
  omega
theorem up_at {F : List Nr} (h : F.Pairwise NrUp) {i : Nat} {x y : Nr} (h0 : 0 < i) (hx : F[i - 1]? = some x) (hy : F[i]? = some y) : x.2 < y.2 ∨ (x.2 = y.2 ∧ sless x.1 y.1 = true) := by
  obtain ⟨h1, rfl⟩ := List.getElem?_eq_some_iff.1 hx
  obtain ⟨h2, rfl⟩ := List.getElem?_eq_some_iff.1 hy
  exact List.pairwise_iff_getElem.1 h _ _ h1 h2 (by omega)

theorem cel2n {h : Array Obj} {ad : Option Addr} {F : List Nr} {i : Nat} {t : List UInt8} {d : Nat} {v : Value} (hc : Cells h ad (nfl F)) (hx : F[i]? = some (t, d)) (c : Nat) (hv : [str t, .int .i64 (d : Nat)][c]? = some v) : cel h (bk ad) (fo ad + i * 2 + c) = some v := by
  have hlt : c < 2 := (List.getElem?_eq_some_iff.1 hv).1
  rw [nfl_cells hc hx c hlt]; exact hv

set_option maxHeartbeats 2000000 in
theorem whole_w (l : Tl) (a : Option Addr) (cap : Nat) (s1 : List UInt8) (k : Int) (w : World) (hS : Strs w.heap a l) (hl : l.length ≤ 1073741824) (hk : -9223372036854775808 ≤ k ∧ k ≤ 9223372036854775807) :
    Ret Try.prog 7 (List.toArray [.slice a l.length cap, str s1, .int .i64 k]) w (fun v w' => v = .bool true ∧ Wk w w') := by
  refine enter Try.func7 rfl Try.ntmps7 rfl ?_
  refine sq (fun K1 hK1 => ?_)
  refine rg ?_
  refine p asg ?_
  refine nl ?_
  refine tn (hK1 _ _ ?_)
  refine sq (fun K2 hK2 => ?_)
  refine sq (fun K3 hK3 => ?_)
  refine rg ?_
  refine e (cl c9 (wakes_w _) rfl fun v20 w20 hR20 => ?_)
  obtain ⟨rfl, hE20⟩ := hR20
  refine p (no rfl) ?_
  refine nl ?_
  refine tn (hK3 _ _ ?_)
  refine cf (rfl) ?_
  refine skp ?_
  refine tn (hK2 _ _ ?_)
  refine sq (fun K4 hK4 => ?_)
  refine rg ?_
  refine p asg ?_
  refine nl ?_
  refine tn (hK4 _ _ ?_)
  refine sq (fun K5 hK5 => ?_)
  refine sq (fun K6 hK6 => ?_)
  refine rg ?_
  refine p (mvt (.slice a l.length cap) rfl) ?_
  refine p (lnl u48 rfl rfl) ?_
  refine p mv ?_
  refine nl ?_
  refine tn (hK6 _ _ ?_)
  refine blk ?_
  refine lp (fun gm σ1 wL => ∃ (i n7 : Nat) (m : Tl) (a7 : Option Addr) (cS : Nat), (i ≤ l.length) ∧ (Wk w wL) ∧ (n7 = m.length) ∧ (World.ownsRow wL w.heap.size 9 1 (.slice a7 n7 cS) n7 (m.map str)) ∧ (∀ x ∈ m, x.length ≤ 255) ∧ (m.length ≤ 2000) ∧ (σ1 0 = .slice a l.length cap) ∧ (σ1 1 = str s1) ∧ (σ1 2 = .int .i64 k) ∧ (σ1 7 = .slice a7 n7 cS) ∧ (σ1 22 = .slice a l.length cap) ∧ (σ1 23 = .int .i64 l.length) ∧ (σ1 24 = .int .i64 i) ∧ (l.length - i = gm)) _ ⟨0, 0, [], none, 0, (by omega), hE20, rfl, (World.ownsRow_nil _ _ _ _), ((fun x hx => by simp at hx)), ((by simp)), rfl, rfl, rfl, rfl, rfl, rfl, rfl, rfl⟩ ?_
  rintro gm σ1 wL ⟨i, n7, m, a7, cS, hi, hE, hn7, ho, h255, hml, hs1_0, hs1_1, hs1_2, hs1_7, hs1_22, hs1_23, hs1_24, rfl⟩
  refine fx 0 hs1_0 (fx 1 hs1_1 (fx 2 hs1_2 (fx 7 hs1_7 (fx 22 hs1_22 (fx 23 hs1_23 (fx 24 hs1_24 ?_))))))
  subst hn7
  refine sq (fun K7 hK7 => ?_)
  refine rg ?_
  refine p (lt rfl rfl) ?_
  refine nl ?_
  refine tn (hK7 _ _ ?_)
  refine sq (fun K8 hK8 => ?_)
  refine cd rfl (fun hc25 => ?_) (fun hc25 => ?_)
  · refine skp ?_
    refine tn (hK8 _ _ ?_)
    refine sq (fun K9 hK9 => ?_)
    refine blk ?_
    refine sq (fun K10 hK10 => ?_)
    refine rg ?_
    refine p (ia' es48 rfl rfl (by omega) (Cells.ok (hS.wk hE) (ne_map (by omega)))) ?_
    refine p (ld ag9 rfl (Strs.get (i := i) (hS.wk hE) (by omega))) ?_
    refine p asg ?_
    refine nl ?_
    refine tn (hK10 _ _ ?_)
    refine sq (fun K11 hK11 => ?_)
    refine rg ?_
    refine p mv ?_
    refine p (lns u9 rfl rfl) ?_
    refine p (le rfl rfl) ?_
    refine p mv ?_
    refine gs (t := 31) rfl (fun hg31 => ?_) (fun hg31 => ?_)
    · refine pg rfl rfl rfl (mvt (.slice a7 m.length cS) rfl) ?_
      refine pg rfl rfl rfl (lnl u48 rfl rfl) ?_
      refine pg rfl rfl rfl (lt rfl rfl) ?_
      refine p (pkt rfl) ?_
      refine nl ?_
      refine tn (hK11 _ _ ?_)
      refine cd rfl (fun hc35 => ?_) (fun hc35 => ?_)
      · refine rg ?_
        refine p (mvt (.slice a7 m.length cS) rfl) ?_
        refine p mv ?_
        refine e (bs1 so48 rfl rfl fun b38 w38 hb38 hN38 hB38 => ?_)
        refine e (ap so48 (own_nw ho hN38.md) rfl (by have := hN38.size; have := hE.size; omega) rfl (Cells.of_blk hB38) (rfl) (rfl) (by omega) (by omega) fun v39 w39 ho39 hM39 hz39 hf39 => ?_)
        have hE39 := Wk.own (Md.trans hE hN38.md) (own_nw ho hN38.md) hM39 (Nat.le_refl _)
        obtain ⟨a8, cT, rfl⟩ := own_slice ho39
        have ho39' : World.ownsRow w39 w.heap.size 9 1 (.slice a8 (m.length + 1) cT) (m.length + 1) ((m ++ [l.getD i []]).map str) := by rw [List.map_append]; exact ho39
        refine p asg ?_
        refine nl ?_
        refine bn ?_
        refine tn (hK9 _ _ ?_)
        refine rg ?_
        refine p (ad rfl rfl (wi64 (by omega))) ?_
        refine p mv ?_
        refine nl ?_
        refine tn ?_
        exact ⟨_, by omega, i + 1, m.length + 1, m ++ [l.getD i []], a8, cT, (by omega), hE39, ((by simp)), ho39', ((fun x hx => by rcases List.mem_append.1 hx with hx | hx <;> first | exact h255 x hx | (rw [List.mem_singleton] at hx; subst hx; omega))), ((by rw [List.length_append, List.length_singleton]; omega)), rfl, rfl, rfl, rfl, rfl, rfl, rfl, rfl⟩
      · refine skp ?_
        refine bn ?_
        refine tn (hK9 _ _ ?_)
        refine rg ?_
        refine p (ad rfl rfl (wi64 (by omega))) ?_
        refine p mv ?_
        refine nl ?_
        refine tn ?_
        exact ⟨_, by omega, i + 1, m.length, m, a7, cS, (by omega), hE, rfl, ho, h255, hml, rfl, rfl, rfl, rfl, rfl, rfl, rfl, rfl⟩
    · refine sk rfl rfl rfl rfl ?_
      refine sk rfl rfl rfl rfl ?_
      refine sk rfl rfl rfl rfl ?_
      refine p (pkf rfl) ?_
      refine nl ?_
      refine tn (hK11 _ _ ?_)
      refine cf rfl ?_
      refine skp ?_
      refine bn ?_
      refine tn (hK9 _ _ ?_)
      refine rg ?_
      refine p (ad rfl rfl (wi64 (by omega))) ?_
      refine p mv ?_
      refine nl ?_
      refine tn ?_
      exact ⟨_, by omega, i + 1, m.length, m, a7, cS, (by omega), hE, rfl, ho, h255, hml, rfl, rfl, rfl, rfl, rfl, rfl, rfl, rfl⟩
  · refine ext ?_
    refine te _ ?_
    refine te _ ?_
    refine be ?_
    refine tn (hK5 _ _ ?_)
    refine sq (fun K9 hK9 => ?_)
    refine rg ?_
    refine p (mvt (.slice a7 m.length cS) rfl) ?_
    refine e (cl c16 (of_w m.length m a7 cS _ rfl (own_cellsS ho).2 (own_cellsS ho).1 (by omega)) rfl fun v42 w42 hR42 => ?_)
    obtain ⟨hE42, ho42⟩ := hR42
    obtain ⟨a10, cW, rfl⟩ := own_slice ho42
    have hSw : Strs w42.heap a10 (setS m) := (own_cellsS ho42).2
    have hE42x : Wk w w42 := Md.trans hE hE42
    have hsl : (setS m).length ≤ 2000 := Nat.le_trans (setS_len m) hml
    have hs255 : ∀ x ∈ setS m, x.length ≤ 255 := fun x hx => h255 x (mem_setS.1 hx)
    have hfit : Fit (setS m) := ⟨setS_up m, hs255⟩
    refine p asg ?_
    refine nl ?_
    refine tn (hK9 _ _ ?_)
    refine sqc (fun σ2 wB => (Wk w42 wB) ∧ (σ2 1 = str (s1.take 255)) ∧ (σ2 2 = .int .i64 k) ∧ (σ2 10 = .slice a10 (setS m).length cW)) ?_ ?_
    · refine rg ?_
      refine p (mvt (str s1) rfl) ?_
      refine p (mvt (str s1) rfl) ?_
      refine p (lns u9 rfl rfl) ?_
      refine p (mn rfl rfl) ?_
      refine p (slsh u9 rfl rfl (by omega)) ?_
      refine p asg ?_
      refine nl ?_
      refine tn ?_
      exact ⟨(Md.refl _ _), (congrArg str (take_min s1 255 _ rfl)), rfl, rfl⟩
    rintro σ2 wB ⟨hEB, hs2_1, hs2_2, hs2_10⟩
    refine fx 1 hs2_1 (fx 2 hs2_2 (fx 10 hs2_10 ?_))
    refine sqc (fun σ3 wC => ∃ (kk : Nat), (kk ≤ 3) ∧ (Wk w42 wC) ∧ (σ3 1 = str (s1.take 255)) ∧ (σ3 2 = .int .i64 (kk : Nat)) ∧ (σ3 10 = .slice a10 (setS m).length cW)) ?_ ?_
    · refine rg ?_
      refine p (mvt (.int .i64 k) rfl) ?_
      refine p (mx rfl rfl) ?_
      refine p (rm rfl rfl (by omega)) ?_
      refine p asg ?_
      refine nl ?_
      refine tn ?_
      exact ⟨(max 0 k % 4).toNat, ((by omega)), hEB, rfl, (iv (by omega)), rfl⟩
    rintro σ3 wC ⟨kk, hkk, hEC, hs3_1, hs3_2, hs3_10⟩
    refine fx 1 hs3_1 (fx 2 hs3_2 (fx 10 hs3_10 ?_))
    refine sq (fun K10 hK10 => ?_)
    refine rg ?_
    refine p (mvt (.slice a10 (setS m).length cW) rfl) ?_
    refine e (ap so48 (World.ownsRow_nil wC wC.heap.size _ _) rfl (Nat.le_refl _) rfl (hSw.wk hEC) (by rw [List.length_map, Nat.mul_one]) (all_str _) (by omega) (by omega) fun v53 w53 ho53 hM53 hz53 hf53 => ?_)
    have ho53x : World.ownsRow w53 wC.heap.size 9 1 v53 (setS m).length ((setS m).map str) := by rw [Nat.zero_add, List.nil_append] at ho53; exact ho53
    have hE53 : Wk wC w53 := Wk.own (Md.refl _ _) (World.ownsRow_nil wC wC.heap.size 9 1) hM53 (Nat.le_refl _)
    obtain ⟨a53, cU, rfl⟩ := own_slice ho53x
    have hS53 : Strs w53.heap a53 (setS m) := (own_cellsS ho53x).2
    refine e (cl c17 (built_w (setS m) a53 cU _ hS53 (by omega)) rfl fun v54 w54 hR54 => ?_)
    obtain ⟨hE54, aa, n, cA, rfl, _, hok⟩ := hR54
    have hadd : addW bigN [] (setS m) = (0, setS m) := addW_all (l := setS m) (ws := []) hfit (by simp only [List.nil_append]; unfold bigN; omega)
    rw [hadd] at hok
    obtain ⟨svs, rfl, hA⟩ := hok rfl
    simp only at hA
    have hSt : StI w54.heap aa (autE (setS m)) := sr_sti hA.sr
    have hln : svs.length = (autE (setS m)).length := by rw [autE_len]; exact hA.sr.len.symm
    have hsm := aut_small hfit
    have hal := autE_len (setS m)
    rw [hadd]
    rw [hln]
    clear hok hz53 hf53
    refine p mv ?_
    refine p (xt rfl rfl) ?_
    refine p (xt rfl rfl) ?_
    refine p asg ?_
    refine p asg ?_
    refine nl ?_
    refine tn (hK10 _ _ ?_)
    refine sq (fun K11 hK11 => ?_)
    refine rg ?_
    refine p mv ?_
    refine p (mvt (str (s1.take 255)) rfl) ?_
    refine p (mvt (.int .i64 (kk : Nat)) rfl) ?_
    refine e (cl c13 (within_w (autE (setS m)) aa cA (s1.take 255) kk 65536 _ hSt (by omega) (fun i _ => Nat.le_trans (aut_es hfit i) (by omega)) (by rw [List.length_take]; omega)) rfl fun v61 w61 hR61 => ?_)
    obtain ⟨nr, rfl, hnr, hE61⟩ := hR61
    have hwith := with_aut (wd := (s1.take 255)) (kk := kk) hfit hsl (by rw [List.length_take]; omega) hkk
    rw [hwith] at hnr
    simp only at hnr
    rw [hwith]
    obtain ⟨ad2, cp2, rfl, hcl⟩ := hnr
    have hE61x : Wk w42 w61 := Md.trans hEC (Md.trans hE53 (Md.trans hE54 hE61))
    have hSw2 := hSw.wk hE61x
    have hFl : (isort (fnd (s1.take 255) kk (setS m))).length ≤ 2000 := by rw [isort_len]; exact Nat.le_trans (fnd_len _ _ _) hsl
    refine p mv ?_
    refine p (xt rfl rfl) ?_
    refine p (xt rfl rfl) ?_
    refine p asg ?_
    refine p asg ?_
    refine nl ?_
    refine tn (hK11 _ _ ?_)
    refine sq (fun K12 hK12 => ?_)
    refine sq (fun K13 hK13 => ?_)
    refine rg ?_
    refine p mv ?_
    refine p (nei rfl rfl) ?_
    refine p mv ?_
    refine gs (t := 66) rfl (fun h => absurd h (fun h => h rfl)) (fun hg66 => ?_)
    refine pg rfl rfl rfl mv ?_
    refine pg rfl rfl rfl (nei rfl rfl) ?_
    refine p (pkf rfl) ?_
    refine nl ?_
    refine tn (hK13 _ _ ?_)
    refine cd rfl (fun h => absurd h (fun h => h rfl)) (fun hc69 => ?_)
    refine skp ?_
    refine tn (hK12 _ _ ?_)
    refine sq (fun K14 hK14 => ?_)
    refine rg ?_
    refine p asg ?_
    refine nl ?_
    refine tn (hK14 _ _ ?_)
    refine sq (fun K15 hK15 => ?_)
    refine sq (fun K16 hK16 => ?_)
    refine rg ?_
    refine p (mvt (.slice a10 (setS m).length cW) rfl) ?_
    refine p (lnl u48 rfl rfl) ?_
    refine p mv ?_
    refine nl ?_
    refine tn (hK16 _ _ ?_)
    refine blk ?_
    refine lp (fun gm σ4 wQ => ∃ (i cn : Nat), (i ≤ (setS m).length) ∧ (Wk w61 wQ) ∧ (cn ≤ i) ∧ (cn = (fnd (s1.take 255) kk ((setS m).take i)).length) ∧ (σ4 1 = str (s1.take 255)) ∧ (σ4 2 = .int .i64 (kk : Nat)) ∧ (σ4 10 = .slice a10 (setS m).length cW) ∧ (σ4 13 = .slice ad2 (isort (fnd (s1.take 255) kk (setS m))).length cp2) ∧ (σ4 15 = .int .i64 (cn : Nat)) ∧ (σ4 70 = .slice a10 (setS m).length cW) ∧ (σ4 71 = .int .i64 (setS m).length) ∧ (σ4 72 = .int .i64 i) ∧ ((setS m).length - i = gm)) _ ⟨0, 0, (by omega), (Md.refl _ _), (by omega), ((by rw [List.take_zero]; rfl)), rfl, rfl, rfl, rfl, rfl, rfl, rfl, rfl, rfl⟩ ?_
    rintro gm σ4 wQ ⟨i, cn, hi, hE7, hcl2, hcn, hs4_1, hs4_2, hs4_10, hs4_13, hs4_15, hs4_70, hs4_71, hs4_72, rfl⟩
    refine fx 1 hs4_1 (fx 2 hs4_2 (fx 10 hs4_10 (fx 13 hs4_13 (fx 15 hs4_15 (fx 70 hs4_70 (fx 71 hs4_71 (fx 72 hs4_72 ?_)))))))
    refine sq (fun K17 hK17 => ?_)
    refine rg ?_
    refine p (lt rfl rfl) ?_
    refine nl ?_
    refine tn (hK17 _ _ ?_)
    refine sq (fun K18 hK18 => ?_)
    refine cd rfl (fun hc73 => ?_) (fun hc73 => ?_)
    · refine skp ?_
      refine tn (hK18 _ _ ?_)
      refine sq (fun K19 hK19 => ?_)
      refine blk ?_
      refine sq (fun K20 hK20 => ?_)
      refine rg ?_
      refine p (ia' es48 rfl rfl (by omega) (Cells.ok (hSw2.wk hE7) (ne_map (by omega)))) ?_
      refine p (ld ag9 rfl (Strs.get (i := i) (hSw2.wk hE7) (by omega))) ?_
      refine p asg ?_
      refine nl ?_
      refine tn (hK20 _ _ ?_)
      refine sq (fun K21 hK21 => ?_)
      refine rg ?_
      refine p (mvt (str (s1.take 255)) rfl) ?_
      refine p mv ?_
      refine e (cl c10 (dist_w (s1.take 255) ((setS m).getD i []) _ (by rw [List.length_take]; omega) (by have := hs255 _ (getD_mem (d := []) (show i < (setS m).length by omega)); omega)) rfl fun v78 w78 hR78 => ?_)
      obtain ⟨rfl, hE78⟩ := hR78
      refine p (mvt (.int .i64 (kk : Nat)) rfl) ?_
      refine p (le rfl rfl) ?_
      refine nl ?_
      refine tn (hK21 _ _ ?_)
      refine cd rfl (fun hc80 => ?_) (fun hc80 => ?_)
      · refine rg ?_
        refine p (mvt (.int .i64 (cn : Nat)) rfl) ?_
        refine p (adv ((cn + 1 : Nat) : Int) rfl rfl (w64n (by omega) (by omega))) ?_
        refine p asg ?_
        refine nl ?_
        refine bn ?_
        refine tn (hK19 _ _ ?_)
        refine rg ?_
        refine p (ad rfl rfl (wi64 (by omega))) ?_
        refine p mv ?_
        refine nl ?_
        refine tn ?_
        exact ⟨_, by omega, i + 1, cn + 1, (by omega), (Md.trans hE7 hE78), (by omega), ((by rw [take_succ_getD _ i [] (by omega), fnd_snoc, if_pos (by omega), hcn])), rfl, rfl, rfl, rfl, rfl, rfl, rfl, rfl, rfl⟩
      · refine skp ?_
        refine bn ?_
        refine tn (hK19 _ _ ?_)
        refine rg ?_
        refine p (ad rfl rfl (wi64 (by omega))) ?_
        refine p mv ?_
        refine nl ?_
        refine tn ?_
        exact ⟨_, by omega, i + 1, cn, (by omega), (Md.trans hE7 hE78), (by omega), ((by rw [take_succ_getD _ i [] (by omega), fnd_snoc, if_neg (by omega), Nat.add_zero, hcn])), rfl, rfl, rfl, rfl, rfl, rfl, rfl, rfl, rfl⟩
    · refine ext ?_
      refine te _ ?_
      refine te _ ?_
      refine be ?_
      refine tn (hK15 _ _ ?_)
      refine sq (fun K19 hK19 => ?_)
      refine sq (fun K20 hK20 => ?_)
      refine rg ?_
      refine p (mvt (.slice ad2 (isort (fnd (s1.take 255) kk (setS m))).length cp2) rfl) ?_
      refine p (lnl u35 rfl rfl) ?_
      refine p mv ?_
      refine nl ?_
      refine tn (hK20 _ _ ?_)
      refine blk ?_
      refine lp (fun gm σ5 wR => ∃ (i : Nat), (i ≤ (isort (fnd (s1.take 255) kk (setS m))).length) ∧ (Wk w61 wR) ∧ (σ5 1 = str (s1.take 255)) ∧ (σ5 2 = .int .i64 (kk : Nat)) ∧ (σ5 10 = .slice a10 (setS m).length cW) ∧ (σ5 13 = .slice ad2 (isort (fnd (s1.take 255) kk (setS m))).length cp2) ∧ (σ5 15 = .int .i64 (cn : Nat)) ∧ (σ5 84 = .slice ad2 (isort (fnd (s1.take 255) kk (setS m))).length cp2) ∧ (σ5 85 = .int .i64 (isort (fnd (s1.take 255) kk (setS m))).length) ∧ (σ5 86 = .int .i64 i) ∧ ((isort (fnd (s1.take 255) kk (setS m))).length - i = gm)) _ ⟨0, (by omega), hE7, rfl, rfl, rfl, rfl, rfl, rfl, rfl, rfl, rfl⟩ ?_
      rintro gm σ5 wR ⟨i, hi, hE8, hs5_1, hs5_2, hs5_10, hs5_13, hs5_15, hs5_84, hs5_85, hs5_86, rfl⟩
      refine fx 1 hs5_1 (fx 2 hs5_2 (fx 10 hs5_10 (fx 13 hs5_13 (fx 15 hs5_15 (fx 84 hs5_84 (fx 85 hs5_85 (fx 86 hs5_86 ?_)))))))
      refine sq (fun K21 hK21 => ?_)
      refine rg ?_
      refine p (lt rfl rfl) ?_
      refine nl ?_
      refine tn (hK21 _ _ ?_)
      refine sq (fun K22 hK22 => ?_)
      refine cd rfl (fun hc87 => ?_) (fun hc87 => ?_)
      · refine skp ?_
        refine tn (hK22 _ _ ?_)
        refine sq (fun K23 hK23 => ?_)
        refine blk ?_
        refine sq (fun K24 hK24 => ?_)
        obtain ⟨⟨xt, xd⟩, hx⟩ : ∃ x, (isort (fnd (s1.take 255) kk (setS m)))[i]? = some x := ⟨_, List.getElem?_eq_getElem (by omega)⟩
        obtain ⟨⟨yt, yd⟩, hy⟩ : ∃ x, (isort (fnd (s1.take 255) kk (setS m)))[i - 1]? = some x := ⟨_, List.getElem?_eq_getElem (by omega)⟩
        have hxm := fnd_mem ((isort_se _).mem (List.mem_of_getElem? hx))
        simp only at hxm
        have hxl := hs255 xt hxm.1
        have hup : 0 < i → yd < xd ∨ (yd = xd ∧ sless yt xt = true) := fun h0 => up_at (isort_up (fnd_up (setS_up m))) h0 hy hx
        refine rg ?_
        refine p (mvt (.int .i64 i) rfl) ?_
        refine p (ia' es35 rfl rfl (by omega) (Cells.ok (hcl.wk hE8) (nfl_ne (l := (isort (fnd (s1.take 255) kk (setS m)))) (by omega)))) ?_
        refine p (lda ag45 rfl rfl (nfl_cells (hcl.wk hE8) hx)) ?_
        refine e (alT zs45 fun b19 w19 hb19 hN19 hB19 => ?_)
        refine p (ast (.int .i64 i) rfl) ?_
        refine e (staT cz45 rfl rfl rfl rfl hB19 (by simp) fun w26 hM26 hB26 => ?_)
        have hB26x : Blk w26.heap b19 [str xt, .int .i64 (xd : Nat)] := ⟨_, hB26⟩
        have hE26 : Wk wR w26 := Md.trans' hN19.md hM26 (fun k hk h => by omega)
        have hE26x : Wk w61 w26 := Md.trans hE8 hE26
        refine nl ?_
        refine tn (hK24 _ _ ?_)
        refine sq (fun K25 hK25 => ?_)
        refine sq (fun K26 hK26 => ?_)
        have hS27 : (fun w' => Wk w26 w') w26.drew := (Md.refl _ _).drew
        refine hst (fun w' => Wk w26 w') wide hS27 ?_
        refine hp 0 rfl (by kernel_rfl) (fun _ _ => fa fo45_1 rfl) hS27 ?_
        refine hp 1 rfl (by kernel_rfl) (fun w' hS => ld ag3 rfl (Wk.cel hS (hB26x.cel 1))) hS27 ?_
        refine hp 2 rfl (by kernel_rfl) (fun _ _ => mvt (str (s1.take 255)) rfl) hS27 ?_
        refine hp 3 rfl (by kernel_rfl) (fun _ _ => fa fo45_0 rfl) hS27 ?_
        refine hp 4 rfl (by kernel_rfl) (fun w' hS => ld ag9 rfl (Wk.cel hS (hB26x.cel 0))) hS27 ?_
        refine he 5 rfl (by kernel_rfl) (cl c10 (dist_w (s1.take 255) xt _ (by rw [List.length_take]; omega) (by omega)) rfl fun v96 w96 hR96 => ?_)
        obtain ⟨rfl, hE96⟩ := hR96
        have hS27_5 : (fun w' => Wk w26 w') w96 := Md.trans hS27 hE96
        refine ⟨hS27_5, ?_⟩
        refine hp 6 rfl (by kernel_rfl) (fun _ _ => nei rfl rfl) hS27_5 ?_
        refine hp 7 rfl (by kernel_rfl) (fun _ _ => mv) hS27_5 ?_
        refine hgs (t := 98) rfl (fun h => absurd h (fun h => h (by rw [hxm.2.1]))) (fun hg98 => ?_)
        refine hpg 8 rfl (by kernel_rfl) rfl rfl rfl (fun _ _ => fa fo45_1 rfl) hS27_5 ?_
        refine hpg 9 rfl (by kernel_rfl) rfl rfl rfl (fun w' hS => ld ag3 rfl (Wk.cel hS (hB26x.cel 1))) hS27_5 ?_
        refine hpg 10 rfl (by kernel_rfl) rfl rfl rfl (fun _ _ => mvt (.int .i64 (kk : Nat)) rfl) hS27_5 ?_
        refine hpg 11 rfl (by kernel_rfl) rfl rfl rfl (fun _ _ => gt rfl rfl) hS27_5 ?_
        refine hp 12 rfl (by kernel_rfl) (fun _ _ => pkf rfl) hS27_5 ?_
        refine hp 13 rfl (by kernel_rfl) (fun _ _ => mv) hS27_5 ?_
        refine hgs (t := 104) rfl (fun h => absurd h (by omega)) (fun hg104 => ?_)
        refine hpg 14 rfl (by kernel_rfl) rfl rfl rfl (fun _ _ => mvt (.slice a10 (setS m).length cW) rfl) hS27_5 ?_
        refine hpg 15 rfl (by kernel_rfl) rfl rfl rfl (fun _ _ => fa fo45_0 rfl) hS27_5 ?_
        refine hpg 16 rfl (by kernel_rfl) rfl rfl rfl (fun w' hS => ld ag9 rfl (Wk.cel hS (hB26x.cel 0))) hS27_5 ?_
        refine heg 17 rfl (by kernel_rfl) rfl rfl rfl (cl c18 (has_w (setS m) xt a10 cW _ (hSw2.wk (Md.trans hE26x hS27_5)) (setS_up m) (by omega)) rfl fun v108 w108 hR108 => ?_)
        obtain ⟨rfl, hE108⟩ := hR108
        have hS27_17 : (fun w' => Wk w26 w') w108 := Md.trans hS27_5 hE108
        refine ⟨hS27_17, ?_⟩
        refine hpg 18 rfl (by kernel_rfl) rfl rfl rfl (fun _ _ => no rfl) hS27_17 ?_
        refine hp 19 rfl (by kernel_rfl) (fun _ _ => pkf rfl) hS27_17 ?_
        refine hn (by kernel_rfl) ?_
        refine tn (hK26 _ _ ?_)
        refine cf (congrArg (fun b => Value.bool (!b)) (decide_eq_true hxm.1)) ?_
        refine skp ?_
        refine tn (hK25 _ _ ?_)
        refine sq (fun K27 hK27 => ?_)
        have hE29 : Wk w26 w108 := hS27_17
        have hE9 : Wk w61 w108 := Md.trans hE26x hE29
        have hB26y := hE29.B hB26x
        have hS29 : (fun w' => Wk w108 w') w108.drew := (Md.refl _ _).drew
        refine hst (fun w' => Wk w108 w') wide hS29 ?_
        refine hp 0 rfl (by kernel_rfl) (fun _ _ => mvt (.int .i64 i) rfl) hS29 ?_
        refine hp 1 rfl (by kernel_rfl) (fun _ _ => gt rfl rfl) hS29 ?_
        refine hp 2 rfl (by kernel_rfl) (fun _ _ => mv) hS29 ?_
        refine hgs (t := 113) rfl (fun hg113 => ?_) (fun hg113 => ?_)
        · refine hpg 3 rfl (by kernel_rfl) rfl rfl rfl (fun _ _ => mvt (.slice ad2 (isort (fnd (s1.take 255) kk (setS m))).length cp2) rfl) hS29 ?_
          refine hpg 4 rfl (by kernel_rfl) rfl rfl rfl (fun _ _ => mvt (.int .i64 i) rfl) hS29 ?_
          refine hpg 5 rfl (by kernel_rfl) rfl rfl rfl (fun _ _ => sbv ((i - 1 : Nat) : Int) rfl rfl (w64n (by omega) (by omega))) hS29 ?_
          refine hpg 6 rfl (by kernel_rfl) rfl rfl rfl (fun _ _ => ia' es35 rfl rfl (by omega) (Cells.ok (hcl.wk hE9) (nfl_ne (l := (isort (fnd (s1.take 255) kk (setS m)))) (by omega)))) hS29 ?_
          refine hpg 7 rfl (by kernel_rfl) rfl rfl rfl (fun _ _ => fa fo45_1 rfl) hS29 ?_
          refine hpg 8 rfl (by kernel_rfl) rfl rfl rfl (fun w' hS => ld ag3 rfl (Wk.cel hS (cel2n (hcl.wk hE9) hy 1 rfl))) hS29 ?_
          refine hpg 9 rfl (by kernel_rfl) rfl rfl rfl (fun _ _ => fa fo45_1 rfl) hS29 ?_
          refine hpg 10 rfl (by kernel_rfl) rfl rfl rfl (fun w' hS => ld ag3 rfl (Wk.cel hS (hB26y.cel 1))) hS29 ?_
          refine hpg 11 rfl (by kernel_rfl) rfl rfl rfl (fun _ _ => gt rfl rfl) hS29 ?_
          refine hpg 12 rfl (by kernel_rfl) rfl rfl rfl (fun _ _ => mv) hS29 ?_
          refine hgs (t := 123) rfl (fun h => absurd h (by have := hup (by omega); omega)) (fun hg123 => ?_)
          refine hpg 13 rfl (by kernel_rfl) rfl rfl rfl (fun _ _ => mvt (.slice ad2 (isort (fnd (s1.take 255) kk (setS m))).length cp2) rfl) hS29 ?_
          refine hpg 14 rfl (by kernel_rfl) rfl rfl rfl (fun _ _ => mvt (.int .i64 i) rfl) hS29 ?_
          refine hpg 15 rfl (by kernel_rfl) rfl rfl rfl (fun _ _ => sbv ((i - 1 : Nat) : Int) rfl rfl (w64n (by omega) (by omega))) hS29 ?_
          refine hpg 16 rfl (by kernel_rfl) rfl rfl rfl (fun _ _ => ia' es35 rfl rfl (by omega) (Cells.ok (hcl.wk hE9) (nfl_ne (l := (isort (fnd (s1.take 255) kk (setS m)))) (by omega)))) hS29 ?_
          refine hpg 17 rfl (by kernel_rfl) rfl rfl rfl (fun _ _ => fa fo45_1 rfl) hS29 ?_
          refine hpg 18 rfl (by kernel_rfl) rfl rfl rfl (fun w' hS => ld ag3 rfl (Wk.cel hS (cel2n (hcl.wk hE9) hy 1 rfl))) hS29 ?_
          refine hpg 19 rfl (by kernel_rfl) rfl rfl rfl (fun _ _ => fa fo45_1 rfl) hS29 ?_
          refine hpg 20 rfl (by kernel_rfl) rfl rfl rfl (fun w' hS => ld ag3 rfl (Wk.cel hS (hB26y.cel 1))) hS29 ?_
          refine hpg 21 rfl (by kernel_rfl) rfl rfl rfl (fun _ _ => eqi rfl rfl) hS29 ?_
          refine hpg 22 rfl (by kernel_rfl) rfl rfl rfl (fun _ _ => mv) hS29 ?_
          refine hgs (t := 133) rfl (fun hg133 => ?_) (fun hg133 => ?_)
          · refine hpg 23 rfl (by kernel_rfl) rfl rfl rfl (fun _ _ => mvt (.slice ad2 (isort (fnd (s1.take 255) kk (setS m))).length cp2) rfl) hS29 ?_
            refine hpg 24 rfl (by kernel_rfl) rfl rfl rfl (fun _ _ => mvt (.int .i64 i) rfl) hS29 ?_
            refine hpg 25 rfl (by kernel_rfl) rfl rfl rfl (fun _ _ => sbv ((i - 1 : Nat) : Int) rfl rfl (w64n (by omega) (by omega))) hS29 ?_
            refine hpg 26 rfl (by kernel_rfl) rfl rfl rfl (fun _ _ => ia' es35 rfl rfl (by omega) (Cells.ok (hcl.wk hE9) (nfl_ne (l := (isort (fnd (s1.take 255) kk (setS m)))) (by omega)))) hS29 ?_
            refine hpg 27 rfl (by kernel_rfl) rfl rfl rfl (fun _ _ => fa fo45_0 rfl) hS29 ?_
            refine hpg 28 rfl (by kernel_rfl) rfl rfl rfl (fun w' hS => ld ag9 rfl (Wk.cel hS (cel2n (hcl.wk hE9) hy 0 rfl))) hS29 ?_
            refine hpg 29 rfl (by kernel_rfl) rfl rfl rfl (fun _ _ => fa fo45_0 rfl) hS29 ?_
            refine hpg 30 rfl (by kernel_rfl) rfl rfl rfl (fun w' hS => ld ag9 rfl (Wk.cel hS (hB26y.cel 0))) hS29 ?_
            refine hpg 31 rfl (by kernel_rfl) rfl rfl rfl (fun _ _ => ges rfl rfl) hS29 ?_
            refine hpg 32 rfl (by kernel_rfl) rfl rfl rfl (fun _ _ => pkt rfl) hS29 ?_
            refine hpg 33 rfl (by kernel_rfl) rfl rfl rfl (fun _ _ => pkf rfl) hS29 ?_
            refine hp 34 rfl (by kernel_rfl) (fun _ _ => pkt rfl) hS29 ?_
            refine hn (by kernel_rfl) ?_
            refine tn (hK27 _ _ ?_)
            refine cf (congrArg (fun b => Value.bool (!b)) ((hup (by omega)).resolve_left (by omega)).2) ?_
            refine skp ?_
            refine bn ?_
            refine tn (hK23 _ _ ?_)
            refine rg ?_
            refine p (ad rfl rfl (wi64 (by omega))) ?_
            refine p mv ?_
            refine nl ?_
            refine tn ?_
            exact ⟨_, by omega, i + 1, (by omega), hE9.drew, rfl, rfl, rfl, rfl, rfl, rfl, rfl, rfl, rfl⟩
          · refine hsk 23 rfl (by kernel_rfl) rfl rfl rfl rfl hS29 ?_
            refine hsk 24 rfl (by kernel_rfl) rfl rfl rfl rfl hS29 ?_
            refine hsk 25 rfl (by kernel_rfl) rfl rfl rfl rfl hS29 ?_
            refine hsk 26 rfl (by kernel_rfl) rfl rfl rfl rfl hS29 ?_
            refine hsk 27 rfl (by kernel_rfl) rfl rfl rfl rfl hS29 ?_
            refine hsk 28 rfl (by kernel_rfl) rfl rfl rfl rfl hS29 ?_
            refine hsk 29 rfl (by kernel_rfl) rfl rfl rfl rfl hS29 ?_
            refine hsk 30 rfl (by kernel_rfl) rfl rfl rfl rfl hS29 ?_
            refine hsk 31 rfl (by kernel_rfl) rfl rfl rfl rfl hS29 ?_
            refine hpg 32 rfl (by kernel_rfl) rfl rfl rfl (fun _ _ => pkf rfl) hS29 ?_
            refine hpg 33 rfl (by kernel_rfl) rfl rfl rfl (fun _ _ => pkf rfl) hS29 ?_
            refine hp 34 rfl (by kernel_rfl) (fun _ _ => pkt rfl) hS29 ?_
            refine hn (by kernel_rfl) ?_
            refine tn (hK27 _ _ ?_)
            refine cf rfl ?_
            refine skp ?_
            refine bn ?_
            refine tn (hK23 _ _ ?_)
            refine rg ?_
            refine p (ad rfl rfl (wi64 (by omega))) ?_
            refine p mv ?_
            refine nl ?_
            refine tn ?_
            exact ⟨_, by omega, i + 1, (by omega), hE9.drew, rfl, rfl, rfl, rfl, rfl, rfl, rfl, rfl, rfl⟩
        · refine hsk 3 rfl (by kernel_rfl) rfl rfl rfl rfl hS29 ?_
          refine hsk 4 rfl (by kernel_rfl) rfl rfl rfl rfl hS29 ?_
          refine hsk 5 rfl (by kernel_rfl) rfl rfl rfl rfl hS29 ?_
          refine hsk 6 rfl (by kernel_rfl) rfl rfl rfl rfl hS29 ?_
          refine hsk 7 rfl (by kernel_rfl) rfl rfl rfl rfl hS29 ?_
          refine hsk 8 rfl (by kernel_rfl) rfl rfl rfl rfl hS29 ?_
          refine hsk 9 rfl (by kernel_rfl) rfl rfl rfl rfl hS29 ?_
          refine hsk 10 rfl (by kernel_rfl) rfl rfl rfl rfl hS29 ?_
          refine hsk 11 rfl (by kernel_rfl) rfl rfl rfl rfl hS29 ?_
          refine hsk 12 rfl (by kernel_rfl) rfl rfl rfl rfl hS29 ?_
          refine hsku 13 rfl (by kernel_rfl) rfl rfl rfl hS29 ?_
          refine hsku 14 rfl (by kernel_rfl) rfl rfl rfl hS29 ?_
          refine hsku 15 rfl (by kernel_rfl) rfl rfl rfl hS29 ?_
          refine hsku 16 rfl (by kernel_rfl) rfl rfl rfl hS29 ?_
          refine hsku 17 rfl (by kernel_rfl) rfl rfl rfl hS29 ?_
          refine hsku 18 rfl (by kernel_rfl) rfl rfl rfl hS29 ?_
          refine hsku 19 rfl (by kernel_rfl) rfl rfl rfl hS29 ?_
          refine hsku 20 rfl (by kernel_rfl) rfl rfl rfl hS29 ?_
          refine hsku 21 rfl (by kernel_rfl) rfl rfl rfl hS29 ?_
          refine hsku 22 rfl (by kernel_rfl) rfl rfl rfl hS29 ?_
          refine hsku 23 rfl (by kernel_rfl) rfl rfl rfl hS29 ?_
          refine hsku 24 rfl (by kernel_rfl) rfl rfl rfl hS29 ?_
          refine hsku 25 rfl (by kernel_rfl) rfl rfl rfl hS29 ?_
          refine hsku 26 rfl (by kernel_rfl) rfl rfl rfl hS29 ?_
          refine hsku 27 rfl (by kernel_rfl) rfl rfl rfl hS29 ?_
          refine hsku 28 rfl (by kernel_rfl) rfl rfl rfl hS29 ?_
          refine hsku 29 rfl (by kernel_rfl) rfl rfl rfl hS29 ?_
          refine hsku 30 rfl (by kernel_rfl) rfl rfl rfl hS29 ?_
          refine hsku 31 rfl (by kernel_rfl) rfl rfl rfl hS29 ?_
          refine hsku 32 rfl (by kernel_rfl) rfl rfl rfl hS29 ?_
          refine hsk 33 rfl (by kernel_rfl) rfl rfl rfl rfl hS29 ?_
          refine hp 34 rfl (by kernel_rfl) (fun _ _ => pkf rfl) hS29 ?_
          refine hn (by kernel_rfl) ?_
          refine tn (hK27 _ _ ?_)
          refine cf rfl ?_
          refine skp ?_
          refine bn ?_
          refine tn (hK23 _ _ ?_)
          refine rg ?_
          refine p (ad rfl rfl (wi64 (by omega))) ?_
          refine p mv ?_
          refine nl ?_
          refine tn ?_
          exact ⟨_, by omega, i + 1, (by omega), hE9.drew, rfl, rfl, rfl, rfl, rfl, rfl, rfl, rfl, rfl⟩
      · refine ext ?_
        refine te _ ?_
        refine te _ ?_
        refine be ?_
        refine tn (hK19 _ _ ?_)
        refine sq (fun K23 hK23 => ?_)
        refine rg ?_
        refine p (mvt (.slice ad2 (isort (fnd (s1.take 255) kk (setS m))).length cp2) rfl) ?_
        refine p (lnl u35 rfl rfl) ?_
        refine p (mvt (.int .i64 (cn : Nat)) rfl) ?_
        refine p (eqi rfl rfl) ?_
        refine p asg ?_
        refine nl ?_
        refine tn (hK23 _ _ ?_)
        refine rt ?_
        refine f1 rfl rfl ?_
        refine ⟨congrArg Value.bool (decide_eq_true ?_), Md.trans hE42x (Md.trans hE61x hE8)⟩
        rw [hcn, List.take_of_length_le (l := setS m) (by omega), isort_len]
end Go.Hb.LawH
