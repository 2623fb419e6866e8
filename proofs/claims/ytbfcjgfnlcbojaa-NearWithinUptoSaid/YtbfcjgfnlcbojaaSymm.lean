/-
  Walk of slices.symMergeCmpFunc at rows of a word and its distance. No conditions but those that each theorem names.
-/
import Derived.Test.YtbfcjgfnlcbojaaChecked
import Derived.Test.YtbfcjgfnlcbojaaCore
import Derived.Test.YtbfcjgfnlcbojaaSortN
import Derived.Test.YtbfcjgfnlcbojaaPlan
import Derived.Test.YtbfcjgfnlcbojaaNrp
set_option maxRecDepth 20000
set_option linter.unusedVariables false
namespace Go.Hb.Symm
open Go.Proofs
open Go.Hb.SortN
theorem ag45 : aggN Try.prog 45 = some (some 2) := by kernel_rfl
theorem c25 : Callable Try.prog 25 := callable Try.func25 (by kernel_rfl) (by kernel_rfl)
theorem c50 : Callable Try.prog 50 := callable Try.func50 (by kernel_rfl) (by kernel_rfl)
theorem c60 : Callable Try.prog 60 := callable Try.func60 (by kernel_rfl) (by kernel_rfl)
theorem cz45 : cellsN Try.prog 45 = some 2 := by kernel_rfl
theorem es35 : elemSize Try.prog 35 = some 2 := by kernel_rfl
theorem u3 : Try.prog.underlying 3 = some (.int .i64) := by kernel_rfl
theorem u139 : Try.prog.underlying 139 = some (.int .u64) := by kernel_rfl
theorem us3 : (Try.prog.underlying 3).isSome = true := by kernel_rfl
theorem us139 : (Try.prog.underlying 139).isSome = true := by kernel_rfl
theorem wide : Try.prog.follows .mixedOrders = true := by kernel_rfl

theorem ncmp {x y : Int} (h : (!decide (cmp3 x y < 0)) = true) : ¬ x < y := fun e => by rw [decide_eq_true (cmp3_lt.2 e)] at h; cases h
theorem ncmq {x y : Int} (h : (!decide (cmp3 x y < 0)) = false) : x < y := cmp3_lt.1 (by simpa using h)
def LtA (s : List Nr) (d i : Nat) : Prop := i = 0 ∨ ∃ y, s[i - 1]? = some y ∧ y.2 < d
def GeB (s : List Nr) (d i : Nat) : Prop := i = s.length ∨ ∃ y, s[i]? = some y ∧ d ≤ y.2
def LeA (s : List Nr) (d i : Nat) : Prop := i = 0 ∨ ∃ y, s[i - 1]? = some y ∧ y.2 ≤ d
def GtB (s : List Nr) (d i : Nat) : Prop := i = s.length ∨ ∃ y, s[i]? = some y ∧ d < y.2
def InvA (s1 s2 : List Nr) (a mid lo i : Nat) : Prop := i = lo ∨ ∃ x y, s1[i - 1 - a]? = some x ∧ s2[mid - i]? = some y ∧ x.2 ≤ y.2
def InvB (s1 s2 : List Nr) (a mid hi i : Nat) : Prop := i = hi ∨ ∃ x y, s1[i - a]? = some x ∧ s2[mid - 1 - i]? = some y ∧ y.2 < x.2

set_option maxHeartbeats 4000000 in
theorem symm_w (f : Nat) (pre s1 s2 post : List Nr) (a m b B n cp : Nat) (aD : Option Addr) (w : World) (hO : World.ownsRow w B 45 2 (.slice aD n cp) n (nfl (pre ++ (s1 ++ (s2 ++ post))))) (ha : a = pre.length) (hm : m = a + s1.length) (hb : b = m + s2.length) (h1 : 0 < s1.length) (h2 : 0 < s2.length) (hs1 : Srt s1) (hs2 : Srt s2) (hf : s1.length + s2.length < f) (hnb : n ≤ 1099511627776) :
    Ret Try.prog 50 (List.toArray [.slice aD n cp, .int .i64 (a : Nat), .int .i64 (m : Nat), .int .i64 (b : Nat), .func (.func 25) #[] #[]]) w (fun v w' => v = .tuple #[] ∧ World.ownsRow w' B 45 2 (.slice aD n cp) n (nfl (pre ++ (isort (s1 ++ s2) ++ post))) ∧ Md (fun q => (Value.slice aD n cp).ownBlock = some q) w w') := by
  induction f generalizing pre s1 s2 post a m b w with
  | zero => omega
  | succ f ih =>
    have hl0 := own_nlen hO
    simp only [List.length_append] at hl0
    refine enter Try.func50 rfl Try.ntmps50 rfl ?_
    refine sq (fun K1 hK1 => ?_)
    refine sq (fun K2 hK2 => ?_)
    refine rg ?_
    refine p (mvt (.int .i64 (m : Nat)) rfl) ?_
    refine p (mvt (.int .i64 (a : Nat)) rfl) ?_
    refine p (sbv ((m - a : Nat) : Int) rfl rfl (w64n (by omega) (by omega))) ?_
    refine p (eqi rfl rfl) ?_
    refine nl ?_
    refine tn (hK2 _ _ ?_)
    refine cd rfl (fun hc28 => ?_) (fun hc28 => ?_)
    · obtain ⟨⟨xt, xd⟩, rfl⟩ := List.length_eq_one_iff.1 (show s1.length = 1 by omega)
      simp only [List.length_cons, List.length_nil] at hm hl0
      have hxa : (pre ++ ([(xt, xd)] ++ (s2 ++ post)))[a]? = some (xt, xd) := by rw [ha]; exact get_mid pre (s2 ++ post) (xt, xd)
      have hys : ∀ c, m ≤ c → c < m + s2.length → (pre ++ ([(xt, xd)] ++ (s2 ++ post)))[c]? = s2[c - m]? := fun c g1 g2 => by
        rw [← List.append_assoc, get_seg (by rw [List.length_append]; simp; omega) (by rw [List.length_append]; simp; omega), List.length_append, List.length_singleton, ← ha, ← hm]
      refine sq (fun K3 hK3 => ?_)
      refine rg ?_
      refine p (mvt (.int .i64 (m : Nat)) rfl) ?_
      refine p (ast (.int .i64 (m : Nat)) rfl) ?_
      refine nl ?_
      refine tn (hK3 _ _ ?_)
      refine sq (fun K4 hK4 => ?_)
      refine rg ?_
      refine p (mvt (.int .i64 (b : Nat)) rfl) ?_
      refine p (ast (.int .i64 (b : Nat)) rfl) ?_
      refine nl ?_
      refine tn (hK4 _ _ ?_)
      refine sq (fun K5 hK5 => ?_)
      refine blk ?_
      refine lp (fun gm σ1 wL => ∃ (i j pB q : Nat), (i = m + pB) ∧ (j = m + q) ∧ (pB ≤ q) ∧ (q ≤ s2.length) ∧ (LtA s2 xd pB) ∧ (GeB s2 xd q) ∧ (Wk w wL) ∧ (σ1 0 = .slice aD n cp) ∧ (σ1 1 = .int .i64 (a : Nat)) ∧ (σ1 2 = .int .i64 (m : Nat)) ∧ (σ1 3 = .int .i64 (b : Nat)) ∧ (σ1 4 = .func (.func 25) #[] #[]) ∧ (σ1 10 = .int .i64 (i : Nat)) ∧ (σ1 11 = .int .i64 (j : Nat)) ∧ (j - i = gm)) _ ⟨m, b, 0, s2.length, rfl, hb, ((by omega)), ((by omega)), (.inl rfl), (.inl rfl), (Md.refl _ _), rfl, rfl, rfl, rfl, rfl, rfl, rfl, rfl⟩ ?_
      rintro gm σ1 wL ⟨i, j, pB, q, hi, hj, hpq, hq, hA, hB, hE3, hs1_0, hs1_1, hs1_2, hs1_3, hs1_4, hs1_10, hs1_11, rfl⟩
      refine fx 0 hs1_0 (fx 1 hs1_1 (fx 2 hs1_2 (fx 3 hs1_3 (fx 4 hs1_4 (fx 10 hs1_10 (fx 11 hs1_11 ?_))))))
      refine sq (fun K6 hK6 => ?_)
      refine sq (fun K7 hK7 => ?_)
      refine rg ?_
      refine p (mvt (.int .i64 (i : Nat)) rfl) ?_
      refine p (mvt (.int .i64 (j : Nat)) rfl) ?_
      refine p (lt rfl rfl) ?_
      refine nl ?_
      refine tn (hK7 _ _ ?_)
      refine cd rfl (fun hc33 => ?_) (fun hc33 => ?_)
      · refine skp ?_
        refine tn (hK6 _ _ ?_)
        refine blk ?_
        refine sq (fun K8 hK8 => ?_)
        refine rg ?_
        refine p (mvt (.int .i64 (i : Nat)) rfl) ?_
        refine p (mvt (.int .i64 (j : Nat)) rfl) ?_
        refine p (adv ((i + j : Nat) : Int) rfl rfl (w64n (by omega) (by omega))) ?_
        refine p (cvs u139 us3 rfl (wu64 (by omega))) ?_
        refine p (shr rfl rfl (by decide) (shr1 (i + j))) ?_
        refine p (cvs u3 us139 rfl (wi64 (by omega))) ?_
        refine p asg ?_
        refine nl ?_
        refine tn (hK8 _ _ ?_)
        refine sq (fun K9 hK9 => ?_)
        have hO3 := own_nw hO hE3
        obtain ⟨⟨yt, yd⟩, hy⟩ : ∃ y, s2[((i + j) / 2) - m]? = some y := ⟨_, List.getElem?_eq_getElem (by omega)⟩
        have hgy := hys ((i + j) / 2) (by omega) (by omega)
        rw [hy] at hgy
        have hS5 : (fun w' => Wk wL w') wL.drew := (Md.refl _ _).drew
        refine hst (fun w' => Wk wL w') wide hS5 ?_
        refine hp 0 rfl (by kernel_rfl) (fun _ _ => mvt (.func (.func 25) #[] #[]) rfl) hS5 ?_
        refine hp 1 rfl (by kernel_rfl) (fun _ _ => mvt (.slice aD n cp) rfl) hS5 ?_
        refine hp 2 rfl (by kernel_rfl) (fun _ _ => mv) hS5 ?_
        refine hp 3 rfl (by kernel_rfl) (fun _ _ => ia' es35 rfl rfl (by omega) (Cells.ok ((own_cellsS hO3).2) (nfl_ne (by rw [own_nlen hO3]; omega)))) hS5 ?_
        refine hp 4 rfl (by kernel_rfl) (fun w' hS => lda ag45 rfl rfl (fun c hc => show cel w'.heap (bk aD) (fo aD + ((i + j) / 2) * 2 + c) = [str yt, .int .i64 (yd : Nat)][c]? from nfl_cells ((own_cellsS hO3).2.wk hS) hgy c hc)) hS5 ?_
        refine hp 5 rfl (by kernel_rfl) (fun _ _ => mvt (.slice aD n cp) rfl) hS5 ?_
        refine hp 6 rfl (by kernel_rfl) (fun _ _ => mvt (.int .i64 (a : Nat)) rfl) hS5 ?_
        refine hp 7 rfl (by kernel_rfl) (fun _ _ => ia' es35 rfl rfl (by omega) (Cells.ok ((own_cellsS hO3).2) (nfl_ne (by rw [own_nlen hO3]; omega)))) hS5 ?_
        refine hp 8 rfl (by kernel_rfl) (fun w' hS => lda ag45 rfl rfl (fun c hc => show cel w'.heap (bk aD) (fo aD + a * 2 + c) = [str xt, .int .i64 (xd : Nat)][c]? from nfl_cells ((own_cellsS hO3).2.wk hS) hxa c hc)) hS5 ?_
        refine he 9 rfl (by kernel_rfl) (clv c25 rfl (clos_w yt yd xt xd _) rfl fun v49 w49 hR49 => ?_)
        obtain ⟨rfl, hE49⟩ := hR49
        have hS5_9 : (fun w' => Wk wL w') w49 := Md.trans hS5 hE49
        refine ⟨hS5_9, ?_⟩
        refine hp 10 rfl (by kernel_rfl) (fun _ _ => lt rfl rfl) hS5_9 ?_
        refine hn (by kernel_rfl) ?_
        refine tn (hK9 _ _ ?_)
        refine cd rfl (fun hc50 => ?_) (fun hc50 => ?_)
        · refine rg ?_
          refine p mv ?_
          refine p (adv ((((i + j) / 2) + 1 : Nat) : Int) rfl rfl (w64n (by omega) (by omega))) ?_
          refine p asg ?_
          refine nl ?_
          refine bn ?_
          refine tn ?_
          exact ⟨_, by omega, ((i + j) / 2) + 1, j, ((i + j) / 2) + 1 - m, q, ((by omega)), hj, ((by omega)), hq, ((.inr ⟨(yt, yd), (by rw [show ((i + j) / 2) + 1 - m - 1 = ((i + j) / 2) - m by omega]; exact hy), (by have := cmp3_lt.1 hc50; simp only; omega)⟩)), hB, (Md.trans hE3 hS5_9), rfl, rfl, rfl, rfl, rfl, rfl, rfl, rfl⟩
        · refine rg ?_
          refine p mv ?_
          refine p asg ?_
          refine nl ?_
          refine bn ?_
          refine tn ?_
          exact ⟨_, by omega, i, ((i + j) / 2), pB, ((i + j) / 2) - m, hi, ((by omega)), ((by omega)), ((by omega)), hA, ((.inr ⟨(yt, yd), hy, (by have : ¬ ((yd : Int) < (xd : Nat)) := fun h => hc50 (cmp3_lt.2 h); simp only; omega)⟩)), (Md.trans hE3 hS5_9), rfl, rfl, rfl, rfl, rfl, rfl, rfl, rfl⟩
      · refine ext ?_
        refine te _ ?_
        refine te _ ?_
        refine be ?_
        refine tn (hK5 _ _ ?_)
        refine sq (fun K8 hK8 => ?_)
        refine sq (fun K9 hK9 => ?_)
        refine rg ?_
        refine p (mvt (.int .i64 (a : Nat)) rfl) ?_
        refine p (ast (.int .i64 (a : Nat)) rfl) ?_
        refine nl ?_
        refine tn (hK9 _ _ ?_)
        refine blk ?_
        refine lp (fun gm σ2 wN => ∃ (k c : Nat), (k = a + c) ∧ (c ≤ pB) ∧ (World.ownsRow wN B 45 2 (.slice aD n cp) n (nfl (pre ++ (s2.take c ++ (xt, xd) :: (s2.drop c ++ post))))) ∧ (Md (fun q => (Value.slice aD n cp).ownBlock = some q) w wN) ∧ (σ2 0 = .slice aD n cp) ∧ (σ2 1 = .int .i64 (a : Nat)) ∧ (σ2 2 = .int .i64 (m : Nat)) ∧ (σ2 3 = .int .i64 (b : Nat)) ∧ (σ2 4 = .func (.func 25) #[] #[]) ∧ (σ2 10 = .int .i64 (i : Nat)) ∧ (σ2 13 = .int .i64 (k : Nat)) ∧ (pB - c = gm)) _ ⟨a, 0, rfl, ((by omega)), ((by simpa using own_nw hO hE3)), (hE3.mono (fun _ _ h => h.elim)), rfl, rfl, rfl, rfl, rfl, rfl, rfl, rfl⟩ ?_
        rintro gm σ2 wN ⟨k, c, hk, hcp, hO9, hM9, hs2_0, hs2_1, hs2_2, hs2_3, hs2_4, hs2_10, hs2_13, rfl⟩
        refine fx 0 hs2_0 (fx 1 hs2_1 (fx 2 hs2_2 (fx 3 hs2_3 (fx 4 hs2_4 (fx 10 hs2_10 (fx 13 hs2_13 ?_))))))
        refine sq (fun K10 hK10 => ?_)
        refine sq (fun K11 hK11 => ?_)
        refine rg ?_
        refine p (mvt (.int .i64 (k : Nat)) rfl) ?_
        refine p (mvt (.int .i64 (i : Nat)) rfl) ?_
        refine p (sbv ((i - 1 : Nat) : Int) rfl rfl (w64n (by omega) (by omega))) ?_
        refine p (lt rfl rfl) ?_
        refine nl ?_
        refine tn (hK11 _ _ ?_)
        refine cd rfl (fun hc58 => ?_) (fun hc58 => ?_)
        · refine skp ?_
          refine tn (hK10 _ _ ?_)
          refine sq (fun K12 hK12 => ?_)
          refine blk ?_
          obtain ⟨⟨zt, zd⟩, hz⟩ : ∃ z, s2[c]? = some z := ⟨_, List.getElem?_eq_getElem (by omega)⟩
          rw [drop_some' hz] at hO9
          have hLL : pre ++ (s2.take c ++ (xt, xd) :: ((zt, zd) :: s2.drop (c + 1) ++ post)) = (pre ++ s2.take c) ++ (xt, xd) :: (zt, zd) :: (s2.drop (c + 1) ++ post) := by simp
          rw [hLL] at hO9
          have hk1 : k = (pre ++ s2.take c).length := by rw [List.length_append, List.length_take]; omega
          have hgx := get_mid (pre ++ s2.take c) ((zt, zd) :: (s2.drop (c + 1) ++ post)) (xt, xd)
          rw [← hk1] at hgx
          have hgz := get_mid1 (pre ++ s2.take c) (s2.drop (c + 1) ++ post) (xt, xd) (zt, zd)
          rw [← hk1] at hgz
          have hS11 : (fun w' => Wk wN w') wN.drew := (Md.refl _ _).drew
          refine lst (fun w' => Wk wN w') 15 wide hS11 ?_
          refine lqp 0 rfl (by kernel_rfl) (fun _ => mvt (.slice aD n cp) rfl) (fun _ => hS11) ?_
          refine lqp 1 rfl (by kernel_rfl) (fun _ => mvt (.int .i64 (k : Nat)) rfl) (fun _ => hS11) ?_
          refine lqp 2 rfl (by kernel_rfl) (fun _ => mvt (.slice aD n cp) rfl) (fun _ => hS11) ?_
          refine lqp 3 rfl (by kernel_rfl) (fun _ => mvt (.int .i64 (k : Nat)) rfl) (fun _ => hS11) ?_
          refine lqp 4 rfl (by kernel_rfl) (fun _ => adv ((k + 1 : Nat) : Int) rfl rfl (w64n (by omega) (by omega))) (fun _ => hS11) ?_
          refine lqp 5 rfl (by kernel_rfl) (fun _ => mvt (.slice aD n cp) rfl) (fun _ => hS11) ?_
          refine lqp 6 rfl (by kernel_rfl) (fun _ => mvt (.int .i64 (k : Nat)) rfl) (fun _ => hS11) ?_
          refine lqp 7 rfl (by kernel_rfl) (fun _ => adv ((k + 1 : Nat) : Int) rfl rfl (w64n (by omega) (by omega))) (fun _ => hS11) ?_
          refine lqp 8 rfl (by kernel_rfl) (fun _ => ia' es35 rfl rfl (by omega) (Cells.ok ((own_cellsS hO9).2) (nfl_ne (by rw [own_nlen hO9]; omega)))) (fun _ => hS11) ?_
          refine lqd 9 rfl (by kernel_rfl) (fun w' hS => lda ag45 rfl rfl (fun c hc => show cel w'.heap (bk aD) (fo aD + (k + 1) * 2 + c) = [str zt, .int .i64 (zd : Nat)][c]? from nfl_cells ((own_cellsS hO9).2.wk hS) hgz c hc)) hS11 ?_
          refine lqp 10 rfl (by kernel_rfl) (fun _ => mvt (.slice aD n cp) rfl) (fun _ => hS11) ?_
          refine lqp 11 rfl (by kernel_rfl) (fun _ => mvt (.int .i64 (k : Nat)) rfl) (fun _ => hS11) ?_
          refine lqp 12 rfl (by kernel_rfl) (fun _ => ia' es35 rfl rfl (by omega) (Cells.ok ((own_cellsS hO9).2) (nfl_ne (by rw [own_nlen hO9]; omega)))) (fun _ => hS11) ?_
          refine lqd 13 rfl (by kernel_rfl) (fun w' hS => lda ag45 rfl rfl (fun c hc => show cel w'.heap (bk aD) (fo aD + k * 2 + c) = [str xt, .int .i64 (xd : Nat)][c]? from nfl_cells ((own_cellsS hO9).2.wk hS) hgx c hc)) hS11 ?_
          refine lqp 14 rfl (by kernel_rfl) (fun _ => ia' es35 rfl rfl (by omega) (Cells.ok ((own_cellsS hO9).2) (nfl_ne (by rw [own_nlen hO9]; omega)))) (fun _ => hS11) ?_
          refine lel 15 rfl (by kernel_rfl) (by kernel_rfl) (stN (j := k) (tx := zt) (d := zd) (own_nw hO9 hS11) cz45 rfl rfl rfl (by omega) fun w61 hM61 ho61 => ?_)
          refine lqp 16 rfl (by kernel_rfl) (fun _ => ia' es35 rfl rfl (by omega) (Cells.ok ((own_cellsS hO9).2) (nfl_ne (by rw [own_nlen hO9]; omega)))) (fun h => Bool.noConfusion ((show true = _ from by kernel_rfl).trans h)) ?_
          refine lel 17 rfl (by kernel_rfl) (by kernel_rfl) (stN (j := k + 1) (tx := xt) (d := xd) ho61 cz45 rfl rfl rfl (by omega) fun w62 hM62 ho62 => ?_)
          rw [hk1, set_two'] at ho62
          have hM6 : Md (fun q => (Value.slice aD n cp).ownBlock = some q) w w62 := Md.trans (Md.trans hM9 (hS11.mono (fun _ _ h => h.elim))) (Md.trans hM61 hM62)
          refine lnd (by kernel_rfl) ?_
          refine bn ?_
          refine tn (hK12 _ _ ?_)
          refine rg ?_
          refine p (mvt (.int .i64 (k : Nat)) rfl) ?_
          refine p (adv ((k + 1 : Nat) : Int) rfl rfl (w64n (by omega) (by omega))) ?_
          refine p asg ?_
          refine nl ?_
          refine tn ?_
          exact ⟨_, by omega, k + 1, c + 1, ((by omega)), ((by omega)), ((by rw [take_some hz]; simpa using ho62)), hM6, rfl, rfl, rfl, rfl, rfl, rfl, rfl, rfl⟩
        · refine ext ?_
          refine te _ ?_
          refine te _ ?_
          refine be ?_
          refine tn (hK8 _ _ ?_)
          refine rt ?_
          refine tr ?_
          refine f0r rfl ?_
          rw [show c = pB by omega] at hO9
          rw [show [(xt, xd)] ++ s2 = (xt, xd) :: s2 from rfl, merge_x (p := pB) (x := (xt, xd)) hs2 hA ((show q = pB by omega) ▸ hB), List.append_assoc]
          exact ⟨rfl, hO9, hM9⟩
    · refine skp ?_
      refine tn (hK1 _ _ ?_)
      refine sq (fun K3 hK3 => ?_)
      refine sq (fun K4 hK4 => ?_)
      refine rg ?_
      refine p (mvt (.int .i64 (b : Nat)) rfl) ?_
      refine p (mvt (.int .i64 (m : Nat)) rfl) ?_
      refine p (sbv ((b - m : Nat) : Int) rfl rfl (w64n (by omega) (by omega))) ?_
      refine p (eqi rfl rfl) ?_
      refine nl ?_
      refine tn (hK4 _ _ ?_)
      refine cd rfl (fun hc80 => ?_) (fun hc80 => ?_)
      · obtain ⟨⟨yt, yd⟩, rfl⟩ := List.length_eq_one_iff.1 (show s2.length = 1 by omega)
        simp only [List.length_cons, List.length_nil] at hb hl0
        have hym : (pre ++ (s1 ++ ([(yt, yd)] ++ post)))[m]? = some (yt, yd) := by
          rw [← List.append_assoc, show m = (pre ++ s1).length by rw [List.length_append]; omega]; exact get_mid (pre ++ s1) post (yt, yd)
        have hxs : ∀ c, a ≤ c → c < a + s1.length → (pre ++ (s1 ++ ([(yt, yd)] ++ post)))[c]? = s1[c - a]? := fun c g1 g2 => by
          rw [get_seg (by omega) (by omega), ← ha]
        refine sq (fun K5 hK5 => ?_)
        refine rg ?_
        refine p (mvt (.int .i64 (a : Nat)) rfl) ?_
        refine p (ast (.int .i64 (a : Nat)) rfl) ?_
        refine nl ?_
        refine tn (hK5 _ _ ?_)
        refine sq (fun K6 hK6 => ?_)
        refine rg ?_
        refine p (mvt (.int .i64 (m : Nat)) rfl) ?_
        refine p (ast (.int .i64 (m : Nat)) rfl) ?_
        refine nl ?_
        refine tn (hK6 _ _ ?_)
        refine sq (fun K7 hK7 => ?_)
        refine blk ?_
        refine lp (fun gm σ3 wL => ∃ (i j pB q : Nat), (i = a + pB) ∧ (j = a + q) ∧ (pB ≤ q) ∧ (q ≤ s1.length) ∧ (LeA s1 yd pB) ∧ (GtB s1 yd q) ∧ (Wk w wL) ∧ (σ3 0 = .slice aD n cp) ∧ (σ3 1 = .int .i64 (a : Nat)) ∧ (σ3 2 = .int .i64 (m : Nat)) ∧ (σ3 3 = .int .i64 (b : Nat)) ∧ (σ3 4 = .func (.func 25) #[] #[]) ∧ (σ3 14 = .int .i64 (i : Nat)) ∧ (σ3 15 = .int .i64 (j : Nat)) ∧ (j - i = gm)) _ ⟨a, m, 0, s1.length, rfl, hm, ((by omega)), ((by omega)), (.inl rfl), (.inl rfl), (Md.refl _ _), rfl, rfl, rfl, rfl, rfl, rfl, rfl, rfl⟩ ?_
        rintro gm σ3 wL ⟨i, j, pB, q, hi, hj, hpq, hq, hA, hB, hE3, hs3_0, hs3_1, hs3_2, hs3_3, hs3_4, hs3_14, hs3_15, rfl⟩
        refine fx 0 hs3_0 (fx 1 hs3_1 (fx 2 hs3_2 (fx 3 hs3_3 (fx 4 hs3_4 (fx 14 hs3_14 (fx 15 hs3_15 ?_))))))
        refine sq (fun K8 hK8 => ?_)
        refine sq (fun K9 hK9 => ?_)
        refine rg ?_
        refine p (mvt (.int .i64 (i : Nat)) rfl) ?_
        refine p (mvt (.int .i64 (j : Nat)) rfl) ?_
        refine p (lt rfl rfl) ?_
        refine nl ?_
        refine tn (hK9 _ _ ?_)
        refine cd rfl (fun hc85 => ?_) (fun hc85 => ?_)
        · refine skp ?_
          refine tn (hK8 _ _ ?_)
          refine blk ?_
          refine sq (fun K10 hK10 => ?_)
          refine rg ?_
          refine p (mvt (.int .i64 (i : Nat)) rfl) ?_
          refine p (mvt (.int .i64 (j : Nat)) rfl) ?_
          refine p (adv ((i + j : Nat) : Int) rfl rfl (w64n (by omega) (by omega))) ?_
          refine p (cvs u139 us3 rfl (wu64 (by omega))) ?_
          refine p (shr rfl rfl (by decide) (shr1 (i + j))) ?_
          refine p (cvs u3 us139 rfl (wi64 (by omega))) ?_
          refine p asg ?_
          refine nl ?_
          refine tn (hK10 _ _ ?_)
          refine sq (fun K11 hK11 => ?_)
          have hO3 := own_nw hO hE3
          obtain ⟨⟨xt, xd⟩, hx⟩ : ∃ x, s1[((i + j) / 2) - a]? = some x := ⟨_, List.getElem?_eq_getElem (by omega)⟩
          have hgx := hxs ((i + j) / 2) (by omega) (by omega)
          rw [hx] at hgx
          have hS17 : (fun w' => Wk wL w') wL.drew := (Md.refl _ _).drew
          refine hst (fun w' => Wk wL w') wide hS17 ?_
          refine hp 0 rfl (by kernel_rfl) (fun _ _ => mvt (.func (.func 25) #[] #[]) rfl) hS17 ?_
          refine hp 1 rfl (by kernel_rfl) (fun _ _ => mvt (.slice aD n cp) rfl) hS17 ?_
          refine hp 2 rfl (by kernel_rfl) (fun _ _ => mvt (.int .i64 (m : Nat)) rfl) hS17 ?_
          refine hp 3 rfl (by kernel_rfl) (fun _ _ => ia' es35 rfl rfl (by omega) (Cells.ok ((own_cellsS hO3).2) (nfl_ne (by rw [own_nlen hO3]; omega)))) hS17 ?_
          refine hp 4 rfl (by kernel_rfl) (fun w' hS => lda ag45 rfl rfl (fun c hc => show cel w'.heap (bk aD) (fo aD + m * 2 + c) = [str yt, .int .i64 (yd : Nat)][c]? from nfl_cells ((own_cellsS hO3).2.wk hS) hym c hc)) hS17 ?_
          refine hp 5 rfl (by kernel_rfl) (fun _ _ => mvt (.slice aD n cp) rfl) hS17 ?_
          refine hp 6 rfl (by kernel_rfl) (fun _ _ => mv) hS17 ?_
          refine hp 7 rfl (by kernel_rfl) (fun _ _ => ia' es35 rfl rfl (by omega) (Cells.ok ((own_cellsS hO3).2) (nfl_ne (by rw [own_nlen hO3]; omega)))) hS17 ?_
          refine hp 8 rfl (by kernel_rfl) (fun w' hS => lda ag45 rfl rfl (fun c hc => show cel w'.heap (bk aD) (fo aD + ((i + j) / 2) * 2 + c) = [str xt, .int .i64 (xd : Nat)][c]? from nfl_cells ((own_cellsS hO3).2.wk hS) hgx c hc)) hS17 ?_
          refine he 9 rfl (by kernel_rfl) (clv c25 rfl (clos_w yt yd xt xd _) rfl fun v101 w101 hR101 => ?_)
          obtain ⟨rfl, hE101⟩ := hR101
          have hS17_9 : (fun w' => Wk wL w') w101 := Md.trans hS17 hE101
          refine ⟨hS17_9, ?_⟩
          refine hp 10 rfl (by kernel_rfl) (fun _ _ => lt rfl rfl) hS17_9 ?_
          refine hp 11 rfl (by kernel_rfl) (fun _ _ => no rfl) hS17_9 ?_
          refine hn (by kernel_rfl) ?_
          refine tn (hK11 _ _ ?_)
          refine cb rfl (fun hc103 => ?_) (fun hc103 => ?_)
          · refine rg ?_
            refine p mv ?_
            refine p (adv ((((i + j) / 2) + 1 : Nat) : Int) rfl rfl (w64n (by omega) (by omega))) ?_
            refine p asg ?_
            refine nl ?_
            refine bn ?_
            refine tn ?_
            exact ⟨_, by omega, ((i + j) / 2) + 1, j, ((i + j) / 2) + 1 - a, q, ((by omega)), hj, ((by omega)), hq, ((.inr ⟨(xt, xd), (by rw [show ((i + j) / 2) + 1 - a - 1 = ((i + j) / 2) - a by omega]; exact hx), (by have := ncmp hc103; simp only; omega)⟩)), hB, (Md.trans hE3 hS17_9), rfl, rfl, rfl, rfl, rfl, rfl, rfl, rfl⟩
          · refine rg ?_
            refine p mv ?_
            refine p asg ?_
            refine nl ?_
            refine bn ?_
            refine tn ?_
            exact ⟨_, by omega, i, ((i + j) / 2), pB, ((i + j) / 2) - a, hi, ((by omega)), ((by omega)), ((by omega)), hA, ((.inr ⟨(xt, xd), hx, (by have : ((yd : Int) < (xd : Nat)) := ncmq hc103; simp only; omega)⟩)), (Md.trans hE3 hS17_9), rfl, rfl, rfl, rfl, rfl, rfl, rfl, rfl⟩
        · refine ext ?_
          refine te _ ?_
          refine te _ ?_
          refine be ?_
          refine tn (hK7 _ _ ?_)
          refine sq (fun K10 hK10 => ?_)
          refine sq (fun K11 hK11 => ?_)
          refine rg ?_
          refine p (mvt (.int .i64 (m : Nat)) rfl) ?_
          refine p (ast (.int .i64 (m : Nat)) rfl) ?_
          refine nl ?_
          refine tn (hK11 _ _ ?_)
          refine blk ?_
          refine lp (fun gm σ4 wN => ∃ (k c : Nat), (k = a + c) ∧ (pB ≤ c) ∧ (c ≤ s1.length) ∧ (World.ownsRow wN B 45 2 (.slice aD n cp) n (nfl (pre ++ (s1.take c ++ (yt, yd) :: (s1.drop c ++ post))))) ∧ (Md (fun q => (Value.slice aD n cp).ownBlock = some q) w wN) ∧ (σ4 0 = .slice aD n cp) ∧ (σ4 1 = .int .i64 (a : Nat)) ∧ (σ4 2 = .int .i64 (m : Nat)) ∧ (σ4 3 = .int .i64 (b : Nat)) ∧ (σ4 4 = .func (.func 25) #[] #[]) ∧ (σ4 14 = .int .i64 (i : Nat)) ∧ (σ4 17 = .int .i64 (k : Nat)) ∧ (c = gm)) _ ⟨m, s1.length, hm, ((by omega)), ((by omega)), ((by simpa using own_nw hO hE3)), (hE3.mono (fun _ _ h => h.elim)), rfl, rfl, rfl, rfl, rfl, rfl, rfl, rfl⟩ ?_
          rintro gm σ4 wN ⟨k, c, hk, hcp, hcl, hO9, hM9, hs4_0, hs4_1, hs4_2, hs4_3, hs4_4, hs4_14, hs4_17, rfl⟩
          refine fx 0 hs4_0 (fx 1 hs4_1 (fx 2 hs4_2 (fx 3 hs4_3 (fx 4 hs4_4 (fx 14 hs4_14 (fx 17 hs4_17 ?_))))))
          refine sq (fun K12 hK12 => ?_)
          refine sq (fun K13 hK13 => ?_)
          refine rg ?_
          refine p (mvt (.int .i64 (k : Nat)) rfl) ?_
          refine p (mvt (.int .i64 (i : Nat)) rfl) ?_
          refine p (gt rfl rfl) ?_
          refine nl ?_
          refine tn (hK13 _ _ ?_)
          refine cd rfl (fun hc110 => ?_) (fun hc110 => ?_)
          · refine skp ?_
            refine tn (hK12 _ _ ?_)
            refine sq (fun K14 hK14 => ?_)
            refine blk ?_
            obtain ⟨⟨zt, zd⟩, hz⟩ : ∃ z, s1[c - 1]? = some z := ⟨_, List.getElem?_eq_getElem (by omega)⟩
            have hz2 := take_some hz
            rw [show c - 1 + 1 = c by omega] at hz2
            rw [hz2] at hO9
            have hLL : pre ++ ((s1.take (c - 1) ++ [(zt, zd)]) ++ (yt, yd) :: (s1.drop c ++ post)) = (pre ++ s1.take (c - 1)) ++ (zt, zd) :: (yt, yd) :: (s1.drop c ++ post) := by simp
            rw [hLL] at hO9
            have hk2 : k - 1 = (pre ++ s1.take (c - 1)).length := by rw [List.length_append, List.length_take]; omega
            have hk1 : k = (pre ++ s1.take (c - 1)).length + 1 := by omega
            have hgz := get_mid (pre ++ s1.take (c - 1)) ((yt, yd) :: (s1.drop c ++ post)) (zt, zd)
            rw [← hk2] at hgz
            have hgy := get_mid1 (pre ++ s1.take (c - 1)) (s1.drop c ++ post) (zt, zd) (yt, yd)
            rw [← hk1] at hgy
            have hS23 : (fun w' => Wk wN w') wN.drew := (Md.refl _ _).drew
            refine lst (fun w' => Wk wN w') 15 wide hS23 ?_
            refine lqp 0 rfl (by kernel_rfl) (fun _ => mvt (.slice aD n cp) rfl) (fun _ => hS23) ?_
            refine lqp 1 rfl (by kernel_rfl) (fun _ => mvt (.int .i64 (k : Nat)) rfl) (fun _ => hS23) ?_
            refine lqp 2 rfl (by kernel_rfl) (fun _ => mvt (.slice aD n cp) rfl) (fun _ => hS23) ?_
            refine lqp 3 rfl (by kernel_rfl) (fun _ => mvt (.int .i64 (k : Nat)) rfl) (fun _ => hS23) ?_
            refine lqp 4 rfl (by kernel_rfl) (fun _ => sbv ((k - 1 : Nat) : Int) rfl rfl (w64n (by omega) (by omega))) (fun _ => hS23) ?_
            refine lqp 5 rfl (by kernel_rfl) (fun _ => mvt (.slice aD n cp) rfl) (fun _ => hS23) ?_
            refine lqp 6 rfl (by kernel_rfl) (fun _ => mvt (.int .i64 (k : Nat)) rfl) (fun _ => hS23) ?_
            refine lqp 7 rfl (by kernel_rfl) (fun _ => sbv ((k - 1 : Nat) : Int) rfl rfl (w64n (by omega) (by omega))) (fun _ => hS23) ?_
            refine lqp 8 rfl (by kernel_rfl) (fun _ => ia' es35 rfl rfl (by omega) (Cells.ok ((own_cellsS hO9).2) (nfl_ne (by rw [own_nlen hO9]; omega)))) (fun _ => hS23) ?_
            refine lqd 9 rfl (by kernel_rfl) (fun w' hS => lda ag45 rfl rfl (fun c hc => show cel w'.heap (bk aD) (fo aD + (k - 1) * 2 + c) = [str zt, .int .i64 (zd : Nat)][c]? from nfl_cells ((own_cellsS hO9).2.wk hS) hgz c hc)) hS23 ?_
            refine lqp 10 rfl (by kernel_rfl) (fun _ => mvt (.slice aD n cp) rfl) (fun _ => hS23) ?_
            refine lqp 11 rfl (by kernel_rfl) (fun _ => mvt (.int .i64 (k : Nat)) rfl) (fun _ => hS23) ?_
            refine lqp 12 rfl (by kernel_rfl) (fun _ => ia' es35 rfl rfl (by omega) (Cells.ok ((own_cellsS hO9).2) (nfl_ne (by rw [own_nlen hO9]; omega)))) (fun _ => hS23) ?_
            refine lqd 13 rfl (by kernel_rfl) (fun w' hS => lda ag45 rfl rfl (fun c hc => show cel w'.heap (bk aD) (fo aD + k * 2 + c) = [str yt, .int .i64 (yd : Nat)][c]? from nfl_cells ((own_cellsS hO9).2.wk hS) hgy c hc)) hS23 ?_
            refine lqp 14 rfl (by kernel_rfl) (fun _ => ia' es35 rfl rfl (by omega) (Cells.ok ((own_cellsS hO9).2) (nfl_ne (by rw [own_nlen hO9]; omega)))) (fun _ => hS23) ?_
            refine lel 15 rfl (by kernel_rfl) (by kernel_rfl) (stN (j := k) (tx := zt) (d := zd) (own_nw hO9 hS23) cz45 rfl rfl rfl (by omega) fun w61 hM61 ho61 => ?_)
            refine lqp 16 rfl (by kernel_rfl) (fun _ => ia' es35 rfl rfl (by omega) (Cells.ok ((own_cellsS hO9).2) (nfl_ne (by rw [own_nlen hO9]; omega)))) (fun h => Bool.noConfusion ((show true = _ from by kernel_rfl).trans h)) ?_
            refine lel 17 rfl (by kernel_rfl) (by kernel_rfl) (stN (j := k - 1) (tx := yt) (d := yd) ho61 cz45 rfl rfl rfl (by omega) fun w62 hM62 ho62 => ?_)
            rw [hk2, hk1, set_two] at ho62
            have hM6 : Md (fun q => (Value.slice aD n cp).ownBlock = some q) w w62 := Md.trans (Md.trans hM9 (hS23.mono (fun _ _ h => h.elim))) (Md.trans hM61 hM62)
            refine lnd (by kernel_rfl) ?_
            refine bn ?_
            refine tn (hK14 _ _ ?_)
            refine rg ?_
            refine p (mvt (.int .i64 (k : Nat)) rfl) ?_
            refine p (sbv ((k - 1 : Nat) : Int) rfl rfl (w64n (by omega) (by omega))) ?_
            refine p asg ?_
            refine nl ?_
            refine tn ?_
            exact ⟨_, by omega, k - 1, c - 1, ((by omega)), ((by omega)), ((by omega)), ((by rw [drop_some' hz, show c - 1 + 1 = c by omega]; simpa using ho62)), hM6, rfl, rfl, rfl, rfl, rfl, rfl, rfl, rfl⟩
          · refine ext ?_
            refine te _ ?_
            refine te _ ?_
            refine be ?_
            refine tn (hK10 _ _ ?_)
            refine rt ?_
            refine tr ?_
            refine f0r rfl ?_
            rw [show c = pB by omega] at hO9
            rw [merge_y (p := pB) (y := (yt, yd)) hs1 hA ((show q = pB by omega) ▸ hB), List.append_assoc]
            exact ⟨rfl, hO9, hM9⟩
      · refine skp ?_
        refine tn (hK3 _ _ ?_)
        refine sqc (fun σ5 wC => ∃ (mid : Nat), (mid = (a + b) / 2) ∧ (Wk w wC) ∧ (σ5 0 = .slice aD n cp) ∧ (σ5 1 = .int .i64 (a : Nat)) ∧ (σ5 2 = .int .i64 (m : Nat)) ∧ (σ5 3 = .int .i64 (b : Nat)) ∧ (σ5 4 = .func (.func 25) #[] #[]) ∧ (σ5 18 = .int .i64 (mid : Nat))) ?_ ?_
        · refine rg ?_
          refine p (mvt (.int .i64 (a : Nat)) rfl) ?_
          refine p (mvt (.int .i64 (b : Nat)) rfl) ?_
          refine p (adv ((a + b : Nat) : Int) rfl rfl (w64n (by omega) (by omega))) ?_
          refine p (cvs u139 us3 rfl (wu64 (by omega))) ?_
          refine p (shr rfl rfl (by decide) (shr1 (a + b))) ?_
          refine p (cvs u3 us139 rfl (wi64 (by omega))) ?_
          refine p asg ?_
          refine nl ?_
          refine tn ?_
          exact ⟨_, rfl, (Md.refl _ _), rfl, rfl, rfl, rfl, rfl, rfl⟩
        rintro σ5 wC ⟨mid, hmid, hEC, hs5_0, hs5_1, hs5_2, hs5_3, hs5_4, hs5_18⟩
        refine fx 0 hs5_0 (fx 1 hs5_1 (fx 2 hs5_2 (fx 3 hs5_3 (fx 4 hs5_4 (fx 18 hs5_18 ?_)))))
        refine sq (fun K5 hK5 => ?_)
        refine rg ?_
        refine p (mvt (.int .i64 (mid : Nat)) rfl) ?_
        refine p (mvt (.int .i64 (m : Nat)) rfl) ?_
        refine p (adv ((mid + m : Nat) : Int) rfl rfl (w64n (by omega) (by omega))) ?_
        refine p asg ?_
        refine nl ?_
        refine tn (hK5 _ _ ?_)
        refine sq (fun K6 hK6 => ?_)
        refine rg ?_
        refine p asg ?_
        refine p asg ?_
        refine nl ?_
        refine tn (hK6 _ _ ?_)
        refine sqc (fun σ6 wD => ∃ (lo hi : Nat), ((mid < m ∧ lo = mid + m - b ∧ hi = mid) ∨ (m ≤ mid ∧ lo = a ∧ hi = m)) ∧ (Wk w wD) ∧ (σ6 0 = .slice aD n cp) ∧ (σ6 1 = .int .i64 (a : Nat)) ∧ (σ6 2 = .int .i64 (m : Nat)) ∧ (σ6 3 = .int .i64 (b : Nat)) ∧ (σ6 4 = .func (.func 25) #[] #[]) ∧ (σ6 18 = .int .i64 (mid : Nat)) ∧ (σ6 19 = .int .i64 (mid + m : Nat)) ∧ (σ6 20 = .int .i64 (lo : Nat)) ∧ (σ6 21 = .int .i64 (hi : Nat))) ?_ ?_
        · refine sq (fun K7 hK7 => ?_)
          refine rg ?_
          refine p (mvt (.int .i64 (m : Nat)) rfl) ?_
          refine p (mvt (.int .i64 (mid : Nat)) rfl) ?_
          refine p (gt rfl rfl) ?_
          refine nl ?_
          refine tn (hK7 _ _ ?_)
          refine cd rfl (fun hc140 => ?_) (fun hc140 => ?_)
          · refine sq (fun K8 hK8 => ?_)
            refine rg ?_
            refine p mv ?_
            refine p (mvt (.int .i64 (b : Nat)) rfl) ?_
            refine p (sbv ((mid + m - b : Nat) : Int) rfl rfl (w64n (by omega) (by omega))) ?_
            refine p asg ?_
            refine nl ?_
            refine tn (hK8 _ _ ?_)
            refine rg ?_
            refine p (mvt (.int .i64 (mid : Nat)) rfl) ?_
            refine p (ast (.int .i64 (mid : Nat)) rfl) ?_
            refine nl ?_
            refine tn ?_
            exact ⟨mid + m - b, mid, ((.inl ⟨(by omega), rfl, rfl⟩)), hEC, rfl, rfl, rfl, rfl, rfl, rfl, rfl, rfl, rfl⟩
          · refine sq (fun K8 hK8 => ?_)
            refine rg ?_
            refine p (mvt (.int .i64 (a : Nat)) rfl) ?_
            refine p (ast (.int .i64 (a : Nat)) rfl) ?_
            refine nl ?_
            refine tn (hK8 _ _ ?_)
            refine rg ?_
            refine p (mvt (.int .i64 (m : Nat)) rfl) ?_
            refine p (ast (.int .i64 (m : Nat)) rfl) ?_
            refine nl ?_
            refine tn ?_
            exact ⟨a, m, ((.inr ⟨(by omega), rfl, rfl⟩)), hEC, rfl, rfl, rfl, rfl, rfl, rfl, rfl, rfl, rfl⟩
        rintro σ6 wD ⟨lo, hi, hlo, hED, hs6_0, hs6_1, hs6_2, hs6_3, hs6_4, hs6_18, hs6_19, hs6_20, hs6_21⟩
        refine fx 0 hs6_0 (fx 1 hs6_1 (fx 2 hs6_2 (fx 3 hs6_3 (fx 4 hs6_4 (fx 18 hs6_18 (fx 19 hs6_19 (fx 20 hs6_20 (fx 21 hs6_21 ?_))))))))
        refine sq (fun K7 hK7 => ?_)
        refine rg ?_
        refine p (mvt (.int .i64 (mid + m : Nat)) rfl) ?_
        refine p (sbv ((mid + m - 1 : Nat) : Int) rfl rfl (w64n (by omega) (by omega))) ?_
        refine p asg ?_
        refine nl ?_
        refine tn (hK7 _ _ ?_)
        refine sq (fun K8 hK8 => ?_)
        refine blk ?_
        refine lp (fun gm σ7 wL => ∃ (sA rA : Nat), (lo ≤ sA) ∧ (sA ≤ rA) ∧ (rA ≤ hi) ∧ (InvA s1 s2 a mid lo sA) ∧ (InvB s1 s2 a mid hi rA) ∧ (Wk w wL) ∧ (σ7 0 = .slice aD n cp) ∧ (σ7 1 = .int .i64 (a : Nat)) ∧ (σ7 2 = .int .i64 (m : Nat)) ∧ (σ7 3 = .int .i64 (b : Nat)) ∧ (σ7 4 = .func (.func 25) #[] #[]) ∧ (σ7 18 = .int .i64 (mid : Nat)) ∧ (σ7 19 = .int .i64 (mid + m : Nat)) ∧ (σ7 20 = .int .i64 (sA : Nat)) ∧ (σ7 21 = .int .i64 (rA : Nat)) ∧ (σ7 22 = .int .i64 (mid + m - 1 : Nat)) ∧ (rA - sA = gm)) _ ⟨lo, hi, ((by omega)), ((by omega)), ((by omega)), (.inl rfl), (.inl rfl), hED, rfl, rfl, rfl, rfl, rfl, rfl, rfl, rfl, rfl, rfl, rfl⟩ ?_
        rintro gm σ7 wL ⟨sA, rA, hs0, hsr, hrh, hA, hB, hE3, hs7_0, hs7_1, hs7_2, hs7_3, hs7_4, hs7_18, hs7_19, hs7_20, hs7_21, hs7_22, rfl⟩
        refine fx 0 hs7_0 (fx 1 hs7_1 (fx 2 hs7_2 (fx 3 hs7_3 (fx 4 hs7_4 (fx 18 hs7_18 (fx 19 hs7_19 (fx 20 hs7_20 (fx 21 hs7_21 (fx 22 hs7_22 ?_)))))))))
        refine sq (fun K9 hK9 => ?_)
        refine sq (fun K10 hK10 => ?_)
        refine rg ?_
        refine p (mvt (.int .i64 (sA : Nat)) rfl) ?_
        refine p (mvt (.int .i64 (rA : Nat)) rfl) ?_
        refine p (lt rfl rfl) ?_
        refine nl ?_
        refine tn (hK10 _ _ ?_)
        refine cd rfl (fun hc151 => ?_) (fun hc151 => ?_)
        · refine skp ?_
          refine tn (hK9 _ _ ?_)
          refine blk ?_
          refine sq (fun K11 hK11 => ?_)
          refine rg ?_
          refine p (mvt (.int .i64 (sA : Nat)) rfl) ?_
          refine p (mvt (.int .i64 (rA : Nat)) rfl) ?_
          refine p (adv ((sA + rA : Nat) : Int) rfl rfl (w64n (by omega) (by omega))) ?_
          refine p (cvs u139 us3 rfl (wu64 (by omega))) ?_
          refine p (shr rfl rfl (by decide) (shr1 (sA + rA))) ?_
          refine p (cvs u3 us139 rfl (wi64 (by omega))) ?_
          refine p asg ?_
          refine nl ?_
          refine tn (hK11 _ _ ?_)
          refine sq (fun K12 hK12 => ?_)
          have hO3 := own_nw hO hE3
          obtain ⟨⟨xt, xd⟩, hx⟩ : ∃ x, s1[((sA + rA) / 2) - a]? = some x := ⟨_, List.getElem?_eq_getElem (by omega)⟩
          obtain ⟨⟨yt, yd⟩, hy⟩ : ∃ y, s2[mid - 1 - ((sA + rA) / 2)]? = some y := ⟨_, List.getElem?_eq_getElem (by omega)⟩
          have hgx : (pre ++ (s1 ++ (s2 ++ post)))[((sA + rA) / 2)]? = some (xt, xd) := by rw [get_seg (by omega) (by omega), ← ha]; exact hx
          have hgy : (pre ++ (s1 ++ (s2 ++ post)))[mid + m - 1 - ((sA + rA) / 2)]? = some (yt, yd) := by
            rw [← List.append_assoc, get_seg (by rw [List.length_append]; omega) (by rw [List.length_append]; omega), List.length_append, show mid + m - 1 - ((sA + rA) / 2) - (pre.length + s1.length) = mid - 1 - ((sA + rA) / 2) by omega]; exact hy
          have hS35 : (fun w' => Wk wL w') wL.drew := (Md.refl _ _).drew
          refine hst (fun w' => Wk wL w') wide hS35 ?_
          refine hp 0 rfl (by kernel_rfl) (fun _ _ => mvt (.func (.func 25) #[] #[]) rfl) hS35 ?_
          refine hp 1 rfl (by kernel_rfl) (fun _ _ => mvt (.slice aD n cp) rfl) hS35 ?_
          refine hp 2 rfl (by kernel_rfl) (fun _ _ => mvt (.int .i64 (mid + m - 1 : Nat)) rfl) hS35 ?_
          refine hp 3 rfl (by kernel_rfl) (fun _ _ => mv) hS35 ?_
          refine hp 4 rfl (by kernel_rfl) (fun _ _ => sbv ((mid + m - 1 - ((sA + rA) / 2) : Nat) : Int) rfl rfl (w64n (by omega) (by omega))) hS35 ?_
          refine hp 5 rfl (by kernel_rfl) (fun _ _ => ia' es35 rfl rfl (by omega) (Cells.ok ((own_cellsS hO3).2) (nfl_ne (by rw [own_nlen hO3]; omega)))) hS35 ?_
          refine hp 6 rfl (by kernel_rfl) (fun w' hS => lda ag45 rfl rfl (fun c hc => show cel w'.heap (bk aD) (fo aD + (mid + m - 1 - ((sA + rA) / 2)) * 2 + c) = [str yt, .int .i64 (yd : Nat)][c]? from nfl_cells ((own_cellsS hO3).2.wk hS) hgy c hc)) hS35 ?_
          refine hp 7 rfl (by kernel_rfl) (fun _ _ => mvt (.slice aD n cp) rfl) hS35 ?_
          refine hp 8 rfl (by kernel_rfl) (fun _ _ => mv) hS35 ?_
          refine hp 9 rfl (by kernel_rfl) (fun _ _ => ia' es35 rfl rfl (by omega) (Cells.ok ((own_cellsS hO3).2) (nfl_ne (by rw [own_nlen hO3]; omega)))) hS35 ?_
          refine hp 10 rfl (by kernel_rfl) (fun w' hS => lda ag45 rfl rfl (fun c hc => show cel w'.heap (bk aD) (fo aD + ((sA + rA) / 2) * 2 + c) = [str xt, .int .i64 (xd : Nat)][c]? from nfl_cells ((own_cellsS hO3).2.wk hS) hgx c hc)) hS35 ?_
          refine he 11 rfl (by kernel_rfl) (clv c25 rfl (clos_w yt yd xt xd _) rfl fun v169 w169 hR169 => ?_)
          obtain ⟨rfl, hE169⟩ := hR169
          have hS35_11 : (fun w' => Wk wL w') w169 := Md.trans hS35 hE169
          refine ⟨hS35_11, ?_⟩
          refine hp 12 rfl (by kernel_rfl) (fun _ _ => lt rfl rfl) hS35_11 ?_
          refine hp 13 rfl (by kernel_rfl) (fun _ _ => no rfl) hS35_11 ?_
          refine hn (by kernel_rfl) ?_
          refine tn (hK12 _ _ ?_)
          refine cb rfl (fun hc171 => ?_) (fun hc171 => ?_)
          · refine rg ?_
            refine p mv ?_
            refine p (adv ((((sA + rA) / 2) + 1 : Nat) : Int) rfl rfl (w64n (by omega) (by omega))) ?_
            refine p asg ?_
            refine nl ?_
            refine bn ?_
            refine tn ?_
            exact ⟨_, by omega, ((sA + rA) / 2) + 1, rA, ((by omega)), ((by omega)), hrh, ((.inr ⟨(xt, xd), (yt, yd), (by rw [show ((sA + rA) / 2) + 1 - 1 - a = ((sA + rA) / 2) - a by omega]; exact hx), (by rw [show mid - (((sA + rA) / 2) + 1) = mid - 1 - ((sA + rA) / 2) by omega]; exact hy), (by have := ncmp hc171; simp only; omega)⟩)), hB, (Md.trans hE3 hS35_11), rfl, rfl, rfl, rfl, rfl, rfl, rfl, rfl, rfl, rfl, rfl⟩
          · refine rg ?_
            refine p mv ?_
            refine p asg ?_
            refine nl ?_
            refine bn ?_
            refine tn ?_
            exact ⟨_, by omega, sA, ((sA + rA) / 2), hs0, ((by omega)), ((by omega)), hA, ((.inr ⟨(xt, xd), (yt, yd), hx, hy, (by have : ((yd : Int) < (xd : Nat)) := ncmq hc171; simp only; omega)⟩)), (Md.trans hE3 hS35_11), rfl, rfl, rfl, rfl, rfl, rfl, rfl, rfl, rfl, rfl, rfl⟩
        · refine ext ?_
          refine te _ ?_
          refine te _ ?_
          refine be ?_
          refine tn (hK8 _ _ ?_)
          refine sq (fun K11 hK11 => ?_)
          obtain rfl : sA = rA := by omega
          have hmg := symm_ok hs1 hs2 hm hb hlo hmid hA hB
          have hO38 := own_nw hO hE3
          have hO38 : World.ownsRow wL B 45 2 (.slice aD n cp) n (nfl ((pre ++ s1.take (sA - a)) ++ (s1.drop (sA - a) ++ (s2.take (mid - sA) ++ (s2.drop (mid - sA) ++ post))))) := by
            have e : (pre ++ s1.take (sA - a)) ++ (s1.drop (sA - a) ++ (s2.take (mid - sA) ++ (s2.drop (mid - sA) ++ post))) = pre ++ (s1 ++ (s2 ++ post)) := by
              rw [List.append_assoc, ← List.append_assoc (s1.take _), List.take_append_drop, ← List.append_assoc (s2.take _), List.take_append_drop]
            rw [e]; exact hO38
          refine rg ?_
          refine p (mvt (.int .i64 (mid + m : Nat)) rfl) ?_
          refine p (mvt (.int .i64 (sA : Nat)) rfl) ?_
          refine p (sbv ((mid + m - sA : Nat) : Int) rfl rfl (w64n (by omega) (by omega))) ?_
          refine p asg ?_
          refine nl ?_
          refine tn (hK11 _ _ ?_)
          refine sqc (fun σ8 wP => (World.ownsRow wP B 45 2 (.slice aD n cp) n (nfl (pre ++ ((s1.take (sA - a)) ++ ((s2.take (mid - sA)) ++ ((s1.drop (sA - a)) ++ ((s2.drop (mid - sA)) ++ post))))))) ∧ (Md (fun q => (Value.slice aD n cp).ownBlock = some q) w wP) ∧ (σ8 0 = .slice aD n cp) ∧ (σ8 1 = .int .i64 (a : Nat)) ∧ (σ8 2 = .int .i64 (m : Nat)) ∧ (σ8 3 = .int .i64 (b : Nat)) ∧ (σ8 4 = .func (.func 25) #[] #[]) ∧ (σ8 18 = .int .i64 (mid : Nat)) ∧ (σ8 20 = .int .i64 (sA : Nat)) ∧ (σ8 24 = .int .i64 (mid + m - sA : Nat))) ?_ ?_
          · refine sq (fun K12 hK12 => ?_)
            refine rg ?_
            refine p (mvt (.int .i64 (sA : Nat)) rfl) ?_
            refine p (mvt (.int .i64 (m : Nat)) rfl) ?_
            refine p (lt rfl rfl) ?_
            refine p mv ?_
            refine gs (t := 181) rfl (fun hg181 => ?_) (fun hg181 => ?_)
            · refine pg rfl rfl rfl (mvt (.int .i64 (m : Nat)) rfl) ?_
              refine pg rfl rfl rfl mv ?_
              refine pg rfl rfl rfl (lt rfl rfl) ?_
              refine p (pkt rfl) ?_
              refine nl ?_
              refine tn (hK12 _ _ ?_)
              refine cd rfl (fun hc185 => ?_) (fun hc185 => ?_)
              · refine rg ?_
                refine p (mvt (.slice aD n cp) rfl) ?_
                refine p (mvt (.int .i64 (sA : Nat)) rfl) ?_
                refine p (mvt (.int .i64 (m : Nat)) rfl) ?_
                refine p mv ?_
                refine p (mvt (.func (.func 25) #[] #[]) rfl) ?_
                refine e (cl c60 (rotate_w (pre ++ (s1.take (sA - a))) (s1.drop (sA - a)) (s2.take (mid - sA)) ((s2.drop (mid - sA)) ++ post) sA m (mid + m - sA) B n cp aD _ hO38 (by rw [List.length_append, List.length_take]; omega) (by rw [List.length_drop]; omega) (by rw [List.length_take]; omega) (by rw [List.length_drop]; omega) (by rw [List.length_take]; omega) hnb) rfl fun v191 w191 hR191 => ?_)
                obtain ⟨_, hO191, hM191⟩ := hR191
                refine nl ?_
                refine tn ?_
                exact ⟨((by rw [← List.append_assoc pre]; exact hO191)), (Md.trans (hE3.mono (fun _ _ h => h.elim)) hM191), rfl, rfl, rfl, rfl, rfl, rfl, rfl, rfl⟩
              · refine skp ?_
                refine tn ?_
                exact ⟨((by rw [show mid - sA = 0 by omega, List.append_assoc] at *; simpa using hO38)), (hE3.mono (fun _ _ h => h.elim)), rfl, rfl, rfl, rfl, rfl, rfl, rfl, rfl⟩
            · refine sk rfl rfl rfl rfl ?_
              refine sk rfl rfl rfl rfl ?_
              refine sk rfl rfl rfl rfl ?_
              refine p (pkf rfl) ?_
              refine nl ?_
              refine tn (hK12 _ _ ?_)
              refine cf rfl ?_
              refine skp ?_
              refine tn ?_
              exact ⟨((by rw [List.drop_eq_nil_of_le (show s1.length ≤ sA - a by omega), List.append_assoc] at *; simpa using hO38)), (hE3.mono (fun _ _ h => h.elim)), rfl, rfl, rfl, rfl, rfl, rfl, rfl, rfl⟩
          rintro σ8 wP ⟨hO41, hM41, hs8_0, hs8_1, hs8_2, hs8_3, hs8_4, hs8_18, hs8_20, hs8_24⟩
          refine fx 0 hs8_0 (fx 1 hs8_1 (fx 2 hs8_2 (fx 3 hs8_3 (fx 4 hs8_4 (fx 18 hs8_18 (fx 20 hs8_20 (fx 24 hs8_24 ?_)))))))
          refine sqc (fun σ9 wQ => (World.ownsRow wQ B 45 2 (.slice aD n cp) n (nfl (pre ++ (isort ((s1.take (sA - a)) ++ (s2.take (mid - sA))) ++ ((s1.drop (sA - a)) ++ ((s2.drop (mid - sA)) ++ post)))))) ∧ (Md (fun q => (Value.slice aD n cp).ownBlock = some q) w wQ) ∧ (σ9 0 = .slice aD n cp) ∧ (σ9 1 = .int .i64 (a : Nat)) ∧ (σ9 2 = .int .i64 (m : Nat)) ∧ (σ9 3 = .int .i64 (b : Nat)) ∧ (σ9 4 = .func (.func 25) #[] #[]) ∧ (σ9 18 = .int .i64 (mid : Nat)) ∧ (σ9 24 = .int .i64 (mid + m - sA : Nat))) ?_ ?_
          · refine sq (fun K12 hK12 => ?_)
            refine rg ?_
            refine p (mvt (.int .i64 (a : Nat)) rfl) ?_
            refine p (mvt (.int .i64 (sA : Nat)) rfl) ?_
            refine p (lt rfl rfl) ?_
            refine p mv ?_
            refine gs (t := 195) rfl (fun hg195 => ?_) (fun hg195 => ?_)
            · refine pg rfl rfl rfl (mvt (.int .i64 (sA : Nat)) rfl) ?_
              refine pg rfl rfl rfl (mvt (.int .i64 (mid : Nat)) rfl) ?_
              refine pg rfl rfl rfl (lt rfl rfl) ?_
              refine p (pkt rfl) ?_
              refine nl ?_
              refine tn (hK12 _ _ ?_)
              refine cd rfl (fun hc199 => ?_) (fun hc199 => ?_)
              · refine rg ?_
                refine p (mvt (.slice aD n cp) rfl) ?_
                refine p (mvt (.int .i64 (a : Nat)) rfl) ?_
                refine p (mvt (.int .i64 (sA : Nat)) rfl) ?_
                refine p (mvt (.int .i64 (mid : Nat)) rfl) ?_
                refine p (mvt (.func (.func 25) #[] #[]) rfl) ?_
                refine e (cl c50 (ih pre (s1.take (sA - a)) (s2.take (mid - sA)) ((s1.drop (sA - a)) ++ ((s2.drop (mid - sA)) ++ post)) a sA mid _ hO41 ha (by rw [List.length_take]; omega) (by rw [List.length_take]; omega) (by rw [List.length_take]; omega) (by rw [List.length_take]; omega) (hs1.take _) (hs2.take _) (by rw [List.length_take, List.length_take]; omega)) rfl fun v205 w205 hR205 => ?_)
                obtain ⟨_, hO205, hM205⟩ := hR205
                refine nl ?_
                refine tn ?_
                exact ⟨hO205, (Md.trans hM41 hM205), rfl, rfl, rfl, rfl, rfl, rfl, rfl⟩
              · refine skp ?_
                refine tn ?_
                exact ⟨((by rw [isort_self (l := s1.take (sA - a) ++ s2.take (mid - sA)) (by rw [show mid - sA = 0 by omega, List.take_zero, List.append_nil]; exact hs1.take _), List.append_assoc]; exact hO41)), hM41, rfl, rfl, rfl, rfl, rfl, rfl, rfl⟩
            · refine sk rfl rfl rfl rfl ?_
              refine sk rfl rfl rfl rfl ?_
              refine sk rfl rfl rfl rfl ?_
              refine p (pkf rfl) ?_
              refine nl ?_
              refine tn (hK12 _ _ ?_)
              refine cf rfl ?_
              refine skp ?_
              refine tn ?_
              exact ⟨((by rw [isort_self (l := s1.take (sA - a) ++ s2.take (mid - sA)) (by rw [show sA - a = 0 by omega, List.take_zero, List.nil_append]; exact hs2.take _), List.append_assoc]; exact hO41)), hM41, rfl, rfl, rfl, rfl, rfl, rfl, rfl⟩
          rintro σ9 wQ ⟨hO43, hM43, hs9_0, hs9_1, hs9_2, hs9_3, hs9_4, hs9_18, hs9_24⟩
          refine fx 0 hs9_0 (fx 1 hs9_1 (fx 2 hs9_2 (fx 3 hs9_3 (fx 4 hs9_4 (fx 18 hs9_18 (fx 24 hs9_24 ?_))))))
          refine sq (fun K12 hK12 => ?_)
          refine rg ?_
          refine p (mvt (.int .i64 (mid : Nat)) rfl) ?_
          refine p (mvt (.int .i64 (mid + m - sA : Nat)) rfl) ?_
          refine p (lt rfl rfl) ?_
          refine p mv ?_
          refine gs (t := 209) rfl (fun hg209 => ?_) (fun hg209 => ?_)
          · refine pg rfl rfl rfl (mvt (.int .i64 (mid + m - sA : Nat)) rfl) ?_
            refine pg rfl rfl rfl (mvt (.int .i64 (b : Nat)) rfl) ?_
            refine pg rfl rfl rfl (lt rfl rfl) ?_
            refine p (pkt rfl) ?_
            refine nl ?_
            refine tn (hK12 _ _ ?_)
            refine cd rfl (fun hc213 => ?_) (fun hc213 => ?_)
            · refine rg ?_
              refine p (mvt (.slice aD n cp) rfl) ?_
              refine p (mvt (.int .i64 (mid : Nat)) rfl) ?_
              refine p (mvt (.int .i64 (mid + m - sA : Nat)) rfl) ?_
              refine p (mvt (.int .i64 (b : Nat)) rfl) ?_
              refine p (mvt (.func (.func 25) #[] #[]) rfl) ?_
              refine e (cl c50 (ih (pre ++ isort ((s1.take (sA - a)) ++ (s2.take (mid - sA)))) (s1.drop (sA - a)) (s2.drop (mid - sA)) post mid (mid + m - sA) b _ (by rw [List.append_assoc]; exact hO43) (by rw [List.length_append, isort_len, List.length_append, List.length_take, List.length_take]; omega) (by rw [List.length_drop]; omega) (by rw [List.length_drop]; omega) (by rw [List.length_drop]; omega) (by rw [List.length_drop]; omega) (hs1.drop _) (hs2.drop _) (by rw [List.length_drop, List.length_drop]; omega)) rfl fun v219 w219 hR219 => ?_)
              obtain ⟨_, hO219, hM219⟩ := hR219
              refine nl ?_
              refine f0 rfl ?_
              rw [hmg, List.append_assoc]
              exact ⟨rfl, by rw [List.append_assoc] at hO219; exact hO219, Md.trans hM43 hM219⟩
            · refine skp ?_
              refine f0 rfl ?_
              rw [hmg, isort_self (l := s1.drop (sA - a) ++ s2.drop (mid - sA)) (by rw [List.drop_eq_nil_of_le (show s2.length ≤ mid - sA by omega), List.append_nil]; exact hs1.drop _), List.append_assoc, List.append_assoc]
              exact ⟨rfl, hO43, hM43⟩
          · refine sk rfl rfl rfl rfl ?_
            refine sk rfl rfl rfl rfl ?_
            refine sk rfl rfl rfl rfl ?_
            refine p (pkf rfl) ?_
            refine nl ?_
            refine tn (hK12 _ _ ?_)
            refine cf rfl ?_
            refine skp ?_
            refine f0 rfl ?_
            rw [hmg, isort_self (l := s1.drop (sA - a) ++ s2.drop (mid - sA)) (by rw [List.drop_eq_nil_of_le (show s1.length ≤ sA - a by omega), List.nil_append]; exact hs2.drop _), List.append_assoc, List.append_assoc]
            exact ⟨rfl, hO43, hM43⟩
end Go.Hb.Symm
