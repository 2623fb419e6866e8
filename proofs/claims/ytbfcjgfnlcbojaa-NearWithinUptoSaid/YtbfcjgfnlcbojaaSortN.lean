/-
  Walks of slices.SortStableFunc at rows of a word and its distance, with all that it calls. No conditions but those that each theorem names.
-/
import Derived.Test.YtbfcjgfnlcbojaaChecked
import Derived.Test.YtbfcjgfnlcbojaaCore
import Derived.Test.YtbfcjgfnlcbojaaPlan
import Derived.Test.YtbfcjgfnlcbojaaNrp
set_option maxRecDepth 20000
set_option linter.unusedVariables false
namespace Go.Hb.SortN
open Go.Proofs
theorem ag3 : aggN Try.prog 3 = some none := by kernel_rfl
theorem ag45 : aggN Try.prog 45 = some (some 2) := by kernel_rfl
theorem c25 : Callable Try.prog 25 := callable Try.func25 (by kernel_rfl) (by kernel_rfl)
theorem c26 : Callable Try.prog 26 := callable Try.func26 (by kernel_rfl) (by kernel_rfl)
theorem c39 : Callable Try.prog 39 := callable Try.func39 (by kernel_rfl) (by kernel_rfl)
theorem c62 : Callable Try.prog 62 := callable Try.func62 (by kernel_rfl) (by kernel_rfl)
theorem cz45 : cellsN Try.prog 45 = some 2 := by kernel_rfl
theorem es35 : elemSize Try.prog 35 = some 2 := by kernel_rfl
theorem fo45_1 : fieldOff Try.prog 45 1 = some 1 := by kernel_rfl
theorem wide : Try.prog.follows .mixedOrders = true := by kernel_rfl

def cmp3 (x y : Int) : Int := if x < y then -1 else if y < x then 1 else 0
theorem cmp3_lt {x y : Int} : cmp3 x y < 0 ↔ x < y := by
  unfold cmp3
  by_cases h : x < y
  · rw [if_pos h]; omega
  · rw [if_neg h]; split <;> omega
theorem srt_le {u : List Nr} {y : Nr} {d : Nat} (h : Srt (u ++ [y])) (hy : y.2 ≤ d) : ∀ z ∈ u ++ [y], z.2 ≤ d := fun z hz => by
  rcases List.mem_append.1 hz with hz | hz
  · have := (List.pairwise_append.1 h).2.2 z hz y (by simp); omega
  · rw [List.mem_singleton] at hz; subst hz; exact hy
theorem isort_one (seg : List Nr) : isort (seg.take 1) = seg.take 1 := by
  cases seg with
  | nil => rfl
  | cons x seg => rfl
theorem take_succ_some {l : List Nr} {m : Nat} {x : Nr} (h : l[m]? = some x) : l.take (m + 1) = l.take m ++ [x] := by
  obtain ⟨hk, rfl⟩ := List.getElem?_eq_some_iff.1 h
  exact List.take_succ_eq_append_getElem hk
theorem drop_some {l : List Nr} {m : Nat} {x : Nr} (h : l[m]? = some x) : l.drop m = x :: l.drop (m + 1) := by
  obtain ⟨hk, rfl⟩ := List.getElem?_eq_some_iff.1 h
  exact List.drop_eq_getElem_cons hk
theorem last_of {u : List Nr} (h : 0 < u.length) : ∃ u' t d, u = u' ++ [(t, d)] := by
  obtain ⟨u', y, rfl⟩ : ∃ u' y, u = u' ++ [y] := by
    rcases List.eq_nil_or_concat u with rfl | ⟨u', y, rfl⟩
    · simp at h
    · exact ⟨u', y, List.concat_eq_append⟩
  exact ⟨u', y.1, y.2, rfl⟩

theorem isnan_w (x : Int) (w : World) :
    Ret Try.prog 39 (List.toArray [.int .i64 x]) w (fun v w' => v = .bool false ∧ Wk w w') := by
  refine enter Try.func39 rfl Try.ntmps39 rfl ?_
  refine sq (fun K1 hK1 => ?_)
  refine rg ?_
  refine p asg ?_
  refine nl ?_
  refine tn (hK1 _ _ ?_)
  refine sq (fun K2 hK2 => ?_)
  refine rg ?_
  refine p (mvt (.int .i64 x) rfl) ?_
  refine p (mvt (.int .i64 x) rfl) ?_
  refine p (nei rfl rfl) ?_
  refine p asg ?_
  refine nl ?_
  refine tn (hK2 _ _ ?_)
  refine rt ?_
  refine f1 rfl rfl ?_
  exact ⟨congrArg Value.bool (decide_eq_false (fun h => h rfl)), Md.refl _ _⟩
theorem compare_w (x y : Int) (w : World) :
    Ret Try.prog 26 (List.toArray [.int .i64 x, .int .i64 y]) w (fun v w' => v = .int .i64 (cmp3 x y) ∧ Wk w w') := by
  refine enter Try.func26 rfl Try.ntmps26 rfl ?_
  refine sq (fun K1 hK1 => ?_)
  refine rg ?_
  refine p asg ?_
  refine nl ?_
  refine tn (hK1 _ _ ?_)
  refine sq (fun K2 hK2 => ?_)
  refine rg ?_
  refine p (mvt (.int .i64 x) rfl) ?_
  refine e (cl c39 (isnan_w x _) rfl fun v8 w8 hR8 => ?_)
  obtain ⟨rfl, hE8⟩ := hR8
  refine p asg ?_
  refine nl ?_
  refine tn (hK2 _ _ ?_)
  refine sq (fun K3 hK3 => ?_)
  refine rg ?_
  refine p (mvt (.int .i64 y) rfl) ?_
  refine e (cl c39 (isnan_w y _) rfl fun v10 w10 hR10 => ?_)
  obtain ⟨rfl, hE10⟩ := hR10
  refine p asg ?_
  refine nl ?_
  refine tn (hK3 _ _ ?_)
  refine sq (fun K4 hK4 => ?_)
  refine sq (fun K5 hK5 => ?_)
  refine rg ?_
  refine p mv ?_
  refine nl ?_
  refine tn (hK5 _ _ ?_)
  refine cf rfl ?_
  refine skp ?_
  refine tn (hK4 _ _ ?_)
  refine sq (fun K6 hK6 => ?_)
  refine sq (fun K7 hK7 => ?_)
  refine rg ?_
  refine p mv ?_
  refine nl ?_
  refine tn (hK7 _ _ ?_)
  refine cf rfl ?_
  refine skp ?_
  refine tn (hK6 _ _ ?_)
  refine sq (fun K8 hK8 => ?_)
  refine sq (fun K9 hK9 => ?_)
  refine rg ?_
  refine p (mvt (.int .i64 x) rfl) ?_
  refine p (mvt (.int .i64 y) rfl) ?_
  refine p (lt rfl rfl) ?_
  refine nl ?_
  refine tn (hK9 _ _ ?_)
  refine cd rfl (fun hc16 => ?_) (fun hc16 => ?_)
  · refine sq (fun K10 hK10 => ?_)
    refine rg ?_
    refine p asg ?_
    refine nl ?_
    refine tn (hK10 _ _ ?_)
    refine rt ?_
    refine tr ?_
    refine f1 rfl rfl ?_
    exact ⟨iv (by unfold cmp3; rw [if_pos hc16]), Md.trans hE8 hE10⟩
  · refine skp ?_
    refine tn (hK8 _ _ ?_)
    refine sq (fun K10 hK10 => ?_)
    refine sq (fun K11 hK11 => ?_)
    refine rg ?_
    refine p (mvt (.int .i64 x) rfl) ?_
    refine p (mvt (.int .i64 y) rfl) ?_
    refine p (gt rfl rfl) ?_
    refine nl ?_
    refine tn (hK11 _ _ ?_)
    refine cd rfl (fun hc19 => ?_) (fun hc19 => ?_)
    · refine sq (fun K12 hK12 => ?_)
      refine rg ?_
      refine p asg ?_
      refine nl ?_
      refine tn (hK12 _ _ ?_)
      refine rt ?_
      refine tr ?_
      refine f1 rfl rfl ?_
      exact ⟨iv (by unfold cmp3; rw [if_neg hc16, if_pos hc19]), Md.trans hE8 hE10⟩
    · refine skp ?_
      refine tn (hK10 _ _ ?_)
      refine sq (fun K12 hK12 => ?_)
      refine rg ?_
      refine p asg ?_
      refine nl ?_
      refine tn (hK12 _ _ ?_)
      refine rt ?_
      refine f1 rfl rfl ?_
      exact ⟨iv (by unfold cmp3; rw [if_neg hc16, if_neg hc19]), Md.trans hE8 hE10⟩
theorem clos_w (t1 : List UInt8) (d1 : Nat) (t2 : List UInt8) (d2 : Nat) (w : World) :
    Ret Try.prog 25 (List.toArray [.agg [str t1, .int .i64 (d1 : Nat)].toArray, .agg [str t2, .int .i64 (d2 : Nat)].toArray]) w (fun v w' => v = .int .i64 (cmp3 d1 d2) ∧ Wk w w') := by
  refine enter Try.func25 rfl Try.ntmps25 rfl ?_
  refine sq (fun K1 hK1 => ?_)
  refine rg ?_
  refine e (bxa rfl fun b2 w2 hb2 hN2 hB2 => ?_)
  refine e (bxa rfl fun b3 w3 hb3 hN3 hB3 => ?_)
  refine p asg ?_
  refine nl ?_
  refine tn (hK1 _ _ ?_)
  refine sq (fun K2 hK2 => ?_)
  refine rg ?_
  refine p (fa fo45_1 rfl) ?_
  refine p (ld ag3 rfl (hN3.md.cel (hB2.cel 1))) ?_
  refine p (fa fo45_1 rfl) ?_
  refine p (ld ag3 rfl (hB3.cel 1)) ?_
  refine e (cl c26 (compare_w _ _ _) rfl fun v9 w9 hR9 => ?_)
  obtain ⟨rfl, hE9⟩ := hR9
  refine p asg ?_
  refine nl ?_
  refine tn (hK2 _ _ ?_)
  refine rt ?_
  refine f1 rfl rfl ?_
  exact ⟨rfl, Md.trans (Md.trans hN2.md hN3.md) hE9⟩
set_option maxHeartbeats 1000000 in
theorem insert_w (pre seg post : List Nr) (a b B n cp : Nat) (aD : Option Addr) (w : World) (hO : World.ownsRow w B 45 2 (.slice aD n cp) n (nfl (pre ++ (seg ++ post)))) (ha : a = pre.length) (hb : b = a + seg.length) (hnb : n ≤ 1099511627776) :
    Ret Try.prog 49 (List.toArray [.slice aD n cp, .int .i64 (a : Nat), .int .i64 (b : Nat), .func (.func 25) #[] #[]]) w (fun v w' => v = .tuple #[] ∧ World.ownsRow w' B 45 2 (.slice aD n cp) n (nfl (pre ++ (isort seg ++ post))) ∧ Md (fun q => (Value.slice aD n cp).ownBlock = some q) w w') := by
  have hl0 := own_nlen hO
  simp only [List.length_append] at hl0
  refine enter Try.func49 rfl Try.ntmps49 rfl ?_
  refine sq (fun K1 hK1 => ?_)
  refine rg ?_
  refine p (mvt (.int .i64 (a : Nat)) rfl) ?_
  refine p (adv ((a + 1 : Nat) : Int) rfl rfl (w64n (by omega) (by omega))) ?_
  refine p asg ?_
  refine nl ?_
  refine tn (hK1 _ _ ?_)
  refine blk ?_
  refine lp (fun gm σ1 wL => ∃ (m : Nat), (1 ≤ m) ∧ (World.ownsRow wL B 45 2 (.slice aD n cp) n (nfl (pre ++ (isort (seg.take m) ++ (seg.drop m ++ post))))) ∧ (Md (fun q => (Value.slice aD n cp).ownBlock = some q) w wL) ∧ (σ1 0 = .slice aD n cp) ∧ (σ1 1 = .int .i64 (a : Nat)) ∧ (σ1 2 = .int .i64 (b : Nat)) ∧ (σ1 3 = .func (.func 25) #[] #[]) ∧ (σ1 8 = .int .i64 (a + m : Nat)) ∧ (seg.length - m = gm)) _ ⟨1, ((by omega)), ((by rw [isort_one, ← List.append_assoc (seg.take 1), List.take_append_drop]; exact hO)), (Md.refl _ _), rfl, rfl, rfl, rfl, rfl, rfl⟩ ?_
  rintro gm σ1 wL ⟨m, hm1, hO1, hM1, hs1_0, hs1_1, hs1_2, hs1_3, hs1_8, rfl⟩
  refine fx 0 hs1_0 (fx 1 hs1_1 (fx 2 hs1_2 (fx 3 hs1_3 (fx 8 hs1_8 ?_))))
  refine sq (fun K2 hK2 => ?_)
  refine sq (fun K3 hK3 => ?_)
  refine rg ?_
  refine p (mvt (.int .i64 (a + m : Nat)) rfl) ?_
  refine p (mvt (.int .i64 (b : Nat)) rfl) ?_
  refine p (lt rfl rfl) ?_
  refine nl ?_
  refine tn (hK3 _ _ ?_)
  refine cd rfl (fun hc14 => ?_) (fun hc14 => ?_)
  · refine skp ?_
    refine tn (hK2 _ _ ?_)
    refine sq (fun K4 hK4 => ?_)
    refine blk ?_
    refine sq (fun K5 hK5 => ?_)
    refine rg ?_
    refine p (mvt (.int .i64 (a + m : Nat)) rfl) ?_
    refine p (ast (.int .i64 (a + m : Nat)) rfl) ?_
    refine nl ?_
    refine tn (hK5 _ _ ?_)
    refine blk ?_
    obtain ⟨⟨xt, xd⟩, hx⟩ : ∃ x, seg[m]? = some x := ⟨_, List.getElem?_eq_getElem (by omega)⟩
    have hul : (isort (seg.take m)).length = m := by rw [isort_len, List.length_take]; omega
    refine lp (fun gm σ2 wN => ∃ (j : Nat) (u v : List Nr), (j = a + u.length) ∧ (u ++ v = isort (seg.take m)) ∧ (∀ y ∈ v, xd < y.2) ∧ (World.ownsRow wN B 45 2 (.slice aD n cp) n (nfl (pre ++ (u ++ (xt, xd) :: (v ++ (seg.drop (m + 1) ++ post)))))) ∧ (Md (fun q => (Value.slice aD n cp).ownBlock = some q) w wN) ∧ (σ2 0 = .slice aD n cp) ∧ (σ2 1 = .int .i64 (a : Nat)) ∧ (σ2 2 = .int .i64 (b : Nat)) ∧ (σ2 3 = .func (.func 25) #[] #[]) ∧ (σ2 8 = .int .i64 (a + m : Nat)) ∧ (σ2 9 = .int .i64 (j : Nat)) ∧ (u.length = gm)) _ ⟨a + m, isort (seg.take m), [], ((by omega)), ((by rw [List.append_nil])), ((fun y hy => by simp at hy)), ((by rw [drop_some hx] at hO1; exact hO1)), hM1, rfl, rfl, rfl, rfl, rfl, rfl, rfl⟩ ?_
    rintro gm σ2 wN ⟨j, u, v, hj, huv, hv, hO2, hM2, hs2_0, hs2_1, hs2_2, hs2_3, hs2_8, hs2_9, rfl⟩
    refine fx 0 hs2_0 (fx 1 hs2_1 (fx 2 hs2_2 (fx 3 hs2_3 (fx 8 hs2_8 (fx 9 hs2_9 ?_)))))
    refine sq (fun K6 hK6 => ?_)
    refine sq (fun K7 hK7 => ?_)
    have hl2 := own_nlen hO2
    simp only [List.length_append, List.length_cons, List.length_drop] at hl2
    have hS4 : (fun w' => Wk wN w') wN.drew := (Md.refl _ _).drew
    refine hst (fun w' => Wk wN w') wide hS4 ?_
    refine hp 0 rfl (by kernel_rfl) (fun _ _ => mvt (.int .i64 (j : Nat)) rfl) hS4 ?_
    refine hp 1 rfl (by kernel_rfl) (fun _ _ => mvt (.int .i64 (a : Nat)) rfl) hS4 ?_
    refine hp 2 rfl (by kernel_rfl) (fun _ _ => gt rfl rfl) hS4 ?_
    refine hp 3 rfl (by kernel_rfl) (fun _ _ => mv) hS4 ?_
    refine hgs (t := 21) rfl (fun hg21 => ?_) (fun hg21 => ?_)
    · obtain ⟨u', yt, yd, rfl⟩ := last_of (u := u) (by omega)
      have hLL : pre ++ ((u' ++ [(yt, yd)]) ++ (xt, xd) :: (v ++ (seg.drop (m + 1) ++ post))) = (pre ++ u') ++ (yt, yd) :: (xt, xd) :: (v ++ (seg.drop (m + 1) ++ post)) := by simp
      have hpl : (pre ++ u').length = pre.length + u'.length := List.length_append
      have hjl : j = (pre ++ u').length + 1 := by rw [hj, hpl]; simp; omega
      rw [hLL] at hO2
      have hgx := get_mid1 (pre ++ u') (v ++ (seg.drop (m + 1) ++ post)) (yt, yd) (xt, xd)
      rw [← hjl] at hgx
      have hgy := get_mid (pre ++ u') ((xt, xd) :: (v ++ (seg.drop (m + 1) ++ post))) (yt, yd)
      rw [show (pre ++ u').length = j - 1 by omega] at hgy
      simp only [List.length_append, List.length_cons, List.length_nil] at hl2 hj
      refine hpg 4 rfl (by kernel_rfl) rfl rfl rfl (fun _ _ => mvt (.func (.func 25) #[] #[]) rfl) hS4 ?_
      refine hpg 5 rfl (by kernel_rfl) rfl rfl rfl (fun _ _ => mvt (.slice aD n cp) rfl) hS4 ?_
      refine hpg 6 rfl (by kernel_rfl) rfl rfl rfl (fun _ _ => mvt (.int .i64 (j : Nat)) rfl) hS4 ?_
      refine hpg 7 rfl (by kernel_rfl) rfl rfl rfl (fun _ _ => ia' es35 rfl rfl (by omega) (Cells.ok ((own_cellsS hO2).2) (nfl_ne (by rw [own_nlen hO2]; omega)))) hS4 ?_
      refine hpg 8 rfl (by kernel_rfl) rfl rfl rfl (fun w' hS => lda ag45 rfl rfl (fun c hc => show cel w'.heap (bk aD) (fo aD + j * 2 + c) = [str xt, .int .i64 (xd : Nat)][c]? from nfl_cells ((own_cellsS hO2).2.wk hS) hgx c hc)) hS4 ?_
      refine hpg 9 rfl (by kernel_rfl) rfl rfl rfl (fun _ _ => mvt (.slice aD n cp) rfl) hS4 ?_
      refine hpg 10 rfl (by kernel_rfl) rfl rfl rfl (fun _ _ => mvt (.int .i64 (j : Nat)) rfl) hS4 ?_
      refine hpg 11 rfl (by kernel_rfl) rfl rfl rfl (fun _ _ => sbv ((j - 1 : Nat) : Int) rfl rfl (w64n (by omega) (by omega))) hS4 ?_
      refine hpg 12 rfl (by kernel_rfl) rfl rfl rfl (fun _ _ => ia' es35 rfl rfl (by omega) (Cells.ok ((own_cellsS hO2).2) (nfl_ne (by rw [own_nlen hO2]; omega)))) hS4 ?_
      refine hpg 13 rfl (by kernel_rfl) rfl rfl rfl (fun w' hS => lda ag45 rfl rfl (fun c hc => show cel w'.heap (bk aD) (fo aD + (j - 1) * 2 + c) = [str yt, .int .i64 (yd : Nat)][c]? from nfl_cells ((own_cellsS hO2).2.wk hS) hgy c hc)) hS4 ?_
      refine heg 14 rfl (by kernel_rfl) rfl rfl rfl (clv c25 rfl (clos_w xt xd yt yd _) rfl fun v32 w32 hR32 => ?_)
      obtain ⟨rfl, hE32⟩ := hR32
      have hS4_14 : (fun w' => Wk wN w') w32 := Md.trans hS4 hE32
      refine ⟨hS4_14, ?_⟩
      refine hpg 15 rfl (by kernel_rfl) rfl rfl rfl (fun _ _ => lt rfl rfl) hS4_14 ?_
      refine hp 16 rfl (by kernel_rfl) (fun _ _ => pkt rfl) hS4_14 ?_
      refine hn (by kernel_rfl) ?_
      refine tn (hK7 _ _ ?_)
      refine cd rfl (fun hc34 => ?_) (fun hc34 => ?_)
      · refine skp ?_
        refine tn (hK6 _ _ ?_)
        refine sq (fun K8 hK8 => ?_)
        refine blk ?_
        have hO6 := own_nw hO2 hS4_14
        have hlt := cmp3_lt.1 hc34
        have hS6 : (fun w' => Wk w32 w') w32.drew := (Md.refl _ _).drew
        refine lst (fun w' => Wk w32 w') 15 wide hS6 ?_
        refine lqp 0 rfl (by kernel_rfl) (fun _ => mvt (.slice aD n cp) rfl) (fun _ => hS6) ?_
        refine lqp 1 rfl (by kernel_rfl) (fun _ => mvt (.int .i64 (j : Nat)) rfl) (fun _ => hS6) ?_
        refine lqp 2 rfl (by kernel_rfl) (fun _ => mvt (.slice aD n cp) rfl) (fun _ => hS6) ?_
        refine lqp 3 rfl (by kernel_rfl) (fun _ => mvt (.int .i64 (j : Nat)) rfl) (fun _ => hS6) ?_
        refine lqp 4 rfl (by kernel_rfl) (fun _ => sbv ((j - 1 : Nat) : Int) rfl rfl (w64n (by omega) (by omega))) (fun _ => hS6) ?_
        refine lqp 5 rfl (by kernel_rfl) (fun _ => mvt (.slice aD n cp) rfl) (fun _ => hS6) ?_
        refine lqp 6 rfl (by kernel_rfl) (fun _ => mvt (.int .i64 (j : Nat)) rfl) (fun _ => hS6) ?_
        refine lqp 7 rfl (by kernel_rfl) (fun _ => sbv ((j - 1 : Nat) : Int) rfl rfl (w64n (by omega) (by omega))) (fun _ => hS6) ?_
        refine lqp 8 rfl (by kernel_rfl) (fun _ => ia' es35 rfl rfl (by omega) (Cells.ok ((own_cellsS hO6).2) (nfl_ne (by rw [own_nlen hO6]; omega)))) (fun _ => hS6) ?_
        refine lqd 9 rfl (by kernel_rfl) (fun w' hS => lda ag45 rfl rfl (fun c hc => show cel w'.heap (bk aD) (fo aD + (j - 1) * 2 + c) = [str yt, .int .i64 (yd : Nat)][c]? from nfl_cells ((own_cellsS hO6).2.wk hS) hgy c hc)) hS6 ?_
        refine lqp 10 rfl (by kernel_rfl) (fun _ => mvt (.slice aD n cp) rfl) (fun _ => hS6) ?_
        refine lqp 11 rfl (by kernel_rfl) (fun _ => mvt (.int .i64 (j : Nat)) rfl) (fun _ => hS6) ?_
        refine lqp 12 rfl (by kernel_rfl) (fun _ => ia' es35 rfl rfl (by omega) (Cells.ok ((own_cellsS hO6).2) (nfl_ne (by rw [own_nlen hO6]; omega)))) (fun _ => hS6) ?_
        refine lqd 13 rfl (by kernel_rfl) (fun w' hS => lda ag45 rfl rfl (fun c hc => show cel w'.heap (bk aD) (fo aD + j * 2 + c) = [str xt, .int .i64 (xd : Nat)][c]? from nfl_cells ((own_cellsS hO6).2.wk hS) hgx c hc)) hS6 ?_
        refine lqp 14 rfl (by kernel_rfl) (fun _ => ia' es35 rfl rfl (by omega) (Cells.ok ((own_cellsS hO6).2) (nfl_ne (by rw [own_nlen hO6]; omega)))) (fun _ => hS6) ?_
        refine lel 15 rfl (by kernel_rfl) (by kernel_rfl) (stN (j := j) (tx := yt) (d := yd) (own_nw hO6 hS6) cz45 rfl rfl rfl (by omega) fun w61 hM61 ho61 => ?_)
        refine lqp 16 rfl (by kernel_rfl) (fun _ => ia' es35 rfl rfl (by omega) (Cells.ok ((own_cellsS hO6).2) (nfl_ne (by rw [own_nlen hO6]; omega)))) (fun h => Bool.noConfusion ((show true = _ from by kernel_rfl).trans h)) ?_
        refine lel 17 rfl (by kernel_rfl) (by kernel_rfl) (stN (j := j - 1) (tx := xt) (d := xd) ho61 cz45 rfl rfl rfl (by omega) fun w62 hM62 ho62 => ?_)
        rw [show j - 1 = (pre ++ u').length by omega, hjl, set_two] at ho62
        have hM6 : Md (fun q => (Value.slice aD n cp).ownBlock = some q) w w62 := Md.trans (Md.trans hM2 (((Md.trans hS4_14 hS6)).mono (fun _ _ h => h.elim))) (Md.trans hM61 hM62)
        refine lnd (by kernel_rfl) ?_
        refine bn ?_
        refine tn (hK8 _ _ ?_)
        refine rg ?_
        refine p (mvt (.int .i64 (j : Nat)) rfl) ?_
        refine p (sbv ((j - 1 : Nat) : Int) rfl rfl (w64n (by omega) (by omega))) ?_
        refine p asg ?_
        refine nl ?_
        refine tn ?_
        exact ⟨_, by simp only [List.length_append, List.length_cons, List.length_nil]; omega, j - 1, u', (yt, yd) :: v, ((by omega)), ((by rw [← huv]; simp)), ((fun z hz => by rcases List.mem_cons.1 hz with rfl | hz <;> first | exact hv z hz | (show xd < yd; omega))), ((by simpa using ho62)), hM6, rfl, rfl, rfl, rfl, rfl, rfl, rfl⟩
      · refine ext ?_
        refine te _ ?_
        refine te _ ?_
        refine be ?_
        refine bn ?_
        refine tn (hK4 _ _ ?_)
        refine rg ?_
        refine p (mvt (.int .i64 (a + m : Nat)) rfl) ?_
        refine p (adv ((a + m + 1 : Nat) : Int) rfl rfl (w64n (by omega) (by omega))) ?_
        refine p asg ?_
        refine nl ?_
        refine tn ?_
        exact ⟨_, by omega, m + 1, ((by omega)), ((by rw [take_succ_some hx, isort_snoc, ← huv, ins_split (srt_le (List.pairwise_append.1 (huv ▸ isort_srt _)).1 (by have : ¬ ((xd : Int) < (yd : Nat)) := fun h => hc34 (cmp3_lt.2 h); simp only; omega)) hv]; simpa using own_nw hO2 hS4_14)), (Md.trans hM2 (hS4_14.mono (fun _ _ h => h.elim))), rfl, rfl, rfl, rfl, rfl, rfl⟩
    · refine hsk 4 rfl (by kernel_rfl) rfl rfl rfl rfl hS4 ?_
      refine hsk 5 rfl (by kernel_rfl) rfl rfl rfl rfl hS4 ?_
      refine hsk 6 rfl (by kernel_rfl) rfl rfl rfl rfl hS4 ?_
      refine hsk 7 rfl (by kernel_rfl) rfl rfl rfl rfl hS4 ?_
      refine hsk 8 rfl (by kernel_rfl) rfl rfl rfl rfl hS4 ?_
      refine hsk 9 rfl (by kernel_rfl) rfl rfl rfl rfl hS4 ?_
      refine hsk 10 rfl (by kernel_rfl) rfl rfl rfl rfl hS4 ?_
      refine hsk 11 rfl (by kernel_rfl) rfl rfl rfl rfl hS4 ?_
      refine hsk 12 rfl (by kernel_rfl) rfl rfl rfl rfl hS4 ?_
      refine hsk 13 rfl (by kernel_rfl) rfl rfl rfl rfl hS4 ?_
      refine hsk 14 rfl (by kernel_rfl) rfl rfl rfl rfl hS4 ?_
      refine hsk 15 rfl (by kernel_rfl) rfl rfl rfl rfl hS4 ?_
      refine hp 16 rfl (by kernel_rfl) (fun _ _ => pkf rfl) hS4 ?_
      refine hn (by kernel_rfl) ?_
      refine tn (hK7 _ _ ?_)
      refine cf rfl ?_
      refine ext ?_
      refine te _ ?_
      refine te _ ?_
      refine be ?_
      refine bn ?_
      refine tn (hK4 _ _ ?_)
      refine rg ?_
      refine p (mvt (.int .i64 (a + m : Nat)) rfl) ?_
      refine p (adv ((a + m + 1 : Nat) : Int) rfl rfl (w64n (by omega) (by omega))) ?_
      refine p asg ?_
      refine nl ?_
      refine tn ?_
      exact ⟨_, by omega, m + 1, ((by omega)), ((by rw [take_succ_some hx, isort_snoc, ← huv, ins_split (fun y hy => by rw [List.eq_nil_of_length_eq_zero (show u.length = 0 by omega)] at hy; simp at hy) hv]; simpa using own_nw hO2 (Md.refl _ _).drew)), hM2.drew, rfl, rfl, rfl, rfl, rfl, rfl⟩
  · refine ext ?_
    refine te _ ?_
    refine te _ ?_
    refine be ?_
    refine f0 rfl ?_
    rw [List.take_of_length_le (by omega), List.drop_eq_nil_of_le (by omega)] at hO1
    exact ⟨rfl, hO1, hM1⟩
set_option maxHeartbeats 1000000 in
theorem swapRange_w (P X M Y Q : List Nr) (a b k B n cp : Nat) (aD : Option Addr) (w : World) (hO : World.ownsRow w B 45 2 (.slice aD n cp) n (nfl (P ++ (X ++ (M ++ (Y ++ Q)))))) (ha : a = P.length) (hb : b = a + X.length + M.length) (hX : X.length = k) (hY : Y.length = k) (hnb : n ≤ 1099511627776) :
    Ret Try.prog 62 (List.toArray [.slice aD n cp, .int .i64 (a : Nat), .int .i64 (b : Nat), .int .i64 (k : Nat), .func (.func 25) #[] #[]]) w (fun v w' => v = .tuple #[] ∧ World.ownsRow w' B 45 2 (.slice aD n cp) n (nfl (P ++ (Y ++ (M ++ (X ++ Q))))) ∧ Md (fun q => (Value.slice aD n cp).ownBlock = some q) w w') := by
  have hl0 := own_nlen hO
  simp only [List.length_append] at hl0
  refine enter Try.func62 rfl Try.ntmps62 rfl ?_
  refine sq (fun K1 hK1 => ?_)
  refine rg ?_
  refine p asg ?_
  refine nl ?_
  refine tn (hK1 _ _ ?_)
  refine blk ?_
  refine lp (fun gm σ1 wL => ∃ (i : Nat), (i ≤ k) ∧ (World.ownsRow wL B 45 2 (.slice aD n cp) n (nfl (P ++ ((Y.take i ++ X.drop i) ++ (M ++ ((X.take i ++ Y.drop i) ++ Q)))))) ∧ (Md (fun q => (Value.slice aD n cp).ownBlock = some q) w wL) ∧ (σ1 0 = .slice aD n cp) ∧ (σ1 1 = .int .i64 (a : Nat)) ∧ (σ1 2 = .int .i64 (b : Nat)) ∧ (σ1 3 = .int .i64 (k : Nat)) ∧ (σ1 4 = .func (.func 25) #[] #[]) ∧ (σ1 10 = .int .i64 (i : Nat)) ∧ (k - i = gm)) _ ⟨0, ((by omega)), ((by simpa using hO)), (Md.refl _ _), rfl, rfl, rfl, rfl, rfl, rfl, rfl⟩ ?_
  rintro gm σ1 wL ⟨i, hi, hO1, hM1, hs1_0, hs1_1, hs1_2, hs1_3, hs1_4, hs1_10, rfl⟩
  refine fx 0 hs1_0 (fx 1 hs1_1 (fx 2 hs1_2 (fx 3 hs1_3 (fx 4 hs1_4 (fx 10 hs1_10 ?_)))))
  refine sq (fun K2 hK2 => ?_)
  refine sq (fun K3 hK3 => ?_)
  refine rg ?_
  refine p (mvt (.int .i64 (i : Nat)) rfl) ?_
  refine p (mvt (.int .i64 (k : Nat)) rfl) ?_
  refine p (lt rfl rfl) ?_
  refine nl ?_
  refine tn (hK3 _ _ ?_)
  refine cd rfl (fun hc13 => ?_) (fun hc13 => ?_)
  · refine skp ?_
    refine tn (hK2 _ _ ?_)
    refine sq (fun K4 hK4 => ?_)
    refine blk ?_
    obtain ⟨⟨xt, xd⟩, hx⟩ : ∃ x, X[i]? = some x := ⟨_, List.getElem?_eq_getElem (by omega)⟩
    obtain ⟨⟨yt, yd⟩, hy⟩ : ∃ x, Y[i]? = some x := ⟨_, List.getElem?_eq_getElem (by omega)⟩
    rw [drop_some' hx, drop_some' hy] at hO1
    have hLL : P ++ ((Y.take i ++ (xt, xd) :: X.drop (i + 1)) ++ (M ++ ((X.take i ++ (yt, yd) :: Y.drop (i + 1)) ++ Q))) = (P ++ Y.take i) ++ (xt, xd) :: ((X.drop (i + 1) ++ (M ++ X.take i)) ++ (yt, yd) :: (Y.drop (i + 1) ++ Q)) := by simp
    rw [hLL] at hO1
    have hi1 : a + i = (P ++ Y.take i).length := by rw [List.length_append, List.length_take]; omega
    have hi2 : b + i = (P ++ Y.take i).length + 1 + (X.drop (i + 1) ++ (M ++ X.take i)).length := by rw [← hi1, List.length_append, List.length_append, List.length_drop, List.length_take]; omega
    have hgx := get_mid (P ++ Y.take i) ((X.drop (i + 1) ++ (M ++ X.take i)) ++ (yt, yd) :: (Y.drop (i + 1) ++ Q)) (xt, xd)
    rw [← hi1] at hgx
    have hgy := get_far (P ++ Y.take i) (X.drop (i + 1) ++ (M ++ X.take i)) (Y.drop (i + 1) ++ Q) (xt, xd) (yt, yd)
    rw [← hi2] at hgy
    have hS3 : (fun w' => Wk wL w') wL.drew := (Md.refl _ _).drew
    refine lst (fun w' => Wk wL w') 21 wide hS3 ?_
    refine lqp 0 rfl (by kernel_rfl) (fun _ => mvt (.slice aD n cp) rfl) (fun _ => hS3) ?_
    refine lqp 1 rfl (by kernel_rfl) (fun _ => mvt (.int .i64 (a : Nat)) rfl) (fun _ => hS3) ?_
    refine lqp 2 rfl (by kernel_rfl) (fun _ => mvt (.int .i64 (i : Nat)) rfl) (fun _ => hS3) ?_
    refine lqp 3 rfl (by kernel_rfl) (fun _ => adv ((a + i : Nat) : Int) rfl rfl (w64n (by omega) (by omega))) (fun _ => hS3) ?_
    refine lqp 4 rfl (by kernel_rfl) (fun _ => mvt (.slice aD n cp) rfl) (fun _ => hS3) ?_
    refine lqp 5 rfl (by kernel_rfl) (fun _ => mvt (.int .i64 (b : Nat)) rfl) (fun _ => hS3) ?_
    refine lqp 6 rfl (by kernel_rfl) (fun _ => mvt (.int .i64 (i : Nat)) rfl) (fun _ => hS3) ?_
    refine lqp 7 rfl (by kernel_rfl) (fun _ => adv ((b + i : Nat) : Int) rfl rfl (w64n (by omega) (by omega))) (fun _ => hS3) ?_
    refine lqp 8 rfl (by kernel_rfl) (fun _ => mvt (.slice aD n cp) rfl) (fun _ => hS3) ?_
    refine lqp 9 rfl (by kernel_rfl) (fun _ => mvt (.int .i64 (b : Nat)) rfl) (fun _ => hS3) ?_
    refine lqp 10 rfl (by kernel_rfl) (fun _ => mvt (.int .i64 (i : Nat)) rfl) (fun _ => hS3) ?_
    refine lqp 11 rfl (by kernel_rfl) (fun _ => adv ((b + i : Nat) : Int) rfl rfl (w64n (by omega) (by omega))) (fun _ => hS3) ?_
    refine lqp 12 rfl (by kernel_rfl) (fun _ => ia' es35 rfl rfl (by omega) (Cells.ok ((own_cellsS hO1).2) (nfl_ne (by rw [own_nlen hO1]; omega)))) (fun _ => hS3) ?_
    refine lqd 13 rfl (by kernel_rfl) (fun w' hS => lda ag45 rfl rfl (fun c hc => show cel w'.heap (bk aD) (fo aD + (b + i) * 2 + c) = [str yt, .int .i64 (yd : Nat)][c]? from nfl_cells ((own_cellsS hO1).2.wk hS) hgy c hc)) hS3 ?_
    refine lqp 14 rfl (by kernel_rfl) (fun _ => mvt (.slice aD n cp) rfl) (fun _ => hS3) ?_
    refine lqp 15 rfl (by kernel_rfl) (fun _ => mvt (.int .i64 (a : Nat)) rfl) (fun _ => hS3) ?_
    refine lqp 16 rfl (by kernel_rfl) (fun _ => mvt (.int .i64 (i : Nat)) rfl) (fun _ => hS3) ?_
    refine lqp 17 rfl (by kernel_rfl) (fun _ => adv ((a + i : Nat) : Int) rfl rfl (w64n (by omega) (by omega))) (fun _ => hS3) ?_
    refine lqp 18 rfl (by kernel_rfl) (fun _ => ia' es35 rfl rfl (by omega) (Cells.ok ((own_cellsS hO1).2) (nfl_ne (by rw [own_nlen hO1]; omega)))) (fun _ => hS3) ?_
    refine lqd 19 rfl (by kernel_rfl) (fun w' hS => lda ag45 rfl rfl (fun c hc => show cel w'.heap (bk aD) (fo aD + (a + i) * 2 + c) = [str xt, .int .i64 (xd : Nat)][c]? from nfl_cells ((own_cellsS hO1).2.wk hS) hgx c hc)) hS3 ?_
    refine lqp 20 rfl (by kernel_rfl) (fun _ => ia' es35 rfl rfl (by omega) (Cells.ok ((own_cellsS hO1).2) (nfl_ne (by rw [own_nlen hO1]; omega)))) (fun _ => hS3) ?_
    refine lel 21 rfl (by kernel_rfl) (by kernel_rfl) (stN (j := a + i) (tx := yt) (d := yd) (own_nw hO1 hS3) cz45 rfl rfl rfl (by omega) fun w61 hM61 ho61 => ?_)
    refine lqp 22 rfl (by kernel_rfl) (fun _ => ia' es35 rfl rfl (by omega) (Cells.ok ((own_cellsS hO1).2) (nfl_ne (by rw [own_nlen hO1]; omega)))) (fun h => Bool.noConfusion ((show true = _ from by kernel_rfl).trans h)) ?_
    refine lel 23 rfl (by kernel_rfl) (by kernel_rfl) (stN (j := b + i) (tx := xt) (d := xd) ho61 cz45 rfl rfl rfl (by omega) fun w62 hM62 ho62 => ?_)
    rw [hi1, hi2, set_far] at ho62
    have hM6 : Md (fun q => (Value.slice aD n cp).ownBlock = some q) w w62 := Md.trans (Md.trans hM1 (hS3.mono (fun _ _ h => h.elim))) (Md.trans hM61 hM62)
    refine lnd (by kernel_rfl) ?_
    refine bn ?_
    refine tn (hK4 _ _ ?_)
    refine rg ?_
    refine p (mvt (.int .i64 (i : Nat)) rfl) ?_
    refine p (adv ((i + 1 : Nat) : Int) rfl rfl (w64n (by omega) (by omega))) ?_
    refine p asg ?_
    refine nl ?_
    refine tn ?_
    exact ⟨_, by omega, i + 1, ((by omega)), ((by rw [take_some hx, take_some hy]; simpa using ho62)), hM6, rfl, rfl, rfl, rfl, rfl, rfl, rfl⟩
  · refine ext ?_
    refine te _ ?_
    refine te _ ?_
    refine be ?_
    refine f0 rfl ?_
    rw [show i = k by omega, List.take_of_length_le (by omega), List.take_of_length_le (by omega), List.drop_eq_nil_of_le (by omega), List.drop_eq_nil_of_le (by omega), List.append_nil, List.append_nil] at hO1
    exact ⟨rfl, hO1, hM1⟩
set_option maxHeartbeats 1000000 in
theorem rotate_w (P U V Q : List Nr) (a m b B n cp : Nat) (aD : Option Addr) (w : World) (hO : World.ownsRow w B 45 2 (.slice aD n cp) n (nfl (P ++ (U ++ (V ++ Q))))) (ha : a = P.length) (hm : m = a + U.length) (hb : b = m + V.length) (hU : 0 < U.length) (hV : 0 < V.length) (hnb : n ≤ 1099511627776) :
    Ret Try.prog 60 (List.toArray [.slice aD n cp, .int .i64 (a : Nat), .int .i64 (m : Nat), .int .i64 (b : Nat), .func (.func 25) #[] #[]]) w (fun v w' => v = .tuple #[] ∧ World.ownsRow w' B 45 2 (.slice aD n cp) n (nfl (P ++ (V ++ (U ++ Q)))) ∧ Md (fun q => (Value.slice aD n cp).ownBlock = some q) w w') := by
  have hl0 := own_nlen hO
  simp only [List.length_append] at hl0
  refine enter Try.func60 rfl Try.ntmps60 rfl ?_
  refine sq (fun K1 hK1 => ?_)
  refine rg ?_
  refine p (mvt (.int .i64 (m : Nat)) rfl) ?_
  refine p (mvt (.int .i64 (a : Nat)) rfl) ?_
  refine p (sbv ((U.length : Nat) : Int) rfl rfl (w64n (by omega) (by omega))) ?_
  refine p asg ?_
  refine nl ?_
  refine tn (hK1 _ _ ?_)
  refine sq (fun K2 hK2 => ?_)
  refine rg ?_
  refine p (mvt (.int .i64 (b : Nat)) rfl) ?_
  refine p (mvt (.int .i64 (m : Nat)) rfl) ?_
  refine p (sbv ((V.length : Nat) : Int) rfl rfl (w64n (by omega) (by omega))) ?_
  refine p asg ?_
  refine nl ?_
  refine tn (hK2 _ _ ?_)
  refine sq (fun K3 hK3 => ?_)
  refine blk ?_
  refine lp (fun gm σ1 wL => ∃ (i j : Nat) (P1 U1 V1 Q1 : List Nr), (i = U1.length) ∧ (j = V1.length) ∧ (P1.length + U1.length = m) ∧ (0 < U1.length) ∧ (0 < V1.length) ∧ (P1.length + U1.length + V1.length + Q1.length = n) ∧ (P1 ++ (V1 ++ (U1 ++ Q1)) = P ++ (V ++ (U ++ Q))) ∧ (World.ownsRow wL B 45 2 (.slice aD n cp) n (nfl (P1 ++ (U1 ++ (V1 ++ Q1))))) ∧ (Md (fun q => (Value.slice aD n cp).ownBlock = some q) w wL) ∧ (σ1 0 = .slice aD n cp) ∧ (σ1 1 = .int .i64 (a : Nat)) ∧ (σ1 2 = .int .i64 (m : Nat)) ∧ (σ1 3 = .int .i64 (b : Nat)) ∧ (σ1 4 = .func (.func 25) #[] #[]) ∧ (σ1 10 = .int .i64 (i : Nat)) ∧ (σ1 11 = .int .i64 (j : Nat)) ∧ (U1.length + V1.length = gm)) _ ⟨U.length, V.length, P, U, V, Q, rfl, rfl, ((by omega)), hU, hV, ((by omega)), rfl, hO, (Md.refl _ _), rfl, rfl, rfl, rfl, rfl, rfl, rfl, rfl⟩ ?_
  rintro gm σ1 wL ⟨i, j, P1, U1, V1, Q1, hi, hj, hP, hU1, hV1, hl1, htg, hO1, hM1, hs1_0, hs1_1, hs1_2, hs1_3, hs1_4, hs1_10, hs1_11, rfl⟩
  refine fx 0 hs1_0 (fx 1 hs1_1 (fx 2 hs1_2 (fx 3 hs1_3 (fx 4 hs1_4 (fx 10 hs1_10 (fx 11 hs1_11 ?_))))))
  subst hi hj
  refine sq (fun K4 hK4 => ?_)
  refine sq (fun K5 hK5 => ?_)
  refine rg ?_
  refine p (mvt (.int .i64 (U1.length : Nat)) rfl) ?_
  refine p (mvt (.int .i64 (V1.length : Nat)) rfl) ?_
  refine p (nei rfl rfl) ?_
  refine nl ?_
  refine tn (hK5 _ _ ?_)
  refine cd rfl (fun hc20 => ?_) (fun hc20 => ?_)
  · refine skp ?_
    refine tn (hK4 _ _ ?_)
    refine blk ?_
    refine sq (fun K6 hK6 => ?_)
    refine rg ?_
    refine p (mvt (.int .i64 (U1.length : Nat)) rfl) ?_
    refine p (mvt (.int .i64 (V1.length : Nat)) rfl) ?_
    refine p (gt rfl rfl) ?_
    refine nl ?_
    refine tn (hK6 _ _ ?_)
    refine cd rfl (fun hc23 => ?_) (fun hc23 => ?_)
    · refine sq (fun K7 hK7 => ?_)
      refine rg ?_
      refine p (mvt (.slice aD n cp) rfl) ?_
      refine p (mvt (.int .i64 (m : Nat)) rfl) ?_
      refine p (mvt (.int .i64 (U1.length : Nat)) rfl) ?_
      refine p (sbv ((m - U1.length : Nat) : Int) rfl rfl (w64n (by omega) (by omega))) ?_
      refine p (mvt (.int .i64 (m : Nat)) rfl) ?_
      refine p (mvt (.int .i64 (V1.length : Nat)) rfl) ?_
      refine p (mvt (.func (.func 25) #[] #[]) rfl) ?_
      refine e (cl c62 (swapRange_w P1 (U1.take V1.length) (U1.drop V1.length) V1 Q1 (m - U1.length) m V1.length B n cp aD _ (by rw [← List.append_assoc (U1.take _), List.take_append_drop]; exact hO1) (by omega) (by rw [List.length_take, List.length_drop]; omega) (by rw [List.length_take]; omega) rfl hnb) rfl fun v31 w31 hR31 => ?_)
      obtain ⟨_, hO31, hM31⟩ := hR31
      refine nl ?_
      refine tn (hK7 _ _ ?_)
      refine rg ?_
      refine p (mvt (.int .i64 (U1.length : Nat)) rfl) ?_
      refine p (mvt (.int .i64 (V1.length : Nat)) rfl) ?_
      refine p (sbv ((U1.length - V1.length : Nat) : Int) rfl rfl (w64n (by omega) (by omega))) ?_
      refine p asg ?_
      refine nl ?_
      refine bn ?_
      refine tn ?_
      exact ⟨_, by simp only [List.length_drop, List.length_take]; omega, U1.length - V1.length, V1.length, P1 ++ V1, U1.drop V1.length, U1.take V1.length, Q1, ((by rw [List.length_drop])), ((by rw [List.length_take]; omega)), ((by rw [List.length_append, List.length_drop]; omega)), ((by rw [List.length_drop]; omega)), ((by rw [List.length_take]; omega)), ((by rw [List.length_append, List.length_drop, List.length_take]; omega)), ((by rw [← htg, List.append_assoc, ← List.append_assoc (U1.take _), List.take_append_drop])), ((by rw [List.append_assoc]; exact hO31)), (Md.trans hM1 hM31), rfl, rfl, rfl, rfl, rfl, rfl, rfl, rfl⟩
    · refine sq (fun K7 hK7 => ?_)
      refine rg ?_
      refine p (mvt (.slice aD n cp) rfl) ?_
      refine p (mvt (.int .i64 (m : Nat)) rfl) ?_
      refine p (mvt (.int .i64 (U1.length : Nat)) rfl) ?_
      refine p (sbv ((m - U1.length : Nat) : Int) rfl rfl (w64n (by omega) (by omega))) ?_
      refine p (mvt (.int .i64 (m : Nat)) rfl) ?_
      refine p (mvt (.int .i64 (V1.length : Nat)) rfl) ?_
      refine p (adv ((m + V1.length : Nat) : Int) rfl rfl (w64n (by omega) (by omega))) ?_
      refine p (mvt (.int .i64 (U1.length : Nat)) rfl) ?_
      refine p (sbv ((m + V1.length - U1.length : Nat) : Int) rfl rfl (w64n (by omega) (by omega))) ?_
      refine p (mvt (.int .i64 (U1.length : Nat)) rfl) ?_
      refine p (mvt (.func (.func 25) #[] #[]) rfl) ?_
      refine e (cl c62 (swapRange_w P1 U1 (V1.take (V1.length - U1.length)) (V1.drop (V1.length - U1.length)) Q1 (m - U1.length) (m + V1.length - U1.length) U1.length B n cp aD _ (by rw [← List.append_assoc (V1.take _), List.take_append_drop]; exact hO1) (by omega) (by rw [List.length_take]; omega) rfl (by rw [List.length_drop]; omega) hnb) rfl fun v46 w46 hR46 => ?_)
      obtain ⟨_, hO46, hM46⟩ := hR46
      refine nl ?_
      refine tn (hK7 _ _ ?_)
      refine rg ?_
      refine p (mvt (.int .i64 (V1.length : Nat)) rfl) ?_
      refine p (mvt (.int .i64 (U1.length : Nat)) rfl) ?_
      refine p (sbv ((V1.length - U1.length : Nat) : Int) rfl rfl (w64n (by omega) (by omega))) ?_
      refine p asg ?_
      refine nl ?_
      refine bn ?_
      refine tn ?_
      exact ⟨_, by simp only [List.length_drop, List.length_take]; omega, U1.length, V1.length - U1.length, P1, V1.drop (V1.length - U1.length), V1.take (V1.length - U1.length), U1 ++ Q1, ((by rw [List.length_drop]; omega)), ((by rw [List.length_take]; omega)), ((by rw [List.length_drop]; omega)), ((by rw [List.length_drop]; omega)), ((by rw [List.length_take]; omega)), ((by rw [List.length_append, List.length_drop, List.length_take]; omega)), ((by rw [← htg, ← List.append_assoc (V1.take _), List.take_append_drop])), hO46, (Md.trans hM1 hM46), rfl, rfl, rfl, rfl, rfl, rfl, rfl, rfl⟩
  · refine ext ?_
    refine te _ ?_
    refine te _ ?_
    refine be ?_
    refine tn (hK3 _ _ ?_)
    refine rg ?_
    refine p (mvt (.slice aD n cp) rfl) ?_
    refine p (mvt (.int .i64 (m : Nat)) rfl) ?_
    refine p (mvt (.int .i64 (U1.length : Nat)) rfl) ?_
    refine p (sbv ((m - U1.length : Nat) : Int) rfl rfl (w64n (by omega) (by omega))) ?_
    refine p (mvt (.int .i64 (m : Nat)) rfl) ?_
    refine p (mvt (.int .i64 (U1.length : Nat)) rfl) ?_
    refine p (mvt (.func (.func 25) #[] #[]) rfl) ?_
    refine e (cl c62 (swapRange_w P1 U1 [] V1 Q1 (m - U1.length) m U1.length B n cp aD _ hO1 (by omega) (by simp only [List.length_nil]; omega) rfl (by omega) hnb) rfl fun v57 w57 hR57 => ?_)
    obtain ⟨_, hO57, hM57⟩ := hR57
    refine nl ?_
    refine f0 rfl ?_
    rw [List.nil_append, htg] at hO57
    exact ⟨rfl, hO57, Md.trans hM1 hM57⟩
end Go.Hb.SortN
