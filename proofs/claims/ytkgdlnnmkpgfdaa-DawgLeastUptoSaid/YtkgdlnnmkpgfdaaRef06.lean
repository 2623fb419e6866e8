/-
  Walks of hornbookref06.Uint and Frame, and of hornbookref18.Rest and its like. No conditions but those that each theorem names.
-/
import Derived.Test.YtkgdlnnmkpgfdaaChecked
import Derived.Test.YtkgdlnnmkpgfdaaEff
import Derived.Test.YtkgdlnnmkpgfdaaStr
import Derived.Test.YtkgdlnnmkpgfdaaPure
set_option maxRecDepth 20000
set_option linter.unusedVariables false
namespace Go.Hb.Ref06
open Go.Proofs
theorem ag9 : aggN Try.prog 9 = some none := by kernel_rfl
theorem ag22 : aggN Try.prog 22 = some none := by kernel_rfl
theorem by99_9 : byteOk Try.prog 99 5 9 = true := by kernel_rfl
theorem c49 : Callable Try.prog 49 := callable Try.func49 (by kernel_rfl) (by kernel_rfl)
theorem c52 : Callable Try.prog 52 := callable Try.func52 (by kernel_rfl) (by kernel_rfl)
theorem es22 : elemSize Try.prog 22 = some 1 := by kernel_rfl
theorem fo69_0 : fieldOff Try.prog 69 0 = some 0 := by kernel_rfl
theorem so22 : sliceOk Try.prog 22 9 1 16 = true := by kernel_rfl
theorem so99 : sliceOk Try.prog 99 5 1 1 = true := by kernel_rfl
theorem u5 : Try.prog.underlying 5 = some (.int .u8) := by kernel_rfl
theorem u9 : Try.prog.underlying 9 = some (.string) := by kernel_rfl
theorem u22 : Try.prog.underlying 22 = some (.slice 9) := by kernel_rfl
theorem u108 : Try.prog.underlying 108 = some (.int .u64) := by kernel_rfl
theorem us3 : (Try.prog.underlying 3).isSome = true := by kernel_rfl
theorem us108 : (Try.prog.underlying 108).isSome = true := by kernel_rfl
theorem wide : Try.prog.follows .mixedOrders = true := by kernel_rfl
theorem refUint_w (n : Nat) (w : World) (hn : n < 18446744073709551616) :
    Ret Try.prog 52 (List.toArray [.int .u64 n]) w (fun v w' => v = str (uintB n) ∧ Wk w w') := by
  induction n using Nat.strongRecOn generalizing w with
  | _ n ih =>
    refine enter Try.func52 rfl Try.ntmps52 rfl ?_
    refine sq (fun K1 hK1 => ?_)
    refine rg ?_
    refine p asg ?_
    refine nl ?_
    refine tn (hK1 _ _ ?_)
    refine sq (fun K2 hK2 => ?_)
    refine rg ?_
    refine p (mvt (.int .u64 n) rfl) ?_
    refine p (rm rfl rfl (by omega)) ?_
    refine p (cvs u5 us108 rfl (wu8 (by omega))) ?_
    refine p asg ?_
    refine nl ?_
    refine tn (hK2 _ _ ?_)
    refine sq (fun K3 hK3 => ?_)
    refine sq (fun K4 hK4 => ?_)
    refine rg ?_
    refine p (mvt (.int .u64 n) rfl) ?_
    refine p (lt rfl rfl) ?_
    refine nl ?_
    refine tn (hK4 _ _ ?_)
    refine cd rfl (fun h1 => ?_) (fun h1 => ?_)
    · refine sq (fun K5 hK5 => ?_)
      refine rg ?_
      refine p mv ?_
      refine e (bs1 so99 rfl rfl fun b11 w11 hb11 hN11 hB11 => ?_)
      have hC12 : Cells w11.heap (some ⟨b11, 0, none⟩) (U8 [UInt8.ofNat n]) := by
        have e : ((UInt8.ofNat n).toNat : Int) = (n : Int) % 128 := by rw [u8_nat n (by omega)]; omega
        have h := Cells.of_blk hB11
        simp only [U8, List.map_cons, List.map_nil, e]; exact h
      refine p (cvbs by99_9 rfl (hC12) (rfl)) ?_
      refine p asg ?_
      refine nl ?_
      refine tn (hK5 _ _ ?_)
      refine rt ?_
      refine tr ?_
      refine f1 rfl rfl ?_
      exact ⟨(congrArg str (uintB_lt (by omega))).symm, hN11.md⟩
    · refine skp ?_
      refine tn (hK3 _ _ ?_)
      refine sq (fun K5 hK5 => ?_)
      refine rg ?_
      refine p (mvt (.int .u64 n) rfl) ?_
      refine p (qu rfl rfl (by omega) (wu64 (by omega))) ?_
      refine e (cl c52 (ih (n / 128) (by omega) _ (by omega)) rfl fun v15 w15 hR15 => ?_)
      obtain ⟨rfl, hE15⟩ := hR15
      refine p asg ?_
      refine nl ?_
      refine tn (hK5 _ _ ?_)
      refine sq (fun K6 hK6 => ?_)
      refine rg ?_
      refine p mv ?_
      refine p (ad rfl rfl (wu8 (by omega))) ?_
      refine e (bs1 so99 rfl rfl fun b18 w18 hb18 hN18 hB18 => ?_)
      have hC18 : Cells w18.heap (some ⟨b18, 0, none⟩) (U8 [UInt8.ofNat (n % 128 + 128)]) := by
        have e : ((UInt8.ofNat (n % 128 + 128)).toNat : Int) = (n : Int) % 128 + 128 := by rw [u8_nat _ (by omega)]; omega
        have h := Cells.of_blk hB18
        simp only [U8, List.map_cons, List.map_nil, e]; exact h
      refine p (cvbs by99_9 rfl (hC18) (rfl)) ?_
      refine p mv ?_
      refine p (cc rfl rfl (by have := uintB_len10 (n := n / 128) (by omega); simp only [List.length_singleton]; omega)) ?_
      refine p asg ?_
      refine nl ?_
      refine tn (hK6 _ _ ?_)
      refine rt ?_
      refine f1 rfl rfl ?_
      exact ⟨(congrArg str (uintB_ge (by omega))).symm, Md.trans hE15 hN18.md⟩
theorem refFrame_w (recs : List (List UInt8)) (a : Option Addr) (cap : Nat) (w : World) (hS : Strs w.heap a recs) (h255 : ∀ r, r ∈ recs → r.length ≤ 255) (hb : (frame recs).length ≤ 70368744177664) (hn : recs.length ≤ 70368744177664) :
    Ret Try.prog 49 (List.toArray [.slice a recs.length cap]) w (fun v w' => v = .tuple #[str (frame recs), .int .i64 0] ∧ Wk w w') := by
  have hget : ∀ i, i < recs.length → (recs.getD i []).length ≤ 255 := fun i hi => h255 _ (by rw [List.getD_eq_getElem?_getD, List.getElem?_eq_getElem hi]; exact List.getElem_mem hi)
  refine enter Try.func49 rfl Try.ntmps49 rfl ?_
  refine sq (fun K1 hK1 => ?_)
  refine rg ?_
  refine p asg ?_
  refine p asg ?_
  refine nl ?_
  refine tn (hK1 _ _ ?_)
  refine sq (fun K2 hK2 => ?_)
  refine rg ?_
  refine e (bs0 so99 fun b10 w10 hb10 hN10 hB10 => ?_)
  have hown0 := hB10 w.heap.size (by omega)
  have hE0 : Wk w w10 := hN10.md
  have hs0 := hN10.size
  refine p asg ?_
  refine nl ?_
  refine tn (hK2 _ _ ?_)
  refine sq (fun K3 hK3 => ?_)
  refine sq (fun K4 hK4 => ?_)
  refine rg ?_
  refine p asg ?_
  refine nl ?_
  refine tn (hK4 _ _ ?_)
  refine blk ?_
  refine lp (fun gm σ1 w1 => ∃ (i : Nat), (i ≤ recs.length) ∧ (Wk w w1) ∧ (World.ownsRow w1 w.heap.size 5 1 (.slice (some ⟨b10, 0, none⟩) 0 0) 0 []) ∧ (σ1 0 = .slice a recs.length cap) ∧ (σ1 4 = .slice (some ⟨b10, 0, none⟩) 0 0) ∧ (σ1 5 = .int .i64 i) ∧ (recs.length - i = gm)) _ ⟨0, (by omega), hE0, hown0, rfl, rfl, rfl, rfl⟩ ?_
  rintro gm σ1 w1 ⟨i, hi, hE1, ho1, hs1_0, hs1_4, hs1_5, rfl⟩
  refine fx 0 hs1_0 (fx 4 hs1_4 (fx 5 hs1_5 ?_))
  refine sq (fun K5 hK5 => ?_)
  refine sq (fun K6 hK6 => ?_)
  refine rg ?_
  refine p (mvt (.int .i64 i) rfl) ?_
  refine p (mvt (.slice a recs.length cap) rfl) ?_
  refine p (lnl u22 rfl rfl) ?_
  refine p (lt rfl rfl) ?_
  refine nl ?_
  refine tn (hK6 _ _ ?_)
  refine cd rfl (fun hc14 => ?_) (fun hc14 => ?_)
  · refine skp ?_
    refine tn (hK5 _ _ ?_)
    refine sq (fun K7 hK7 => ?_)
    refine blk ?_
    refine sq (fun K8 hK8 => ?_)
    refine rg ?_
    refine p (mvt (.slice a recs.length cap) rfl) ?_
    refine p (mvt (.int .i64 i) rfl) ?_
    refine p (ia' es22 rfl rfl (by omega) (Cells.ok (hS.wk hE1) (ne_map (by omega)))) ?_
    refine p (ld ag9 rfl (Strs.get (i := i) (hS.wk hE1) (by omega))) ?_
    refine p (lns u9 rfl rfl) ?_
    refine p (gt rfl rfl) ?_
    refine nl ?_
    refine tn (hK8 _ _ ?_)
    refine cd rfl (fun h => absurd h (by have h9 := hget i (by omega); omega)) (fun hle => ?_)
    refine skp ?_
    refine bn ?_
    refine tn (hK7 _ _ ?_)
    refine rg ?_
    refine p (mvt (.int .i64 i) rfl) ?_
    refine p (ad rfl rfl (wi64 (by omega))) ?_
    refine p asg ?_
    refine nl ?_
    refine tn ?_
    exact ⟨_, by omega, i + 1, (by omega), hE1, ho1, rfl, rfl, rfl, rfl⟩
  · refine ext ?_
    refine te _ ?_
    refine te _ ?_
    refine be ?_
    refine tn (hK3 _ _ ?_)
    refine sq (fun K7 hK7 => ?_)
    refine sq (fun K8 hK8 => ?_)
    refine rg ?_
    refine p asg ?_
    refine nl ?_
    refine tn (hK8 _ _ ?_)
    refine blk ?_
    refine lp (fun gm σ2 w2 => ∃ (i : Nat) (v : Value), (i ≤ recs.length) ∧ (Wk w w2) ∧ (World.ownsRow w2 w.heap.size 5 1 v (frame (recs.take i)).length (U8 (frame (recs.take i)))) ∧ (σ2 0 = .slice a recs.length cap) ∧ (σ2 4 = v) ∧ (σ2 6 = .int .i64 i) ∧ (recs.length - i = gm)) _ ⟨0, .slice (some ⟨b10, 0, none⟩) 0 0, (by omega), hE1, ho1, rfl, rfl, rfl, rfl⟩ ?_
    rintro gm σ2 w2 ⟨i, v, hi, hE, ho, hs2_0, hs2_4, hs2_6, rfl⟩
    refine fx 0 hs2_0 (fx 4 hs2_4 (fx 6 hs2_6 ?_))
    have hsz := hE.size
    refine sq (fun K9 hK9 => ?_)
    refine sq (fun K10 hK10 => ?_)
    refine rg ?_
    refine p (mvt (.int .i64 i) rfl) ?_
    refine p (mvt (.slice a recs.length cap) rfl) ?_
    refine p (lnl u22 rfl rfl) ?_
    refine p (lt rfl rfl) ?_
    refine nl ?_
    refine tn (hK10 _ _ ?_)
    refine cd rfl (fun hc26 => ?_) (fun hc26 => ?_)
    · have hgi := hget i (by omega)
      refine skp ?_
      refine tn (hK9 _ _ ?_)
      refine sq (fun K11 hK11 => ?_)
      refine blk ?_
      refine sq (fun K12 hK12 => ?_)
      refine rg ?_
      refine p (mvt (.slice a recs.length cap) rfl) ?_
      refine p (mvt (.int .i64 i) rfl) ?_
      refine p (ia' es22 rfl rfl (by omega) (Cells.ok (hS.wk hE) (ne_map (by omega)))) ?_
      refine p (ld ag9 rfl (Strs.get (i := i) (hS.wk hE) (by omega))) ?_
      refine p (lns u9 rfl rfl) ?_
      refine p (cvs u108 us3 rfl (wu64 (by omega))) ?_
      refine e (cl c52 (refUint_w (recs.getD i []).length _ (by omega)) rfl fun v35 w35 hR35 => ?_)
      obtain ⟨rfl, hE35⟩ := hR35
      have hE5 := hE.trans hE35
      have ho35 := own_nw ho hE35
      have hs35 := hE35.size
      refine p asg ?_
      refine nl ?_
      refine tn (hK12 _ _ ?_)
      refine sq (fun K13 hK13 => ?_)
      refine sq (fun K14 hK14 => ?_)
      refine rg ?_
      refine p asg ?_
      refine nl ?_
      refine tn (hK14 _ _ ?_)
      refine blk ?_
      refine lp (fun gm σ3 w3 => ∃ (k : Nat) (v3 : Value), (k ≤ (uintB (recs.getD i []).length).length) ∧ (Wk w w3) ∧ (World.ownsRow w3 w.heap.size 5 1 v3 (frame (recs.take i) ++ (uintB (recs.getD i []).length).take k).length (U8 (frame (recs.take i) ++ (uintB (recs.getD i []).length).take k))) ∧ (σ3 0 = .slice a recs.length cap) ∧ (σ3 4 = v3) ∧ (σ3 6 = .int .i64 i) ∧ (σ3 7 = str (uintB (recs.getD i []).length)) ∧ (σ3 8 = .int .i64 k) ∧ ((uintB (recs.getD i []).length).length - k = gm)) _ ⟨0, v, (by omega), hE5, (by simpa using ho35), rfl, rfl, rfl, rfl, rfl, rfl⟩ ?_
      rintro gm σ3 w3 ⟨k, v3, hk, hE3, ho3, hs3_0, hs3_4, hs3_6, hs3_7, hs3_8, rfl⟩
      refine fx 0 hs3_0 (fx 4 hs3_4 (fx 6 hs3_6 (fx 7 hs3_7 (fx 8 hs3_8 ?_))))
      have hsz3 := hE3.size
      have hfl := frame_take_le (l := recs) (i := i) (by omega)
      have hln : (frame (recs.take i) ++ (uintB (recs.getD i []).length).take k).length ≤ 70368744177664 := by simp only [List.length_append, List.length_take]; omega
      have hub := uintB_len10 (n := (recs.getD i []).length) (by have := hget i (by omega); omega)
      refine sq (fun K15 hK15 => ?_)
      refine sq (fun K16 hK16 => ?_)
      refine rg ?_
      refine p (mvt (.int .i64 k) rfl) ?_
      refine p (mvt (str (uintB (recs.getD i []).length)) rfl) ?_
      refine p (lns u9 rfl rfl) ?_
      refine p (lt rfl rfl) ?_
      refine nl ?_
      refine tn (hK16 _ _ ?_)
      refine cd rfl (fun hc39 => ?_) (fun hc39 => ?_)
      · refine skp ?_
        refine tn (hK15 _ _ ?_)
        refine sq (fun K17 hK17 => ?_)
        refine blk ?_
        refine rg ?_
        refine p (mvt (v3) rfl) ?_
        refine p (mvt (str (uintB (recs.getD i []).length)) rfl) ?_
        refine p (mvt (.int .i64 k) rfl) ?_
        refine p (ixs u9 rfl rfl (by omega)) ?_
        refine e (bs1 so99 rfl rfl fun b46 w46 hb46 hN46 hB46 => ?_)
        refine e (ap so99 (own_nw ho3 hN46.md) rfl (by have := hN46.size; omega) rfl (Cells.of_blk hB46) (rfl) (rfl) (by omega) (by omega) fun v47 w47 ho47 hM47 hz47 hf47 => ?_)
        have ho47' : World.ownsRow w47 w.heap.size 5 1 v47 (frame (recs.take i) ++ (uintB (recs.getD i []).length).take (k + 1)).length (U8 (frame (recs.take i) ++ (uintB (recs.getD i []).length).take (k + 1))) := by
          rw [take_succ_getD _ k 0 (by omega), ← List.append_assoc, List.length_append, U8_app]; exact ho47
        have hE47 := Wk.own (hE3.trans hN46.md) (own_nw ho3 hN46.md) hM47 (Nat.le_refl _)
        refine p asg ?_
        refine nl ?_
        refine bn ?_
        refine tn (hK17 _ _ ?_)
        refine rg ?_
        refine p (mvt (.int .i64 k) rfl) ?_
        refine p (ad rfl rfl (wi64 (by omega))) ?_
        refine p asg ?_
        refine nl ?_
        refine tn ?_
        exact ⟨_, by omega, k + 1, v47, (by omega), hE47, ho47', rfl, rfl, rfl, rfl, rfl, rfl⟩
      · refine ext ?_
        refine te _ ?_
        refine te _ ?_
        refine be ?_
        refine tn (hK13 _ _ ?_)
        refine sq (fun K17 hK17 => ?_)
        refine rg ?_
        refine p asg ?_
        refine nl ?_
        refine tn (hK17 _ _ ?_)
        refine blk ?_
        refine lp (fun gm σ4 w4 => ∃ (k : Nat) (v4 : Value), (k ≤ (recs.getD i []).length) ∧ (Wk w w4) ∧ (World.ownsRow w4 w.heap.size 5 1 v4 (frame (recs.take i) ++ uintB (recs.getD i []).length ++ (recs.getD i []).take k).length (U8 (frame (recs.take i) ++ uintB (recs.getD i []).length ++ (recs.getD i []).take k))) ∧ (σ4 0 = .slice a recs.length cap) ∧ (σ4 4 = v4) ∧ (σ4 6 = .int .i64 i) ∧ (σ4 9 = .int .i64 k) ∧ ((recs.getD i []).length - k = gm)) _ ⟨0, v3, (by omega), hE3, (by rw [show k = (uintB (recs.getD i []).length).length from by omega, List.take_length] at ho3; rw [List.take_zero, List.append_nil]; exact ho3), rfl, rfl, rfl, rfl, rfl⟩ ?_
        rintro gm σ4 w4 ⟨k, v4, hk, hE4, ho4, hs4_0, hs4_4, hs4_6, hs4_9, rfl⟩
        refine fx 0 hs4_0 (fx 4 hs4_4 (fx 6 hs4_6 (fx 9 hs4_9 ?_)))
        have hsz4 := hE4.size
        have hfl := frame_take_le (l := recs) (i := i) (by omega)
        have hln : (frame (recs.take i) ++ uintB (recs.getD i []).length ++ (recs.getD i []).take k).length ≤ 70368744177664 := by simp only [List.length_append, List.length_take]; omega
        have hg255 := hget i (by omega)
        refine sq (fun K18 hK18 => ?_)
        refine sq (fun K19 hK19 => ?_)
        refine rg ?_
        refine p (mvt (.int .i64 k) rfl) ?_
        refine p (mvt (.slice a recs.length cap) rfl) ?_
        refine p (mvt (.int .i64 i) rfl) ?_
        refine p (ia' es22 rfl rfl (by omega) (Cells.ok (hS.wk hE4) (ne_map (by omega)))) ?_
        refine p (ld ag9 rfl (Strs.get (i := i) (hS.wk hE4) (by omega))) ?_
        refine p (lns u9 rfl rfl) ?_
        refine p (lt rfl rfl) ?_
        refine nl ?_
        refine tn (hK19 _ _ ?_)
        refine cd rfl (fun hc54 => ?_) (fun hc54 => ?_)
        · refine skp ?_
          refine tn (hK18 _ _ ?_)
          refine sq (fun K20 hK20 => ?_)
          refine blk ?_
          refine rg ?_
          refine p (mvt (v4) rfl) ?_
          refine p (mvt (.slice a recs.length cap) rfl) ?_
          refine p (mvt (.int .i64 i) rfl) ?_
          refine p (ia' es22 rfl rfl (by omega) (Cells.ok (hS.wk hE4) (ne_map (by omega)))) ?_
          refine p (ld ag9 rfl (Strs.get (i := i) (hS.wk hE4) (by omega))) ?_
          refine p (mvt (.int .i64 k) rfl) ?_
          refine p (ixs u9 rfl rfl (by omega)) ?_
          refine e (bs1 so99 rfl rfl fun b64 w64 hb64 hN64 hB64 => ?_)
          refine e (ap so99 (own_nw ho4 hN64.md) rfl (by have := hN64.size; omega) rfl (Cells.of_blk hB64) (rfl) (rfl) (by omega) (by omega) fun v65 w65 ho65 hM65 hz65 hf65 => ?_)
          have ho65' : World.ownsRow w65 w.heap.size 5 1 v65 (frame (recs.take i) ++ uintB (recs.getD i []).length ++ (recs.getD i []).take (k + 1)).length (U8 (frame (recs.take i) ++ uintB (recs.getD i []).length ++ (recs.getD i []).take (k + 1))) := by
            rw [take_succ_getD (recs.getD i []) k 0 (by omega), ← List.append_assoc, List.length_append, U8_app (_ ++ _)]; exact ho65
          have hE65 := Wk.own (hE4.trans hN64.md) (own_nw ho4 hN64.md) hM65 (Nat.le_refl _)
          refine p asg ?_
          refine nl ?_
          refine bn ?_
          refine tn (hK20 _ _ ?_)
          refine rg ?_
          refine p (mvt (.int .i64 k) rfl) ?_
          refine p (ad rfl rfl (wi64 (by omega))) ?_
          refine p asg ?_
          refine nl ?_
          refine tn ?_
          exact ⟨_, by omega, k + 1, v65, (by omega), hE65, ho65', rfl, rfl, rfl, rfl, rfl⟩
        · refine ext ?_
          refine te _ ?_
          refine te _ ?_
          refine be ?_
          refine bn ?_
          refine tn (hK11 _ _ ?_)
          refine rg ?_
          refine p (mvt (.int .i64 i) rfl) ?_
          refine p (ad rfl rfl (wi64 (by omega))) ?_
          refine p asg ?_
          refine nl ?_
          refine tn ?_
          exact ⟨_, by omega, i + 1, v4, (by omega), hE4, (by rw [frame_take (by omega)]; rw [show k = (recs.getD i []).length from by omega, List.take_length, List.append_assoc] at ho4; exact ho4), rfl, rfl, rfl, rfl⟩
    · refine ext ?_
      refine te _ ?_
      refine te _ ?_
      refine be ?_
      refine tn (hK7 _ _ ?_)
      refine sq (fun K11 hK11 => ?_)
      obtain rfl : i = recs.length := by omega
      rw [List.take_length] at ho
      obtain ⟨a67, c67, rfl, hC67, _⟩ := own_cells ho
      refine rg ?_
      refine p (mvt (.slice a67 (frame recs).length c67) rfl) ?_
      refine p (cvbs by99_9 rfl (hC67) (rfl)) ?_
      refine p asg ?_
      refine p asg ?_
      refine nl ?_
      refine tn (hK11 _ _ ?_)
      refine rt ?_
      refine f2 rfl rfl rfl ?_
      exact ⟨rfl, hE⟩
theorem rest_w (ws : List (List UInt8)) (a : Option Addr) (cap lo hi d : Nat) (w : World) (hS : Strs w.heap a ws) (hlo : lo ≤ hi) (hhi : hi ≤ ws.length) (hd : ∀ i, lo ≤ i → i < hi → d ≤ (ws.getD i []).length ∧ (ws.getD i []).length ≤ 255) (hn : ws.length ≤ 137438953472) :
    Ret Try.prog 38 (List.toArray [.slice a ws.length cap, .int .i64 lo, .int .i64 hi, .int .i64 d]) w (fun v w' => v = str (frame (((ws.take hi).drop lo).map (List.drop d))) ∧ Wk w w') := by
  have hln : (((ws.take hi).drop lo).map (List.drop d)).length = hi - lo := by simp; omega
  have hmem : ∀ r, r ∈ ((ws.take hi).drop lo).map (List.drop d) → r.length ≤ 255 := rest_mem hhi hd
  have hbound := frame_bound hmem
  rw [hln] at hbound
  refine enter Try.func38 rfl Try.ntmps38 rfl ?_
  refine sq (fun K1 hK1 => ?_)
  refine rg ?_
  refine p asg ?_
  refine nl ?_
  refine tn (hK1 _ _ ?_)
  refine sq (fun K2 hK2 => ?_)
  refine rg ?_
  refine p asg ?_
  refine nl ?_
  refine tn (hK2 _ _ ?_)
  refine sq (fun K3 hK3 => ?_)
  refine sq (fun K4 hK4 => ?_)
  refine rg ?_
  refine p (mvt (.int .i64 lo) rfl) ?_
  refine p (ast (.int .i64 lo) rfl) ?_
  refine nl ?_
  refine tn (hK4 _ _ ?_)
  refine blk ?_
  refine lp (fun gm σ1 w1 => ∃ (i : Nat) (v : Value), (lo ≤ i) ∧ (i ≤ hi) ∧ (Wk w w1) ∧ (World.ownsRow w1 w.heap.size 9 1 v (i - lo) ((((ws.take i).drop lo).map (List.drop d)).map str)) ∧ (σ1 0 = .slice a ws.length cap) ∧ (σ1 2 = .int .i64 hi) ∧ (σ1 3 = .int .i64 d) ∧ (σ1 9 = v) ∧ (σ1 10 = .int .i64 i) ∧ (hi - i = gm)) _ ⟨lo, .slice none 0 0, (by omega), (by omega), (Md.refl _ _), (by rw [Nat.sub_self, List.drop_eq_nil_of_le (by simp; omega)]; exact World.ownsRow_nil _ _ _ _), rfl, rfl, rfl, rfl, rfl, rfl⟩ ?_
  rintro gm σ1 w1 ⟨i, v, hi1, hi2, hE, ho, hs1_0, hs1_2, hs1_3, hs1_9, hs1_10, rfl⟩
  refine fx 0 hs1_0 (fx 2 hs1_2 (fx 3 hs1_3 (fx 9 hs1_9 (fx 10 hs1_10 ?_))))
  have hsz := hE.size
  refine sq (fun K5 hK5 => ?_)
  refine sq (fun K6 hK6 => ?_)
  refine rg ?_
  refine p (mvt (.int .i64 i) rfl) ?_
  refine p (mvt (.int .i64 hi) rfl) ?_
  refine p (lt rfl rfl) ?_
  refine nl ?_
  refine tn (hK6 _ _ ?_)
  refine cd rfl (fun hc16 => ?_) (fun hc16 => ?_)
  · have hdi := hd i (by omega) (by omega)
    refine skp ?_
    refine tn (hK5 _ _ ?_)
    refine sq (fun K7 hK7 => ?_)
    refine blk ?_
    refine rg ?_
    refine p (mvt (v) rfl) ?_
    refine p (mvt (.slice a ws.length cap) rfl) ?_
    refine p (mvt (.int .i64 i) rfl) ?_
    refine p (ia' es22 rfl rfl (by omega) (Cells.ok (hS.wk hE) (ne_map (by omega)))) ?_
    refine p (ld ag9 rfl (Strs.get (i := i) (hS.wk hE) (by omega))) ?_
    refine p (mvt (.int .i64 d) rfl) ?_
    refine p (slsl u9 rfl rfl (by omega)) ?_
    refine e (bs1 so22 rfl rfl fun b26 w26 hb26 hN26 hB26 => ?_)
    refine e (ap so22 (own_nw ho hN26.md) rfl (by have := hN26.size; omega) rfl (Cells.of_blk hB26) (rfl) (rfl) (by omega) (by omega) fun v27 w27 ho27 hM27 hz27 hf27 => ?_)
    have ho27' : World.ownsRow w27 w.heap.size 9 1 v27 (i + 1 - lo) ((((ws.take (i + 1)).drop lo).map (List.drop d)).map str) := by
      rw [take_drop_succ (d := []) (by omega) (by omega), List.map_append, List.map_append, show i + 1 - lo = i - lo + 1 from by omega]; exact ho27
    have hE27 := Wk.own (Md.trans hE hN26.md) (own_nw ho hN26.md) hM27 (Nat.le_refl _)
    refine p asg ?_
    refine nl ?_
    refine bn ?_
    refine tn (hK7 _ _ ?_)
    refine rg ?_
    refine p (mvt (.int .i64 i) rfl) ?_
    refine p (ad rfl rfl (wi64 (by omega))) ?_
    refine p asg ?_
    refine nl ?_
    refine tn ?_
    exact ⟨_, by omega, i + 1, v27, (by omega), (by omega), hE27, ho27', rfl, rfl, rfl, rfl, rfl, rfl⟩
  · refine ext ?_
    refine te _ ?_
    refine te _ ?_
    refine be ?_
    refine tn (hK3 _ _ ?_)
    refine sq (fun K7 hK7 => ?_)
    obtain rfl : hi = i := by omega
    rw [← hln] at ho
    obtain ⟨a30, c30, rfl, hC30, _⟩ := own_cells ho
    refine rg ?_
    refine p (mvt (.slice a30 (((ws.take hi).drop lo).map (List.drop d)).length c30) rfl) ?_
    refine e (cl c49 (refFrame_w (((ws.take hi).drop lo).map (List.drop d)) a30 c30 _ hC30 hmem (by omega) (by omega)) rfl fun v30 w30 hR30 => ?_)
    obtain ⟨rfl, hE30⟩ := hR30
    refine p mv ?_
    refine p (xt rfl rfl) ?_
    refine p (xt rfl rfl) ?_
    refine p asg ?_
    refine p asg ?_
    refine nl ?_
    refine tn (hK7 _ _ ?_)
    refine sq (fun K8 hK8 => ?_)
    refine rg ?_
    refine p mv ?_
    refine p asg ?_
    refine nl ?_
    refine tn (hK8 _ _ ?_)
    refine rt ?_
    refine f1 rfl rfl ?_
    exact ⟨rfl, Md.trans hE hE30⟩
theorem begins_w (a b : List UInt8) (d : Nat) (w : World) (hb : d ≤ b.length) (ha : a.length ≤ 1099511627776) :
    Ret Try.prog 51 (List.toArray [str a, str b, .int .i64 d]) w (fun v w' => v = .bool (decide (d ≤ a.length ∧ a.take d = b.take d)) ∧ Wk w w') := by
  refine enter Try.func51 rfl Try.ntmps51 rfl ?_
  refine sq (fun K1 hK1 => ?_)
  refine rg ?_
  refine p asg ?_
  refine nl ?_
  refine tn (hK1 _ _ ?_)
  refine sq (fun K2 hK2 => ?_)
  have hS1 : (fun w' => Wk w w') w.drew := (Md.refl _ _).drew
  refine hst (fun w' => Wk w w') wide hS1 ?_
  refine hp 0 rfl (by kernel_rfl) (fun _ _ => mvt (str a) rfl) hS1 ?_
  refine hp 1 rfl (by kernel_rfl) (fun _ _ => lns u9 rfl rfl) hS1 ?_
  refine hp 2 rfl (by kernel_rfl) (fun _ _ => mvt (.int .i64 d) rfl) hS1 ?_
  refine hp 3 rfl (by kernel_rfl) (fun _ _ => ge rfl rfl) hS1 ?_
  refine hp 4 rfl (by kernel_rfl) (fun _ _ => mv) hS1 ?_
  refine hgs (t := 11) rfl (fun hge => ?_) (fun hge => ?_)
  · refine hpg 5 rfl (by kernel_rfl) rfl rfl rfl (fun _ _ => mvt (str a) rfl) hS1 ?_
    refine hpg 6 rfl (by kernel_rfl) rfl rfl rfl (fun _ _ => mvt (.int .i64 d) rfl) hS1 ?_
    refine hpg 7 rfl (by kernel_rfl) rfl rfl rfl (fun _ _ => slsh u9 rfl rfl (by omega)) hS1 ?_
    refine hpg 8 rfl (by kernel_rfl) rfl rfl rfl (fun _ _ => mvt (str b) rfl) hS1 ?_
    refine hpg 9 rfl (by kernel_rfl) rfl rfl rfl (fun _ _ => mvt (.int .i64 d) rfl) hS1 ?_
    refine hpg 10 rfl (by kernel_rfl) rfl rfl rfl (fun _ _ => slsh u9 rfl rfl (by omega)) hS1 ?_
    refine hpg 11 rfl (by kernel_rfl) rfl rfl rfl (fun _ _ => eqs rfl rfl) hS1 ?_
    refine hp 12 rfl (by kernel_rfl) (fun _ _ => pkt rfl) hS1 ?_
    refine hp 13 rfl (by kernel_rfl) (fun _ _ => asg) hS1 ?_
    refine hn (by kernel_rfl) ?_
    refine tn (hK2 _ _ ?_)
    refine rt ?_
    refine f1 rfl rfl ?_
    exact ⟨bv ⟨fun h => ⟨by omega, h⟩, And.right⟩, hS1⟩
  · refine hsk 5 rfl (by kernel_rfl) rfl rfl rfl rfl hS1 ?_
    refine hsk 6 rfl (by kernel_rfl) rfl rfl rfl rfl hS1 ?_
    refine hsk 7 rfl (by kernel_rfl) rfl rfl rfl rfl hS1 ?_
    refine hsk 8 rfl (by kernel_rfl) rfl rfl rfl rfl hS1 ?_
    refine hsk 9 rfl (by kernel_rfl) rfl rfl rfl rfl hS1 ?_
    refine hsk 10 rfl (by kernel_rfl) rfl rfl rfl rfl hS1 ?_
    refine hsk 11 rfl (by kernel_rfl) rfl rfl rfl rfl hS1 ?_
    refine hp 12 rfl (by kernel_rfl) (fun _ _ => pkf rfl) hS1 ?_
    refine hp 13 rfl (by kernel_rfl) (fun _ _ => asg) hS1 ?_
    refine hn (by kernel_rfl) ?_
    refine tn (hK2 _ _ ?_)
    refine rt ?_
    refine f1 rfl rfl ?_
    exact ⟨bF (fun h => hge (by omega)), hS1⟩
theorem place_w (b off : Nat) (rs : List (List UInt8)) (r : List UInt8) (a : Option Addr) (cap : Nat) (w : World) (hc : cel w.heap b off = some (.slice a rs.length cap)) (hS : Strs w.heap a rs) (hs : rs.Pairwise (fun x y => sless x y = true)) (hn : rs.length ≤ 137438953472) :
    Ret Try.prog 39 (List.toArray [.pointer (some ⟨b, off, none⟩), str r]) w (fun v w' => Wk w w' ∧ ∃ p : Nat, v = .int .i64 p ∧ p ≤ rs.length ∧ (∀ i, i < p → sless (rs.getD i []) r = true) ∧ ∀ i, p ≤ i → i < rs.length → sless (rs.getD i []) r = false) := by
  refine enter Try.func39 rfl Try.ntmps39 rfl ?_
  refine sq (fun K1 hK1 => ?_)
  refine rg ?_
  refine p asg ?_
  refine nl ?_
  refine tn (hK1 _ _ ?_)
  refine sq (fun K2 hK2 => ?_)
  refine rg ?_
  refine p asg ?_
  refine nl ?_
  refine tn (hK2 _ _ ?_)
  refine sq (fun K3 hK3 => ?_)
  refine rg ?_
  refine p (mvt (.pointer (some ⟨b, off, none⟩)) rfl) ?_
  refine p (nc rfl) ?_
  refine p (fa fo69_0 rfl) ?_
  refine p (ld ag22 rfl (hc)) ?_
  refine p (lnl u22 rfl rfl) ?_
  refine p asg ?_
  refine nl ?_
  refine tn (hK3 _ _ ?_)
  refine sq (fun K4 hK4 => ?_)
  refine blk ?_
  refine lp (fun gm σ1 w1 => ∃ (lo hi : Nat), (lo ≤ hi) ∧ (hi ≤ rs.length) ∧ (∀ i, i < lo → sless (rs.getD i []) r = true) ∧ (∀ i, hi ≤ i → i < rs.length → sless (rs.getD i []) r = false) ∧ (Wk w w1) ∧ (σ1 0 = .pointer (some ⟨b, off, none⟩)) ∧ (σ1 1 = str r) ∧ (σ1 5 = .int .i64 lo) ∧ (σ1 6 = .int .i64 hi) ∧ (hi - lo = gm)) _ ⟨0, rs.length, (by omega), (by omega), (fun i hi => by omega), (fun i h1 h2 => by omega), (Md.refl _ _), rfl, rfl, rfl, rfl, rfl⟩ ?_
  rintro gm σ1 w1 ⟨lo, hi, h1, h2, h3, h4, hE, hs1_0, hs1_1, hs1_5, hs1_6, rfl⟩
  refine fx 0 hs1_0 (fx 1 hs1_1 (fx 5 hs1_5 (fx 6 hs1_6 ?_)))
  refine sq (fun K5 hK5 => ?_)
  refine sq (fun K6 hK6 => ?_)
  refine rg ?_
  refine p (mvt (.int .i64 lo) rfl) ?_
  refine p (mvt (.int .i64 hi) rfl) ?_
  refine p (lt rfl rfl) ?_
  refine nl ?_
  refine tn (hK6 _ _ ?_)
  refine cd rfl (fun hc15 => ?_) (fun hc15 => ?_)
  · refine skp ?_
    refine tn (hK5 _ _ ?_)
    refine blk ?_
    refine sq (fun K7 hK7 => ?_)
    refine rg ?_
    refine p (mvt (.int .i64 lo) rfl) ?_
    refine p (mvt (.int .i64 hi) rfl) ?_
    refine p (mvt (.int .i64 lo) rfl) ?_
    refine p (sb rfl rfl (wi64 (by omega))) ?_
    refine p (qu rfl rfl (by omega) (wi64 (by omega))) ?_
    refine p (adv ((lo + (hi - lo) / 2 : Nat) : Int) rfl rfl (w64n (by omega) (by omega))) ?_
    refine p asg ?_
    refine nl ?_
    refine tn (hK7 _ _ ?_)
    refine sq (fun K8 hK8 => ?_)
    refine rg ?_
    refine p (mvt (.pointer (some ⟨b, off, none⟩)) rfl) ?_
    refine p (nc rfl) ?_
    refine p (fa fo69_0 rfl) ?_
    refine p (ld ag22 rfl (hE.cel hc)) ?_
    refine p mv ?_
    refine p (ia' es22 rfl rfl (by omega) (Cells.ok (hS.wk hE) (ne_map (by omega)))) ?_
    refine p (ld ag9 rfl (Strs.get (i := lo + (hi - lo) / 2) (hS.wk hE) (by omega))) ?_
    refine p (mvt (str r) rfl) ?_
    refine p (lts rfl rfl) ?_
    refine nl ?_
    refine tn (hK8 _ _ ?_)
    refine cb rfl (fun hc30 => ?_) (fun hc30 => ?_)
    · refine rg ?_
      refine p mv ?_
      refine p (ad rfl rfl (wi64 (by omega))) ?_
      refine p asg ?_
      refine nl ?_
      refine bn ?_
      refine tn ?_
      exact ⟨_, by omega, lo + (hi - lo) / 2 + 1, hi, (by omega), (by omega), (fun i hi => sless_lo hs (by omega) (by omega) hc30), h4, hE, rfl, rfl, rfl, rfl, rfl⟩
    · refine rg ?_
      refine p mv ?_
      refine p asg ?_
      refine nl ?_
      refine bn ?_
      refine tn ?_
      exact ⟨_, by omega, lo, lo + (hi - lo) / 2, (by omega), (by omega), h3, (fun i h1 h2 => sless_hi hs h1 h2 hc30), hE, rfl, rfl, rfl, rfl, rfl⟩
  · refine ext ?_
    refine te _ ?_
    refine te _ ?_
    refine be ?_
    refine tn (hK4 _ _ ?_)
    refine sq (fun K7 hK7 => ?_)
    refine rg ?_
    refine p (mvt (.int .i64 lo) rfl) ?_
    refine p (ast (.int .i64 lo) rfl) ?_
    refine nl ?_
    refine tn (hK7 _ _ ?_)
    refine rt ?_
    refine f1 rfl rfl ?_
    exact ⟨hE, lo, rfl, by omega, h3, fun i h5 h6 => h4 i (by omega) h6⟩
end Go.Hb.Ref06
