/-
  Walks of slices.SortStableFunc at rows of a word and its distance, and of slices.Clip. No conditions but those that each theorem names.
-/
import Derived.Test.YtbfcjgfnlcbojaaChecked
import Derived.Test.YtbfcjgfnlcbojaaCore
import Derived.Test.YtbfcjgfnlcbojaaSortN
import Derived.Test.YtbfcjgfnlcbojaaSymm
import Derived.Test.YtbfcjgfnlcbojaaPlan
import Derived.Test.YtbfcjgfnlcbojaaNrp
set_option maxRecDepth 20000
set_option linter.unusedVariables false
namespace Go.Hb.Stable
open Go.Proofs
open Go.Hb.SortN Go.Hb.Symm
theorem c38 : Callable Try.prog 38 := callable Try.func38 (by kernel_rfl) (by kernel_rfl)
theorem c49 : Callable Try.prog 49 := callable Try.func49 (by kernel_rfl) (by kernel_rfl)
theorem c50 : Callable Try.prog 50 := callable Try.func50 (by kernel_rfl) (by kernel_rfl)
theorem u35 : Try.prog.underlying 35 = some (.slice 45) := by kernel_rfl

theorem insertAt_w (l : List Nr) (a b B n cp : Nat) (aD : Option Addr) (w : World) (hO : World.ownsRow w B 45 2 (.slice aD n cp) n (nfl (l))) (hab : a ≤ b) (hb : b ≤ n) (hnb : n ≤ 1099511627776) :
    Ret Try.prog 49 (List.toArray [.slice aD n cp, .int .i64 (a : Nat), .int .i64 (b : Nat), .func (.func 25) #[] #[]]) w (fun v w' => v = .tuple #[] ∧ World.ownsRow w' B 45 2 (.slice aD n cp) n (nfl (srtAt l a b)) ∧ Md (fun q => (Value.slice aD n cp).ownBlock = some q) w w') := by
  have hl := own_nlen hO
  exact insert_w (l.take a) (seg l a b) (l.drop b) a b B n cp aD w (by rw [← seg_split hab]; exact hO) (by rw [List.length_take]; omega) (by rw [seg_len (by omega)]; omega) hnb
theorem symmAt_w (l : List Nr) (a m b B n cp : Nat) (aD : Option Addr) (w : World) (hO : World.ownsRow w B 45 2 (.slice aD n cp) n (nfl (l))) (h1 : a < m) (h2 : m < b) (hb : b ≤ n) (hs1 : SegS l a m) (hs2 : SegS l m b) (hnb : n ≤ 1099511627776) :
    Ret Try.prog 50 (List.toArray [.slice aD n cp, .int .i64 (a : Nat), .int .i64 (m : Nat), .int .i64 (b : Nat), .func (.func 25) #[] #[]]) w (fun v w' => v = .tuple #[] ∧ World.ownsRow w' B 45 2 (.slice aD n cp) n (nfl (srtAt l a b)) ∧ Md (fun q => (Value.slice aD n cp).ownBlock = some q) w w') := by
  have hl := own_nlen hO
  have hj := seg_join (l := l) (a := a) (m := m) (b := b) (by omega) (by omega)
  have h := symm_w ((seg l a m).length + (seg l m b).length + 1) (l.take a) (seg l a m) (seg l m b) (l.drop b) a m b B n cp aD w
    (by rw [← List.append_assoc (seg l a m), ← hj, ← seg_split (by omega)]; exact hO) (by rw [List.length_take]; omega) (by rw [seg_len (by omega)]; omega) (by rw [seg_len (by omega)]; omega)
    (by rw [seg_len (by omega)]; omega) (by rw [seg_len (by omega)]; omega) hs1 hs2 (by omega) hnb
  rw [← hj] at h
  exact h
theorem segS_eq {l : List Nr} {c c' d d' : Nat} (h : SegS l c d) (hc : c = c') (hd : d = d') : SegS l c' d' := by subst hc hd; exact h
theorem BL.next' {n t0 a b : Nat} {l : List Nr} (h : BL n a l) (ha : a = t0 * n) (hb : b = a + n) (hl : b ≤ l.length) : BL n b (srtAt l a b) := by
  subst ha hb; exact BL.next h hl
theorem BL.last' {n n' t0 a b : Nat} {l : List Nr} (h : BL n a l) (ha : a = t0 * n) (hn : n' = n) (hb : b = l.length) (hal : a ≤ l.length) (hbn : l.length ≤ a + n) : BS n' (srtAt l a b) := by
  subst ha hn hb; exact BL.last h hal hbn
theorem BL.none' {n n' t0 a : Nat} {l : List Nr} (h : BL n a l) (ha : a = t0 * n) (hn : n' = n) (h2 : SegS l a (a + n)) (hbn : l.length ≤ a + n) : BS n' l := by
  subst ha hn; exact BL.none h h2 hbn

set_option maxHeartbeats 1000000 in
theorem stable_w (xs : List Nr) (B n cp : Nat) (aD : Option Addr) (w : World) (hO : World.ownsRow w B 45 2 (.slice aD n cp) n (nfl (xs))) (hnb : n ≤ 1099511627776) :
    Ret Try.prog 38 (List.toArray [.slice aD n cp, .int .i64 (n : Nat), .func (.func 25) #[] #[]]) w (fun v w' => v = .tuple #[] ∧ World.ownsRow w' B 45 2 (.slice aD n cp) n (nfl (isort xs)) ∧ Md (fun q => (Value.slice aD n cp).ownBlock = some q) w w') := by
  have hl0 := own_nlen hO
  refine enter Try.func38 rfl Try.ntmps38 rfl ?_
  refine sq (fun K1 hK1 => ?_)
  refine rg ?_
  refine p asg ?_
  refine nl ?_
  refine tn (hK1 _ _ ?_)
  refine sq (fun K2 hK2 => ?_)
  refine rg ?_
  refine p (mvt (.int .i64 20) rfl) ?_
  refine p asg ?_
  refine p (ast (.int .i64 20) rfl) ?_
  refine nl ?_
  refine tn (hK2 _ _ ?_)
  refine sq (fun K3 hK3 => ?_)
  refine blk ?_
  refine lp (fun gm σ1 wL => ∃ (a q : Nat) (ys : List Nr), (a = q * 20) ∧ (a ≤ n) ∧ (World.ownsRow wL B 45 2 (.slice aD n cp) n (nfl (ys))) ∧ (SE ys xs) ∧ (BL 20 a ys) ∧ (Md (fun q => (Value.slice aD n cp).ownBlock = some q) w wL) ∧ (σ1 0 = .slice aD n cp) ∧ (σ1 1 = .int .i64 (n : Nat)) ∧ (σ1 2 = .func (.func 25) #[] #[]) ∧ (σ1 6 = .int .i64 20) ∧ (σ1 7 = .int .i64 (a : Nat)) ∧ (σ1 8 = .int .i64 (a + 20 : Nat)) ∧ (n - a = gm)) _ ⟨0, 0, xs, rfl, ((by omega)), hO, (SE.refl _), (BL.zero _ _), (Md.refl _ _), rfl, rfl, rfl, rfl, rfl, rfl, rfl⟩ ?_
  rintro gm σ1 wL ⟨a, q, ys, haq, hal, hO1, hse, hbl, hM1, hs1_0, hs1_1, hs1_2, hs1_6, hs1_7, hs1_8, rfl⟩
  refine fx 0 hs1_0 (fx 1 hs1_1 (fx 2 hs1_2 (fx 6 hs1_6 (fx 7 hs1_7 (fx 8 hs1_8 ?_)))))
  refine sq (fun K4 hK4 => ?_)
  refine sq (fun K5 hK5 => ?_)
  refine rg ?_
  refine p (mvt (.int .i64 (a + 20 : Nat)) rfl) ?_
  refine p (mvt (.int .i64 (n : Nat)) rfl) ?_
  refine p (le rfl rfl) ?_
  refine nl ?_
  refine tn (hK5 _ _ ?_)
  refine cd rfl (fun hc13 => ?_) (fun hc13 => ?_)
  · refine skp ?_
    refine tn (hK4 _ _ ?_)
    refine blk ?_
    refine sq (fun K6 hK6 => ?_)
    have hl1 := own_nlen hO1
    refine rg ?_
    refine p (mvt (.slice aD n cp) rfl) ?_
    refine p (mvt (.int .i64 (a : Nat)) rfl) ?_
    refine p (mvt (.int .i64 (a + 20 : Nat)) rfl) ?_
    refine p (mvt (.func (.func 25) #[] #[]) rfl) ?_
    refine e (cl c49 (insertAt_w ys a (a + 20) B n cp aD _ hO1 (by omega) (by omega) hnb) rfl fun v18 w18 hR18 => ?_)
    obtain ⟨_, hO18, hM18⟩ := hR18
    refine nl ?_
    refine tn (hK6 _ _ ?_)
    refine sq (fun K7 hK7 => ?_)
    refine rg ?_
    refine p (mvt (.int .i64 (a + 20 : Nat)) rfl) ?_
    refine p (ast (.int .i64 (a + 20 : Nat)) rfl) ?_
    refine nl ?_
    refine tn (hK7 _ _ ?_)
    refine rg ?_
    refine p (mvt (.int .i64 (a + 20 : Nat)) rfl) ?_
    refine p (mvt (.int .i64 20) rfl) ?_
    refine p (adv ((a + 20 + 20 : Nat) : Int) rfl rfl (w64n (by omega) (by omega))) ?_
    refine p asg ?_
    refine nl ?_
    refine bn ?_
    refine tn ?_
    exact ⟨_, by omega, a + 20, q + 1, srtAt ys a (a + 20), ((by omega)), ((by omega)), hO18, ((srtAt_se (by omega)).trans hse), (BL.next' hbl haq rfl (by omega)), (Md.trans hM1 hM18), rfl, rfl, rfl, rfl, rfl, rfl, rfl⟩
  · refine ext ?_
    refine te _ ?_
    refine te _ ?_
    refine be ?_
    refine tn (hK3 _ _ ?_)
    refine sq (fun K6 hK6 => ?_)
    have hl1 := own_nlen hO1
    refine rg ?_
    refine p (mvt (.slice aD n cp) rfl) ?_
    refine p (mvt (.int .i64 (a : Nat)) rfl) ?_
    refine p (mvt (.int .i64 (n : Nat)) rfl) ?_
    refine p (mvt (.func (.func 25) #[] #[]) rfl) ?_
    refine e (cl c49 (insertAt_w ys a n B n cp aD _ hO1 (by omega) (by omega) hnb) rfl fun v27 w27 hR27 => ?_)
    obtain ⟨_, hO27, hM27⟩ := hR27
    refine nl ?_
    refine tn (hK6 _ _ ?_)
    refine blk ?_
    refine lp (fun gm σ2 wM => ∃ (bs : Nat) (ys2 : List Nr), (20 ≤ bs) ∧ (bs ≤ 2199023255552) ∧ (World.ownsRow wM B 45 2 (.slice aD n cp) n (nfl (ys2))) ∧ (SE ys2 xs) ∧ (BS bs ys2) ∧ (Md (fun q => (Value.slice aD n cp).ownBlock = some q) w wM) ∧ (σ2 0 = .slice aD n cp) ∧ (σ2 1 = .int .i64 (n : Nat)) ∧ (σ2 2 = .func (.func 25) #[] #[]) ∧ (σ2 6 = .int .i64 (bs : Nat)) ∧ (n - bs = gm)) _ ⟨20, srtAt ys a n, ((by omega)), ((by omega)), hO27, ((srtAt_se (by omega)).trans hse), (BL.last' hbl haq rfl (by omega) (by omega) (by omega)), (Md.trans hM1 hM27), rfl, rfl, rfl, rfl, rfl⟩ ?_
    rintro gm σ2 wM ⟨bs, ys2, hbs, hbb, hO2, hse2, hBS, hM2, hs2_0, hs2_1, hs2_2, hs2_6, rfl⟩
    refine fx 0 hs2_0 (fx 1 hs2_1 (fx 2 hs2_2 (fx 6 hs2_6 ?_)))
    refine sq (fun K7 hK7 => ?_)
    refine sq (fun K8 hK8 => ?_)
    refine rg ?_
    refine p (mvt (.int .i64 (bs : Nat)) rfl) ?_
    refine p (mvt (.int .i64 (n : Nat)) rfl) ?_
    refine p (lt rfl rfl) ?_
    refine nl ?_
    refine tn (hK8 _ _ ?_)
    refine cd rfl (fun hc30 => ?_) (fun hc30 => ?_)
    · refine skp ?_
      refine tn (hK7 _ _ ?_)
      refine blk ?_
      refine sq (fun K9 hK9 => ?_)
      refine rg ?_
      refine p (mvt (.int .i64 (bs : Nat)) rfl) ?_
      refine p (mlv ((2 * bs : Nat) : Int) rfl rfl (w64n (by omega) (by omega))) ?_
      refine p asg ?_
      refine p asg ?_
      refine nl ?_
      refine tn (hK9 _ _ ?_)
      refine sq (fun K10 hK10 => ?_)
      refine blk ?_
      refine lp (fun gm σ3 wN => ∃ (a b q : Nat) (ys3 : List Nr), (b = a + 2 * bs) ∧ (a = q * (2 * bs)) ∧ (a ≤ n) ∧ (World.ownsRow wN B 45 2 (.slice aD n cp) n (nfl (ys3))) ∧ (SE ys3 xs) ∧ (BL (2 * bs) a ys3) ∧ (BR bs a ys3) ∧ (Md (fun q => (Value.slice aD n cp).ownBlock = some q) w wN) ∧ (σ3 0 = .slice aD n cp) ∧ (σ3 1 = .int .i64 (n : Nat)) ∧ (σ3 2 = .func (.func 25) #[] #[]) ∧ (σ3 6 = .int .i64 (bs : Nat)) ∧ (σ3 7 = .int .i64 (a : Nat)) ∧ (σ3 8 = .int .i64 (b : Nat)) ∧ (n - a = gm)) _ ⟨0, 2 * bs, 0, ys2, ((by omega)), ((by omega)), ((by omega)), hO2, hse2, (BL.zero _ _), (hBS.br _), hM2, rfl, rfl, rfl, rfl, rfl, rfl, rfl⟩ ?_
      rintro gm σ3 wN ⟨a, b, q, ys3, hb, haq, hal3, hO3, hse3, hbl3, hbr, hM3, hs3_0, hs3_1, hs3_2, hs3_6, hs3_7, hs3_8, rfl⟩
      refine fx 0 hs3_0 (fx 1 hs3_1 (fx 2 hs3_2 (fx 6 hs3_6 (fx 7 hs3_7 (fx 8 hs3_8 ?_)))))
      refine sq (fun K11 hK11 => ?_)
      refine sq (fun K12 hK12 => ?_)
      refine rg ?_
      refine p (mvt (.int .i64 (b : Nat)) rfl) ?_
      refine p (mvt (.int .i64 (n : Nat)) rfl) ?_
      refine p (le rfl rfl) ?_
      refine nl ?_
      refine tn (hK12 _ _ ?_)
      refine cd rfl (fun hc35 => ?_) (fun hc35 => ?_)
      · refine skp ?_
        refine tn (hK11 _ _ ?_)
        refine blk ?_
        refine sq (fun K13 hK13 => ?_)
        have hl3 := own_nlen hO3
        have h2q : 2 * q * bs = a := by rw [haq, Nat.mul_comm 2 q, Nat.mul_assoc]
        have h2r : (2 * q + 1) * bs = a + bs := by rw [Nat.succ_mul, h2q]
        have hg1 : SegS ys3 a (a + bs) := segS_eq (hbr (2 * q) (by omega)) h2q (by omega)
        have hg2 : SegS ys3 (a + bs) (a + bs + bs) := segS_eq (hbr (2 * q + 1) (by omega)) h2r (by omega)
        refine rg ?_
        refine p (mvt (.slice aD n cp) rfl) ?_
        refine p (mvt (.int .i64 (a : Nat)) rfl) ?_
        refine p (mvt (.int .i64 (a : Nat)) rfl) ?_
        refine p (mvt (.int .i64 (bs : Nat)) rfl) ?_
        refine p (adv ((a + bs : Nat) : Int) rfl rfl (w64n (by omega) (by omega))) ?_
        refine p (mvt (.int .i64 (b : Nat)) rfl) ?_
        refine p (mvt (.func (.func 25) #[] #[]) rfl) ?_
        refine e (cl c50 (symmAt_w ys3 a (a + bs) b B n cp aD _ hO3 (by omega) (by omega) (by omega) hg1 (segS_eq hg2 rfl (by omega)) hnb) rfl fun v43 w43 hR43 => ?_)
        obtain ⟨_, hO43, hM43⟩ := hR43
        refine nl ?_
        refine tn (hK13 _ _ ?_)
        refine sq (fun K14 hK14 => ?_)
        refine rg ?_
        refine p (mvt (.int .i64 (b : Nat)) rfl) ?_
        refine p (ast (.int .i64 (b : Nat)) rfl) ?_
        refine nl ?_
        refine tn (hK14 _ _ ?_)
        refine rg ?_
        refine p (mvt (.int .i64 (b : Nat)) rfl) ?_
        refine p (mvt (.int .i64 (bs : Nat)) rfl) ?_
        refine p (mlv ((2 * bs : Nat) : Int) rfl rfl (w64n (by omega) (by omega))) ?_
        refine p (adv ((b + 2 * bs : Nat) : Int) rfl rfl (w64n (by omega) (by omega))) ?_
        refine p asg ?_
        refine nl ?_
        refine bn ?_
        refine tn ?_
        exact ⟨_, by omega, b, b + 2 * bs, q + 1, srtAt ys3 a b, rfl, ((by rw [Nat.succ_mul, ← haq]; exact hb)), ((by omega)), hO43, ((srtAt_se (by omega)).trans hse3), (BL.next' hbl3 haq hb (by omega)), (BR.next hbr (by omega) (by omega)), (Md.trans hM3 hM43), rfl, rfl, rfl, rfl, rfl, rfl, rfl⟩
      · refine ext ?_
        refine te _ ?_
        refine te _ ?_
        refine be ?_
        refine tn (hK10 _ _ ?_)
        refine sq (fun K13 hK13 => ?_)
        refine sq (fun K14 hK14 => ?_)
        have hl3 := own_nlen hO3
        have h2q : 2 * q * bs = a := by rw [haq, Nat.mul_comm 2 q, Nat.mul_assoc]
        have h2r : (2 * q + 1) * bs = a + bs := by rw [Nat.succ_mul, h2q]
        have hg1 : SegS ys3 a (a + bs) := segS_eq (hbr (2 * q) (by omega)) h2q (by omega)
        have hg2 : SegS ys3 (a + bs) (a + bs + bs) := segS_eq (hbr (2 * q + 1) (by omega)) h2r (by omega)
        refine rg ?_
        refine p (mvt (.int .i64 (a : Nat)) rfl) ?_
        refine p (mvt (.int .i64 (bs : Nat)) rfl) ?_
        refine p (adv ((a + bs : Nat) : Int) rfl rfl (w64n (by omega) (by omega))) ?_
        refine p asg ?_
        refine nl ?_
        refine tn (hK14 _ _ ?_)
        refine sq (fun K15 hK15 => ?_)
        refine rg ?_
        refine p mv ?_
        refine p (mvt (.int .i64 (n : Nat)) rfl) ?_
        refine p (lt rfl rfl) ?_
        refine nl ?_
        refine tn (hK15 _ _ ?_)
        refine cd rfl (fun hc54 => ?_) (fun hc54 => ?_)
        · refine rg ?_
          refine p (mvt (.slice aD n cp) rfl) ?_
          refine p (mvt (.int .i64 (a : Nat)) rfl) ?_
          refine p mv ?_
          refine p (mvt (.int .i64 (n : Nat)) rfl) ?_
          refine p (mvt (.func (.func 25) #[] #[]) rfl) ?_
          refine e (cl c50 (symmAt_w ys3 a (a + bs) n B n cp aD _ hO3 (by omega) (by omega) (by omega) hg1 (segS_sub hg2 (.inr (by omega))) hnb) rfl fun v60 w60 hR60 => ?_)
          obtain ⟨_, hO60, hM60⟩ := hR60
          refine nl ?_
          refine tn (hK13 _ _ ?_)
          refine rg ?_
          refine p (mvt (.int .i64 (bs : Nat)) rfl) ?_
          refine p (mlv ((bs * 2 : Nat) : Int) rfl rfl (w64n (by omega) (by omega))) ?_
          refine p asg ?_
          refine nl ?_
          refine bn ?_
          refine tn ?_
          exact ⟨_, by omega, bs * 2, srtAt ys3 a n, ((by omega)), ((by omega)), hO60, ((srtAt_se (by omega)).trans hse3), (BL.last' hbl3 haq (by omega) (by omega) (by omega) (by omega)), (Md.trans hM3 hM60), rfl, rfl, rfl, rfl, rfl⟩
        · refine skp ?_
          refine tn (hK13 _ _ ?_)
          refine rg ?_
          refine p (mvt (.int .i64 (bs : Nat)) rfl) ?_
          refine p (mlv ((bs * 2 : Nat) : Int) rfl rfl (w64n (by omega) (by omega))) ?_
          refine p asg ?_
          refine nl ?_
          refine bn ?_
          refine tn ?_
          exact ⟨_, by omega, bs * 2, ys3, ((by omega)), ((by omega)), hO3, hse3, (BL.none' hbl3 haq (by omega) (segS_sub hg1 (.inl (by omega))) (by omega)), hM3, rfl, rfl, rfl, rfl, rfl⟩
    · refine ext ?_
      refine te _ ?_
      refine te _ ?_
      refine be ?_
      refine f0 rfl ?_
      rw [hBS.end_ (by have := own_nlen hO2; omega) hse2] at hO2
      exact ⟨rfl, hO2, hM2⟩
theorem sort_w (xs : List Nr) (B n cp : Nat) (aD : Option Addr) (w : World) (hO : World.ownsRow w B 45 2 (.slice aD n cp) n (nfl (xs))) (hnb : n ≤ 1099511627776) :
    Ret Try.prog 24 (List.toArray [.slice aD n cp, .func (.func 25) #[] #[]]) w (fun v w' => v = .tuple #[] ∧ World.ownsRow w' B 45 2 (.slice aD n cp) n (nfl (isort xs)) ∧ Md (fun q => (Value.slice aD n cp).ownBlock = some q) w w') := by
  refine enter Try.func24 rfl Try.ntmps24 rfl ?_
  refine rg ?_
  refine p (mvt (.slice aD n cp) rfl) ?_
  refine p (mvt (.slice aD n cp) rfl) ?_
  refine p (lnl u35 rfl rfl) ?_
  refine p (mvt (.func (.func 25) #[] #[]) rfl) ?_
  refine e (cl c38 (stable_w xs B n cp aD _ hO hnb) rfl fun v8 w8 hR8 => ?_)
  obtain ⟨_, hO8, hM8⟩ := hR8
  refine nl ?_
  refine f0 rfl ?_
  exact ⟨rfl, hO8, hM8⟩
end Go.Hb.Stable
