/-
  Walks of the package words and of small functions. No conditions but those that each theorem names.
-/
import Derived.Test.YtbfcjgfnlcbojaaChecked
import Derived.Test.YtbfcjgfnlcbojaaCore
set_option maxRecDepth 20000
set_option linter.unusedVariables false
namespace Go.Hb.Words
open Go.Proofs
theorem u9 : Try.prog.underlying 9 = some (.string) := by kernel_rfl
theorem wide : Try.prog.follows .mixedOrders = true := by kernel_rfl
theorem common_w (a b : List UInt8) (w : World) (ha : a.length ≤ 1099511627776) (hb : b.length ≤ 1099511627776) :
    Ret Try.prog 52 (List.toArray [str a, str b]) w (fun v w' => v = .int .i64 (common a b) ∧ Wk w w') := by
  refine enter Try.func52 rfl Try.ntmps52 rfl ?_
  refine sq (fun K1 hK1 => ?_)
  refine rg ?_
  refine p asg ?_
  refine nl ?_
  refine tn (hK1 _ _ ?_)
  refine sq (fun K2 hK2 => ?_)
  refine rg ?_
  refine p asg ?_
  refine nl ?_
  refine tn (hK2 _ _ ?_)
  refine sq (fun K3 hK3 => ?_)
  refine blk ?_
  refine lp (fun gm σ1 w1 => ∃ (k : Nat), (k ≤ a.length) ∧ (k ≤ b.length) ∧ (∀ i, i < k → a.getD i 0 = b.getD i 0) ∧ (Wk w w1) ∧ (σ1 0 = str a) ∧ (σ1 1 = str b) ∧ (σ1 5 = .int .i64 k) ∧ (a.length - k = gm)) _ ⟨0, (by omega), (by omega), (fun i hi => by omega), (Md.refl _ _), rfl, rfl, rfl, rfl⟩ ?_
  rintro gm σ1 w1 ⟨k, hka, hkb, hkk, hE, hs1_0, hs1_1, hs1_5, rfl⟩
  refine fx 0 hs1_0 (fx 1 hs1_1 (fx 5 hs1_5 ?_))
  refine sq (fun K4 hK4 => ?_)
  refine sq (fun K5 hK5 => ?_)
  have hS2 : (fun w' => Wk w1 w') w1.drew := (Md.refl _ _).drew
  refine hst (fun w' => Wk w1 w') wide hS2 ?_
  refine hp 0 rfl (by kernel_rfl) (fun _ _ => mvt (.int .i64 k) rfl) hS2 ?_
  refine hp 1 rfl (by kernel_rfl) (fun _ _ => mvt (str a) rfl) hS2 ?_
  refine hp 2 rfl (by kernel_rfl) (fun _ _ => lns u9 rfl rfl) hS2 ?_
  refine hp 3 rfl (by kernel_rfl) (fun _ _ => mvt (str b) rfl) hS2 ?_
  refine hp 4 rfl (by kernel_rfl) (fun _ _ => lns u9 rfl rfl) hS2 ?_
  refine hp 5 rfl (by kernel_rfl) (fun _ _ => mn rfl rfl) hS2 ?_
  refine hp 6 rfl (by kernel_rfl) (fun _ _ => lt rfl rfl) hS2 ?_
  refine hp 7 rfl (by kernel_rfl) (fun _ _ => mv) hS2 ?_
  refine hgs (t := 13) rfl (fun hlt => ?_) (fun hlt => ?_)
  · refine hpg 8 rfl (by kernel_rfl) rfl rfl rfl (fun _ _ => mvt (str a) rfl) hS2 ?_
    refine hpg 9 rfl (by kernel_rfl) rfl rfl rfl (fun _ _ => mvt (.int .i64 k) rfl) hS2 ?_
    refine hpg 10 rfl (by kernel_rfl) rfl rfl rfl (fun _ _ => ixs u9 rfl rfl (by omega)) hS2 ?_
    refine hpg 11 rfl (by kernel_rfl) rfl rfl rfl (fun _ _ => mvt (str b) rfl) hS2 ?_
    refine hpg 12 rfl (by kernel_rfl) rfl rfl rfl (fun _ _ => mvt (.int .i64 k) rfl) hS2 ?_
    refine hpg 13 rfl (by kernel_rfl) rfl rfl rfl (fun _ _ => ixs u9 rfl rfl (by omega)) hS2 ?_
    refine hpg 14 rfl (by kernel_rfl) rfl rfl rfl (fun _ _ => eqi rfl rfl) hS2 ?_
    refine hp 15 rfl (by kernel_rfl) (fun _ _ => pkt rfl) hS2 ?_
    refine hn (by kernel_rfl) ?_
    have hE := hE.drew
    refine tn (hK5 _ _ ?_)
    refine cd rfl (fun hne => ?_) (fun hne => ?_)
    · have hkk1 : ∀ i, i < k + 1 → a.getD i 0 = b.getD i 0 := fun i hi => by
        by_cases h : i = k
        · subst h; exact UInt8.toNat_inj.1 (by have h2 := hne; simp only [Int.toNat_natCast] at h2; omega)
        · exact hkk i (by omega)
      refine skp ?_
      refine tn (hK4 _ _ ?_)
      refine blk ?_
      refine rg ?_
      refine p (mvt (.int .i64 k) rfl) ?_
      refine p (ad rfl rfl (wi64 (by omega))) ?_
      refine p asg ?_
      refine nl ?_
      refine bn ?_
      refine tn ?_
      exact ⟨_, by omega, k + 1, (by omega), (by omega), hkk1, hE, rfl, rfl, rfl, rfl⟩
    · refine ext ?_
      refine te _ ?_
      refine te _ ?_
      refine be ?_
      refine tn (hK3 _ _ ?_)
      refine sq (fun K6 hK6 => ?_)
      refine rg ?_
      refine p (mvt (.int .i64 k) rfl) ?_
      refine p (ast (.int .i64 k) rfl) ?_
      refine nl ?_
      refine tn (hK6 _ _ ?_)
      refine rt ?_
      refine f1 rfl rfl ?_
      exact ⟨iv (by rw [common_eq hkk hka hkb (fun h1 h2 he => hne (by simp only [Int.toNat_natCast]; rw [he]))]), hE⟩
  · refine hsk 8 rfl (by kernel_rfl) rfl rfl rfl rfl hS2 ?_
    refine hsk 9 rfl (by kernel_rfl) rfl rfl rfl rfl hS2 ?_
    refine hsk 10 rfl (by kernel_rfl) rfl rfl rfl rfl hS2 ?_
    refine hsk 11 rfl (by kernel_rfl) rfl rfl rfl rfl hS2 ?_
    refine hsk 12 rfl (by kernel_rfl) rfl rfl rfl rfl hS2 ?_
    refine hsk 13 rfl (by kernel_rfl) rfl rfl rfl rfl hS2 ?_
    refine hsk 14 rfl (by kernel_rfl) rfl rfl rfl rfl hS2 ?_
    refine hp 15 rfl (by kernel_rfl) (fun _ _ => pkf rfl) hS2 ?_
    refine hn (by kernel_rfl) ?_
    have hE := hE.drew
    refine tn (hK5 _ _ ?_)
    refine cf rfl ?_
    refine ext ?_
    refine te _ ?_
    refine te _ ?_
    refine be ?_
    refine tn (hK3 _ _ ?_)
    refine sq (fun K6 hK6 => ?_)
    refine rg ?_
    refine p (mvt (.int .i64 k) rfl) ?_
    refine p (ast (.int .i64 k) rfl) ?_
    refine nl ?_
    refine tn (hK6 _ _ ?_)
    refine rt ?_
    refine f1 rfl rfl ?_
    exact ⟨iv (by rw [common_eq hkk hka hkb (fun h1 h2 => by omega)]), hE⟩
end Go.Hb.Words
