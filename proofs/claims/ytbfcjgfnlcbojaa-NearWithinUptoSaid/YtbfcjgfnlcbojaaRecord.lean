/-
  Walks of record.Uint, hornbookref06.Uint and of strings.Builder. No conditions but those that each theorem names.
-/
import Derived.Test.YtbfcjgfnlcbojaaChecked
import Derived.Test.YtbfcjgfnlcbojaaCore
import Derived.Test.YtbfcjgfnlcbojaaWords
set_option maxRecDepth 20000
set_option linter.unusedVariables false
namespace Go.Hb.Record
open Go.Proofs
open Go.Hb.Words
theorem by29_9 : byteOk Try.prog 29 5 9 = true := by kernel_rfl
theorem so29 : sliceOk Try.prog 29 5 1 1 = true := by kernel_rfl
theorem u5 : Try.prog.underlying 5 = some (.int .u8) := by kernel_rfl
theorem us128 : (Try.prog.underlying 128).isSome = true := by kernel_rfl
theorem uint_w (n : Nat) (w : World) (hn : n < 18446744073709551616) :
    Ret Try.prog 55 (List.toArray [.int .u64 n]) w (fun v w' => v = str (uintB n) ∧ Wk w w') := by
  have hlen := uintB_len10 hn
  refine enter Try.func55 rfl Try.ntmps55 rfl ?_
  refine sq (fun K1 hK1 => ?_)
  refine rg ?_
  refine p asg ?_
  refine nl ?_
  refine tn (hK1 _ _ ?_)
  refine sq (fun K2 hK2 => ?_)
  refine rg ?_
  refine p asg ?_
  refine nl ?_
  refine tn (hK2 _ _ ?_)
  refine sq (fun K3 hK3 => ?_)
  refine blk ?_
  refine lp (fun gm σ1 w1 => ∃ (m : Nat) (l : List UInt8) (v : Value), (m < 18446744073709551616) ∧ (uintB n = l ++ uintB m) ∧ (World.ownsRow w1 w.heap.size 5 1 v l.length (U8 l)) ∧ (Wk w w1) ∧ (σ1 0 = .int .u64 m) ∧ (σ1 3 = v) ∧ (m = gm)) _ ⟨n, [], .slice none 0 0, hn, rfl, (World.ownsRow_nil _ _ _ _), (Md.refl _ _), (iv (by simp)), rfl, rfl⟩ ?_
  rintro gm σ1 w1 ⟨m, l, v, hm, hl, ho, hE, hs1_0, hs1_3, rfl⟩
  refine fx 0 hs1_0 (fx 3 hs1_3 ?_)
  have hsz := hE.size
  have hll : l.length ≤ 10 := by have := congrArg List.length hl; simp only [List.length_append] at this; omega
  refine sq (fun K4 hK4 => ?_)
  refine sq (fun K5 hK5 => ?_)
  refine rg ?_
  refine p (mvt (.int .u64 m) rfl) ?_
  refine p (gt rfl rfl) ?_
  refine nl ?_
  refine tn (hK5 _ _ ?_)
  refine cd rfl (fun hgt => ?_) (fun hgt => ?_)
  · refine skp ?_
    refine tn (hK4 _ _ ?_)
    refine blk ?_
    refine sq (fun K6 hK6 => ?_)
    refine rg ?_
    refine p (mvt (v) rfl) ?_
    refine p (mvt (.int .u64 m) rfl) ?_
    refine p (cvw u5 us128 rfl (u8_wrap m)) ?_
    refine p (bor rfl rfl (or128 m)) ?_
    refine e (bs1 so29 rfl rfl fun b10 w10 hb10 hN10 hB10 => ?_)
    refine e (ap so29 (own_nw ho hN10.md) rfl (by have := hN10.md.size; omega) rfl (Cells.of_blk hB10) (rfl) (rfl) (by omega) (by omega) fun v11 w11 ho11 hM11 hz11 hf11 => ?_)
    have ho11' : World.ownsRow w11 w.heap.size 5 1 v11 (l ++ [UInt8.ofNat (m % 128 + 128)]).length (U8 (l ++ [UInt8.ofNat (m % 128 + 128)])) := by rw [List.length_append, U8_app]; exact ho11
    refine p asg ?_
    refine nl ?_
    refine tn (hK6 _ _ ?_)
    refine rg ?_
    refine p (mvt (.int .u64 m) rfl) ?_
    refine p (shr rfl rfl (by decide) (shr7 m)) ?_
    refine p asg ?_
    refine nl ?_
    refine bn ?_
    refine tn ?_
    exact ⟨_, Nat.div_lt_self (by omega) (by omega), m / 128, l ++ [UInt8.ofNat (m % 128 + 128)], v11, (by omega), (by rw [hl, uintB_ge (by omega)]; simp), ho11', (Wk.own (hE.trans hN10.md) (own_nw ho hN10.md) hM11 (Nat.le_refl _)), (iv (by simp)), rfl, rfl⟩
  · refine ext ?_
    refine te _ ?_
    refine te _ ?_
    refine be ?_
    refine tn (hK3 _ _ ?_)
    refine sq (fun K6 hK6 => ?_)
    refine rg ?_
    refine p (mvt (v) rfl) ?_
    refine p (mvt (.int .u64 m) rfl) ?_
    refine p (cvw u5 us128 rfl (u8_wrap m)) ?_
    refine e (bs1 so29 rfl rfl fun b17 w17 hb17 hN17 hB17 => ?_)
    refine e (ap so29 (own_nw ho hN17.md) rfl (by have := hN17.md.size; omega) rfl (Cells.of_blk hB17) (rfl) (rfl) (by omega) (by omega) fun v18 w18 ho18 hM18 hz18 hf18 => ?_)
    have e16 : ((m % 256 : Nat) : Int) = ((UInt8.ofNat m).toNat : Int) := by rw [u8_nat m (by omega), Nat.mod_eq_of_lt (by omega)]
    have hl' : uintB n = l ++ [UInt8.ofNat m] := by rw [hl, uintB_lt (by omega)]
    have hE18 := Wk.own (hE.trans hN17.md) (own_nw ho hN17.md) hM18 (Nat.le_refl _)
    obtain ⟨a18, c18, rfl, hC18, _⟩ := own_cells ho18
    have hC18' : Cells w18.heap a18 (U8 (uintB n)) := by
      rw [hl', U8_app]
      show Cells _ _ (U8 l ++ [Value.int .u8 ((UInt8.ofNat m).toNat : Int)])
      rw [← e16]; exact hC18
    refine p (cvbs by29_9 rfl (hC18') (by rw [hl']; simp)) ?_
    refine p asg ?_
    refine nl ?_
    refine tn (hK6 _ _ ?_)
    refine rt ?_
    refine f1 rfl rfl ?_
    exact ⟨rfl, hE18⟩
end Go.Hb.Record
