/-
  Walks of walk.Shape and of the document's Shape (hornbookref19). No conditions but those that each theorem names.
-/
import Derived.Test.YtbfcjgfnlcbojaaChecked
import Derived.Test.YtbfcjgfnlcbojaaCore
import Derived.Test.YtbfcjgfnlcbojaaPlan
import Derived.Test.YtbfcjgfnlcbojaaNrp
set_option maxRecDepth 20000
set_option linter.unusedVariables false
namespace Go.Hb.Shape
open Go.Proofs
theorem ag3 : aggN Try.prog 3 = some none := by kernel_rfl
theorem ag4 : aggN Try.prog 4 = some none := by kernel_rfl
theorem ag5 : aggN Try.prog 5 = some none := by kernel_rfl
theorem ag29 : aggN Try.prog 29 = some none := by kernel_rfl
theorem ag32 : aggN Try.prog 32 = some none := by kernel_rfl
theorem ag42 : aggN Try.prog 42 = some none := by kernel_rfl
theorem ag74 : aggN Try.prog 74 = some none := by kernel_rfl
theorem ag76 : aggN Try.prog 76 = some (some 2) := by kernel_rfl
theorem ag77 : aggN Try.prog 77 = some none := by kernel_rfl
theorem ag79 : aggN Try.prog 79 = some (some 2) := by kernel_rfl
theorem ag81 : aggN Try.prog 81 = some (some 2) := by kernel_rfl
theorem ag95 : aggN Try.prog 95 = some none := by kernel_rfl
theorem c40 : Callable Try.prog 40 := callable Try.func40 (by kernel_rfl) (by kernel_rfl)
theorem c58 : Callable Try.prog 58 := callable Try.func58 (by kernel_rfl) (by kernel_rfl)
theorem cz3 : cellsN Try.prog 3 = some 1 := by kernel_rfl
theorem cz4 : cellsN Try.prog 4 = some 1 := by kernel_rfl
theorem cz5 : cellsN Try.prog 5 = some 1 := by kernel_rfl
theorem cz76 : cellsN Try.prog 76 = some 2 := by kernel_rfl
theorem cz79 : cellsN Try.prog 79 = some 2 := by kernel_rfl
theorem cz81 : cellsN Try.prog 81 = some 2 := by kernel_rfl
theorem es29 : elemSize Try.prog 29 = some 1 := by kernel_rfl
theorem es32 : elemSize Try.prog 32 = some 2 := by kernel_rfl
theorem es42 : elemSize Try.prog 42 = some 2 := by kernel_rfl
theorem es74 : elemSize Try.prog 74 = some 2 := by kernel_rfl
theorem es77 : elemSize Try.prog 77 = some 2 := by kernel_rfl
theorem es95 : elemSize Try.prog 95 = some 1 := by kernel_rfl
theorem fo76_0 : fieldOff Try.prog 76 0 = some 0 := by kernel_rfl
theorem fo76_1 : fieldOff Try.prog 76 1 = some 1 := by kernel_rfl
theorem fo79_0 : fieldOff Try.prog 79 0 = some 0 := by kernel_rfl
theorem fo79_1 : fieldOff Try.prog 79 1 = some 1 := by kernel_rfl
theorem fo81_0 : fieldOff Try.prog 81 0 = some 0 := by kernel_rfl
theorem fo81_1 : fieldOff Try.prog 81 1 = some 1 := by kernel_rfl
theorem fo82_0 : fieldOff Try.prog 82 0 = some 0 := by kernel_rfl
theorem fo82_1 : fieldOff Try.prog 82 1 = some 1 := by kernel_rfl
theorem fo97_0 : fieldOff Try.prog 97 0 = some 0 := by kernel_rfl
theorem fo97_1 : fieldOff Try.prog 97 1 = some 1 := by kernel_rfl
theorem fo97_2 : fieldOff Try.prog 97 2 = some 2 := by kernel_rfl
theorem fo137_0 : fieldOff Try.prog 137 0 = some 0 := by kernel_rfl
theorem fo137_1 : fieldOff Try.prog 137 1 = some 1 := by kernel_rfl
theorem fo137_2 : fieldOff Try.prog 137 2 = some 2 := by kernel_rfl
theorem so29 : sliceOk Try.prog 29 5 1 1 = true := by kernel_rfl
theorem so95 : sliceOk Try.prog 95 4 1 1 = true := by kernel_rfl
theorem st97 : structOk Try.prog 97 = some ([(0, 1), (1, 1), (2, 1)], [.slice none 0 0, .int .i64 0, .slice none 0 0]) := by kernel_rfl
theorem st137 : structOk Try.prog 137 = some ([(0, 1), (1, 1), (2, 1)], [.slice none 0 0, .int .i64 0, .slice none 0 0]) := by kernel_rfl
theorem u32 : Try.prog.underlying 32 = some (.slice 76) := by kernel_rfl
theorem u42 : Try.prog.underlying 42 = some (.slice 79) := by kernel_rfl
theorem u74 : Try.prog.underlying 74 = some (.slice 81) := by kernel_rfl
theorem u77 : Try.prog.underlying 77 = some (.slice 82) := by kernel_rfl
theorem wide : Try.prog.follows .mixedOrders = true := by kernel_rfl
theorem zs76 : zeroOf Try.prog 76 = some (some [.bool false, .slice none 0 0]) := by kernel_rfl
theorem zs79 : zeroOf Try.prog 79 = some (some [.bool false, .slice none 0 0]) := by kernel_rfl
theorem zs81 : zeroOf Try.prog 81 = some (some [.int .u8 0, .int .i64 0]) := by kernel_rfl

/-- the memory of a visit: the list, the next number, the marks -/
structure LKs (f : Nat → Value) (w : World) (pA ms : Nat) (aa : Option Addr) (n cA nx : Nat) (mk : List Nat) : Prop where
  blk : Blk w.heap pA [.slice aa n cA, .int .i64 nx, .slice (some ⟨ms, 0, none⟩) n n]
  mks : Blk w.heap ms (mk.map f)
  ne : pA ≠ ms
theorem LKs.drew {f : Nat → Value} {w : World} {pA ms : Nat} {aa : Option Addr} {n cA nx : Nat} {mk : List Nat} (h : LKs f w pA ms aa n cA nx mk) : LKs f w.drew pA ms aa n cA nx mk := ⟨h.blk, h.mks, h.ne⟩
theorem map_set' {f : Nat → Value} {mk : List Nat} {i x : Nat} : (mk.map f).set (0 + i * 1) (f x) = (mk.set i x).map f := by rw [List.map_set, Nat.zero_add, Nat.mul_one]
section
variable {a : List EnI} {f nx : Nat} {mk : List Nat} {n : Int}
theorem vsN_out (h : n ≠ nx) (h2 : ¬ (0 ≤ n ∧ n < nx)) : vs a (f + 1) (nx, mk) n = none := by
  rw [vs_ne h, if_neg (fun e => h2 ⟨e.1, e.2.1⟩)]
theorem vsN_in (h : n ≠ nx) (h0 : 0 ≤ n) (h1 : n < nx) : (vs a (f + 1) (nx, mk) n).isSome = decide (((mk.getD n.toNat 0 : Nat) : Int) = 2) := by
  rw [vs_ne h]
  by_cases h2 : mk.getD n.toNat 0 = 2
  · rw [if_pos ⟨h0, h1, h2⟩, decide_eq_true (by omega)]; rfl
  · rw [if_neg (fun e => h2 e.2.2), decide_eq_false (by omega)]; rfl
theorem vsN_st {s : Nat × List Nat} (h : n ≠ nx) (hs : vs a (f + 1) (nx, mk) n = some s) : s = (nx, mk) := by
  rw [vs_ne h] at hs
  split at hs
  · cases hs; rfl
  · cases hs
end

set_option maxHeartbeats 1000000 in
theorem visitC_w (f : Nat) (a : List EnI) (aa : Option Addr) (cA pA ms : Nat) (w0 : World) (nx : Nat) (mk : List Nat) (n : Int) (w : World) (hA : StI w0.heap aa a) (hpA : w0.heap.size ≤ pA) (hm : w0.heap.size ≤ ms) (hE : Wk w0 w) (hL : LKs bv8 w pA ms aa a.length cA nx mk) (hl : mk.length = a.length) (hnx : nx ≤ a.length) (hf : a.length < f + nx) (hb : a.length ≤ 1048576) (hes : ∀ i, i < a.length → (stOf a i).2.length ≤ 1073741824) :
    Ret Try.prog 58 (List.toArray [.pointer (some ⟨pA, 0, none⟩), .int .i64 n]) w (fun v w' => v = .bool (vs a f (nx, mk) n).isSome ∧ Md (fun q => q = pA ∨ q = ms) w w' ∧ ∀ s, vs a f (nx, mk) n = some s → LKs bv8 w' pA ms aa a.length cA s.1 s.2) := by
  induction f generalizing nx mk n w with
  | zero => omega
  | succ f ih =>
    have hFF : ∀ k, k < w0.heap.size → (k = pA ∨ k = ms) → False := fun k h1 h2 => by omega
    have hpl := hL.blk.lt
    have hml := hL.mks.lt
    have hne := hL.ne
    obtain ⟨ep, hbp⟩ := hL.blk
    refine enter Try.func58 rfl Try.ntmps58 rfl ?_
    refine sq (fun K1 hK1 => ?_)
    refine rg ?_
    refine p asg ?_
    refine nl ?_
    refine tn (hK1 _ _ ?_)
    refine sq (fun K2 hK2 => ?_)
    refine sq (fun K3 hK3 => ?_)
    refine rg ?_
    refine p (mvt (.int .i64 n) rfl) ?_
    refine p (mvt (.pointer (some ⟨pA, 0, none⟩)) rfl) ?_
    refine p (nc rfl) ?_
    refine p (fa fo137_1 rfl) ?_
    refine p (ld ag3 rfl (hL.blk.cel 1)) ?_
    refine p (nei rfl rfl) ?_
    refine nl ?_
    refine tn (hK3 _ _ ?_)
    refine cd rfl (fun hc13 => ?_) (fun hc13 => ?_)
    · refine sq (fun K4 hK4 => ?_)
      refine rg ?_
      refine p (mvt (.int .i64 n) rfl) ?_
      refine p (ge rfl rfl) ?_
      refine p mv ?_
      refine gs (t := 16) rfl (fun hg16 => ?_) (fun hg16 => ?_)
      · refine pg rfl rfl rfl (mvt (.int .i64 n) rfl) ?_
        refine pg rfl rfl rfl (mvt (.pointer (some ⟨pA, 0, none⟩)) rfl) ?_
        refine pg rfl rfl rfl (nc rfl) ?_
        refine pg rfl rfl rfl (fa fo137_1 rfl) ?_
        refine pg rfl rfl rfl (ld ag3 rfl (hL.blk.cel 1)) ?_
        refine pg rfl rfl rfl (lt rfl rfl) ?_
        refine p (pkt rfl) ?_
        refine p mv ?_
        refine gs (t := 24) rfl (fun hg24 => ?_) (fun hg24 => ?_)
        · refine pg rfl rfl rfl (mvt (.pointer (some ⟨pA, 0, none⟩)) rfl) ?_
          refine pg rfl rfl rfl (nc rfl) ?_
          refine pg rfl rfl rfl (fa fo137_2 rfl) ?_
          refine pg rfl rfl rfl (ld ag29 rfl (hL.blk.cel 2)) ?_
          refine pg rfl rfl rfl (mvt (.int .i64 n) rfl) ?_
          refine pg rfl rfl rfl (ia es29 rfl rfl (by omega)) ?_
          refine pg rfl rfl rfl (ld ag5 rfl (show _ = some (Value.int .u8 ((mk.getD n.toNat 0 : Nat) : Int)) from blk_nv hL.mks (i := n.toNat) (by omega))) ?_
          refine pg rfl rfl rfl (eqi rfl rfl) ?_
          refine p (pkt rfl) ?_
          refine p asg ?_
          refine nl ?_
          refine tn (hK4 _ _ ?_)
          refine rt ?_
          refine tr ?_
          refine f1 rfl rfl ?_
          refine ⟨congrArg Value.bool (vsN_in hc13 (by omega) (by omega)).symm, Md.refl _ _, fun s hs => by rw [vsN_st hc13 hs]; exact hL⟩
        · refine sk rfl rfl rfl rfl ?_
          refine sk rfl rfl rfl rfl ?_
          refine sk rfl rfl rfl rfl ?_
          refine sk rfl rfl rfl rfl ?_
          refine sk rfl rfl rfl rfl ?_
          refine sk rfl rfl rfl rfl ?_
          refine sk rfl rfl rfl rfl ?_
          refine sk rfl rfl rfl rfl ?_
          refine p (pkf rfl) ?_
          refine p asg ?_
          refine nl ?_
          refine tn (hK4 _ _ ?_)
          refine rt ?_
          refine tr ?_
          refine f1 rfl rfl ?_
          rw [vsN_out hc13 (by omega)]
          exact ⟨rfl, Md.refl _ _, fun s hs => by cases hs⟩
      · refine sk rfl rfl rfl rfl ?_
        refine sk rfl rfl rfl rfl ?_
        refine sk rfl rfl rfl rfl ?_
        refine sk rfl rfl rfl rfl ?_
        refine sk rfl rfl rfl rfl ?_
        refine sk rfl rfl rfl rfl ?_
        refine p (pkf rfl) ?_
        refine p mv ?_
        refine sk rfl rfl rfl rfl ?_
        refine sk rfl rfl rfl rfl ?_
        refine sk rfl rfl rfl rfl ?_
        refine sk rfl rfl rfl rfl ?_
        refine sk rfl rfl rfl rfl ?_
        refine sk rfl rfl rfl rfl ?_
        refine sk rfl rfl rfl rfl ?_
        refine sk rfl rfl rfl rfl ?_
        refine p (pkf rfl) ?_
        refine p asg ?_
        refine nl ?_
        refine tn (hK4 _ _ ?_)
        refine rt ?_
        refine tr ?_
        refine f1 rfl rfl ?_
        rw [vsN_out hc13 (by omega)]
        exact ⟨rfl, Md.refl _ _, fun s hs => by cases hs⟩
    · obtain rfl : n = (nx : Int) := Classical.not_not.1 hc13
      refine skp ?_
      refine tn (hK2 _ _ ?_)
      refine sq (fun K4 hK4 => ?_)
      refine sq (fun K5 hK5 => ?_)
      refine rg ?_
      refine p (mvt (.int .i64 (nx : Int)) rfl) ?_
      refine p (mvt (.pointer (some ⟨pA, 0, none⟩)) rfl) ?_
      refine p (nc rfl) ?_
      refine p (fa fo137_0 rfl) ?_
      refine p (ld ag32 rfl (hL.blk.cel 0)) ?_
      refine p (lnl u32 rfl rfl) ?_
      refine p (ge rfl rfl) ?_
      refine nl ?_
      refine tn (hK5 _ _ ?_)
      refine cd rfl (fun hc40 => ?_) (fun hc40 => ?_)
      · refine sq (fun K6 hK6 => ?_)
        refine rg ?_
        refine p asg ?_
        refine nl ?_
        refine tn (hK6 _ _ ?_)
        refine rt ?_
        refine tr ?_
        refine f1 rfl rfl ?_
        rw [vs_out rfl (by omega)]
        exact ⟨rfl, Md.refl _ _, fun s hs => by cases hs⟩
      · refine skp ?_
        refine tn (hK4 _ _ ?_)
        refine sq (fun K6 hK6 => ?_)
        refine rg ?_
        refine p (mvt (.pointer (some ⟨pA, 0, none⟩)) rfl) ?_
        refine p (nc rfl) ?_
        refine p (fa fo137_1 rfl) ?_
        refine p (ld ag3 rfl (hL.blk.cel 1)) ?_
        refine p (adv ((nx + 1 : Nat) : Int) rfl rfl (w64n (by omega) (by omega))) ?_
        refine p (nc rfl) ?_
        refine p (fa fo137_1 rfl) ?_
        refine e (stT cz3 rfl rfl rfl hbp (by simp) fun w5 hM5 hB5 => ?_)
        have hB5x : Blk w5.heap pA [.slice aa a.length cA, .int .i64 ((nx + 1 : Nat) : Int), .slice (some ⟨ms, 0, none⟩) a.length a.length] := ⟨_, hB5⟩
        have hms5 := hM5.B hL.mks (fun e => hne e.symm)
        obtain ⟨em, hbm⟩ := hms5
        refine nl ?_
        refine tn (hK6 _ _ ?_)
        refine sq (fun K7 hK7 => ?_)
        refine rg ?_
        refine p (mvt (.pointer (some ⟨pA, 0, none⟩)) rfl) ?_
        refine p (nc rfl) ?_
        refine p (fa fo137_2 rfl) ?_
        refine p (ld ag29 rfl (hB5x.cel 2)) ?_
        refine p (mvt (.int .i64 (nx : Int)) rfl) ?_
        refine p (ia es29 rfl rfl (by omega)) ?_
        refine e (stT cz5 rfl rfl rfl hbm (by simp; omega) fun w6 hM6 hB6 => ?_)
        have hms6 : Blk w6.heap ms ((mk.set nx 1).map bv8) := by rw [← map_set']; exact ⟨_, hB6⟩
        have hL6 : LKs bv8 w6 pA ms aa a.length cA (nx + 1) (mk.set nx 1) := ⟨hM6.B hB5x hne, hms6, hne⟩
        have hMd6 : Md (fun q => q = pA ∨ q = ms) w w6 := Md.trans (hM5.mono (fun k _ h => .inl h)) (hM6.mono (fun k _ h => .inr h))
        have hE6 : Wk w0 w6 := Md.trans' hE hMd6 hFF
        obtain ⟨ea, ec, h2c, hEd0⟩ := hA.two (i := nx) (by omega)
        have hEd := hEd0.wk hE6
        refine nl ?_
        refine tn (hK7 _ _ ?_)
        refine sq (fun K8 hK8 => ?_)
        refine rg ?_
        refine p (mvt (.pointer (some ⟨pA, 0, none⟩)) rfl) ?_
        refine p (nc rfl) ?_
        refine p (fa fo137_0 rfl) ?_
        refine p (ld ag32 rfl (hL6.blk.cel 0)) ?_
        refine p (mvt (.int .i64 (nx : Int)) rfl) ?_
        refine p (ia' es32 rfl rfl (by omega) (hA.ok (by omega))) ?_
        refine p (lda ag76 rfl rfl (two_wk hE6 h2c)) ?_
        refine e (alT zs76 fun b5 w7 hb7 hN7 hB7 => ?_)
        refine e (staT cz76 rfl rfl rfl rfl hB7 (by simp) fun w8 hM8 hB8 => ?_)
        have hB8x : Blk w8.heap b5 [Value.bool (stOf a nx).1, .slice ea (stOf a nx).2.length ec] := ⟨_, hB8⟩
        have hE8 : Wk w6 w8 := Md.trans' hN7.md hM8 (fun k hk h => by omega)
        have hL8 : LKs bv8 w8 pA ms aa a.length cA (nx + 1) (mk.set nx 1) := ⟨hE8.B hL6.blk, hE8.B hL6.mks, hne⟩
        have h6s := hMd6.size
        refine nl ?_
        refine tn (hK8 _ _ ?_)
        refine sq (fun K9 hK9 => ?_)
        refine sq (fun K10 hK10 => ?_)
        refine rg ?_
        refine p (fa fo76_1 rfl) ?_
        refine p (ld ag74 rfl (hB8x.cel 1)) ?_
        refine p (lnl u74 rfl rfl) ?_
        refine p mv ?_
        refine nl ?_
        refine tn (hK10 _ _ ?_)
        refine blk ?_
        refine lp (fun gm σ1 wM => ∃ (k nx2 : Nat) (mk2 : List Nat), (k ≤ (stOf a nx).2.length) ∧ (vse a f (nx + 1) (mk.set nx 1) ((stOf a nx).2.take k) = some (nx2, mk2)) ∧ (Ris ((stOf a nx).2.take k)) ∧ (Wk w0 wM) ∧ (Md (fun q => q = pA ∨ q = ms) w wM) ∧ (LKs bv8 wM pA ms aa a.length cA nx2 mk2) ∧ (Blk (wM).heap b5 [Value.bool (stOf a nx).1, .slice ea (stOf a nx).2.length ec]) ∧ (σ1 0 = .pointer (some ⟨pA, 0, none⟩)) ∧ (σ1 1 = .int .i64 (nx : Int)) ∧ (σ1 5 = .pointer (some ⟨b5, 0, none⟩)) ∧ (σ1 62 = .slice ea (stOf a nx).2.length ec) ∧ (σ1 63 = .int .i64 (stOf a nx).2.length) ∧ (σ1 64 = .int .i64 k) ∧ ((stOf a nx).2.length - k = gm)) _ ⟨0, nx + 1, mk.set nx 1, (by omega), rfl, List.Pairwise.nil, (Md.trans hE6 hE8), (Md.trans' hMd6 hE8 (fun k _ h => h.elim)), hL8, hB8x, rfl, rfl, rfl, rfl, rfl, rfl, rfl⟩ ?_
        rintro gm σ1 wM ⟨k, nx2, mk2, hk, hvs, hri, hEM, hMM, hLM, hB5M, hs1_0, hs1_1, hs1_5, hs1_62, hs1_63, hs1_64, rfl⟩
        refine fx 0 hs1_0 (fx 1 hs1_1 (fx 5 hs1_5 (fx 62 hs1_62 (fx 63 hs1_63 (fx 64 hs1_64 ?_)))))
        refine sq (fun K11 hK11 => ?_)
        refine rg ?_
        refine p (lt rfl rfl) ?_
        refine nl ?_
        refine tn (hK11 _ _ ?_)
        refine sq (fun K12 hK12 => ?_)
        refine cd rfl (fun hc65 => ?_) (fun hc65 => ?_)
        · refine skp ?_
          refine tn (hK12 _ _ ?_)
          refine sq (fun K13 hK13 => ?_)
          refine blk ?_
          refine sq (fun K14 hK14 => ?_)
          have hesl := hes nx (by omega)
          obtain ⟨⟨c, z⟩, hek⟩ : ∃ e, (stOf a nx).2[k]? = some e := ⟨_, List.getElem?_eq_getElem (by omega)⟩
          obtain ⟨⟨cp, zp⟩, hep⟩ : ∃ e, (stOf a nx).2[k - 1]? = some e := ⟨_, List.getElem?_eq_getElem (by omega)⟩
          have hle2 := vse_le hvs (by omega)
          simp only [List.length_set] at hle2
          refine rg ?_
          refine p (mvt (.int .i64 k) rfl) ?_
          refine p (ia' es74 rfl rfl (by omega) (hEd0.ok (by omega))) ?_
          refine p (lda ag81 rfl rfl (two_wk hEM (hEd0.two hek))) ?_
          refine e (alT zs81 fun b7 w10 hb10 hN10 hB10 => ?_)
          refine p (ast (.int .i64 k) rfl) ?_
          refine e (staT cz81 rfl rfl rfl rfl hB10 (by simp) fun w11 hM11 hB11 => ?_)
          have hB11x : Blk w11.heap b7 [Value.int .u8 c.toNat, .int .i64 z] := ⟨_, hB11⟩
          have hE11 : Wk wM w11 := Md.trans' hN10.md hM11 (fun k hk h => by omega)
          have hL11 : LKs bv8 w11 pA ms aa a.length cA nx2 mk2 := ⟨hE11.B hLM.blk, hE11.B hLM.mks, hne⟩
          have hMM11 : Md (fun q => q = pA ∨ q = ms) w w11 := Md.trans' hMM hE11 (fun k _ h => h.elim)
          have hM0s := hMM.size
          refine nl ?_
          refine tn (hK14 _ _ ?_)
          refine sq (fun K15 hK15 => ?_)
          have hS11 : (fun w' => Wk w0 w' ∧ Blk w'.heap b5 [Value.bool (stOf a nx).1, .slice ea (stOf a nx).2.length ec] ∧ Blk w'.heap b7 [Value.int .u8 c.toNat, .int .i64 z]) w11.drew := ⟨(Md.trans hEM hE11).drew, hE11.B hB5M, hB11x⟩
          refine hst (fun w' => Wk w0 w' ∧ Blk w'.heap b5 [Value.bool (stOf a nx).1, .slice ea (stOf a nx).2.length ec] ∧ Blk w'.heap b7 [Value.int .u8 c.toNat, .int .i64 z]) wide hS11 ?_
          refine hp 0 rfl (by kernel_rfl) (fun _ _ => mvt (.int .i64 k) rfl) hS11 ?_
          refine hp 1 rfl (by kernel_rfl) (fun _ _ => gt rfl rfl) hS11 ?_
          refine hp 2 rfl (by kernel_rfl) (fun _ _ => mv) hS11 ?_
          refine hgs (t := 71) rfl (fun hg71 => ?_) (fun hg71 => ?_)
          · refine hpg 3 rfl (by kernel_rfl) rfl rfl rfl (fun _ _ => fa fo76_1 rfl) hS11 ?_
            refine hpg 4 rfl (by kernel_rfl) rfl rfl rfl (fun w' hS => ld ag74 rfl (hS.2.1.cel 1)) hS11 ?_
            refine hpg 5 rfl (by kernel_rfl) rfl rfl rfl (fun _ _ => mvt (.int .i64 k) rfl) hS11 ?_
            refine hpg 6 rfl (by kernel_rfl) rfl rfl rfl (fun _ _ => sbv ((k - 1 : Nat) : Int) rfl rfl (w64n (by omega) (by omega))) hS11 ?_
            refine hpg 7 rfl (by kernel_rfl) rfl rfl rfl (fun _ _ => ia' es74 rfl rfl (by omega) (hEd0.ok (by omega))) hS11 ?_
            refine hpg 8 rfl (by kernel_rfl) rfl rfl rfl (fun _ _ => fa fo81_0 rfl) hS11 ?_
            refine hpg 9 rfl (by kernel_rfl) rfl rfl rfl (fun w' hS => ld ag5 rfl (show _ = some (Value.int .u8 (cp.toNat : Int)) from (hEd0.wk hS.1).b (k - 1) (cp, zp) hep)) hS11 ?_
            refine hpg 10 rfl (by kernel_rfl) rfl rfl rfl (fun _ _ => fa fo81_0 rfl) hS11 ?_
            refine hpg 11 rfl (by kernel_rfl) rfl rfl rfl (fun w' hS => ld ag5 rfl (hS.2.2.cel 0)) hS11 ?_
            refine hpg 12 rfl (by kernel_rfl) rfl rfl rfl (fun _ _ => ge rfl rfl) hS11 ?_
            refine hp 13 rfl (by kernel_rfl) (fun _ _ => pkt rfl) hS11 ?_
            refine hp 14 rfl (by kernel_rfl) (fun _ _ => mv) hS11 ?_
            refine hgs (t := 83) rfl (fun hg83 => ?_) (fun hg83 => ?_)
            · refine hsk 15 rfl (by kernel_rfl) rfl rfl rfl rfl hS11 ?_
              refine hsk 16 rfl (by kernel_rfl) rfl rfl rfl rfl hS11 ?_
              refine hsk 17 rfl (by kernel_rfl) rfl rfl rfl rfl hS11 ?_
              refine hsk 18 rfl (by kernel_rfl) rfl rfl rfl rfl hS11 ?_
              refine hsk 19 rfl (by kernel_rfl) rfl rfl rfl rfl hS11 ?_
              refine hp 20 rfl (by kernel_rfl) (fun _ _ => pkt rfl) hS11 ?_
              refine hn (by kernel_rfl) ?_
              refine tn (hK15 _ _ ?_)
              refine ct rfl ?_
              refine sq (fun K16 hK16 => ?_)
              refine rg ?_
              refine p asg ?_
              refine nl ?_
              refine tn (hK16 _ _ ?_)
              refine rt ?_
              refine br ?_
              refine tr ?_
              refine tr ?_
              refine br ?_
              refine tr ?_
              refine f1 rfl rfl ?_
              rw [vs_nris (by omega) (not_ris (by omega) hek hep (by show c.toNat ≤ cp.toNat; omega))]
              exact ⟨rfl, hMM11.drew, fun s hs => by cases hs⟩
            · refine hpg 15 rfl (by kernel_rfl) rfl rfl rfl (fun _ _ => mvt (.pointer (some ⟨pA, 0, none⟩)) rfl) hS11 ?_
              refine hpg 16 rfl (by kernel_rfl) rfl rfl rfl (fun _ _ => fa fo81_1 rfl) hS11 ?_
              refine hpg 17 rfl (by kernel_rfl) rfl rfl rfl (fun w' hS => ld ag3 rfl (hS.2.2.cel 1)) hS11 ?_
              refine heg 18 rfl (by kernel_rfl) rfl rfl rfl (cl c58 (ih nx2 mk2 z _ (Md.trans hEM hE11).drew (LKs.drew hL11) (by omega) (by omega) (by omega)) rfl fun v87 w87 hR87 => ?_)
              obtain ⟨rfl, hM87, hst87⟩ := hR87
              have hMd87 : Md (fun q => q = pA ∨ q = ms) w w87 := Md.trans hMM11 ((Md.drewL hM87))
              have hE87 : Wk w0 w87 := Md.trans' hE hMd87 hFF
              have hS11_18 : (fun w' => Wk w0 w' ∧ Blk w'.heap b5 [Value.bool (stOf a nx).1, .slice ea (stOf a nx).2.length ec] ∧ Blk w'.heap b7 [Value.int .u8 c.toNat, .int .i64 z]) w87 := ⟨hE87, hM87.B (hE11.B hB5M) (fun e => by omega), hM87.B hB11x (fun e => by omega)⟩
              refine ⟨hS11_18, ?_⟩
              refine hpg 19 rfl (by kernel_rfl) rfl rfl rfl (fun _ _ => no rfl) hS11_18 ?_
              refine hp 20 rfl (by kernel_rfl) (fun _ _ => pkf rfl) hS11_18 ?_
              refine hn (by kernel_rfl) ?_
              refine tn (hK15 _ _ ?_)
              refine cb rfl (fun hc89 => ?_) (fun hc89 => ?_)
              · have hn87 : vs a f (nx2, mk2) z = none := by simpa using hc89
                refine sq (fun K16 hK16 => ?_)
                refine rg ?_
                refine p asg ?_
                refine nl ?_
                refine tn (hK16 _ _ ?_)
                refine rt ?_
                refine br ?_
                refine tr ?_
                refine tr ?_
                refine br ?_
                refine tr ?_
                refine f1 rfl rfl ?_
                rw [vs_fail (k := k + 1) (by omega) (by rw [vse_step hvs hek]; exact hn87)]
                exact ⟨rfl, hMd87, fun s hs => by cases hs⟩
              · obtain ⟨s87, hs87⟩ : ∃ s, vs a f (nx2, mk2) z = some s := Option.isSome_iff_exists.1 (by simpa using hc89)
                refine skp ?_
                refine bn ?_
                refine tn (hK13 _ _ ?_)
                refine rg ?_
                refine p (ad rfl rfl (wi64 (by omega))) ?_
                refine p mv ?_
                refine nl ?_
                refine tn ?_
                exact ⟨_, by omega, k + 1, s87.1, s87.2, (by omega), ((by rw [vse_step hvs hek]; exact hs87)), (ris_take_succ hri hek (fun q h0 hq => by rw [hep] at hq; cases hq; show cp.toNat < c.toNat; omega)), hE87, hMd87, (hst87 _ hs87), (hM87.B (hE11.B hB5M) (fun e => by omega)), rfl, rfl, rfl, rfl, rfl, rfl, rfl⟩
          · refine hsk 3 rfl (by kernel_rfl) rfl rfl rfl rfl hS11 ?_
            refine hsk 4 rfl (by kernel_rfl) rfl rfl rfl rfl hS11 ?_
            refine hsk 5 rfl (by kernel_rfl) rfl rfl rfl rfl hS11 ?_
            refine hsk 6 rfl (by kernel_rfl) rfl rfl rfl rfl hS11 ?_
            refine hsk 7 rfl (by kernel_rfl) rfl rfl rfl rfl hS11 ?_
            refine hsk 8 rfl (by kernel_rfl) rfl rfl rfl rfl hS11 ?_
            refine hsk 9 rfl (by kernel_rfl) rfl rfl rfl rfl hS11 ?_
            refine hsk 10 rfl (by kernel_rfl) rfl rfl rfl rfl hS11 ?_
            refine hsk 11 rfl (by kernel_rfl) rfl rfl rfl rfl hS11 ?_
            refine hsk 12 rfl (by kernel_rfl) rfl rfl rfl rfl hS11 ?_
            refine hp 13 rfl (by kernel_rfl) (fun _ _ => pkf rfl) hS11 ?_
            refine hp 14 rfl (by kernel_rfl) (fun _ _ => mv) hS11 ?_
            refine hpg 15 rfl (by kernel_rfl) rfl rfl rfl (fun _ _ => mvt (.pointer (some ⟨pA, 0, none⟩)) rfl) hS11 ?_
            refine hpg 16 rfl (by kernel_rfl) rfl rfl rfl (fun _ _ => fa fo81_1 rfl) hS11 ?_
            refine hpg 17 rfl (by kernel_rfl) rfl rfl rfl (fun w' hS => ld ag3 rfl (hS.2.2.cel 1)) hS11 ?_
            refine heg 18 rfl (by kernel_rfl) rfl rfl rfl (cl c58 (ih nx2 mk2 z _ (Md.trans hEM hE11).drew (LKs.drew hL11) (by omega) (by omega) (by omega)) rfl fun v87 w87 hR87 => ?_)
            obtain ⟨rfl, hM87, hst87⟩ := hR87
            have hMd87 : Md (fun q => q = pA ∨ q = ms) w w87 := Md.trans hMM11 ((Md.drewL hM87))
            have hE87 : Wk w0 w87 := Md.trans' hE hMd87 hFF
            have hS11_18 : (fun w' => Wk w0 w' ∧ Blk w'.heap b5 [Value.bool (stOf a nx).1, .slice ea (stOf a nx).2.length ec] ∧ Blk w'.heap b7 [Value.int .u8 c.toNat, .int .i64 z]) w87 := ⟨hE87, hM87.B (hE11.B hB5M) (fun e => by omega), hM87.B hB11x (fun e => by omega)⟩
            refine ⟨hS11_18, ?_⟩
            refine hpg 19 rfl (by kernel_rfl) rfl rfl rfl (fun _ _ => no rfl) hS11_18 ?_
            refine hp 20 rfl (by kernel_rfl) (fun _ _ => pkf rfl) hS11_18 ?_
            refine hn (by kernel_rfl) ?_
            refine tn (hK15 _ _ ?_)
            refine cb rfl (fun hc89 => ?_) (fun hc89 => ?_)
            · have hn87 : vs a f (nx2, mk2) z = none := by simpa using hc89
              refine sq (fun K16 hK16 => ?_)
              refine rg ?_
              refine p asg ?_
              refine nl ?_
              refine tn (hK16 _ _ ?_)
              refine rt ?_
              refine br ?_
              refine tr ?_
              refine tr ?_
              refine br ?_
              refine tr ?_
              refine f1 rfl rfl ?_
              rw [vs_fail (k := k + 1) (by omega) (by rw [vse_step hvs hek]; exact hn87)]
              exact ⟨rfl, hMd87, fun s hs => by cases hs⟩
            · obtain ⟨s87, hs87⟩ : ∃ s, vs a f (nx2, mk2) z = some s := Option.isSome_iff_exists.1 (by simpa using hc89)
              refine skp ?_
              refine bn ?_
              refine tn (hK13 _ _ ?_)
              refine rg ?_
              refine p (ad rfl rfl (wi64 (by omega))) ?_
              refine p mv ?_
              refine nl ?_
              refine tn ?_
              exact ⟨_, by omega, k + 1, s87.1, s87.2, (by omega), ((by rw [vse_step hvs hek]; exact hs87)), (ris_take_succ hri hek (fun q h0 hq => by omega)), hE87, hMd87, (hst87 _ hs87), (hM87.B (hE11.B hB5M) (fun e => by omega)), rfl, rfl, rfl, rfl, rfl, rfl, rfl⟩
        · refine ext ?_
          refine te _ ?_
          refine te _ ?_
          refine be ?_
          refine tn (hK9 _ _ ?_)
          refine sq (fun K13 hK13 => ?_)
          obtain ⟨em2, hbm2⟩ := hLM.mks
          rw [show k = (stOf a nx).2.length by omega, List.take_length] at hvs hri
          have hle2 := vse_le hvs (by omega)
          simp only [List.length_set] at hle2
          have hve := vs_end (by omega) hri hvs
          refine rg ?_
          refine p (mvt (.pointer (some ⟨pA, 0, none⟩)) rfl) ?_
          refine p (nc rfl) ?_
          refine p (fa fo137_2 rfl) ?_
          refine p (ld ag29 rfl (hLM.blk.cel 2)) ?_
          refine p (mvt (.int .i64 (nx : Int)) rfl) ?_
          refine p (ia es29 rfl rfl (by omega)) ?_
          refine e (stT cz5 rfl rfl rfl hbm2 (by simp; omega) fun w14 hM14 hB14 => ?_)
          have hms14 : Blk w14.heap ms ((mk2.set nx 2).map bv8) := by rw [← map_set']; exact ⟨_, hB14⟩
          have hL14 : LKs bv8 w14 pA ms aa a.length cA nx2 (mk2.set nx 2) := ⟨hM14.B hLM.blk hne, hms14, hne⟩
          have hMd14 : Md (fun q => q = pA ∨ q = ms) w w14 := Md.trans hMM (hM14.mono (fun k _ h => .inr h))
          have hB14x := hM14.B hB5M (fun e => by omega)
          refine nl ?_
          refine tn (hK13 _ _ ?_)
          refine sq (fun K14 hK14 => ?_)
          refine rg ?_
          refine p (fa fo76_1 rfl) ?_
          refine p (ld ag74 rfl (hB14x.cel 1)) ?_
          refine p (lnl u74 rfl rfl) ?_
          refine p (gt rfl rfl) ?_
          refine p mv ?_
          refine gs (t := 101) rfl (fun hg101 => ?_) (fun hg101 => ?_)
          · refine sk rfl rfl rfl rfl ?_
            refine sk rfl rfl rfl rfl ?_
            refine p (pkt rfl) ?_
            refine p mv ?_
            refine sk rfl rfl rfl rfl ?_
            refine sk rfl rfl rfl rfl ?_
            refine sk rfl rfl rfl rfl ?_
            refine sk rfl rfl rfl rfl ?_
            refine sk rfl rfl rfl rfl ?_
            refine sk rfl rfl rfl rfl ?_
            refine p (pkt rfl) ?_
            refine p asg ?_
            refine nl ?_
            refine tn (hK14 _ _ ?_)
            refine rt ?_
            refine f1 rfl rfl ?_
            rw [hve, if_pos (leaf_n (by omega))]
            exact ⟨rfl, hMd14, fun s hs => by cases hs; exact hL14⟩
          · refine pg rfl rfl rfl (fa fo76_0 rfl) ?_
            refine pg rfl rfl rfl (ld ag4 rfl (hB14x.cel 0)) ?_
            refine p (pkf rfl) ?_
            refine p mv ?_
            refine gb (t := 105) rfl (fun hg105 => ?_) (fun hg105 => ?_)
            · refine sk rfl rfl rfl rfl ?_
              refine sk rfl rfl rfl rfl ?_
              refine sk rfl rfl rfl rfl ?_
              refine sk rfl rfl rfl rfl ?_
              refine sk rfl rfl rfl rfl ?_
              refine sk rfl rfl rfl rfl ?_
              refine p (pkt rfl) ?_
              refine p asg ?_
              refine nl ?_
              refine tn (hK14 _ _ ?_)
              refine rt ?_
              refine f1 rfl rfl ?_
              rw [hve, if_pos (leaf_f hg105)]
              exact ⟨rfl, hMd14, fun s hs => by cases hs; exact hL14⟩
            · refine pg rfl rfl rfl (mvt (.pointer (some ⟨pA, 0, none⟩)) rfl) ?_
              refine pg rfl rfl rfl (nc rfl) ?_
              refine pg rfl rfl rfl (fa fo137_0 rfl) ?_
              refine pg rfl rfl rfl (ld ag32 rfl (hL14.blk.cel 0)) ?_
              refine pg rfl rfl rfl (lnl u32 rfl rfl) ?_
              refine pg rfl rfl rfl (eqi rfl rfl) ?_
              refine p (pkf rfl) ?_
              refine p asg ?_
              refine nl ?_
              refine tn (hK14 _ _ ?_)
              refine rt ?_
              refine f1 rfl rfl ?_
              rw [hve, leaf_e (by omega) hg105]
              by_cases h1 : a.length = 1
              · rw [if_pos (decide_eq_true h1)]
                exact ⟨congrArg Value.bool (decide_eq_true (by omega)), hMd14, fun s hs => by cases hs; exact hL14⟩
              · rw [if_neg (by simpa using h1)]
                exact ⟨congrArg Value.bool (decide_eq_false (by omega)), hMd14, fun s hs => by cases hs⟩

def shE (a : List EnI) : Int := if shaped a = true then 0 else 190
theorem shE_no {a : List EnI} (h : shaped a = false) : shE a = 190 := if_neg (by rw [h]; exact Bool.noConfusion)
theorem shE_ok {a : List EnI} (h : shaped a = true) : shE a = 0 := if_pos h
def bvb (x : Nat) : Value := .bool (decide (x = 2))
theorem map_bvb {mk : List Nat} {i : Nat} (h : mk.getD i 0 = 0) : (mk.set i 1).map bvb = mk.map bvb := by
  refine List.ext_getElem? fun j => ?_
  rw [List.getElem?_map, List.getElem?_map, List.getElem?_set]
  by_cases e : i = j
  · subst e
    rw [if_pos rfl]
    by_cases hl : i < mk.length
    · rw [if_pos hl, List.getElem?_eq_getElem hl]
      rw [List.getD_eq_getElem?_getD, List.getElem?_eq_getElem hl] at h
      have h0 : mk[i] = 0 := h
      rw [h0]; rfl
    · rw [if_neg hl, List.getElem?_eq_none (by omega)]
  · rw [if_neg e]
theorem zero_rep (n : Nat) : ∀ i, 0 ≤ i → (List.replicate n 0).getD i 0 = 0 := fun i _ => by
  rw [List.getD_eq_getElem?_getD, List.getElem?_replicate]; split <;> rfl

set_option maxHeartbeats 1000000 in
theorem shapeC_w (a : List EnI) (aa : Option Addr) (cA : Nat) (w : World) (hA : StI w.heap aa a) (hal : a.length ≤ 140737488355328) (hes : ∀ i, i < a.length → (stOf a i).2.length ≤ 1073741824) :
    Ret Try.prog 47 (List.toArray [.slice aa a.length cA]) w (fun v w' => v = .int .i64 (shE a) ∧ Wk w w') := by
  refine enter Try.func47 rfl Try.ntmps47 rfl ?_
  refine sq (fun K1 hK1 => ?_)
  refine rg ?_
  refine p asg ?_
  refine nl ?_
  refine tn (hK1 _ _ ?_)
  refine sq (fun K2 hK2 => ?_)
  refine sq (fun K3 hK3 => ?_)
  refine rg ?_
  refine p (mvt (.slice aa a.length cA) rfl) ?_
  refine p (lnl u32 rfl rfl) ?_
  refine p (eqi rfl rfl) ?_
  refine p mv ?_
  refine gs (t := 7) rfl (fun hg7 => ?_) (fun hg7 => ?_)
  · refine sk rfl rfl rfl rfl ?_
    refine sk rfl rfl rfl rfl ?_
    refine sk rfl rfl rfl rfl ?_
    refine p (pkt rfl) ?_
    refine nl ?_
    refine tn (hK3 _ _ ?_)
    refine ct rfl ?_
    refine sq (fun K4 hK4 => ?_)
    refine rg ?_
    refine p asg ?_
    refine nl ?_
    refine tn (hK4 _ _ ?_)
    refine rt ?_
    refine tr ?_
    refine f1 rfl rfl ?_
    exact ⟨iv (shE_no (shaped_no (by omega))).symm, Md.refl _ _⟩
  · refine pg rfl rfl rfl (mvt (.slice aa a.length cA) rfl) ?_
    refine pg rfl rfl rfl (lnl u32 rfl rfl) ?_
    refine pg rfl rfl rfl (gt rfl rfl) ?_
    refine p (pkf rfl) ?_
    refine nl ?_
    refine tn (hK3 _ _ ?_)
    refine cd rfl (fun hc11 => ?_) (fun hc11 => ?_)
    · refine sq (fun K4 hK4 => ?_)
      refine rg ?_
      refine p asg ?_
      refine nl ?_
      refine tn (hK4 _ _ ?_)
      refine rt ?_
      refine tr ?_
      refine f1 rfl rfl ?_
      exact ⟨iv (shE_no (shaped_no (by omega))).symm, Md.refl _ _⟩
    · refine skp ?_
      refine tn (hK2 _ _ ?_)
      refine sq (fun K4 hK4 => ?_)
      refine rg ?_
      refine p (mvt (.slice aa a.length cA) rfl) ?_
      refine p (mvt (.slice aa a.length cA) rfl) ?_
      refine p (lnl u32 rfl rfl) ?_
      refine e (mks (zv := .int .u8 0) so29 rfl rfl rfl rfl (by omega) (by unfold maxLen; omega) fun bm wm hbm hNm hom => ?_)
      have hBm : Blk wm.heap bm ((List.replicate a.length 0).map bv8) := by rw [List.map_replicate]; exact own_blk (hom _ (Nat.le_refl _))
      refine p (bld (ps := [(0, .slice aa a.length cA), (2, .slice (some ⟨bm, 0, none⟩) a.length a.length)]) (L := [.slice aa a.length cA, .int .i64 0, .slice (some ⟨bm, 0, none⟩) a.length a.length]) st137 rfl (rfl)) ?_
      refine e (bxa rfl fun b17 w17 hb17 hN17 hB17 => ?_)
      have hLb : LKs bv8 w17 b17 bm aa a.length cA 0 (List.replicate a.length 0) := ⟨hB17, hN17.md.B hBm, by have := hNm.size; omega⟩
      have hEb : Wk w w17 := Md.trans hNm.md hN17.md
      have hsz := hNm.md.size
      refine p asg ?_
      refine nl ?_
      refine tn (hK4 _ _ ?_)
      refine sq (fun K5 hK5 => ?_)
      refine sq (fun K6 hK6 => ?_)
      refine rg ?_
      refine p mv ?_
      refine e (cl c58 (visitC_w (a.length + 1) a aa cA b17 bm w 0 (List.replicate a.length 0) 0 _ hA (by omega) (by omega) hEb hLb (by simp) (by omega) (by omega) (by omega) hes) rfl fun v19 w19 hR19 => ?_)
      obtain ⟨rfl, hMc, hst⟩ := hR19
      have hEc : Wk w w19 := Md.trans' hEb hMc (fun k hk h => by omega)
      refine p (no rfl) ?_
      refine p mv ?_
      refine gb (t := 21) rfl (fun hg21 => ?_) (fun hg21 => ?_)
      · have hn : vs a (a.length + 1) (0, List.replicate a.length 0) 0 = none := by simpa using hg21
        refine sk rfl rfl rfl rfl ?_
        refine sk rfl rfl rfl rfl ?_
        refine sk rfl rfl rfl rfl ?_
        refine sk rfl rfl rfl rfl ?_
        refine sk rfl rfl rfl rfl ?_
        refine sk rfl rfl rfl rfl ?_
        refine sk rfl rfl rfl rfl ?_
        refine p (pkt rfl) ?_
        refine nl ?_
        refine tn (hK6 _ _ ?_)
        refine ct rfl ?_
        refine sq (fun K7 hK7 => ?_)
        refine rg ?_
        refine p asg ?_
        refine nl ?_
        refine tn (hK7 _ _ ?_)
        refine rt ?_
        refine tr ?_
        refine f1 rfl rfl ?_
        exact ⟨iv (shE_no (shaped_none hn)).symm, hEc⟩
      · obtain ⟨s9, hs9⟩ : ∃ s, vs a (a.length + 1) (0, List.replicate a.length 0) 0 = some s := Option.isSome_iff_exists.1 (by simpa using hg21)
        have hL9 := hst _ hs9
        refine pg rfl rfl rfl mv ?_
        refine pg rfl rfl rfl (nc rfl) ?_
        refine pg rfl rfl rfl (fa fo137_1 rfl) ?_
        refine pg rfl rfl rfl (ld ag3 rfl (hL9.blk.cel 1)) ?_
        refine pg rfl rfl rfl (mvt (.slice aa a.length cA) rfl) ?_
        refine pg rfl rfl rfl (lnl u32 rfl rfl) ?_
        refine pg rfl rfl rfl (nei rfl rfl) ?_
        refine p (pkf rfl) ?_
        refine nl ?_
        refine tn (hK6 _ _ ?_)
        refine cd rfl (fun hc29 => ?_) (fun hc29 => ?_)
        · refine sq (fun K7 hK7 => ?_)
          refine rg ?_
          refine p asg ?_
          refine nl ?_
          refine tn (hK7 _ _ ?_)
          refine rt ?_
          refine tr ?_
          refine f1 rfl rfl ?_
          exact ⟨iv (shE_no (by rw [shaped_some (by omega) (by omega) hs9]; exact decide_eq_false (by omega))).symm, hEc⟩
        · refine skp ?_
          refine tn (hK5 _ _ ?_)
          refine sq (fun K7 hK7 => ?_)
          refine rg ?_
          refine p asg ?_
          refine nl ?_
          refine tn (hK7 _ _ ?_)
          refine rt ?_
          refine f1 rfl rfl ?_
          exact ⟨iv (shE_ok (by rw [shaped_some (by omega) (by omega) hs9]; exact decide_eq_true (by omega))).symm, hEc⟩
set_option maxHeartbeats 1000000 in
theorem visitR_w (f : Nat) (a : List EnI) (aa : Option Addr) (cA pA ms : Nat) (w0 : World) (nx : Nat) (mk : List Nat) (n : Int) (w : World) (hA : StI w0.heap aa a) (hpA : w0.heap.size ≤ pA) (hm : w0.heap.size ≤ ms) (hE : Wk w0 w) (hL : LKs bvb w pA ms aa a.length cA nx mk) (hl : mk.length = a.length) (hnx : nx ≤ a.length) (hf : a.length < f + nx) (hb : a.length ≤ 1048576) (hes : ∀ i, i < a.length → (stOf a i).2.length ≤ 1073741824) (hz : ∀ i, nx ≤ i → mk.getD i 0 = 0) :
    Ret Try.prog 40 (List.toArray [.pointer (some ⟨pA, 0, none⟩), .int .i64 n]) w (fun v w' => v = .bool (vs a f (nx, mk) n).isSome ∧ Md (fun q => q = pA ∨ q = ms) w w' ∧ ∀ s, vs a f (nx, mk) n = some s → LKs bvb w' pA ms aa a.length cA s.1 s.2) := by
  induction f generalizing nx mk n w with
  | zero => omega
  | succ f ih =>
    have hFF : ∀ k, k < w0.heap.size → (k = pA ∨ k = ms) → False := fun k h1 h2 => by omega
    have hpl := hL.blk.lt
    have hml := hL.mks.lt
    have hne := hL.ne
    obtain ⟨ep, hbp⟩ := hL.blk
    refine enter Try.func40 rfl Try.ntmps40 rfl ?_
    refine sq (fun K1 hK1 => ?_)
    refine rg ?_
    refine p asg ?_
    refine nl ?_
    refine tn (hK1 _ _ ?_)
    refine sq (fun K2 hK2 => ?_)
    refine sq (fun K3 hK3 => ?_)
    refine rg ?_
    refine p (mvt (.int .i64 n) rfl) ?_
    refine p (lt rfl rfl) ?_
    refine p mv ?_
    refine gs (t := 10) rfl (fun hg10 => ?_) (fun hg10 => ?_)
    · refine sk rfl rfl rfl rfl ?_
      refine sk rfl rfl rfl rfl ?_
      refine sk rfl rfl rfl rfl ?_
      refine sk rfl rfl rfl rfl ?_
      refine sk rfl rfl rfl rfl ?_
      refine sk rfl rfl rfl rfl ?_
      refine sk rfl rfl rfl rfl ?_
      refine p (pkt rfl) ?_
      refine p mv ?_
      refine sk rfl rfl rfl rfl ?_
      refine sk rfl rfl rfl rfl ?_
      refine sk rfl rfl rfl rfl ?_
      refine sk rfl rfl rfl rfl ?_
      refine sk rfl rfl rfl rfl ?_
      refine sk rfl rfl rfl rfl ?_
      refine p (pkt rfl) ?_
      refine nl ?_
      refine tn (hK3 _ _ ?_)
      refine ct rfl ?_
      refine sq (fun K4 hK4 => ?_)
      refine rg ?_
      refine p asg ?_
      refine nl ?_
      refine tn (hK4 _ _ ?_)
      refine rt ?_
      refine tr ?_
      refine f1 rfl rfl ?_
      rw [vsN_out (by omega) (by omega)]
      exact ⟨rfl, Md.refl _ _, fun s hs => by cases hs⟩
    · refine pg rfl rfl rfl (mvt (.int .i64 n) rfl) ?_
      refine pg rfl rfl rfl (mvt (.pointer (some ⟨pA, 0, none⟩)) rfl) ?_
      refine pg rfl rfl rfl (nc rfl) ?_
      refine pg rfl rfl rfl (fa fo97_0 rfl) ?_
      refine pg rfl rfl rfl (ld ag42 rfl (hL.blk.cel 0)) ?_
      refine pg rfl rfl rfl (lnl u42 rfl rfl) ?_
      refine pg rfl rfl rfl (ge rfl rfl) ?_
      refine p (pkf rfl) ?_
      refine p mv ?_
      refine gs (t := 19) rfl (fun hg19 => ?_) (fun hg19 => ?_)
      · refine sk rfl rfl rfl rfl ?_
        refine sk rfl rfl rfl rfl ?_
        refine sk rfl rfl rfl rfl ?_
        refine sk rfl rfl rfl rfl ?_
        refine sk rfl rfl rfl rfl ?_
        refine sk rfl rfl rfl rfl ?_
        refine p (pkt rfl) ?_
        refine nl ?_
        refine tn (hK3 _ _ ?_)
        refine ct rfl ?_
        refine sq (fun K4 hK4 => ?_)
        refine rg ?_
        refine p asg ?_
        refine nl ?_
        refine tn (hK4 _ _ ?_)
        refine rt ?_
        refine tr ?_
        refine f1 rfl rfl ?_
        have hv0 : vs a (f + 1) (nx, mk) n = none := by
          by_cases h : n = nx
          · exact vs_out h (by omega)
          · exact vsN_out h (by omega)
        rw [hv0]
        exact ⟨rfl, Md.refl _ _, fun s hs => by cases hs⟩
      · refine pg rfl rfl rfl (mvt (.int .i64 n) rfl) ?_
        refine pg rfl rfl rfl (mvt (.pointer (some ⟨pA, 0, none⟩)) rfl) ?_
        refine pg rfl rfl rfl (nc rfl) ?_
        refine pg rfl rfl rfl (fa fo97_1 rfl) ?_
        refine pg rfl rfl rfl (ld ag3 rfl (hL.blk.cel 1)) ?_
        refine pg rfl rfl rfl (gt rfl rfl) ?_
        refine p (pkf rfl) ?_
        refine nl ?_
        refine tn (hK3 _ _ ?_)
        refine cd rfl (fun hc26 => ?_) (fun hc26 => ?_)
        · refine sq (fun K4 hK4 => ?_)
          refine rg ?_
          refine p asg ?_
          refine nl ?_
          refine tn (hK4 _ _ ?_)
          refine rt ?_
          refine tr ?_
          refine f1 rfl rfl ?_
          rw [vsN_out (by omega) (by omega)]
          exact ⟨rfl, Md.refl _ _, fun s hs => by cases hs⟩
        · refine skp ?_
          refine tn (hK2 _ _ ?_)
          refine sq (fun K4 hK4 => ?_)
          refine sq (fun K5 hK5 => ?_)
          refine rg ?_
          refine p (mvt (.int .i64 n) rfl) ?_
          refine p (mvt (.pointer (some ⟨pA, 0, none⟩)) rfl) ?_
          refine p (nc rfl) ?_
          refine p (fa fo97_1 rfl) ?_
          refine p (ld ag3 rfl (hL.blk.cel 1)) ?_
          refine p (lt rfl rfl) ?_
          refine nl ?_
          refine tn (hK5 _ _ ?_)
          refine cd rfl (fun hc32 => ?_) (fun hc32 => ?_)
          · refine sq (fun K6 hK6 => ?_)
            refine rg ?_
            refine p (mvt (.pointer (some ⟨pA, 0, none⟩)) rfl) ?_
            refine p (nc rfl) ?_
            refine p (fa fo97_2 rfl) ?_
            refine p (ld ag95 rfl (hL.blk.cel 2)) ?_
            refine p (mvt (.int .i64 n) rfl) ?_
            refine p (ia es95 rfl rfl (by omega)) ?_
            refine p (ld ag4 rfl (show _ = some (Value.bool (decide (mk.getD n.toNat 0 = 2))) from blk_nv hL.mks (i := n.toNat) (by omega))) ?_
            refine p asg ?_
            refine nl ?_
            refine tn (hK6 _ _ ?_)
            refine rt ?_
            refine tr ?_
            refine f1 rfl rfl ?_
            exact ⟨congrArg Value.bool ((vsN_in (by omega) (by omega) (by omega)).trans (by rw [decide_eq_decide]; omega)).symm, Md.refl _ _, fun s hs => by rw [vsN_st (by omega) hs]; exact hL⟩
          · obtain rfl : n = (nx : Int) := by omega
            refine skp ?_
            refine tn (hK4 _ _ ?_)
            refine sq (fun K6 hK6 => ?_)
            refine rg ?_
            refine p (mvt (.pointer (some ⟨pA, 0, none⟩)) rfl) ?_
            refine p (mvt (.pointer (some ⟨pA, 0, none⟩)) rfl) ?_
            refine p (nc rfl) ?_
            refine p (fa fo97_1 rfl) ?_
            refine p (ld ag3 rfl (hL.blk.cel 1)) ?_
            refine p (adv ((nx + 1 : Nat) : Int) rfl rfl (w64n (by omega) (by omega))) ?_
            refine p (nc rfl) ?_
            refine p (fa fo97_1 rfl) ?_
            refine e (stT cz3 rfl rfl rfl hbp (by simp) fun w5 hM5 hB5 => ?_)
            have hL6 : LKs bvb w5 pA ms aa a.length cA (nx + 1) (mk.set nx 1) := ⟨⟨_, hB5⟩, by rw [map_bvb (hz nx (Nat.le_refl _))]; exact hM5.B hL.mks (fun e => hne e.symm), hne⟩
            have hMd6 : Md (fun q => q = pA ∨ q = ms) w w5 := hM5.mono (fun k _ h => .inl h)
            have hE6 : Wk w0 w5 := Md.trans' hE hMd6 hFF
            obtain ⟨ea, ec, h2c, hEd0⟩ := hA.two (i := nx) (by omega)
            refine nl ?_
            refine tn (hK6 _ _ ?_)
            refine sq (fun K7 hK7 => ?_)
            refine rg ?_
            refine p (mvt (.pointer (some ⟨pA, 0, none⟩)) rfl) ?_
            refine p (nc rfl) ?_
            refine p (fa fo97_0 rfl) ?_
            refine p (ld ag42 rfl (hL6.blk.cel 0)) ?_
            refine p (mvt (.int .i64 (nx : Int)) rfl) ?_
            refine p (ia' es42 rfl rfl (by omega) (hA.ok (by omega))) ?_
            refine p (lda ag79 rfl rfl (two_wk hE6 h2c)) ?_
            refine e (alT zs79 fun b5 w7 hb7 hN7 hB7 => ?_)
            refine e (staT cz79 rfl rfl rfl rfl hB7 (by simp) fun w8 hM8 hB8 => ?_)
            have hB8x : Blk w8.heap b5 [Value.bool (stOf a nx).1, .slice ea (stOf a nx).2.length ec] := ⟨_, hB8⟩
            have hE8 : Wk w5 w8 := Md.trans' hN7.md hM8 (fun k hk h => by omega)
            have hL8 : LKs bvb w8 pA ms aa a.length cA (nx + 1) (mk.set nx 1) := ⟨hE8.B hL6.blk, hE8.B hL6.mks, hne⟩
            have h6s := hMd6.size
            have hMd8 : Md (fun q => q = pA ∨ q = ms) w w8 := Md.trans' hMd6 hE8 (fun k _ h => h.elim)
            refine nl ?_
            refine tn (hK7 _ _ ?_)
            refine sqc (fun σ1 wC => (leafOK a (stOf a nx) = true) ∧ (wC = w8) ∧ (σ1 0 = .pointer (some ⟨pA, 0, none⟩)) ∧ (σ1 1 = .int .i64 (nx : Int)) ∧ (σ1 5 = .pointer (some ⟨b5, 0, none⟩))) ?_ ?_
            · refine sq (fun K8 hK8 => ?_)
              refine rg ?_
              refine p (fa fo79_1 rfl) ?_
              refine p (ld ag77 rfl (hB8x.cel 1)) ?_
              refine p (lnl u77 rfl rfl) ?_
              refine p (eqi rfl rfl) ?_
              refine p mv ?_
              refine gs (t := 59) rfl (fun hg59 => ?_) (fun hg59 => ?_)
              · refine pg rfl rfl rfl (fa fo79_0 rfl) ?_
                refine pg rfl rfl rfl (ld ag4 rfl (hB8x.cel 0)) ?_
                refine pg rfl rfl rfl (no rfl) ?_
                refine p (pkt rfl) ?_
                refine p mv ?_
                refine gb (t := 64) rfl (fun hg64 => ?_) (fun hg64 => ?_)
                · refine pg rfl rfl rfl (mvt (.pointer (some ⟨pA, 0, none⟩)) rfl) ?_
                  refine pg rfl rfl rfl (nc rfl) ?_
                  refine pg rfl rfl rfl (fa fo97_0 rfl) ?_
                  refine pg rfl rfl rfl (ld ag42 rfl (hL8.blk.cel 0)) ?_
                  refine pg rfl rfl rfl (lnl u42 rfl rfl) ?_
                  refine pg rfl rfl rfl (gt rfl rfl) ?_
                  refine p (pkt rfl) ?_
                  refine nl ?_
                  refine tn (hK8 _ _ ?_)
                  refine cd rfl (fun hc71 => ?_) (fun hc71 => ?_)
                  · refine sq (fun K9 hK9 => ?_)
                    refine rg ?_
                    refine p asg ?_
                    refine nl ?_
                    refine tn (hK9 _ _ ?_)
                    refine rt ?_
                    refine tr ?_
                    refine f1 rfl rfl ?_
                    rw [vs_nleaf (by omega) (by rw [leaf_e (by omega) (by simpa using hg64)]; exact decide_eq_false (by omega))]
                    exact ⟨rfl, hMd8, fun s hs => by cases hs⟩
                  · refine skp ?_
                    refine tn ?_
                    exact ⟨((by rw [leaf_e (by omega) (by simpa using hg64)]; exact decide_eq_true (by omega))), rfl, rfl, rfl, rfl⟩
                · refine sk rfl rfl rfl rfl ?_
                  refine sk rfl rfl rfl rfl ?_
                  refine sk rfl rfl rfl rfl ?_
                  refine sk rfl rfl rfl rfl ?_
                  refine sk rfl rfl rfl rfl ?_
                  refine sk rfl rfl rfl rfl ?_
                  refine p (pkf rfl) ?_
                  refine nl ?_
                  refine tn (hK8 _ _ ?_)
                  refine cf rfl ?_
                  refine skp ?_
                  refine tn ?_
                  exact ⟨(leaf_f (by simpa using hg64)), rfl, rfl, rfl, rfl⟩
              · refine sk rfl rfl rfl rfl ?_
                refine sk rfl rfl rfl rfl ?_
                refine sk rfl rfl rfl rfl ?_
                refine p (pkf rfl) ?_
                refine p mv ?_
                refine sk rfl rfl rfl rfl ?_
                refine sk rfl rfl rfl rfl ?_
                refine sk rfl rfl rfl rfl ?_
                refine sk rfl rfl rfl rfl ?_
                refine sk rfl rfl rfl rfl ?_
                refine sk rfl rfl rfl rfl ?_
                refine p (pkf rfl) ?_
                refine nl ?_
                refine tn (hK8 _ _ ?_)
                refine cf rfl ?_
                refine skp ?_
                refine tn ?_
                exact ⟨(leaf_n (by omega)), rfl, rfl, rfl, rfl⟩
            rintro σ1 wC ⟨hlf, hwC, hs1_0, hs1_1, hs1_5⟩
            refine fx 0 hs1_0 (fx 1 hs1_1 (fx 5 hs1_5 ?_))
            subst hwC
            refine sq (fun K8 hK8 => ?_)
            refine sq (fun K9 hK9 => ?_)
            refine rg ?_
            refine p asg ?_
            refine nl ?_
            refine tn (hK9 _ _ ?_)
            refine blk ?_
            refine lp (fun gm σ2 wM => ∃ (k nx2 : Nat) (mk2 : List Nat), (k ≤ (stOf a nx).2.length) ∧ (vse a f (nx + 1) (mk.set nx 1) ((stOf a nx).2.take k) = some (nx2, mk2)) ∧ (Ris ((stOf a nx).2.take k)) ∧ (Wk w0 wM) ∧ (Md (fun q => q = pA ∨ q = ms) w wM) ∧ (LKs bvb wM pA ms aa a.length cA nx2 mk2) ∧ (Blk (wM).heap b5 [Value.bool (stOf a nx).1, .slice ea (stOf a nx).2.length ec]) ∧ (σ2 0 = .pointer (some ⟨pA, 0, none⟩)) ∧ (σ2 1 = .int .i64 (nx : Int)) ∧ (σ2 5 = .pointer (some ⟨b5, 0, none⟩)) ∧ (σ2 6 = .int .i64 k) ∧ ((stOf a nx).2.length - k = gm)) _ ⟨0, nx + 1, mk.set nx 1, (by omega), rfl, List.Pairwise.nil, (Md.trans hE6 hE8), hMd8, hL8, hB8x, rfl, rfl, rfl, rfl, rfl⟩ ?_
            rintro gm σ2 wM ⟨k, nx2, mk2, hk, hvs, hri, hEM, hMM, hLM, hB5M, hs2_0, hs2_1, hs2_5, hs2_6, rfl⟩
            refine fx 0 hs2_0 (fx 1 hs2_1 (fx 5 hs2_5 (fx 6 hs2_6 ?_)))
            refine sq (fun K10 hK10 => ?_)
            refine sq (fun K11 hK11 => ?_)
            refine rg ?_
            refine p (mvt (.int .i64 k) rfl) ?_
            refine p (fa fo79_1 rfl) ?_
            refine p (ld ag77 rfl (hB5M.cel 1)) ?_
            refine p (lnl u77 rfl rfl) ?_
            refine p (lt rfl rfl) ?_
            refine nl ?_
            refine tn (hK11 _ _ ?_)
            refine cd rfl (fun hc76 => ?_) (fun hc76 => ?_)
            · refine skp ?_
              refine tn (hK10 _ _ ?_)
              refine sq (fun K12 hK12 => ?_)
              refine blk ?_
              refine sq (fun K13 hK13 => ?_)
              refine sq (fun K14 hK14 => ?_)
              have hesl := hes nx (by omega)
              obtain ⟨⟨c, z⟩, hek⟩ : ∃ e, (stOf a nx).2[k]? = some e := ⟨_, List.getElem?_eq_getElem (by omega)⟩
              obtain ⟨⟨cp, zp⟩, hep⟩ : ∃ e, (stOf a nx).2[k - 1]? = some e := ⟨_, List.getElem?_eq_getElem (by omega)⟩
              have hle2 := vse_le hvs (by omega)
              simp only [List.length_set] at hle2
              have hz2 := vse_zero hvs (fun i hi => by rw [getD_set_ne _ _ (by omega)]; exact hz i (by omega))
              have hS12 : (fun w' => Wk w0 w' ∧ Blk w'.heap b5 [Value.bool (stOf a nx).1, .slice ea (stOf a nx).2.length ec]) wM.drew := ⟨hEM.drew, hB5M⟩
              refine hst (fun w' => Wk w0 w' ∧ Blk w'.heap b5 [Value.bool (stOf a nx).1, .slice ea (stOf a nx).2.length ec]) wide hS12 ?_
              refine hp 0 rfl (by kernel_rfl) (fun _ _ => mvt (.int .i64 k) rfl) hS12 ?_
              refine hp 1 rfl (by kernel_rfl) (fun _ _ => gt rfl rfl) hS12 ?_
              refine hp 2 rfl (by kernel_rfl) (fun _ _ => mv) hS12 ?_
              refine hgs (t := 81) rfl (fun hg81 => ?_) (fun hg81 => ?_)
              · refine hpg 3 rfl (by kernel_rfl) rfl rfl rfl (fun _ _ => fa fo79_1 rfl) hS12 ?_
                refine hpg 4 rfl (by kernel_rfl) rfl rfl rfl (fun w' hS => ld ag77 rfl (hS.2.cel 1)) hS12 ?_
                refine hpg 5 rfl (by kernel_rfl) rfl rfl rfl (fun _ _ => mvt (.int .i64 k) rfl) hS12 ?_
                refine hpg 6 rfl (by kernel_rfl) rfl rfl rfl (fun _ _ => ia' es77 rfl rfl (by omega) (hEd0.ok (by omega))) hS12 ?_
                refine hpg 7 rfl (by kernel_rfl) rfl rfl rfl (fun _ _ => fa fo82_0 rfl) hS12 ?_
                refine hpg 8 rfl (by kernel_rfl) rfl rfl rfl (fun w' hS => ld ag5 rfl (show _ = some (Value.int .u8 (c.toNat : Int)) from (hEd0.wk hS.1).b k (c, z) hek)) hS12 ?_
                refine hpg 9 rfl (by kernel_rfl) rfl rfl rfl (fun _ _ => fa fo79_1 rfl) hS12 ?_
                refine hpg 10 rfl (by kernel_rfl) rfl rfl rfl (fun w' hS => ld ag77 rfl (hS.2.cel 1)) hS12 ?_
                refine hpg 11 rfl (by kernel_rfl) rfl rfl rfl (fun _ _ => mvt (.int .i64 k) rfl) hS12 ?_
                refine hpg 12 rfl (by kernel_rfl) rfl rfl rfl (fun _ _ => sbv ((k - 1 : Nat) : Int) rfl rfl (w64n (by omega) (by omega))) hS12 ?_
                refine hpg 13 rfl (by kernel_rfl) rfl rfl rfl (fun _ _ => ia' es77 rfl rfl (by omega) (hEd0.ok (by omega))) hS12 ?_
                refine hpg 14 rfl (by kernel_rfl) rfl rfl rfl (fun _ _ => fa fo82_0 rfl) hS12 ?_
                refine hpg 15 rfl (by kernel_rfl) rfl rfl rfl (fun w' hS => ld ag5 rfl (show _ = some (Value.int .u8 (cp.toNat : Int)) from (hEd0.wk hS.1).b (k - 1) (cp, zp) hep)) hS12 ?_
                refine hpg 16 rfl (by kernel_rfl) rfl rfl rfl (fun _ _ => le rfl rfl) hS12 ?_
                refine hp 17 rfl (by kernel_rfl) (fun _ _ => pkt rfl) hS12 ?_
                refine hn (by kernel_rfl) ?_
                refine tn (hK14 _ _ ?_)
                refine cd rfl (fun hc96 => ?_) (fun hc96 => ?_)
                · refine sq (fun K15 hK15 => ?_)
                  refine rg ?_
                  refine p asg ?_
                  refine nl ?_
                  refine tn (hK15 _ _ ?_)
                  refine rt ?_
                  refine tr ?_
                  refine br ?_
                  refine tr ?_
                  refine tr ?_
                  refine br ?_
                  refine tr ?_
                  refine f1 rfl rfl ?_
                  rw [vs_nris (by omega) (not_ris (by omega) hek hep (by show c.toNat ≤ cp.toNat; omega))]
                  exact ⟨rfl, hMM.drew, fun s hs => by cases hs⟩
                · refine skp ?_
                  refine tn (hK13 _ _ ?_)
                  refine sq (fun K15 hK15 => ?_)
                  refine rg ?_
                  refine p (mvt (.pointer (some ⟨pA, 0, none⟩)) rfl) ?_
                  refine p (fa fo79_1 rfl) ?_
                  refine p (ld ag77 rfl (hB5M.cel 1)) ?_
                  refine p (mvt (.int .i64 k) rfl) ?_
                  refine p (ia' es77 rfl rfl (by omega) (hEd0.ok (by omega))) ?_
                  refine p (fa fo82_1 rfl) ?_
                  refine p (ld ag3 rfl (show _ = some (Value.int .i64 z) from (hEd0.wk hEM).to k (c, z) hek)) ?_
                  refine e (cl c40 (ih nx2 mk2 z _ (Md.drew hEM) (LKs.drew hLM) (by omega) (by omega) (by omega) hz2) rfl fun v104 w104 hR104 => ?_)
                  obtain ⟨rfl, hM87, hst87⟩ := hR104
                  have hMd87 : Md (fun q => q = pA ∨ q = ms) w w104 := Md.trans hMM (Md.drewL hM87)
                  have hE87 : Wk w0 w104 := Md.trans' hE hMd87 hFF
                  refine p asg ?_
                  refine nl ?_
                  refine tn (hK15 _ _ ?_)
                  refine sq (fun K16 hK16 => ?_)
                  refine rg ?_
                  refine p mv ?_
                  refine p (no rfl) ?_
                  refine nl ?_
                  refine tn (hK16 _ _ ?_)
                  refine cb rfl (fun hc106 => ?_) (fun hc106 => ?_)
                  · have hn87 : vs a f (nx2, mk2) z = none := by simpa using hc106
                    refine sq (fun K17 hK17 => ?_)
                    refine rg ?_
                    refine p asg ?_
                    refine nl ?_
                    refine tn (hK17 _ _ ?_)
                    refine rt ?_
                    refine br ?_
                    refine tr ?_
                    refine tr ?_
                    refine br ?_
                    refine tr ?_
                    refine f1 rfl rfl ?_
                    rw [vs_fail (k := k + 1) (by omega) (by rw [vse_step hvs hek]; exact hn87)]
                    exact ⟨rfl, hMd87, fun s hs => by cases hs⟩
                  · obtain ⟨s87, hs87⟩ : ∃ s, vs a f (nx2, mk2) z = some s := Option.isSome_iff_exists.1 (by simpa using hc106)
                    refine skp ?_
                    refine bn ?_
                    refine tn (hK12 _ _ ?_)
                    refine rg ?_
                    refine p (mvt (.int .i64 k) rfl) ?_
                    refine p (ad rfl rfl (wi64 (by omega))) ?_
                    refine p asg ?_
                    refine nl ?_
                    refine tn ?_
                    exact ⟨_, by omega, k + 1, s87.1, s87.2, (by omega), ((by rw [vse_step hvs hek]; exact hs87)), (ris_take_succ hri hek (fun q h0 hq => by rw [hep] at hq; cases hq; show cp.toNat < c.toNat; omega)), hE87, hMd87, (hst87 _ hs87), (hM87.B hB5M (fun e => by omega)), rfl, rfl, rfl, rfl, rfl⟩
              · refine hsk 3 rfl (by kernel_rfl) rfl rfl rfl rfl hS12 ?_
                refine hsk 4 rfl (by kernel_rfl) rfl rfl rfl rfl hS12 ?_
                refine hsk 5 rfl (by kernel_rfl) rfl rfl rfl rfl hS12 ?_
                refine hsk 6 rfl (by kernel_rfl) rfl rfl rfl rfl hS12 ?_
                refine hsk 7 rfl (by kernel_rfl) rfl rfl rfl rfl hS12 ?_
                refine hsk 8 rfl (by kernel_rfl) rfl rfl rfl rfl hS12 ?_
                refine hsk 9 rfl (by kernel_rfl) rfl rfl rfl rfl hS12 ?_
                refine hsk 10 rfl (by kernel_rfl) rfl rfl rfl rfl hS12 ?_
                refine hsk 11 rfl (by kernel_rfl) rfl rfl rfl rfl hS12 ?_
                refine hsk 12 rfl (by kernel_rfl) rfl rfl rfl rfl hS12 ?_
                refine hsk 13 rfl (by kernel_rfl) rfl rfl rfl rfl hS12 ?_
                refine hsk 14 rfl (by kernel_rfl) rfl rfl rfl rfl hS12 ?_
                refine hsk 15 rfl (by kernel_rfl) rfl rfl rfl rfl hS12 ?_
                refine hsk 16 rfl (by kernel_rfl) rfl rfl rfl rfl hS12 ?_
                refine hp 17 rfl (by kernel_rfl) (fun _ _ => pkf rfl) hS12 ?_
                refine hn (by kernel_rfl) ?_
                refine tn (hK14 _ _ ?_)
                refine cf rfl ?_
                refine skp ?_
                refine tn (hK13 _ _ ?_)
                refine sq (fun K15 hK15 => ?_)
                refine rg ?_
                refine p (mvt (.pointer (some ⟨pA, 0, none⟩)) rfl) ?_
                refine p (fa fo79_1 rfl) ?_
                refine p (ld ag77 rfl (hB5M.cel 1)) ?_
                refine p (mvt (.int .i64 k) rfl) ?_
                refine p (ia' es77 rfl rfl (by omega) (hEd0.ok (by omega))) ?_
                refine p (fa fo82_1 rfl) ?_
                refine p (ld ag3 rfl (show _ = some (Value.int .i64 z) from (hEd0.wk hEM).to k (c, z) hek)) ?_
                refine e (cl c40 (ih nx2 mk2 z _ (Md.drew hEM) (LKs.drew hLM) (by omega) (by omega) (by omega) hz2) rfl fun v104 w104 hR104 => ?_)
                obtain ⟨rfl, hM87, hst87⟩ := hR104
                have hMd87 : Md (fun q => q = pA ∨ q = ms) w w104 := Md.trans hMM (Md.drewL hM87)
                have hE87 : Wk w0 w104 := Md.trans' hE hMd87 hFF
                refine p asg ?_
                refine nl ?_
                refine tn (hK15 _ _ ?_)
                refine sq (fun K16 hK16 => ?_)
                refine rg ?_
                refine p mv ?_
                refine p (no rfl) ?_
                refine nl ?_
                refine tn (hK16 _ _ ?_)
                refine cb rfl (fun hc106 => ?_) (fun hc106 => ?_)
                · have hn87 : vs a f (nx2, mk2) z = none := by simpa using hc106
                  refine sq (fun K17 hK17 => ?_)
                  refine rg ?_
                  refine p asg ?_
                  refine nl ?_
                  refine tn (hK17 _ _ ?_)
                  refine rt ?_
                  refine br ?_
                  refine tr ?_
                  refine tr ?_
                  refine br ?_
                  refine tr ?_
                  refine f1 rfl rfl ?_
                  rw [vs_fail (k := k + 1) (by omega) (by rw [vse_step hvs hek]; exact hn87)]
                  exact ⟨rfl, hMd87, fun s hs => by cases hs⟩
                · obtain ⟨s87, hs87⟩ : ∃ s, vs a f (nx2, mk2) z = some s := Option.isSome_iff_exists.1 (by simpa using hc106)
                  refine skp ?_
                  refine bn ?_
                  refine tn (hK12 _ _ ?_)
                  refine rg ?_
                  refine p (mvt (.int .i64 k) rfl) ?_
                  refine p (ad rfl rfl (wi64 (by omega))) ?_
                  refine p asg ?_
                  refine nl ?_
                  refine tn ?_
                  exact ⟨_, by omega, k + 1, s87.1, s87.2, (by omega), ((by rw [vse_step hvs hek]; exact hs87)), (ris_take_succ hri hek (fun q h0 hq => by omega)), hE87, hMd87, (hst87 _ hs87), (hM87.B hB5M (fun e => by omega)), rfl, rfl, rfl, rfl, rfl⟩
            · refine ext ?_
              refine te _ ?_
              refine te _ ?_
              refine be ?_
              refine tn (hK8 _ _ ?_)
              refine sq (fun K12 hK12 => ?_)
              obtain ⟨em2, hbm2⟩ := hLM.mks
              rw [show k = (stOf a nx).2.length by omega, List.take_length] at hvs hri
              have hle2 := vse_le hvs (by omega)
              simp only [List.length_set] at hle2
              have hve := vs_end (by omega) hri hvs
              refine rg ?_
              refine p (mvt (.pointer (some ⟨pA, 0, none⟩)) rfl) ?_
              refine p (nc rfl) ?_
              refine p (fa fo97_2 rfl) ?_
              refine p (ld ag95 rfl (hLM.blk.cel 2)) ?_
              refine p (mvt (.int .i64 (nx : Int)) rfl) ?_
              refine p (ia es95 rfl rfl (by omega)) ?_
              refine e (stT cz4 rfl rfl rfl hbm2 (by simp; omega) fun w14 hM14 hB14 => ?_)
              have hms14 : Blk w14.heap ms ((mk2.set nx 2).map bvb) := by rw [← map_set']; exact ⟨_, hB14⟩
              have hL14 : LKs bvb w14 pA ms aa a.length cA nx2 (mk2.set nx 2) := ⟨hM14.B hLM.blk hne, hms14, hne⟩
              have hMd14 : Md (fun q => q = pA ∨ q = ms) w w14 := Md.trans hMM (hM14.mono (fun k _ h => .inr h))
              refine nl ?_
              refine tn (hK12 _ _ ?_)
              refine sq (fun K13 hK13 => ?_)
              refine rg ?_
              refine p asg ?_
              refine nl ?_
              refine tn (hK13 _ _ ?_)
              refine rt ?_
              refine f1 rfl rfl ?_
              rw [hve, if_pos hlf]
              exact ⟨rfl, hMd14, fun s hs => by cases hs; exact hL14⟩
set_option maxHeartbeats 1000000 in
theorem shapeR_w (a : List EnI) (aa : Option Addr) (cA : Nat) (w : World) (hA : StI w.heap aa a) (hal : a.length ≤ 140737488355328) (hes : ∀ i, i < a.length → (stOf a i).2.length ≤ 1073741824) :
    Ret Try.prog 28 (List.toArray [.slice aa a.length cA]) w (fun v w' => v = .int .i64 (shE a) ∧ Wk w w') := by
  refine enter Try.func28 rfl Try.ntmps28 rfl ?_
  refine sq (fun K1 hK1 => ?_)
  refine rg ?_
  refine p asg ?_
  refine nl ?_
  refine tn (hK1 _ _ ?_)
  refine sq (fun K2 hK2 => ?_)
  refine sq (fun K3 hK3 => ?_)
  refine rg ?_
  refine p (mvt (.slice aa a.length cA) rfl) ?_
  refine p (lnl u42 rfl rfl) ?_
  refine p (lt rfl rfl) ?_
  refine p mv ?_
  refine gs (t := 8) rfl (fun hg8 => ?_) (fun hg8 => ?_)
  · refine sk rfl rfl rfl rfl ?_
    refine sk rfl rfl rfl rfl ?_
    refine sk rfl rfl rfl rfl ?_
    refine p (pkt rfl) ?_
    refine nl ?_
    refine tn (hK3 _ _ ?_)
    refine ct rfl ?_
    refine sq (fun K4 hK4 => ?_)
    refine rg ?_
    refine p asg ?_
    refine nl ?_
    refine tn (hK4 _ _ ?_)
    refine rt ?_
    refine tr ?_
    refine f1 rfl rfl ?_
    exact ⟨iv (shE_no (shaped_no (by omega))).symm, Md.refl _ _⟩
  · refine pg rfl rfl rfl (mvt (.slice aa a.length cA) rfl) ?_
    refine pg rfl rfl rfl (lnl u42 rfl rfl) ?_
    refine pg rfl rfl rfl (gt rfl rfl) ?_
    refine p (pkf rfl) ?_
    refine nl ?_
    refine tn (hK3 _ _ ?_)
    refine cd rfl (fun hc12 => ?_) (fun hc12 => ?_)
    · refine sq (fun K4 hK4 => ?_)
      refine rg ?_
      refine p asg ?_
      refine nl ?_
      refine tn (hK4 _ _ ?_)
      refine rt ?_
      refine tr ?_
      refine f1 rfl rfl ?_
      exact ⟨iv (shE_no (shaped_no (by omega))).symm, Md.refl _ _⟩
    · refine skp ?_
      refine tn (hK2 _ _ ?_)
      refine sq (fun K4 hK4 => ?_)
      refine rg ?_
      refine p (mvt (.slice aa a.length cA) rfl) ?_
      refine p (mvt (.slice aa a.length cA) rfl) ?_
      refine p (lnl u42 rfl rfl) ?_
      refine e (mks (zv := .bool false) so95 rfl rfl rfl rfl (by omega) (by unfold maxLen; omega) fun bm wm hbm hNm hom => ?_)
      have hBm : Blk wm.heap bm ((List.replicate a.length 0).map bvb) := by rw [List.map_replicate]; exact own_blk (hom _ (Nat.le_refl _))
      refine p (bld (ps := [(0, .slice aa a.length cA), (2, .slice (some ⟨bm, 0, none⟩) a.length a.length)]) (L := [.slice aa a.length cA, .int .i64 0, .slice (some ⟨bm, 0, none⟩) a.length a.length]) st97 rfl (rfl)) ?_
      refine e (bxa rfl fun b18 w18 hb18 hN18 hB18 => ?_)
      have hLb : LKs bvb w18 b18 bm aa a.length cA 0 (List.replicate a.length 0) := ⟨hB18, hN18.md.B hBm, by have := hNm.size; omega⟩
      have hEb : Wk w w18 := Md.trans hNm.md hN18.md
      have hsz := hNm.md.size
      refine p asg ?_
      refine nl ?_
      refine tn (hK4 _ _ ?_)
      refine sq (fun K5 hK5 => ?_)
      refine rg ?_
      refine p mv ?_
      refine e (cl c40 (visitR_w (a.length + 1) a aa cA b18 bm w 0 (List.replicate a.length 0) 0 _ hA (by omega) (by omega) hEb hLb (by simp) (by omega) (by omega) (by omega) hes (zero_rep _)) rfl fun v20 w20 hR20 => ?_)
      obtain ⟨rfl, hMc, hst⟩ := hR20
      have hEc : Wk w w20 := Md.trans' hEb hMc (fun k hk h => by omega)
      refine p asg ?_
      refine nl ?_
      refine tn (hK5 _ _ ?_)
      refine sq (fun K6 hK6 => ?_)
      refine sq (fun K7 hK7 => ?_)
      refine rg ?_
      refine p mv ?_
      refine p (no rfl) ?_
      refine p mv ?_
      refine gb (t := 23) rfl (fun hg23 => ?_) (fun hg23 => ?_)
      · have hn : vs a (a.length + 1) (0, List.replicate a.length 0) 0 = none := by simpa using hg23
        refine sk rfl rfl rfl rfl ?_
        refine sk rfl rfl rfl rfl ?_
        refine sk rfl rfl rfl rfl ?_
        refine sk rfl rfl rfl rfl ?_
        refine sk rfl rfl rfl rfl ?_
        refine sk rfl rfl rfl rfl ?_
        refine sk rfl rfl rfl rfl ?_
        refine p (pkt rfl) ?_
        refine nl ?_
        refine tn (hK7 _ _ ?_)
        refine ct rfl ?_
        refine sq (fun K8 hK8 => ?_)
        refine rg ?_
        refine p asg ?_
        refine nl ?_
        refine tn (hK8 _ _ ?_)
        refine rt ?_
        refine tr ?_
        refine f1 rfl rfl ?_
        exact ⟨iv (shE_no (shaped_none hn)).symm, hEc⟩
      · obtain ⟨s9, hs9⟩ : ∃ s, vs a (a.length + 1) (0, List.replicate a.length 0) 0 = some s := Option.isSome_iff_exists.1 (by simpa using hg23)
        have hL9 := hst _ hs9
        refine pg rfl rfl rfl mv ?_
        refine pg rfl rfl rfl (nc rfl) ?_
        refine pg rfl rfl rfl (fa fo97_1 rfl) ?_
        refine pg rfl rfl rfl (ld ag3 rfl (hL9.blk.cel 1)) ?_
        refine pg rfl rfl rfl (mvt (.slice aa a.length cA) rfl) ?_
        refine pg rfl rfl rfl (lnl u42 rfl rfl) ?_
        refine pg rfl rfl rfl (nei rfl rfl) ?_
        refine p (pkf rfl) ?_
        refine nl ?_
        refine tn (hK7 _ _ ?_)
        refine cd rfl (fun hc31 => ?_) (fun hc31 => ?_)
        · refine sq (fun K8 hK8 => ?_)
          refine rg ?_
          refine p asg ?_
          refine nl ?_
          refine tn (hK8 _ _ ?_)
          refine rt ?_
          refine tr ?_
          refine f1 rfl rfl ?_
          exact ⟨iv (shE_no (by rw [shaped_some (by omega) (by omega) hs9]; exact decide_eq_false (by omega))).symm, hEc⟩
        · refine skp ?_
          refine tn (hK6 _ _ ?_)
          refine sq (fun K8 hK8 => ?_)
          refine rg ?_
          refine p asg ?_
          refine nl ?_
          refine tn (hK8 _ _ ?_)
          refine rt ?_
          refine f1 rfl rfl ?_
          exact ⟨iv (shE_ok (by rw [shaped_some (by omega) (by omega) hs9]; exact decide_eq_true (by omega))).symm, hEc⟩
end Go.Hb.Shape
