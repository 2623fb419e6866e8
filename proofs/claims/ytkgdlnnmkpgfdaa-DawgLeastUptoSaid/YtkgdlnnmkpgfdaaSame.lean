/-
  Walks of hornbooklaw18.same and its like. No conditions but those that each theorem names.
-/
import Derived.Test.YtkgdlnnmkpgfdaaChecked
import Derived.Test.YtkgdlnnmkpgfdaaEff
import Derived.Test.YtkgdlnnmkpgfdaaVisit
import Derived.Test.YtkgdlnnmkpgfdaaReg
import Derived.Test.YtkgdlnnmkpgfdaaCut
import Derived.Test.YtkgdlnnmkpgfdaaNumb
import Derived.Test.YtkgdlnnmkpgfdaaFin
import Derived.Test.YtkgdlnnmkpgfdaaBuild
import Derived.Test.YtkgdlnnmkpgfdaaAdd
import Derived.Test.YtkgdlnnmkpgfdaaAdds
import Derived.Test.YtkgdlnnmkpgfdaaStr
import Derived.Test.YtkgdlnnmkpgfdaaPure
import Derived.Test.YtkgdlnnmkpgfdaaDawg
import Derived.Test.YtkgdlnnmkpgfdaaVis
import Derived.Test.YtkgdlnnmkpgfdaaRow
import Derived.Test.YtkgdlnnmkpgfdaaNode
import Derived.Test.YtkgdlnnmkpgfdaaMap
import Derived.Test.YtkgdlnnmkpgfdaaAuto
import Derived.Test.YtkgdlnnmkpgfdaaLast
import Derived.Test.YtkgdlnnmkpgfdaaTag
import Derived.Test.YtkgdlnnmkpgfdaaFrz
set_option maxRecDepth 20000
set_option linter.unusedVariables false
namespace Go.Hb.Same
open Go.Proofs
open Go.Hb.Visit Go.Hb.Reg Go.Hb.Cut Go.Hb.Numb Go.Hb.Fin Go.Hb.Build Go.Hb.Add Go.Hb.Adds
theorem ag3 : aggN Try.prog 3 = some none := by kernel_rfl
theorem ag4 : aggN Try.prog 4 = some none := by kernel_rfl
theorem ag5 : aggN Try.prog 5 = some none := by kernel_rfl
theorem ag38 : aggN Try.prog 38 = some none := by kernel_rfl
theorem ag62 : aggN Try.prog 62 = some none := by kernel_rfl
theorem es23 : elemSize Try.prog 23 = some 2 := by kernel_rfl
theorem es32 : elemSize Try.prog 32 = some 2 := by kernel_rfl
theorem es38 : elemSize Try.prog 38 = some 2 := by kernel_rfl
theorem es62 : elemSize Try.prog 62 = some 2 := by kernel_rfl
theorem fo40_0 : fieldOff Try.prog 40 0 = some 0 := by kernel_rfl
theorem fo40_1 : fieldOff Try.prog 40 1 = some 1 := by kernel_rfl
theorem fo42_0 : fieldOff Try.prog 42 0 = some 0 := by kernel_rfl
theorem fo42_1 : fieldOff Try.prog 42 1 = some 1 := by kernel_rfl
theorem fo64_0 : fieldOff Try.prog 64 0 = some 0 := by kernel_rfl
theorem fo64_1 : fieldOff Try.prog 64 1 = some 1 := by kernel_rfl
theorem fo65_0 : fieldOff Try.prog 65 0 = some 0 := by kernel_rfl
theorem fo65_1 : fieldOff Try.prog 65 1 = some 1 := by kernel_rfl
theorem u4 : Try.prog.underlying 4 = some (.bool) := by kernel_rfl
theorem u23 : Try.prog.underlying 23 = some (.slice 40) := by kernel_rfl
theorem u32 : Try.prog.underlying 32 = some (.slice 64) := by kernel_rfl
theorem u38 : Try.prog.underlying 38 = some (.slice 42) := by kernel_rfl
theorem u62 : Try.prog.underlying 62 = some (.slice 65) := by kernel_rfl
theorem wide : Try.prog.follows .mixedOrders = true := by kernel_rfl

/-- states that can be read in memory -/
structure SR (w : World) (aa : Option Addr) (svs : List (Bool × Value)) (sts : List Ent) : Prop where
  len : sts.length = svs.length
  cells : Cells w.heap aa (sflat svs)
  st : ∀ (i : Nat) p q, sts[i]? = some p → svs[i]? = some q → p.1 = q.1 ∧ ∃ ea ec, q.2 = .slice ea p.2.length ec ∧ Cells w.heap ea (eflat p.2)
theorem SR.md {F : Nat → Prop} {w w' : World} {aa : Option Addr} {svs : List (Bool × Value)} {sts : List Ent} (h : SR w aa svs sts) (hm : Md F w w') (h1 : svs ≠ [] → ¬ F (bk aa)) (h2 : ∀ q ∈ svs, ∀ ea n ec, q.2 = .slice ea n ec → n ≠ 0 → ¬ F (bk ea)) : SR w' aa svs sts :=
  ⟨h.len, h.cells.md hm (fun hne => h1 (by rintro rfl; exact hne rfl)), fun i p q hp hq => by
    obtain ⟨g1, ea, ec, g2, g3⟩ := h.st i p q hp hq
    exact ⟨g1, ea, ec, g2, g3.md hm (fun hne => h2 q (List.mem_of_getElem? hq) ea _ ec g2 (by intro h0; exact hne (by rw [List.eq_nil_of_length_eq_zero h0]; rfl)))⟩⟩
theorem SR.wk {w w' : World} {aa : Option Addr} {svs : List (Bool × Value)} {sts : List Ent} (h : SR w aa svs sts) (hm : Wk w w') : SR w' aa svs sts := h.md hm (fun _ x => x) (fun _ _ _ _ _ _ _ x => x)
theorem SR.of {E B size t : Nat} {w : World} {v : Value} {svs : List (Bool × Value)} {sts : List Ent} (h : w.ownsRow B t size v svs.length (sflat svs)) (hs : StsT E w B sts svs) : ∃ aa c, v = .slice aa svs.length c ∧ SR w aa svs sts := by
  obtain ⟨aa, c, hv, hc, _⟩ := own_cells h
  refine ⟨aa, c, hv, hs.1, hc, fun i p q hp hq => ?_⟩
  obtain ⟨g1, g2⟩ := hs.2 i p q hp hq
  obtain ⟨ea, ec, g3, g4, _⟩ := own_cells g2
  exact ⟨g1, ea, ec, g3, g4⟩
theorem sflat_get {l : List (Bool × Value)} {i c : Nat} {q : Bool × Value} (h : l[i]? = some q) (hc : c < 2) : (sflat l)[i * 2 + c]? = [Value.bool q.1, q.2][c]? := flat_get (f := fun q : Bool × Value => [.bool q.1, q.2]) (m := 2) (fun _ => rfl) h hc
theorem eflat_get {l : List (UInt8 × Nat)} {i c : Nat} {q : UInt8 × Nat} (h : l[i]? = some q) (hc : c < 2) : (eflat l)[i * 2 + c]? = [Value.int .u8 q.1.toNat, .int .i64 q.2][c]? := flat_get (f := fun e : UInt8 × Nat => [Value.int .u8 e.1.toNat, .int .i64 e.2]) (m := 2) (fun _ => rfl) h hc
theorem SR.get {w : World} {aa : Option Addr} {svs : List (Bool × Value)} {sts : List Ent} (h : SR w aa svs sts) {i : Nat} (hi : i < svs.length) : ∃ f ea ec, svs[i]? = some (f, .slice ea (sts.getD i dE).2.length ec) ∧ (sts.getD i dE).1 = f ∧ Cells w.heap ea (eflat (sts.getD i dE).2) := by
  have h1 : sts[i]? = some (sts.getD i dE) := by rw [getD_get dE (by rw [h.len]; exact hi), List.getElem?_eq_getElem (by rw [h.len]; exact hi)]
  obtain ⟨g1, ea, ec, g2, g3⟩ := h.st i _ svs[i] h1 (List.getElem?_eq_getElem hi)
  refine ⟨_, ea, ec, ?_, g1, g3⟩
  rw [List.getElem?_eq_getElem hi, ← g2]
theorem sflat_ne {l : List (Bool × Value)} (h : 0 < l.length) : sflat l ≠ [] := flat_ne (f := fun q : Bool × Value => [.bool q.1, q.2]) (m := 2) (fun _ => rfl) (by decide) h
theorem eflat_ne {l : List (UInt8 × Nat)} (h : 0 < l.length) : eflat l ≠ [] := flat_ne (f := fun e : UInt8 × Nat => [Value.int .u8 e.1.toNat, .int .i64 e.2]) (m := 2) (fun _ => rfl) (by decide) h
theorem cel2 {h : Array Obj} {a : Option Addr} {xs : List Value} (hc : Cells h a xs) {i c : Nat} {v : Value} (hx : xs[i * 2 + c]? = some v) : cel h (bk a) (fo a + i * 2 + c) = some v := by
  rw [Nat.add_assoc]; exact hc.cel _ _ hx
theorem take_snoc_eq {α : Type} {l l' : List α} {i : Nat} {d : α} (h1 : i < l.length) (h2 : i < l'.length) (h : l.take i = l'.take i) (he : l.getD i d = l'.getD i d) : l.take (i + 1) = l'.take (i + 1) := by
  rw [take_succ_getD l i d h1, take_succ_getD l' i d h2, h, he]
theorem edge_ext {e e' : UInt8 × Nat} (h1 : (e.1.toNat : Int) = e'.1.toNat) (h2 : (e.2 : Int) = e'.2) : e = e' := Prod.ext (u8eq h1) (by omega)

set_option maxHeartbeats 1000000 in
theorem same_w (a1 a2 : Option Addr) (c1 c2 : Nat) (sv1 sv2 : List (Bool × Value)) (sA sB : List Ent) (w : World) (hA : SR w a1 sv1 sA) (hB : SR w a2 sv2 sB) (hl : sv1.length ≤ 137438953472) (hl2 : sv2.length ≤ 137438953472) (hE : ∀ p ∈ sA, p.2.length ≤ 137438953472) :
    Ret Try.prog 14 (List.toArray [.slice a1 sv1.length c1, .slice a2 sv2.length c2]) w (fun v w' => v = .bool (decide (sA = sB)) ∧ Wk w w') := by
  have hlA := hA.len
  have hlB := hB.len
  refine enter Try.func14 rfl Try.ntmps14 rfl ?_
  refine sq (fun K1 hK1 => ?_)
  refine rg ?_
  refine p asg ?_
  refine nl ?_
  refine tn (hK1 _ _ ?_)
  refine sq (fun K2 hK2 => ?_)
  refine sq (fun K3 hK3 => ?_)
  refine rg ?_
  refine p (mvt (.slice a1 sv1.length c1) rfl) ?_
  refine p (lnl u23 rfl rfl) ?_
  refine p (mvt (.slice a2 sv2.length c2) rfl) ?_
  refine p (lnl u32 rfl rfl) ?_
  refine p (nei rfl rfl) ?_
  refine nl ?_
  refine tn (hK3 _ _ ?_)
  refine cd rfl (fun hc11 => ?_) (fun hc11 => ?_)
  · refine sq (fun K4 hK4 => ?_)
    refine rg ?_
    refine p asg ?_
    refine nl ?_
    refine tn (hK4 _ _ ?_)
    refine rt ?_
    refine tr ?_
    refine f1 rfl rfl ?_
    exact ⟨bF (fun h => by subst h; omega), Md.refl _ _⟩
  · refine skp ?_
    refine tn (hK2 _ _ ?_)
    refine sq (fun K4 hK4 => ?_)
    refine sq (fun K5 hK5 => ?_)
    refine rg ?_
    refine p (mvt (.slice a1 sv1.length c1) rfl) ?_
    refine p (lnl u23 rfl rfl) ?_
    refine p mv ?_
    refine nl ?_
    refine tn (hK5 _ _ ?_)
    refine blk ?_
    refine lp (fun gm σ1 wL => ∃ (i : Nat), (i ≤ sv1.length) ∧ (Wk w wL) ∧ (sA.take i = sB.take i) ∧ (σ1 0 = .slice a1 sv1.length c1) ∧ (σ1 1 = .slice a2 sv2.length c2) ∧ (σ1 13 = .int .i64 sv1.length) ∧ (σ1 14 = .int .i64 i) ∧ (sv1.length - i = gm)) _ ⟨0, (by omega), (Md.refl _ _), rfl, rfl, rfl, rfl, rfl, rfl⟩ ?_
    rintro gm σ1 wL ⟨i, hi, hEi, htk, hs1_0, hs1_1, hs1_13, hs1_14, rfl⟩
    refine fx 0 hs1_0 (fx 1 hs1_1 (fx 13 hs1_13 (fx 14 hs1_14 ?_)))
    have hAi := hA.wk hEi
    have hBi := hB.wk hEi
    refine sq (fun K6 hK6 => ?_)
    refine rg ?_
    refine p (lt rfl rfl) ?_
    refine nl ?_
    refine tn (hK6 _ _ ?_)
    refine sq (fun K7 hK7 => ?_)
    refine cd rfl (fun hc15 => ?_) (fun hc15 => ?_)
    · refine skp ?_
      refine tn (hK7 _ _ ?_)
      refine sq (fun K8 hK8 => ?_)
      refine blk ?_
      refine sq (fun K9 hK9 => ?_)
      refine rg ?_
      refine p (mvt (.int .i64 i) rfl) ?_
      refine p (ast (.int .i64 i) rfl) ?_
      refine nl ?_
      refine tn (hK9 _ _ ?_)
      refine sqc (fun σ2 wC => (Wk w wC) ∧ ((sA.getD i dE).1 = (sB.getD i dE).1) ∧ ((sA.getD i dE).2.length = (sB.getD i dE).2.length) ∧ (σ2 0 = .slice a1 sv1.length c1) ∧ (σ2 1 = .slice a2 sv2.length c2) ∧ (σ2 5 = .int .i64 i) ∧ (σ2 13 = .int .i64 sv1.length) ∧ (σ2 14 = .int .i64 i)) ?_ ?_
      · refine sq (fun K10 hK10 => ?_)
        obtain ⟨fb1, ea1, ec1, hf1, hf1b, hc1⟩ := hAi.get (i := i) (by omega)
        obtain ⟨fb2, ea2, ec2, hf2, hf2b, hc2⟩ := hBi.get (i := i) (by omega)
        have hme := hE _ (getD_mem (d := dE) (show i < sA.length by omega))
        have hS6 : (fun w' => Wk wL w') wL.drew := (Md.refl _ _).drew
        refine hst (fun w' => Wk wL w') wide hS6 ?_
        refine hp 0 rfl (by kernel_rfl) (fun _ _ => mvt (.slice a1 sv1.length c1) rfl) hS6 ?_
        refine hp 1 rfl (by kernel_rfl) (fun _ _ => mvt (.int .i64 i) rfl) hS6 ?_
        refine hp 2 rfl (by kernel_rfl) (fun _ _ => ia' es23 rfl rfl (by omega) (Cells.ok (hAi.cells) (sflat_ne (by omega)))) hS6 ?_
        refine hp 3 rfl (by kernel_rfl) (fun _ _ => fa fo40_0 rfl) hS6 ?_
        refine hp 4 rfl (by kernel_rfl) (fun w' hS => ld ag4 rfl (Wk.cel hS (cel2 hAi.cells (i := i) (c := 0) ((sflat_get hf1 (by decide)).trans rfl)))) hS6 ?_
        refine hp 5 rfl (by kernel_rfl) (fun _ _ => mvt (.slice a2 sv2.length c2) rfl) hS6 ?_
        refine hp 6 rfl (by kernel_rfl) (fun _ _ => mvt (.int .i64 i) rfl) hS6 ?_
        refine hp 7 rfl (by kernel_rfl) (fun _ _ => ia' es32 rfl rfl (by omega) (Cells.ok (hBi.cells) (sflat_ne (by omega)))) hS6 ?_
        refine hp 8 rfl (by kernel_rfl) (fun _ _ => fa fo64_0 rfl) hS6 ?_
        refine hp 9 rfl (by kernel_rfl) (fun w' hS => ld ag4 rfl (Wk.cel hS (cel2 hBi.cells (i := i) (c := 0) ((sflat_get hf2 (by decide)).trans rfl)))) hS6 ?_
        refine hp 10 rfl (by kernel_rfl) (fun _ _ => nebb u4 rfl rfl) hS6 ?_
        refine hp 11 rfl (by kernel_rfl) (fun _ _ => mv) hS6 ?_
        refine hgs (t := 28) rfl (fun hg28 => ?_) (fun hg28 => ?_)
        · refine hsk 12 rfl (by kernel_rfl) rfl rfl rfl rfl hS6 ?_
          refine hsk 13 rfl (by kernel_rfl) rfl rfl rfl rfl hS6 ?_
          refine hsk 14 rfl (by kernel_rfl) rfl rfl rfl rfl hS6 ?_
          refine hsk 15 rfl (by kernel_rfl) rfl rfl rfl rfl hS6 ?_
          refine hsk 16 rfl (by kernel_rfl) rfl rfl rfl rfl hS6 ?_
          refine hsk 17 rfl (by kernel_rfl) rfl rfl rfl rfl hS6 ?_
          refine hsk 18 rfl (by kernel_rfl) rfl rfl rfl rfl hS6 ?_
          refine hsk 19 rfl (by kernel_rfl) rfl rfl rfl rfl hS6 ?_
          refine hsk 20 rfl (by kernel_rfl) rfl rfl rfl rfl hS6 ?_
          refine hsk 21 rfl (by kernel_rfl) rfl rfl rfl rfl hS6 ?_
          refine hsk 22 rfl (by kernel_rfl) rfl rfl rfl rfl hS6 ?_
          refine hsk 23 rfl (by kernel_rfl) rfl rfl rfl rfl hS6 ?_
          refine hsk 24 rfl (by kernel_rfl) rfl rfl rfl rfl hS6 ?_
          refine hp 25 rfl (by kernel_rfl) (fun _ _ => pkt rfl) hS6 ?_
          refine hn (by kernel_rfl) ?_
          refine tn (hK10 _ _ ?_)
          refine ct rfl ?_
          refine sq (fun K11 hK11 => ?_)
          refine rg ?_
          refine p asg ?_
          refine nl ?_
          refine tn (hK11 _ _ ?_)
          refine rt ?_
          refine tr ?_
          refine br ?_
          refine tr ?_
          refine tr ?_
          refine br ?_
          refine tr ?_
          refine f1 rfl rfl ?_
          exact ⟨bF (fun h => hg28 (by rw [← hf1b, ← hf2b, h])), hEi.drew⟩
        · refine hpg 12 rfl (by kernel_rfl) rfl rfl rfl (fun _ _ => mvt (.slice a1 sv1.length c1) rfl) hS6 ?_
          refine hpg 13 rfl (by kernel_rfl) rfl rfl rfl (fun _ _ => mvt (.int .i64 i) rfl) hS6 ?_
          refine hpg 14 rfl (by kernel_rfl) rfl rfl rfl (fun _ _ => ia' es23 rfl rfl (by omega) (Cells.ok (hAi.cells) (sflat_ne (by omega)))) hS6 ?_
          refine hpg 15 rfl (by kernel_rfl) rfl rfl rfl (fun _ _ => fa fo40_1 rfl) hS6 ?_
          refine hpg 16 rfl (by kernel_rfl) rfl rfl rfl (fun w' hS => ld ag38 rfl (Wk.cel hS (cel2 hAi.cells (i := i) (c := 1) ((sflat_get hf1 (by decide)).trans rfl)))) hS6 ?_
          refine hpg 17 rfl (by kernel_rfl) rfl rfl rfl (fun _ _ => lnl u38 rfl rfl) hS6 ?_
          refine hpg 18 rfl (by kernel_rfl) rfl rfl rfl (fun _ _ => mvt (.slice a2 sv2.length c2) rfl) hS6 ?_
          refine hpg 19 rfl (by kernel_rfl) rfl rfl rfl (fun _ _ => mvt (.int .i64 i) rfl) hS6 ?_
          refine hpg 20 rfl (by kernel_rfl) rfl rfl rfl (fun _ _ => ia' es32 rfl rfl (by omega) (Cells.ok (hBi.cells) (sflat_ne (by omega)))) hS6 ?_
          refine hpg 21 rfl (by kernel_rfl) rfl rfl rfl (fun _ _ => fa fo64_1 rfl) hS6 ?_
          refine hpg 22 rfl (by kernel_rfl) rfl rfl rfl (fun w' hS => ld ag62 rfl (Wk.cel hS (cel2 hBi.cells (i := i) (c := 1) ((sflat_get hf2 (by decide)).trans rfl)))) hS6 ?_
          refine hpg 23 rfl (by kernel_rfl) rfl rfl rfl (fun _ _ => lnl u62 rfl rfl) hS6 ?_
          refine hpg 24 rfl (by kernel_rfl) rfl rfl rfl (fun _ _ => nei rfl rfl) hS6 ?_
          refine hp 25 rfl (by kernel_rfl) (fun _ _ => pkf rfl) hS6 ?_
          refine hn (by kernel_rfl) ?_
          refine tn (hK10 _ _ ?_)
          refine cd rfl (fun hc42 => ?_) (fun hc42 => ?_)
          · refine sq (fun K11 hK11 => ?_)
            refine rg ?_
            refine p asg ?_
            refine nl ?_
            refine tn (hK11 _ _ ?_)
            refine rt ?_
            refine tr ?_
            refine br ?_
            refine tr ?_
            refine tr ?_
            refine br ?_
            refine tr ?_
            refine f1 rfl rfl ?_
            exact ⟨bF (fun h => hc42 (by rw [h])), hEi.drew⟩
          · refine skp ?_
            refine tn ?_
            exact ⟨hEi.drew, (by rw [hf1b, hf2b]; exact Classical.not_not.1 hg28), (by omega), rfl, rfl, rfl, rfl, rfl⟩
      rintro σ2 wC ⟨hEC, hff, hll, hs2_0, hs2_1, hs2_5, hs2_13, hs2_14⟩
      refine fx 0 hs2_0 (fx 1 hs2_1 (fx 5 hs2_5 (fx 13 hs2_13 (fx 14 hs2_14 ?_))))
      have hAj := hA.wk hEC
      have hBj := hB.wk hEC
      obtain ⟨fb1, ea1, ec1, hf1, hf1b, hc1⟩ := hAj.get (i := i) (by omega)
      obtain ⟨fb2, ea2, ec2, hf2, hf2b, hc2⟩ := hBj.get (i := i) (by omega)
      have hme := hE _ (getD_mem (d := dE) (show i < sA.length by omega))
      refine sq (fun K10 hK10 => ?_)
      refine rg ?_
      refine p (mvt (.slice a1 sv1.length c1) rfl) ?_
      refine p (mvt (.int .i64 i) rfl) ?_
      refine p (ia' es23 rfl rfl (by omega) (Cells.ok (hAj.cells) (sflat_ne (by omega)))) ?_
      refine p (fa fo40_1 rfl) ?_
      refine p (ld ag38 rfl (cel2 hAj.cells (i := i) (c := 1) ((sflat_get hf1 (by decide)).trans rfl))) ?_
      refine p (lnl u38 rfl rfl) ?_
      refine p mv ?_
      refine nl ?_
      refine tn (hK10 _ _ ?_)
      refine blk ?_
      refine lp (fun gm σ3 wM => ∃ (k : Nat), (k ≤ (sA.getD i dE).2.length) ∧ (Wk w wM) ∧ ((sA.getD i dE).2.take k = (sB.getD i dE).2.take k) ∧ (σ3 0 = .slice a1 sv1.length c1) ∧ (σ3 1 = .slice a2 sv2.length c2) ∧ (σ3 5 = .int .i64 i) ∧ (σ3 13 = .int .i64 sv1.length) ∧ (σ3 14 = .int .i64 i) ∧ (σ3 48 = .int .i64 (sA.getD i dE).2.length) ∧ (σ3 49 = .int .i64 k) ∧ ((sA.getD i dE).2.length - k = gm)) _ ⟨0, (by omega), hEC, rfl, rfl, rfl, rfl, rfl, rfl, rfl, rfl, rfl⟩ ?_
      rintro gm σ3 wM ⟨k, hk, hEk, htk2, hs3_0, hs3_1, hs3_5, hs3_13, hs3_14, hs3_48, hs3_49, rfl⟩
      refine fx 0 hs3_0 (fx 1 hs3_1 (fx 5 hs3_5 (fx 13 hs3_13 (fx 14 hs3_14 (fx 48 hs3_48 (fx 49 hs3_49 ?_))))))
      have hAk := hA.wk hEk
      have hBk := hB.wk hEk
      refine sq (fun K11 hK11 => ?_)
      refine rg ?_
      refine p (lt rfl rfl) ?_
      refine nl ?_
      refine tn (hK11 _ _ ?_)
      refine sq (fun K12 hK12 => ?_)
      refine cd rfl (fun hc50 => ?_) (fun hc50 => ?_)
      · refine skp ?_
        refine tn (hK12 _ _ ?_)
        refine sq (fun K13 hK13 => ?_)
        refine blk ?_
        refine sq (fun K14 hK14 => ?_)
        refine rg ?_
        refine p (mvt (.int .i64 k) rfl) ?_
        refine p (ast (.int .i64 k) rfl) ?_
        refine nl ?_
        refine tn (hK14 _ _ ?_)
        refine sq (fun K15 hK15 => ?_)
        obtain ⟨g1, ha1, hb1, hg1, _, hck1⟩ := hAk.get (i := i) (by omega)
        rw [hf1] at hg1
        simp only [Option.some.injEq, Prod.mk.injEq, Value.slice.injEq, true_and] at hg1
        obtain ⟨_, rfl, rfl⟩ := hg1
        obtain ⟨g2, ha2, hb2, hg2, _, hck2⟩ := hBk.get (i := i) (by omega)
        rw [hf2] at hg2
        simp only [Option.some.injEq, Prod.mk.injEq, Value.slice.injEq, true_and] at hg2
        obtain ⟨_, rfl, rfl⟩ := hg2
        have hek1 : (sA.getD i dE).2[k]? = some ((sA.getD i dE).2.getD k (0, 0)) := by rw [getD_get (0, 0) (by omega), List.getElem?_eq_getElem (by omega)]
        have hek2 : (sB.getD i dE).2[k]? = some ((sB.getD i dE).2.getD k (0, 0)) := by rw [getD_get (0, 0) (by omega), List.getElem?_eq_getElem (by omega)]
        have hS11 : (fun w' => Wk wM w') wM.drew := (Md.refl _ _).drew
        refine hst (fun w' => Wk wM w') wide hS11 ?_
        refine hp 0 rfl (by kernel_rfl) (fun _ _ => mvt (.slice a1 sv1.length c1) rfl) hS11 ?_
        refine hp 1 rfl (by kernel_rfl) (fun _ _ => mvt (.int .i64 i) rfl) hS11 ?_
        refine hp 2 rfl (by kernel_rfl) (fun _ _ => ia' es23 rfl rfl (by omega) (Cells.ok (hAk.cells) (sflat_ne (by omega)))) hS11 ?_
        refine hp 3 rfl (by kernel_rfl) (fun _ _ => fa fo40_1 rfl) hS11 ?_
        refine hp 4 rfl (by kernel_rfl) (fun w' hS => ld ag38 rfl (Wk.cel hS (cel2 hAk.cells (i := i) (c := 1) ((sflat_get hf1 (by decide)).trans rfl)))) hS11 ?_
        refine hp 5 rfl (by kernel_rfl) (fun _ _ => mvt (.int .i64 k) rfl) hS11 ?_
        refine hp 6 rfl (by kernel_rfl) (fun _ _ => ia' es38 rfl rfl (by omega) (Cells.ok (hck1) (eflat_ne (by omega)))) hS11 ?_
        refine hp 7 rfl (by kernel_rfl) (fun _ _ => fa fo42_0 rfl) hS11 ?_
        refine hp 8 rfl (by kernel_rfl) (fun w' hS => ld ag5 rfl (Wk.cel hS (cel2 hck1 (i := k) (c := 0) ((eflat_get hek1 (by decide)).trans rfl)))) hS11 ?_
        refine hp 9 rfl (by kernel_rfl) (fun _ _ => mvt (.slice a2 sv2.length c2) rfl) hS11 ?_
        refine hp 10 rfl (by kernel_rfl) (fun _ _ => mvt (.int .i64 i) rfl) hS11 ?_
        refine hp 11 rfl (by kernel_rfl) (fun _ _ => ia' es32 rfl rfl (by omega) (Cells.ok (hBk.cells) (sflat_ne (by omega)))) hS11 ?_
        refine hp 12 rfl (by kernel_rfl) (fun _ _ => fa fo64_1 rfl) hS11 ?_
        refine hp 13 rfl (by kernel_rfl) (fun w' hS => ld ag62 rfl (Wk.cel hS (cel2 hBk.cells (i := i) (c := 1) ((sflat_get hf2 (by decide)).trans rfl)))) hS11 ?_
        refine hp 14 rfl (by kernel_rfl) (fun _ _ => mvt (.int .i64 k) rfl) hS11 ?_
        refine hp 15 rfl (by kernel_rfl) (fun _ _ => ia' es62 rfl rfl (by omega) (Cells.ok (hck2) (eflat_ne (by omega)))) hS11 ?_
        refine hp 16 rfl (by kernel_rfl) (fun _ _ => fa fo65_0 rfl) hS11 ?_
        refine hp 17 rfl (by kernel_rfl) (fun w' hS => ld ag5 rfl (Wk.cel hS (cel2 hck2 (i := k) (c := 0) ((eflat_get hek2 (by decide)).trans rfl)))) hS11 ?_
        refine hp 18 rfl (by kernel_rfl) (fun _ _ => nei rfl rfl) hS11 ?_
        refine hp 19 rfl (by kernel_rfl) (fun _ _ => mv) hS11 ?_
        refine hgs (t := 71) rfl (fun hg71 => ?_) (fun hg71 => ?_)
        · refine hsk 20 rfl (by kernel_rfl) rfl rfl rfl rfl hS11 ?_
          refine hsk 21 rfl (by kernel_rfl) rfl rfl rfl rfl hS11 ?_
          refine hsk 22 rfl (by kernel_rfl) rfl rfl rfl rfl hS11 ?_
          refine hsk 23 rfl (by kernel_rfl) rfl rfl rfl rfl hS11 ?_
          refine hsk 24 rfl (by kernel_rfl) rfl rfl rfl rfl hS11 ?_
          refine hsk 25 rfl (by kernel_rfl) rfl rfl rfl rfl hS11 ?_
          refine hsk 26 rfl (by kernel_rfl) rfl rfl rfl rfl hS11 ?_
          refine hsk 27 rfl (by kernel_rfl) rfl rfl rfl rfl hS11 ?_
          refine hsk 28 rfl (by kernel_rfl) rfl rfl rfl rfl hS11 ?_
          refine hsk 29 rfl (by kernel_rfl) rfl rfl rfl rfl hS11 ?_
          refine hsk 30 rfl (by kernel_rfl) rfl rfl rfl rfl hS11 ?_
          refine hsk 31 rfl (by kernel_rfl) rfl rfl rfl rfl hS11 ?_
          refine hsk 32 rfl (by kernel_rfl) rfl rfl rfl rfl hS11 ?_
          refine hsk 33 rfl (by kernel_rfl) rfl rfl rfl rfl hS11 ?_
          refine hsk 34 rfl (by kernel_rfl) rfl rfl rfl rfl hS11 ?_
          refine hsk 35 rfl (by kernel_rfl) rfl rfl rfl rfl hS11 ?_
          refine hsk 36 rfl (by kernel_rfl) rfl rfl rfl rfl hS11 ?_
          refine hsk 37 rfl (by kernel_rfl) rfl rfl rfl rfl hS11 ?_
          refine hsk 38 rfl (by kernel_rfl) rfl rfl rfl rfl hS11 ?_
          refine hp 39 rfl (by kernel_rfl) (fun _ _ => pkt rfl) hS11 ?_
          refine hn (by kernel_rfl) ?_
          refine tn (hK15 _ _ ?_)
          refine ct rfl ?_
          refine sq (fun K16 hK16 => ?_)
          refine rg ?_
          refine p asg ?_
          refine nl ?_
          refine tn (hK16 _ _ ?_)
          refine rt ?_
          refine br ?_
          refine tr ?_
          refine tr ?_
          refine br ?_
          refine br ?_
          refine tr ?_
          refine tr ?_
          refine br ?_
          refine tr ?_
          refine f1 rfl rfl ?_
          exact ⟨bF (fun h => hg71 (by rw [h])), hEk.drew⟩
        · refine hpg 20 rfl (by kernel_rfl) rfl rfl rfl (fun _ _ => mvt (.slice a1 sv1.length c1) rfl) hS11 ?_
          refine hpg 21 rfl (by kernel_rfl) rfl rfl rfl (fun _ _ => mvt (.int .i64 i) rfl) hS11 ?_
          refine hpg 22 rfl (by kernel_rfl) rfl rfl rfl (fun _ _ => ia' es23 rfl rfl (by omega) (Cells.ok (hAk.cells) (sflat_ne (by omega)))) hS11 ?_
          refine hpg 23 rfl (by kernel_rfl) rfl rfl rfl (fun _ _ => fa fo40_1 rfl) hS11 ?_
          refine hpg 24 rfl (by kernel_rfl) rfl rfl rfl (fun w' hS => ld ag38 rfl (Wk.cel hS (cel2 hAk.cells (i := i) (c := 1) ((sflat_get hf1 (by decide)).trans rfl)))) hS11 ?_
          refine hpg 25 rfl (by kernel_rfl) rfl rfl rfl (fun _ _ => mvt (.int .i64 k) rfl) hS11 ?_
          refine hpg 26 rfl (by kernel_rfl) rfl rfl rfl (fun _ _ => ia' es38 rfl rfl (by omega) (Cells.ok (hck1) (eflat_ne (by omega)))) hS11 ?_
          refine hpg 27 rfl (by kernel_rfl) rfl rfl rfl (fun _ _ => fa fo42_1 rfl) hS11 ?_
          refine hpg 28 rfl (by kernel_rfl) rfl rfl rfl (fun w' hS => ld ag3 rfl (Wk.cel hS (cel2 hck1 (i := k) (c := 1) ((eflat_get hek1 (by decide)).trans rfl)))) hS11 ?_
          refine hpg 29 rfl (by kernel_rfl) rfl rfl rfl (fun _ _ => mvt (.slice a2 sv2.length c2) rfl) hS11 ?_
          refine hpg 30 rfl (by kernel_rfl) rfl rfl rfl (fun _ _ => mvt (.int .i64 i) rfl) hS11 ?_
          refine hpg 31 rfl (by kernel_rfl) rfl rfl rfl (fun _ _ => ia' es32 rfl rfl (by omega) (Cells.ok (hBk.cells) (sflat_ne (by omega)))) hS11 ?_
          refine hpg 32 rfl (by kernel_rfl) rfl rfl rfl (fun _ _ => fa fo64_1 rfl) hS11 ?_
          refine hpg 33 rfl (by kernel_rfl) rfl rfl rfl (fun w' hS => ld ag62 rfl (Wk.cel hS (cel2 hBk.cells (i := i) (c := 1) ((sflat_get hf2 (by decide)).trans rfl)))) hS11 ?_
          refine hpg 34 rfl (by kernel_rfl) rfl rfl rfl (fun _ _ => mvt (.int .i64 k) rfl) hS11 ?_
          refine hpg 35 rfl (by kernel_rfl) rfl rfl rfl (fun _ _ => ia' es62 rfl rfl (by omega) (Cells.ok (hck2) (eflat_ne (by omega)))) hS11 ?_
          refine hpg 36 rfl (by kernel_rfl) rfl rfl rfl (fun _ _ => fa fo65_1 rfl) hS11 ?_
          refine hpg 37 rfl (by kernel_rfl) rfl rfl rfl (fun w' hS => ld ag3 rfl (Wk.cel hS (cel2 hck2 (i := k) (c := 1) ((eflat_get hek2 (by decide)).trans rfl)))) hS11 ?_
          refine hpg 38 rfl (by kernel_rfl) rfl rfl rfl (fun _ _ => nei rfl rfl) hS11 ?_
          refine hp 39 rfl (by kernel_rfl) (fun _ _ => pkf rfl) hS11 ?_
          refine hn (by kernel_rfl) ?_
          refine tn (hK15 _ _ ?_)
          refine cd rfl (fun hc91 => ?_) (fun hc91 => ?_)
          · refine sq (fun K16 hK16 => ?_)
            refine rg ?_
            refine p asg ?_
            refine nl ?_
            refine tn (hK16 _ _ ?_)
            refine rt ?_
            refine br ?_
            refine tr ?_
            refine tr ?_
            refine br ?_
            refine br ?_
            refine tr ?_
            refine tr ?_
            refine br ?_
            refine tr ?_
            refine f1 rfl rfl ?_
            exact ⟨bF (fun h => hc91 (by rw [h])), hEk.drew⟩
          · refine skp ?_
            refine bn ?_
            refine tn (hK13 _ _ ?_)
            refine rg ?_
            refine p (ad rfl rfl (wi64 (by omega))) ?_
            refine p mv ?_
            refine nl ?_
            refine tn ?_
            exact ⟨_, by omega, k + 1, (by omega), hEk.drew, (take_snoc_eq (d := (0, 0)) (by omega) (by omega) htk2 (edge_ext (Classical.not_not.1 hg71) (Classical.not_not.1 hc91))), rfl, rfl, rfl, rfl, rfl, rfl, rfl, rfl⟩
      · refine ext ?_
        refine te _ ?_
        refine te _ ?_
        refine be ?_
        refine bn ?_
        refine tn (hK8 _ _ ?_)
        refine rg ?_
        refine p (ad rfl rfl (wi64 (by omega))) ?_
        refine p mv ?_
        refine nl ?_
        refine tn ?_
        exact ⟨_, by omega, i + 1, (by omega), hEk, (take_snoc_eq (d := dE) (by omega) (by omega) htk (Prod.ext hff (by rw [show k = (sA.getD i dE).2.length from by omega, List.take_length] at htk2; rw [htk2, hll, List.take_length]))), rfl, rfl, rfl, rfl, rfl⟩
    · refine ext ?_
      refine te _ ?_
      refine te _ ?_
      refine be ?_
      refine tn (hK4 _ _ ?_)
      refine sq (fun K8 hK8 => ?_)
      refine rg ?_
      refine p asg ?_
      refine nl ?_
      refine tn (hK8 _ _ ?_)
      refine rt ?_
      refine f1 rfl rfl ?_
      exact ⟨bT (by rw [← List.take_of_length_le (l := sA) (i := i) (by omega), htk, List.take_of_length_le (by omega)]), hEi⟩
end Go.Hb.Same
