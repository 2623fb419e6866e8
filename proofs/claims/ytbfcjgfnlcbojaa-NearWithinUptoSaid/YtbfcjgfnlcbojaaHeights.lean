/-
  Walks of hornbooklaw23.states and of hornbookref19.heights. No conditions but those that each theorem names.
-/
import Derived.Test.YtbfcjgfnlcbojaaChecked
import Derived.Test.YtbfcjgfnlcbojaaCore
import Derived.Test.YtbfcjgfnlcbojaaShape
import Derived.Test.YtbfcjgfnlcbojaaPlan
import Derived.Test.YtbfcjgfnlcbojaaNrp
import Derived.Test.YtbfcjgfnlcbojaaHgt
set_option maxRecDepth 20000
set_option linter.unusedVariables false
namespace Go.Hb.Heights
open Go.Proofs
open Go.Hb.Shape
theorem ag3 : aggN Try.prog 3 = some none := by kernel_rfl
theorem ag4 : aggN Try.prog 4 = some none := by kernel_rfl
theorem ag5 : aggN Try.prog 5 = some none := by kernel_rfl
theorem ag74 : aggN Try.prog 74 = some none := by kernel_rfl
theorem ag76 : aggN Try.prog 76 = some (some 2) := by kernel_rfl
theorem ag77 : aggN Try.prog 77 = some none := by kernel_rfl
theorem ag79 : aggN Try.prog 79 = some (some 2) := by kernel_rfl
theorem ag81 : aggN Try.prog 81 = some (some 2) := by kernel_rfl
theorem c51 : Callable Try.prog 51 := callable Try.func51 (by kernel_rfl) (by kernel_rfl)
theorem cz3 : cellsN Try.prog 3 = some 1 := by kernel_rfl
theorem cz76 : cellsN Try.prog 76 = some 2 := by kernel_rfl
theorem cz77 : cellsN Try.prog 77 = some 1 := by kernel_rfl
theorem cz79 : cellsN Try.prog 79 = some 2 := by kernel_rfl
theorem cz81 : cellsN Try.prog 81 = some 2 := by kernel_rfl
theorem es32 : elemSize Try.prog 32 = some 2 := by kernel_rfl
theorem es42 : elemSize Try.prog 42 = some 2 := by kernel_rfl
theorem es54 : elemSize Try.prog 54 = some 1 := by kernel_rfl
theorem es74 : elemSize Try.prog 74 = some 2 := by kernel_rfl
theorem es77 : elemSize Try.prog 77 = some 2 := by kernel_rfl
theorem fo76_0 : fieldOff Try.prog 76 0 = some 0 := by kernel_rfl
theorem fo76_1 : fieldOff Try.prog 76 1 = some 1 := by kernel_rfl
theorem fo79_1 : fieldOff Try.prog 79 1 = some 1 := by kernel_rfl
theorem fo81_0 : fieldOff Try.prog 81 0 = some 0 := by kernel_rfl
theorem fo81_1 : fieldOff Try.prog 81 1 = some 1 := by kernel_rfl
theorem fo82_1 : fieldOff Try.prog 82 1 = some 1 := by kernel_rfl
theorem so42 : sliceOk Try.prog 42 79 2 32 = true := by kernel_rfl
theorem so54 : sliceOk Try.prog 54 3 1 8 = true := by kernel_rfl
theorem so77 : sliceOk Try.prog 77 82 2 16 = true := by kernel_rfl
theorem st79 : structOk Try.prog 79 = some ([(0, 1), (1, 1)], [.bool false, .slice none 0 0]) := by kernel_rfl
theorem st82 : structOk Try.prog 82 = some ([(0, 1), (1, 1)], [.int .u8 0, .int .i64 0]) := by kernel_rfl
theorem u32 : Try.prog.underlying 32 = some (.slice 76) := by kernel_rfl
theorem u42 : Try.prog.underlying 42 = some (.slice 79) := by kernel_rfl
theorem u74 : Try.prog.underlying 74 = some (.slice 81) := by kernel_rfl
theorem u77 : Try.prog.underlying 77 = some (.slice 82) := by kernel_rfl
theorem zs76 : zeroOf Try.prog 76 = some (some [.bool false, .slice none 0 0]) := by kernel_rfl
theorem zs79 : zeroOf Try.prog 79 = some (some [.bool false, .slice none 0 0]) := by kernel_rfl
theorem zs81 : zeroOf Try.prog 81 = some (some [.int .u8 0, .int .i64 0]) := by kernel_rfl

def iv64 (x : Int) : Value := .int .i64 x
theorem set_iv (r : List Int) (i : Nat) (x : Int) : (r.map iv64).set i (.int .i64 x) = (r.set i x).map iv64 := by rw [List.map_set]; rfl
theorem iv_cel {h : Array Obj} {a : Option Addr} {r : List Int} {i : Nat} (hc : Cells h a (r.map iv64)) (hi : i < r.length) : cel h (bk a) (fo a + i * 1) = some (.int .i64 (r.getD i 0)) := by
  rw [Nat.mul_one]
  exact hc.cel _ _ (by rw [List.getElem?_map, List.getD_eq_getElem?_getD, List.getElem?_eq_getElem hi]; rfl)
section
variable {P : Program} {N : Nat} {σ : Nat → Value} {w : World} {ty : TypeId} {pos : String} {af : Array Edge} {g : Option (Nat × Bool)} {x y : Operand}
theorem stI {K : (Nat → Value) → World → Prop} {t B e n cap off i : Nat} {v : Int} {a : Option Addr} {r : List Int} (hown : w.ownsRow B e 1 (.slice a n cap) n (r.map iv64)) (hz : cellsN P t = some 1) (hx : ev N σ x = .pointer (some ⟨bk a, off, none⟩)) (hy : ev N σ y = .int .i64 v)
    (hj : off = fo a + i * 1) (hl : i < n)
    (k : ∀ w', Md (fun q => (Value.slice a n cap).ownBlock = some q) w w' → w'.ownsRow B e 1 (.slice a n cap) n ((r.set i v).map iv64) → K σ w') : wpo P N ⟨none, .store t x y, ty, pos, af, g⟩ σ w K :=
  sto (j := i) hown hz hx hy rfl (by rw [hj, Nat.mul_one]) (by omega) fun w' hM ho => k w' hM (by rw [set_iv] at ho; exact ho)
end
theorem ne_iv {r : List Int} (h : 0 < r.length) : r.map iv64 ≠ [] := ne_map h
theorem own_ilen {w : World} {B e n : Nat} {v : Value} {r : List Int} (h : w.ownsRow B e 1 v n (r.map iv64)) : r.length = n := by
  have h0 := h.1
  rw [List.length_map] at h0; omega

set_option maxHeartbeats 1000000 in
theorem height_w (r : Nat) (a : List EnI) (l : List Nat) (aa ah : Option Addr) (cA ch B : Nat) (w0 : World) (i : Nat) (hs : List Int) (w : World) (hS : Shp a l) (hA : StI w0.heap aa a) (hB : w0.heap.size ≤ B) (hE : Wk w0 w) (hO : World.ownsRow w B 3 1 (.slice ah a.length ch) a.length ((hs).map iv64)) (hI : HI a hs) (hi : i < a.length) (hr : l.idxOf i < r) :
    Ret Try.prog 51 (List.toArray [.slice aa a.length cA, .slice ah a.length ch, .int .i64 i]) w (fun v w' => v = .int .i64 (hgt a i : Nat) ∧ Md (fun q => (Value.slice ah a.length ch).ownBlock = some q) w w' ∧ ∃ hs', World.ownsRow w' B 3 1 (.slice ah a.length ch) a.length ((hs').map iv64) ∧ HI a hs' ∧ (∀ j, hs.getD j 0 ≠ -1 → hs'.getD j 0 ≠ -1) ∧ hs'.getD i 0 ≠ -1) := by
  induction r generalizing i hs w with
  | zero => omega
  | succ r ih =>
    have hle := hS.le
    have hlh := hI.len
    have hFF : ∀ k, k < w0.heap.size → (Value.slice ah a.length ch).ownBlock = some k → False := fun k h1 h2 => by have := (own_lt hO h2).1; omega
    obtain ⟨ea, ec, h2c, hEd0⟩ := hA.two hi
    have h21 : cel w0.heap (bk aa) (fo aa + i * 2 + 1) = some (.slice ea (stOf a i).2.length ec) := h2c 1 (by omega)
    have hrl := (hS.ris hi).len
    have hhl := hgt_le a i
    refine enter Try.func51 rfl Try.ntmps51 rfl ?_
    refine sq (fun K1 hK1 => ?_)
    refine rg ?_
    refine p asg ?_
    refine nl ?_
    refine tn (hK1 _ _ ?_)
    refine sq (fun K2 hK2 => ?_)
    refine sq (fun K3 hK3 => ?_)
    refine rg ?_
    refine p (mvt (.slice ah a.length ch) rfl) ?_
    refine p (mvt (.int .i64 i) rfl) ?_
    refine p (ia' es54 rfl rfl (by omega) (Cells.ok ((own_cellsS hO).2) (ne_iv (by omega)))) ?_
    refine p (ld ag3 rfl (iv_cel (own_cellsS hO).2 (i := i) (by omega))) ?_
    refine p (ge rfl rfl) ?_
    refine nl ?_
    refine tn (hK3 _ _ ?_)
    refine cd rfl (fun hc14 => ?_) (fun hc14 => ?_)
    · refine sq (fun K4 hK4 => ?_)
      refine rg ?_
      refine p (mvt (.slice ah a.length ch) rfl) ?_
      refine p (mvt (.int .i64 i) rfl) ?_
      refine p (ia' es54 rfl rfl (by omega) (Cells.ok ((own_cellsS hO).2) (ne_iv (by omega)))) ?_
      refine p (ld ag3 rfl (iv_cel (own_cellsS hO).2 (i := i) (by omega))) ?_
      refine p asg ?_
      refine nl ?_
      refine tn (hK4 _ _ ?_)
      refine rt ?_
      refine tr ?_
      refine f1 rfl rfl ?_
      rcases hI.ok i hi with h9 | h9
      · omega
      · exact ⟨iv h9.1, Md.refl _ _, hs, hO, hI, fun j h => h, by omega⟩
    · refine skp ?_
      refine tn (hK2 _ _ ?_)
      refine sq (fun K4 hK4 => ?_)
      refine rg ?_
      refine p asg ?_
      refine nl ?_
      refine tn (hK4 _ _ ?_)
      refine sq (fun K5 hK5 => ?_)
      refine sq (fun K6 hK6 => ?_)
      refine rg ?_
      refine p asg ?_
      refine nl ?_
      refine tn (hK6 _ _ ?_)
      refine blk ?_
      refine lp (fun gm σ1 wM => ∃ (k m : Nat) (hs1 : List Int), (k ≤ (stOf a i).2.length) ∧ (m = hgE (hgt a) ((stOf a i).2.take k)) ∧ (m ≤ a.length + 1) ∧ (Wk w0 wM) ∧ (Md (fun q => (Value.slice ah a.length ch).ownBlock = some q) w wM) ∧ (World.ownsRow wM B 3 1 (.slice ah a.length ch) a.length ((hs1).map iv64)) ∧ (HI a hs1) ∧ (∀ j, hs.getD j 0 ≠ -1 → hs1.getD j 0 ≠ -1) ∧ (∀ e ∈ (stOf a i).2.take k, hs1.getD e.2.toNat 0 ≠ -1) ∧ (σ1 0 = .slice aa a.length cA) ∧ (σ1 1 = .slice ah a.length ch) ∧ (σ1 2 = .int .i64 i) ∧ (σ1 7 = .int .i64 (m : Nat)) ∧ (σ1 8 = .int .i64 k) ∧ ((stOf a i).2.length - k = gm)) _ ⟨0, 0, hs, (by omega), rfl, (by omega), hE, (Md.refl _ _), hO, hI, ((fun j h => h)), ((fun e he => by simp at he)), rfl, rfl, rfl, rfl, rfl, rfl⟩ ?_
      rintro gm σ1 wM ⟨k, m, hs1, hk, hm, hml, hEM, hMM, hO1, hI1, hmo, hall, hs1_0, hs1_1, hs1_2, hs1_7, hs1_8, rfl⟩
      refine fx 0 hs1_0 (fx 1 hs1_1 (fx 2 hs1_2 (fx 7 hs1_7 (fx 8 hs1_8 ?_))))
      refine sq (fun K7 hK7 => ?_)
      refine sq (fun K8 hK8 => ?_)
      refine rg ?_
      refine p (mvt (.int .i64 k) rfl) ?_
      refine p (mvt (.slice aa a.length cA) rfl) ?_
      refine p (mvt (.int .i64 i) rfl) ?_
      refine p (ia' es42 rfl rfl (by omega) (hA.ok (by omega))) ?_
      refine p (fa fo79_1 rfl) ?_
      refine p (ld ag77 rfl (hEM.cel h21)) ?_
      refine p (lnl u77 rfl rfl) ?_
      refine p (lt rfl rfl) ?_
      refine nl ?_
      refine tn (hK8 _ _ ?_)
      refine cd rfl (fun hc26 => ?_) (fun hc26 => ?_)
      · refine skp ?_
        refine tn (hK7 _ _ ?_)
        refine sq (fun K9 hK9 => ?_)
        refine blk ?_
        refine sq (fun K10 hK10 => ?_)
        obtain ⟨⟨c, z⟩, hek⟩ : ∃ e, (stOf a i).2[k]? = some e := ⟨_, List.getElem?_eq_getElem (by omega)⟩
        have hze := hS.edge hi (List.mem_of_getElem? hek)
        simp only at hze
        have hmle : m ≤ a.length + 1 := by omega
        refine rg ?_
        refine p (mvt (.slice aa a.length cA) rfl) ?_
        refine p (mvt (.slice ah a.length ch) rfl) ?_
        refine p (mvt (.slice aa a.length cA) rfl) ?_
        refine p (mvt (.int .i64 i) rfl) ?_
        refine p (ia' es42 rfl rfl (by omega) (hA.ok (by omega))) ?_
        refine p (fa fo79_1 rfl) ?_
        refine p (ld ag77 rfl (hEM.cel h21)) ?_
        refine p (mvt (.int .i64 k) rfl) ?_
        refine p (ia' es77 rfl rfl (by omega) (hEd0.ok (by omega))) ?_
        refine p (fa fo82_1 rfl) ?_
        refine p (ld ag3 rfl (show _ = some (Value.int .i64 ((z.toNat : Nat) : Int)) from ((hEd0.wk hEM).to k (c, z) hek).trans (congrArg (fun z => some (Value.int .i64 z)) (by simp only; omega)))) ?_
        refine e (cl c51 (ih z.toNat hs1 _ hEM hO1 hI1 (by omega) (by omega)) rfl fun v40 w40 hR40 => ?_)
        obtain ⟨rfl, hM40, hs2, hO2, hI2, hmo2, hne2⟩ := hR40
        have hzl := hgt_le a z.toNat
        have hE40 : Wk w0 w40 := Md.trans' hEM hM40 hFF
        refine p asg ?_
        refine nl ?_
        refine tn (hK10 _ _ ?_)
        refine sq (fun K11 hK11 => ?_)
        refine rg ?_
        refine p mv ?_
        refine p (adv ((hgt a z.toNat + 1 : Nat) : Int) rfl rfl (w64n (by omega) (by omega))) ?_
        refine p (mvt (.int .i64 (m : Nat)) rfl) ?_
        refine p (gt rfl rfl) ?_
        refine nl ?_
        refine tn (hK11 _ _ ?_)
        refine cd rfl (fun hc44 => ?_) (fun hc44 => ?_)
        · refine rg ?_
          refine p mv ?_
          refine p (adv ((hgt a z.toNat + 1 : Nat) : Int) rfl rfl (w64n (by omega) (by omega))) ?_
          refine p asg ?_
          refine nl ?_
          refine bn ?_
          refine tn (hK9 _ _ ?_)
          refine rg ?_
          refine p (mvt (.int .i64 k) rfl) ?_
          refine p (ad rfl rfl (wi64 (by omega))) ?_
          refine p asg ?_
          refine nl ?_
          refine tn ?_
          exact ⟨_, by omega, k + 1, hgt a z.toNat + 1, hs2, (by omega), ((by rw [take_some hek, hgE_snoc, ← hm]; simp only; omega)), (by omega), hE40, (Md.trans hMM hM40), hO2, hI2, ((fun j h => hmo2 j (hmo j h))), ((fun e he => by rw [take_some hek] at he; rcases List.mem_append.1 he with he | he <;> first | exact hmo2 _ (hall e he) | (rw [List.mem_singleton] at he; subst he; exact hne2))), rfl, rfl, rfl, rfl, rfl, rfl⟩
        · refine skp ?_
          refine bn ?_
          refine tn (hK9 _ _ ?_)
          refine rg ?_
          refine p (mvt (.int .i64 k) rfl) ?_
          refine p (ad rfl rfl (wi64 (by omega))) ?_
          refine p asg ?_
          refine nl ?_
          refine tn ?_
          exact ⟨_, by omega, k + 1, m, hs2, (by omega), ((by rw [take_some hek, hgE_snoc, ← hm]; simp only; omega)), (by omega), hE40, (Md.trans hMM hM40), hO2, hI2, ((fun j h => hmo2 j (hmo j h))), ((fun e he => by rw [take_some hek] at he; rcases List.mem_append.1 he with he | he <;> first | exact hmo2 _ (hall e he) | (rw [List.mem_singleton] at he; subst he; exact hne2))), rfl, rfl, rfl, rfl, rfl, rfl⟩
      · refine ext ?_
        refine te _ ?_
        refine te _ ?_
        refine be ?_
        refine tn (hK5 _ _ ?_)
        refine sq (fun K9 hK9 => ?_)
        rw [show k = (stOf a i).2.length by omega, List.take_length] at hm hall
        have hmh : (m : Int) = ((hgt a i : Nat) : Int) := by rw [hS.hgt hi, hm]
        refine rg ?_
        refine p (mvt (.slice ah a.length ch) rfl) ?_
        refine p (mvt (.int .i64 i) rfl) ?_
        refine p (mvt (.int .i64 (m : Nat)) rfl) ?_
        refine p (ia' es54 rfl rfl (by omega) (Cells.ok ((own_cellsS hO1).2) (ne_iv (by rw [own_ilen hO1]; omega)))) ?_
        refine e (stI (i := i) (v := ((hgt a i : Nat) : Int)) hO1 cz3 rfl (iv hmh) rfl (by omega) fun w12 hM12 ho12 => ?_)
        obtain ⟨hI12, hmo12, hne12⟩ := hI1.put hi hall
        refine nl ?_
        refine tn (hK9 _ _ ?_)
        refine sq (fun K10 hK10 => ?_)
        refine rg ?_
        refine p (mvt (.int .i64 (m : Nat)) rfl) ?_
        refine p (ast (.int .i64 (m : Nat)) rfl) ?_
        refine nl ?_
        refine tn (hK10 _ _ ?_)
        refine rt ?_
        refine f1 rfl rfl ?_
        exact ⟨iv hmh, Md.trans hMM hM12, _, ho12, hI12, fun j h => hmo12 j (hmo j h), hne12⟩

theorem hs_tab {a : List EnI} {hs : List Int} (hl : hs.length = a.length) (h : ∀ i, i < a.length → hs.getD i 0 = (hgt a i : Nat)) : hs.map iv64 = (tab a.length (hgt a)).map nv := by
  refine List.ext_getElem? fun i => ?_
  rw [List.getElem?_map, List.getElem?_map]
  by_cases hi : i < a.length
  · have h1 := h i hi
    rw [List.getD_eq_getElem?_getD, List.getElem?_eq_getElem (by omega)] at h1
    rw [tab_get _ hi, List.getElem?_eq_getElem (by omega)]
    simp only [Option.getD_some] at h1
    simp only [Option.map_some, iv64, nv, h1]
  · rw [List.getElem?_eq_none (by omega), List.getElem?_eq_none (by rw [tab_len]; omega)]; rfl
/-! copied states -/
def efI (es : List (UInt8 × Int)) : List Value := es.flatMap fun e => [.int .u8 e.1.toNat, .int .i64 e.2]
def sfI (svs : List (Bool × Value)) : List Value := svs.flatMap fun q => [.bool q.1, q.2]
theorem efI_app (l m : List (UInt8 × Int)) : efI (l ++ m) = efI l ++ efI m := List.flatMap_append
theorem sfI_app (l m : List (Bool × Value)) : sfI (l ++ m) = sfI l ++ sfI m := List.flatMap_append
structure SO (w : World) (B : Nat) (ov : Value) (svs : List (Bool × Value)) (sts : List EnI) : Prop where
  row : World.ownsRow w B 79 2 ov svs.length (sfI svs)
  len : svs.length = sts.length
  st : ∀ (i : Nat) q, svs[i]? = some q → q.1 = (stOf sts i).1 ∧ World.ownsRow w B 82 2 q.2 (stOf sts i).2.length (efI (stOf sts i).2)
section
variable {w w' : World} {B : Nat} {ov : Value} {svs : List (Bool × Value)} {sts : List EnI}
theorem SO.wk (h : SO w B ov svs sts) (hm : Wk w w') : SO w' B ov svs sts := ⟨own_nw h.row hm, h.len, fun i q hq => ⟨(h.st i q hq).1, own_nw (h.st i q hq).2 hm⟩⟩
theorem stOf_app {p : EnI} {i : Nat} (h : i < sts.length) : stOf (sts ++ [p]) i = stOf sts i := by
  unfold stOf; rw [List.getD_eq_getElem?_getD, List.getD_eq_getElem?_getD, List.getElem?_append_left h]
theorem stOf_last {p : EnI} : stOf (sts ++ [p]) sts.length = p := by
  unfold stOf; rw [List.getD_eq_getElem?_getD, List.getElem?_append_right (Nat.le_refl _), Nat.sub_self]; rfl
theorem SO.app {ov' ev : Value} {p : EnI} (h : SO w B ov svs sts) (he : World.ownsRow w B 82 2 ev p.2.length (efI p.2)) (hm : Md (fun q => ov.ownBlock = some q) w w') (ho : World.ownsRow w' B 79 2 ov' (svs.length + 1) (sfI svs ++ [.bool p.1, ev])) : SO w' B ov' (svs ++ [(p.1, ev)]) (sts ++ [p]) := by
  have hk : ∀ (v : Value) n xs, World.ownsRow w B 82 2 v n xs → World.ownsRow w' B 82 2 v n xs := fun v n xs hv => own_md hv hm (fun k hk hf => own_ne hv h.row (by decide) hk hf)
  refine ⟨by rw [List.length_append, sfI_app]; exact ho, by rw [List.length_append, List.length_append, h.len]; rfl, fun i q hq => ?_⟩
  rw [List.getElem?_append] at hq
  split at hq
  · rename_i hi
    rw [stOf_app (by rw [← h.len]; exact hi)]
    exact ⟨(h.st i q hq).1, hk _ _ _ (h.st i q hq).2⟩
  · rename_i hi
    obtain ⟨h1, h2⟩ := List.getElem?_eq_some_iff.1 hq
    simp only [List.length_singleton] at h1
    have : i = sts.length := by have := h.len; omega
    subst this
    simp only [List.getElem_singleton] at h2
    subst h2
    rw [stOf_last]
    exact ⟨rfl, hk _ _ _ he⟩
theorem SO.sti (h : SO w B ov svs sts) : ∃ aa c, ov = .slice aa sts.length c ∧ StI w.heap aa sts := by
  obtain ⟨aa, c, hv, hc, _⟩ := own_cells h.row
  refine ⟨aa, c, by rw [hv, h.len], fun h0 => hc.ok (flat_ne (f := fun q : Bool × Value => [Value.bool q.1, q.2]) (m := 2) (fun _ => rfl) (by decide) (by have := h.len; omega)), fun i hi => ?_⟩
  have hq : svs[i]? = some (svs[i]'(by rw [h.len]; exact hi)) := List.getElem?_eq_getElem _
  obtain ⟨h1, h2⟩ := h.st i _ hq
  obtain ⟨ea, ec, hev, hec, _⟩ := own_cells h2
  have h4 := flat_cells (f := fun q : Bool × Value => [Value.bool q.1, q.2]) (m := 2) (fun _ => rfl) hc hq
  refine ⟨ea, ec, ?_, ?_, ?_⟩
  · rw [h4 0 (by omega)]; simp [h1]
  · rw [h4 1 (by omega)]; simp [hev]
  · refine ⟨fun h0 => hec.ok (flat_ne (f := fun e : UInt8 × Int => [Value.int .u8 e.1.toNat, .int .i64 e.2]) (m := 2) (fun _ => rfl) (by decide) h0), fun k e he => ?_, fun k e he => ?_⟩
    · exact flat_cells (f := fun e : UInt8 × Int => [Value.int .u8 e.1.toNat, .int .i64 e.2]) (m := 2) (fun _ => rfl) hec he 0 (by omega)
    · exact flat_cells (f := fun e : UInt8 × Int => [Value.int .u8 e.1.toNat, .int .i64 e.2]) (m := 2) (fun _ => rfl) hec he 1 (by omega)
end

theorem heights_w (a : List EnI) (l : List Nat) (aa : Option Addr) (cA : Nat) (w : World) (hS : Shp a l) (hA : StI w.heap aa a) :
    Ret Try.prog 41 (List.toArray [.slice aa a.length cA]) w (fun v w' => Wk w w' ∧ World.ownsRow w' w.heap.size 3 1 v a.length ((tab a.length (hgt a)).map nv)) := by
  have hle := hS.le
  have hpos := hS.pos
  refine enter Try.func41 rfl Try.ntmps41 rfl ?_
  refine sq (fun K1 hK1 => ?_)
  refine rg ?_
  refine p asg ?_
  refine nl ?_
  refine tn (hK1 _ _ ?_)
  refine sq (fun K2 hK2 => ?_)
  refine rg ?_
  refine p (mvt (.slice aa a.length cA) rfl) ?_
  refine p (lnl u42 rfl rfl) ?_
  refine e (mks (zv := .int .i64 0) so54 rfl rfl rfl rfl (by omega) (by unfold maxLen; omega) fun bm w7 hb7 hN7 ho7 => ?_)
  have hO7 := ho7 w.heap.size (by omega)
  refine p asg ?_
  refine nl ?_
  refine tn (hK2 _ _ ?_)
  refine sq (fun K3 hK3 => ?_)
  refine sq (fun K4 hK4 => ?_)
  refine rg ?_
  refine p asg ?_
  refine nl ?_
  refine tn (hK4 _ _ ?_)
  refine blk ?_
  refine lp (fun gm σ1 wL => ∃ (i : Nat) (hs : List Int), (i ≤ a.length) ∧ (Wk w wL) ∧ (World.ownsRow wL w.heap.size 3 1 (.slice (some ⟨bm, 0, none⟩) a.length a.length) a.length (hs.map iv64)) ∧ (∀ j, j < i → hs.getD j 0 = -1) ∧ (σ1 0 = .slice aa a.length cA) ∧ (σ1 3 = .slice (some ⟨bm, 0, none⟩) a.length a.length) ∧ (σ1 4 = .int .i64 i) ∧ (a.length - i = gm)) _ ⟨0, List.replicate a.length 0, (by omega), hN7.md, ((by rw [List.map_replicate]; exact hO7)), ((fun j hj => by omega)), rfl, rfl, rfl, rfl⟩ ?_
  rintro gm σ1 wL ⟨i, hs, hi, hE, hO, hm1, hs1_0, hs1_3, hs1_4, rfl⟩
  refine fx 0 hs1_0 (fx 3 hs1_3 (fx 4 hs1_4 ?_))
  refine sq (fun K5 hK5 => ?_)
  refine sq (fun K6 hK6 => ?_)
  refine rg ?_
  refine p (mvt (.int .i64 i) rfl) ?_
  refine p (mvt (.slice aa a.length cA) rfl) ?_
  refine p (lnl u42 rfl rfl) ?_
  refine p (lt rfl rfl) ?_
  refine nl ?_
  refine tn (hK6 _ _ ?_)
  refine cd rfl (fun hc11 => ?_) (fun hc11 => ?_)
  · refine skp ?_
    refine tn (hK5 _ _ ?_)
    refine sq (fun K7 hK7 => ?_)
    refine blk ?_
    refine rg ?_
    refine p (mvt (.slice (some ⟨bm, 0, none⟩) a.length a.length) rfl) ?_
    refine p (mvt (.int .i64 i) rfl) ?_
    refine p (ia es54 rfl rfl (by omega)) ?_
    refine e (stI (i := i) (v := -1) hO cz3 rfl rfl rfl (by omega) fun w5 hM5 ho5 => ?_)
    have hlh := own_ilen hO
    refine nl ?_
    refine bn ?_
    refine tn (hK7 _ _ ?_)
    refine rg ?_
    refine p (mvt (.int .i64 i) rfl) ?_
    refine p (ad rfl rfl (wi64 (by omega))) ?_
    refine p asg ?_
    refine nl ?_
    refine tn ?_
    exact ⟨_, by omega, i + 1, hs.set i (-1), (by omega), (Wk.own hE hO hM5 (Nat.le_refl _)), ho5, ((fun j hj => by rw [getDI_set _ _ _ _ (by omega)]; split; rfl; exact hm1 j (by omega))), rfl, rfl, rfl, rfl⟩
  · refine ext ?_
    refine te _ ?_
    refine te _ ?_
    refine be ?_
    refine tn (hK3 _ _ ?_)
    refine sq (fun K7 hK7 => ?_)
    have hI0 : HI a hs := ⟨own_ilen hO, fun j hj => .inl (hm1 j (by omega))⟩
    refine rg ?_
    refine p (mvt (.slice aa a.length cA) rfl) ?_
    refine p (mvt (.slice (some ⟨bm, 0, none⟩) a.length a.length) rfl) ?_
    refine e (cl c51 (height_w (l.idxOf 0 + 1) a l aa (some ⟨bm, 0, none⟩) cA a.length w.heap.size w 0 hs _ hS hA (Nat.le_refl _) hE hO hI0 hpos (by omega)) rfl fun v19 w19 hR19 => ?_)
    obtain ⟨_, hM19, hs2, hO2, hI2, _, hne2⟩ := hR19
    have hE19 : Wk w w19 := Wk.own hE hO hM19 (Nat.le_refl _)
    refine nl ?_
    refine tn (hK7 _ _ ?_)
    refine sq (fun K8 hK8 => ?_)
    refine rg ?_
    refine p (mvt (.slice (some ⟨bm, 0, none⟩) a.length a.length) rfl) ?_
    refine p (ast (.slice (some ⟨bm, 0, none⟩) a.length a.length) rfl) ?_
    refine nl ?_
    refine tn (hK8 _ _ ?_)
    refine rt ?_
    refine f1 rfl rfl ?_
    refine ⟨hE19, ?_⟩
    rw [← hs_tab hI2.len (hI2.all hS hne2)]
    exact hO2
set_option maxHeartbeats 1000000 in
theorem states_w (a : List EnI) (aa : Option Addr) (cA : Nat) (w : World) (hA : StI w.heap aa a) (hal : a.length ≤ 1073741824) (hes : ∀ i, i < a.length → (stOf a i).2.length ≤ 1073741824) :
    Ret Try.prog 15 (List.toArray [.slice aa a.length cA]) w (fun v w' => Wk w w' ∧ ∃ ab c, v = .slice ab a.length c ∧ StI w'.heap ab a) := by
  refine enter Try.func15 rfl Try.ntmps15 rfl ?_
  refine sq (fun K1 hK1 => ?_)
  refine rg ?_
  refine p asg ?_
  refine nl ?_
  refine tn (hK1 _ _ ?_)
  refine sq (fun K2 hK2 => ?_)
  refine rg ?_
  refine p asg ?_
  refine nl ?_
  refine tn (hK2 _ _ ?_)
  refine sq (fun K3 hK3 => ?_)
  refine sq (fun K4 hK4 => ?_)
  refine rg ?_
  refine p (mvt (.slice aa a.length cA) rfl) ?_
  refine p (lnl u32 rfl rfl) ?_
  refine p mv ?_
  refine nl ?_
  refine tn (hK4 _ _ ?_)
  refine blk ?_
  refine lp (fun gm σ1 wL => ∃ (i : Nat) (ov : Value) (svs : List (Bool × Value)), (i ≤ a.length) ∧ (Wk w wL) ∧ (SO wL w.heap.size ov svs (a.take i)) ∧ (σ1 3 = ov) ∧ (σ1 9 = .slice aa a.length cA) ∧ (σ1 10 = .int .i64 a.length) ∧ (σ1 11 = .int .i64 i) ∧ (a.length - i = gm)) _ ⟨0, .slice none 0 0, [], (by omega), (Md.refl _ _), (⟨World.ownsRow_nil _ _ _ _, rfl, fun j q hq => by simp at hq⟩), rfl, rfl, rfl, rfl, rfl⟩ ?_
  rintro gm σ1 wL ⟨i, ov, svs, hi, hE, hSO, hs1_3, hs1_9, hs1_10, hs1_11, rfl⟩
  refine fx 3 hs1_3 (fx 9 hs1_9 (fx 10 hs1_10 (fx 11 hs1_11 ?_)))
  refine sq (fun K5 hK5 => ?_)
  refine rg ?_
  refine p (lt rfl rfl) ?_
  refine nl ?_
  refine tn (hK5 _ _ ?_)
  refine sq (fun K6 hK6 => ?_)
  refine cd rfl (fun hc12 => ?_) (fun hc12 => ?_)
  · refine skp ?_
    refine tn (hK6 _ _ ?_)
    refine sq (fun K7 hK7 => ?_)
    refine blk ?_
    refine sq (fun K8 hK8 => ?_)
    obtain ⟨ea, ec, h2c, hEd0⟩ := hA.two (i := i) (by omega)
    have hesl := hes i (by omega)
    have hln := hSO.len
    rw [List.length_take] at hln
    refine rg ?_
    refine p (ia' es32 rfl rfl (by omega) (hA.ok (by omega))) ?_
    refine p (lda ag76 rfl rfl (two_wk hE h2c)) ?_
    refine e (alT zs76 fun b5 w5 hb5 hN5 hB5 => ?_)
    refine e (staT cz76 rfl rfl rfl rfl hB5 (by simp) fun w4 hM4 hB4 => ?_)
    have hB4x : Blk w4.heap b5 [.bool (stOf a i).1, .slice ea (stOf a i).2.length ec] := ⟨_, hB4⟩
    have hE4 : Wk wL w4 := Md.trans' hN5.md hM4 (fun k hk h => by omega)
    refine nl ?_
    refine tn (hK8 _ _ ?_)
    refine sq (fun K9 hK9 => ?_)
    refine rg ?_
    refine p (fa fo76_0 rfl) ?_
    refine p (ld ag4 rfl (hB4x.cel 0)) ?_
    refine p (bld (ps := [(0, .bool (stOf a i).1)]) (L := [.bool (stOf a i).1, .slice none 0 0]) st79 rfl (rfl)) ?_
    refine e (alT zs79 fun b6 w6 hb6 hN6 hB6 => ?_)
    refine e (staT cz79 rfl rfl rfl rfl hB6 (by simp) fun w7 hM7 hB7 => ?_)
    have hs4 := hE4.size
    have hE7 : Wk w4 w7 := Md.trans' hN6.md hM7 (fun k hk h => by omega)
    have hB7x : w7.heap[b6]? = some (.cells [.bool (stOf a i).1, .slice none 0 0].toArray 79 (0, 0)) := hB7
    have hB5y := hE7.B hB4x
    refine nl ?_
    refine tn (hK9 _ _ ?_)
    refine sq (fun K10 hK10 => ?_)
    refine sq (fun K11 hK11 => ?_)
    refine rg ?_
    refine p (fa fo76_1 rfl) ?_
    refine p (ld ag74 rfl (hB5y.cel 1)) ?_
    refine p (lnl u74 rfl rfl) ?_
    refine p mv ?_
    refine nl ?_
    refine tn (hK11 _ _ ?_)
    refine blk ?_
    refine lp (fun gm σ2 wM => ∃ (k : Nat) (ev_ : Value), (k ≤ (stOf a i).2.length) ∧ (Wk wL wM) ∧ ((wM).heap[b6]? = some (.cells [.bool (stOf a i).1, ev_].toArray 79 (0, 0))) ∧ (World.ownsRow wM wL.heap.size 82 2 ev_ k (efI ((stOf a i).2.take k))) ∧ (σ2 3 = ov) ∧ (σ2 6 = .pointer (some ⟨b6, 0, none⟩)) ∧ (σ2 9 = .slice aa a.length cA) ∧ (σ2 10 = .int .i64 a.length) ∧ (σ2 11 = .int .i64 i) ∧ (σ2 19 = .slice ea (stOf a i).2.length ec) ∧ (σ2 20 = .int .i64 (stOf a i).2.length) ∧ (σ2 21 = .int .i64 k) ∧ ((stOf a i).2.length - k = gm)) _ ⟨0, .slice none 0 0, (by omega), (Md.trans hE4 hE7), hB7x, (World.ownsRow_nil _ _ _ _), rfl, rfl, rfl, rfl, rfl, rfl, rfl, rfl, rfl⟩ ?_
    rintro gm σ2 wM ⟨k, ev_, hk, hEM, hxb, hev, hs2_3, hs2_6, hs2_9, hs2_10, hs2_11, hs2_19, hs2_20, hs2_21, rfl⟩
    refine fx 3 hs2_3 (fx 6 hs2_6 (fx 9 hs2_9 (fx 10 hs2_10 (fx 11 hs2_11 (fx 19 hs2_19 (fx 20 hs2_20 (fx 21 hs2_21 ?_)))))))
    refine sq (fun K12 hK12 => ?_)
    refine rg ?_
    refine p (lt rfl rfl) ?_
    refine nl ?_
    refine tn (hK12 _ _ ?_)
    refine sq (fun K13 hK13 => ?_)
    refine cd rfl (fun hc22 => ?_) (fun hc22 => ?_)
    · refine skp ?_
      refine tn (hK13 _ _ ?_)
      refine sq (fun K14 hK14 => ?_)
      refine blk ?_
      refine sq (fun K15 hK15 => ?_)
      obtain ⟨⟨c, z⟩, hek⟩ : ∃ e, (stOf a i).2[k]? = some e := ⟨_, List.getElem?_eq_getElem (by omega)⟩
      refine rg ?_
      refine p (ia' es74 rfl rfl (by omega) (hEd0.ok (by omega))) ?_
      refine p (lda ag81 rfl rfl (two_wk (Md.trans hE hEM) (hEd0.two hek))) ?_
      refine e (alT zs81 fun b8 w8 hb8 hN8 hB8 => ?_)
      refine e (staT cz81 rfl rfl rfl rfl hB8 (by simp) fun w9 hM9 hB9 => ?_)
      have hB9x : Blk w9.heap b8 [.int .u8 c.toNat, .int .i64 z] := ⟨_, hB9⟩
      have hE9 : Wk wM w9 := Md.trans' hN8.md hM9 (fun k hk h => by omega)
      have hx9 := hE9.blk hxb
      have hsM := hEM.size
      refine nl ?_
      refine tn (hK15 _ _ ?_)
      refine rg ?_
      refine p (fa fo79_1 rfl) ?_
      refine p (ld ag77 rfl (Blk.cel ⟨_, hx9⟩ 1)) ?_
      refine p (fa fo81_0 rfl) ?_
      refine p (ld ag5 rfl (hB9x.cel 0)) ?_
      refine p (fa fo81_1 rfl) ?_
      refine p (ld ag3 rfl (hB9x.cel 1)) ?_
      refine p (bld (ps := [(0, .int .u8 c.toNat), (1, .int .i64 z)]) (L := [.int .u8 c.toNat, .int .i64 z]) st82 rfl (rfl)) ?_
      refine e (bsa so77 rfl rfl rfl fun b32 w32 hb32 hN32 hB32 => ?_)
      have hB32x : Blk w32.heap b32 [.int .u8 c.toNat, .int .i64 z] := hB32
      have hx32 := hN32.md.blk hx9
      have hE32 : Wk wM w32 := Md.trans hE9 hN32.md
      have hs32 := hE32.size
      refine e (ap so77 (own_nw hev hE32) rfl (by omega) rfl (Cells.of_blk hB32x) (rfl) (rfl) (by omega) (by omega) fun v33 w33 ho33 hM33 hz33 hf33 => ?_)
      have hx33 := hM33.blk hx32 (fun h => own_cellne' (own_nw hev hE32) hx32 (by decide) h)
      have hE33 : Wk wL w33 := Wk.own (Md.trans hEM hE32) (own_nw hev hE32) hM33 (Nat.le_refl _)
      refine p (fa fo79_1 rfl) ?_
      refine e (stT cz77 rfl rfl (own_one ho33) hx33 (by simp) fun w10 hM10 hB10 => ?_)
      have hx10 : w10.heap[b6]? = some (.cells [.bool (stOf a i).1, v33].toArray 79 (0, 0)) := hB10
      have hev10 := own_md ho33 hM10 (fun k hk h => own_cellne' ho33 hx33 (by decide) (by rw [hk, h]))
      have hE10 : Wk wL w10 := Md.trans' hE33 hM10 (fun k hk h => by omega)
      refine nl ?_
      refine bn ?_
      refine tn (hK14 _ _ ?_)
      refine rg ?_
      refine p (ad rfl rfl (wi64 (by omega))) ?_
      refine p mv ?_
      refine nl ?_
      refine tn ?_
      exact ⟨_, by omega, k + 1, v33, (by omega), hE10, hx10, ((by rw [take_some hek, efI_app]; exact hev10)), rfl, rfl, rfl, rfl, rfl, rfl, rfl, rfl, rfl⟩
    · refine ext ?_
      refine te _ ?_
      refine te _ ?_
      refine be ?_
      refine tn (hK10 _ _ ?_)
      refine rg ?_
      refine p (mvt (ov) rfl) ?_
      refine p (lda ag79 rfl rfl (two_cel (Blk.cel ⟨_, hxb⟩ 0) (Blk.cel ⟨_, hxb⟩ 1))) ?_
      refine e (bsa so42 rfl rfl rfl fun b38 w38 hb38 hN38 hB38 => ?_)
      have hB38x : Blk w38.heap b38 [.bool (stOf a i).1, ev_] := hB38
      have hE38 : Wk wL w38 := Md.trans hEM hN38.md
      have hSO38 := hSO.wk hE38
      have hEw38 : Wk w w38 := Md.trans hE hE38
      refine e (ap so42 (hSO38.row) rfl (hEw38.size) rfl (Cells.of_blk hB38x) (rfl) (by rw [List.all_cons, List.all_cons, own_one hev]; rfl) (by omega) (by omega) fun v39 w39 ho39 hM39 hz39 hf39 => ?_)
      rw [List.take_of_length_le (show (stOf a i).2.length ≤ k by omega), show k = (stOf a i).2.length by omega] at hev
      have hSO39 := hSO38.app (p := (stOf a i)) (own_mono (own_nw hev hN38.md) hE.size) hM39 ho39
      have hE39 : Wk w w39 := Wk.own hEw38 hSO38.row hM39 (Nat.le_refl _)
      refine p asg ?_
      refine nl ?_
      refine bn ?_
      refine tn (hK7 _ _ ?_)
      refine rg ?_
      refine p (ad rfl rfl (wi64 (by omega))) ?_
      refine p mv ?_
      refine nl ?_
      refine tn ?_
      exact ⟨_, by omega, i + 1, v39, svs ++ [((stOf a i).1, ev_)], (by omega), hE39, ((by rw [take_succ_getD a i dI (by omega)]; exact hSO39)), rfl, rfl, rfl, rfl, rfl⟩
  · refine ext ?_
    refine te _ ?_
    refine te _ ?_
    refine be ?_
    refine tn (hK3 _ _ ?_)
    refine sq (fun K7 hK7 => ?_)
    refine rg ?_
    refine p (mvt (ov) rfl) ?_
    refine p (ast (ov) rfl) ?_
    refine nl ?_
    refine tn (hK7 _ _ ?_)
    refine rt ?_
    refine f1 rfl rfl ?_
    rw [show i = a.length by omega, List.take_length] at hSO
    obtain ⟨ab, c, hv, hst⟩ := hSO.sti
    exact ⟨hE, ab, c, hv, hst⟩
end Go.Hb.Heights
