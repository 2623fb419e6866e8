/-
  The law DawgTwins holds of every input of bulk at most 1,048,576: the call returns true and leaves its arguments as they were. Conditions: none but the statement's own bound on the arguments' bulk.
-/
import Derived.Test.YtkgdlnnmkpgfdaaRows
import Derived.Test.YtkgdlnnmkpgfdaaBulk
import Derived.Test.YtkgdlnnmkpgfdaaTwins
namespace Go.Proofs.Ytkgdlnnmkpgfdaa.dawgTwins
open Go.Hb Go.Hb.Twins Go.Hb.Plays Go.ChangeShapes Go.WideShapes Go.ChangeAt Go.RowKit
theorem own : ownKnob Try.prog.godebug = none := by kernel_rfl
theorem laidOut : laidOutB Try.prog = true := by kernel_rfl
set_option maxRecDepth 100000 in
theorem contract (H : Type) (enc : TypeId × Value → H) (W : World) (base : Nat) (args : Array Value) (ds gs : List (DataW H)) (before : List MemPlace)
    (hval : ∀ (j : Nat) t v, Try.f9.params[j]? = some t → args[j]? = some v → Value.okWide Try.prog W .any base t v)
    (hW : DataW.Whole enc Try.prog Try.f9.params.toList Rows.dawgTwinsSpec.vars false W args.toList ds gs before) (hk : Rows.uptoSmall H (ds ++ gs) = true) :
    Calls Try.prog 9 args W fun e W' => ∃ v, e = .returned v ∧ Rows.dawgTwinsSpec.post enc Try.prog Try.f9 false true false false W args v W' := by
  have hW' := hW
  obtain ⟨p, q, hA0, hV, rfl, _, _⟩ := hW
  have hA : DataW.TrodAll enc Try.prog W 0 (fun _ => true) true Try.f9.params.toList args.toList ds p := hA0
  rw [Try.params9] at hA hval
  obtain ⟨v0, vs0, d0, ds0, p0, q0, hargs, rfl, rfl, h0, r0⟩ := trodAll_cons hA
  obtain ⟨v1, vs1, d1, ds1, p1, q1, rfl, rfl, rfl, h1, r1⟩ := trodAll_cons r0
  obtain ⟨rfl, rfl, rfl⟩ := trodAll_nil r1
  obtain rfl : args = #[v0, v1] := by cases args; simp_all
  obtain ⟨rfl, rfl⟩ := trodVars_none hV
  clear hA0
  have hb := bulk_all hk
  simp only [List.append_nil, Rows.uptoBulkAll] at hb
  obtain ⟨oa0, ol0, oc0, rfl⟩ := okWide_slice Try.underlying52 (hval 0 52 v0 rfl rfl)
  obtain ⟨fl0, hf0⟩ := h0
  obtain ⟨_, x0, hR0, hb0⟩ := (opens_sl (opens_st2 (opens_int Try.underlying3 (by kernel_rfl)) (opens_sl (opens_str Try.underlying9 (by kernel_rfl)) Try.underlying22 (by kernel_rfl) (by decide)) Try.underlying57 rfl rfl rfl rfl (by kernel_rfl)) Try.underlying52 (by kernel_rfl) (by decide)).op enc W fl0 _ _ _ hf0
  obtain ⟨oa1, ol1, oc1, rfl⟩ := okWide_slice Try.underlying52 (hval 1 52 v1 rfl rfl)
  obtain ⟨fl1, hf1⟩ := h1
  obtain ⟨_, x1, hR1, hb1⟩ := (opens_sl (opens_st2 (opens_int Try.underlying3 (by kernel_rfl)) (opens_sl (opens_str Try.underlying9 (by kernel_rfl)) Try.underlying22 (by kernel_rfl) (by decide)) Try.underlying57 rfl rfl rfl rfl (by kernel_rfl)) Try.underlying52 (by kernel_rfl) (by decide)).op enc W fl1 _ _ _ hf1
  obtain ⟨a0, osv0, c0, hv0, hO0⟩ := opR_of hR0
  obtain ⟨a1, osv1, c1, hv1, hO1⟩ := opR_of hR1
  have hq0 := op_bulk x0
  have hq1 := op_bulk x1
  rw [hq0] at hb0
  rw [hq1] at hb1
  simp only [Value.slice.injEq] at hv0 hv1
  obtain ⟨rfl, rfl, rfl⟩ := hv0
  obtain ⟨rfl, rfl, rfl⟩ := hv1
  exact ret_true hW' rfl rfl rfl Try.underlying4 laidOut (by kernel_rfl) (twins_w x0 x1 osv0 osv1 _ _ _ _ W hO0 hO1 (by omega) (by omega))
set_option maxRecDepth 100000 in
theorem lifted (os : Os) (started : os.Started) (H : Type) (enc : TypeId × Value → H) (F : Stop.Interp) :
    ReturnsInHanded {} Try.checked os 9 .any ((Rows.OpenSpec.upto Rows.dawgTwinsSpec).pre6 enc Try.prog Try.f9 Rows.dawgTwinsUptoRow.domain false) (((Rows.OpenSpec.upto Rows.dawgTwinsSpec).at F).post enc Try.prog Try.f9 false true false false) := by
  refine returnsInHanded_of_cond (C := Try.checked) (s := Rows.OpenSpec.upto Rows.dawgTwinsSpec) (k := Rows.uptoSmall) rfl own started (by kernel_rfl) Try.func9
    (OpenSpec.witness (enc := enc) (C := Try.checked) (s := Rows.OpenSpec.upto Rows.dawgTwinsSpec) (k := Rows.uptoSmall) rfl false ⟨#[], #[.slice none 0 0, .slice none 0 0], []⟩ 8 (by kernel_rfl) (by kernel_rfl) (by kernel_rfl)
      (x := ([.nil, .nil], [], [])) (by kernel_rfl) rfl (by kernel_rfl)) ?_
  intro W base args ds gs before hval hW _ hk _
  exact contract H enc W base args ds gs before hval hW hk
theorem holds : Rows.DawgTwinsUptoSaid :=
  OpenClaim.holds_of_cond 9 Try.f9 rfl rfl rfl rfl rfl rfl rfl ⟨rfl, rfl, rfl, rfl, rfl⟩ rfl rfl rfl rfl rfl (by kernel_rfl) Try.func9 (by kernel_rfl)
    (of_decide_eq_true (by kernel_rfl)) (by unfold Func.isWrapper; first | (rw [if_pos (by decide +kernel)]; kernel_rfl) | (rw [if_neg (by decide +kernel)]; exact ⟨rfl, rfl⟩))
    (fun os started H enc _ F => lifted os started H enc F)
#print axioms holds
end Go.Proofs.Ytkgdlnnmkpgfdaa.dawgTwins
