/-
  The law NearWithin holds of every input of bulk at most 1,048,576: the call returns true and leaves its arguments as they were. Conditions: none but the statement's own bound on the arguments' bulk.
-/
import Derived.Test.YtbfcjgfnlcbojaaRows
import Derived.Test.YtbfcjgfnlcbojaaOpn
import Derived.Test.YtbfcjgfnlcbojaaLawI
namespace Go.Proofs.Ytbfcjgfnlcbojaa.nearWithin
open Go.Hb Go.Hb.LawI Go.Hb.LawN Go.ChangeShapes Go.WideShapes Go.ChangeAt Go.RowKit
theorem own : ownKnob Try.prog.godebug = none := by kernel_rfl
theorem laidOut : laidOutB Try.prog = true := by kernel_rfl
set_option maxRecDepth 100000 in
theorem contract (H : Type) (enc : TypeId × Value → H) (W : World) (base : Nat) (args : Array Value) (ds gs : List (DataW H)) (before : List MemPlace)
    (hval : ∀ (j : Nat) t v, Try.f6.params[j]? = some t → args[j]? = some v → Value.okWide Try.prog W .any base t v)
    (hW : DataW.Whole enc Try.prog Try.f6.params.toList Rows.nearWithinSpec.vars false W args.toList ds gs before) (hk : Rows.uptoSmall H (ds ++ gs) = true) :
    Calls Try.prog 6 args W fun e W' => ∃ v, e = .returned v ∧ Rows.nearWithinSpec.post enc Try.prog Try.f6 false true false false W args v W' := by
  have hW' := hW
  obtain ⟨p, q, hA0, hV, rfl, _, _⟩ := hW
  have hA : DataW.TrodAll enc Try.prog W 0 (fun _ => true) true Try.f6.params.toList args.toList ds p := hA0
  rw [Try.params6] at hA hval
  obtain ⟨v0, vs0, d0, ds0, p0, q0, hargs, rfl, rfl, h0, r0⟩ := trodAll_cons hA
  obtain ⟨rfl, rfl, rfl⟩ := trodAll_nil r0
  obtain rfl : args = #[v0] := by cases args; simp_all
  obtain ⟨rfl, rfl⟩ := trodVars_none hV
  clear hA0
  have hb := bulk_all hk
  simp only [List.append_nil, Rows.uptoBulkAll] at hb
  obtain ⟨oc0, rfl, _⟩ := okWide_struct Try.underlying34 (hval 0 34 v0 rfl rfl)
  obtain ⟨fl0, hf0⟩ := h0
  obtain ⟨_, x0, hR0, hb0⟩ := (opens_st4 (opens_sl (opens_st2 (opens_bool Try.underlying4 (by kernel_rfl)) (opens_sl (opens_st2 (opens_int Try.underlying5 (by kernel_rfl)) (opens_int Try.underlying3 (by kernel_rfl)) Try.underlying81 rfl rfl rfl rfl (by kernel_rfl)) Try.underlying74 (by kernel_rfl) (by decide)) Try.underlying76 rfl rfl rfl rfl (by kernel_rfl)) Try.underlying32 (by kernel_rfl) (by decide)) (opens_str Try.underlying9 (by kernel_rfl)) (opens_int Try.underlying3 (by kernel_rfl)) (opens_int Try.underlying3 (by kernel_rfl)) Try.underlying34 rfl rfl rfl rfl rfl rfl rfl rfl (by kernel_rfl)).op enc W fl0 _ _ _ hf0
  obtain ⟨u0, u1, u2, u3, hcs, h00, h01, ⟨h02, _⟩, ⟨h03, _⟩⟩ := hR0
  obtain ⟨aa, cA, h00', hSt⟩ := sti_of h00
  simp only [List.cons.injEq, and_true] at h00' h01 h02 h03
  subst h00' h01 h02 h03
  have hoc : oc0 = [.slice aa (x0.1.map stI_).length cA, str x0.2.1, .int .i64 x0.2.2.1, .int .i64 x0.2.2.2].toArray := Array.toList_inj.1 hcs
  subst hoc
  have hk1 := sum_len (fun x : Bool × List (Int × Int) => 1 + ((x.2.map (fun e => 1 + 1 + 1)).sum + 1) + 1) x0.1 (fun x => by omega)
  have hk2 : ∀ i, i < (x0.1.map stI_).length → (stOf (x0.1.map stI_) i).2.length ≤ 1073741824 := fun i hi => by
    rw [List.length_map] at hi
    have hq := List.getElem?_eq_getElem hi
    rw [stI_get x0.1 i _ hq]
    have h1 := sum_ge (fun x : Bool × List (Int × Int) => 1 + ((x.2.map (fun e => 1 + 1 + 1)).sum + 1) + 1) x0.1 _ (List.getElem_mem hi)
    have h2 := sum_len (fun e : Int × Int => 1 + 1 + 1) (x0.1[i]'hi).2 (fun x => by omega)
    unfold stI_
    simp only [List.length_map]
    omega
  exact ret_true hW' rfl rfl rfl Try.underlying4 laidOut (by kernel_rfl) (nwithin_w (x0.1.map stI_) aa cA x0.2.1 x0.2.2.1 x0.2.2.2 W hSt (by rw [List.length_map]; omega) hk2 (by omega))
set_option maxRecDepth 100000 in
theorem lifted (os : Os) (started : os.Started) (H : Type) (enc : TypeId × Value → H) (F : Stop.Interp) :
    ReturnsInHanded {} Try.checked os 6 .any ((Rows.OpenSpec.upto Rows.nearWithinSpec).pre6 enc Try.prog Try.f6 Rows.nearWithinUptoRow.domain false) (((Rows.OpenSpec.upto Rows.nearWithinSpec).at F).post enc Try.prog Try.f6 false true false false) := by
  refine returnsInHanded_of_cond (C := Try.checked) (s := Rows.OpenSpec.upto Rows.nearWithinSpec) (k := Rows.uptoSmall) rfl own started (by kernel_rfl) Try.func6
    (OpenSpec.witness (enc := enc) (C := Try.checked) (s := Rows.OpenSpec.upto Rows.nearWithinSpec) (k := Rows.uptoSmall) rfl false ⟨#[], #[.agg #[.slice none 0 0, .string ⟨⟨[]⟩⟩, .int .i64 0, .int .i64 0]], []⟩ 8 (by kernel_rfl) (by kernel_rfl) (by kernel_rfl)
      (x := ([.agg [.nil, .lit (.string []), .lit (.int .i64 0), .lit (.int .i64 0)]], [], [])) (by kernel_rfl) rfl (by kernel_rfl)) ?_
  intro W base args ds gs before hval hW _ hk _
  exact contract H enc W base args ds gs before hval hW hk
theorem holds : Rows.NearWithinUptoSaid :=
  OpenClaim.holds_of_cond 6 Try.f6 rfl rfl rfl rfl rfl rfl rfl ⟨rfl, rfl, rfl, rfl, rfl⟩ rfl rfl rfl rfl rfl (by kernel_rfl) Try.func6 (by kernel_rfl)
    (of_decide_eq_true (by kernel_rfl)) (by unfold Func.isWrapper; first | (rw [if_pos (by decide +kernel)]; kernel_rfl) | (rw [if_neg (by decide +kernel)]; exact ⟨rfl, rfl⟩))
    (fun os started H enc _ F => lifted os started H enc F)
#print axioms holds
end Go.Proofs.Ytbfcjgfnlcbojaa.nearWithin
