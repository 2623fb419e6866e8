/-
  The law BookKeeps holds of every input of bulk at most 1,048,576: the call returns true and leaves its arguments as they were. Conditions: none but the statement's own bound on the arguments' bulk.
-/
import Derived.Test.YtjaoldaegkmkjaaGreatDoorBookKeepsA
import Derived.Test.YtjaoldaegkmkjaaGreatDoorBookKeepsB
import Derived.Test.YtjaoldaegkmkjaaGreatDoorMnBookKeeps5
import Derived.Test.YtjaoldaegkmkjaaGreatDoorRows
import Derived.LaidMore
import Derived.LaidOnce
import Derived.Deep.DeepWitnessRowRef
import Derived.Stop.Joined
import Derived.Test.YtjaoldaegkmkjaaGreatDoorCards
import Derived.Test.YtjaoldaegkmkjaaGreatDoorTie
import Derived.WalkKit
import Derived.ProofKit
import Derived.OpenShut
import Derived.Deep.DeepHandedRow
import Derived.Lib.LaidTab
set_option linter.unusedVariables false
namespace Go.Proofs.YtjaoldaegkmkjaaGreatDoor.bookKeeps
open Go.Hb Go.ChangeShapes Go.WideShapes Go.ChangeAt Go.RowKit
theorem said:Rows.BookKeepsUptoSaid:=
 OpenClaim.holds_of_cond 5 Tryz.f5 rfl rfl rfl rfl rfl rfl rfl ⟨rfl,rfl,rfl,rfl,rfl⟩ rfl rfl rfl rfl rfl aj Tryz.func5 jf
  (of_decide_eq_true aj) (by unfold Func.isWrapper; first | (rw [if_pos (by decide+kernel)]; kernel_rfl) | (rw [if_neg (by decide+kernel)]; exact ⟨rfl,rfl⟩))
  (fun os started H enc _ F=>by rw [OpenClaim.pre_eq_preRow]; exact lifted os started H enc F)
theorem plain (f:FuncId) (fn:Func) (E:Tryz.pinned.checked.prog.funcNamed "hornbook/hornbooklaw21.BookKeeps" =some f) (I:Tryz.pinned.checked.prog.funcs[f]? =some fn):
 true =Tryz.pinned.checked.prog.looks []∧∀ (j:Nat) t,fn.params[j]? =some t→Tryz.pinned.checked.prog.wantsStandIn t=false :=by
 obtain rfl :f=5:=Option.some.inj ((show Tryz.prog.funcNamed "hornbook/hornbooklaw21.BookKeeps" =some 5 by kernel_rfl).symm.trans E) |>.symm
 obtain rfl :fn=Tryz.f5:=(Option.some.inj (Tryz.func5.symm.trans I)).symm
 refine ⟨aj,fun j t C=> ?_⟩
 rw [Tryz.params5] at C
 have hm:=Array.mem_of_getElem? C
 simp only [List.mem_toArray,List.mem_cons,List.not_mem_nil,or_false] at hm
 rcases hm with rfl | rfl
 · exact (show Tryz.prog.wantsStandIn 9=false by kernel_rfl)
 · exact (show Tryz.prog.wantsStandIn 9=false by kernel_rfl)
theorem holds:Rows.BookKeepsUptoCardSaid:=
 Claim7.holds_tied_plain_at .later [] _ _ _ _ said (fun _ h=>by cases h) aj (fun _ h=>by cases h) bookKeepsUpto_row_tie rfl ⟨rfl,rfl⟩ aj rfl plain gb
#print axioms holds
end Go.Proofs.YtjaoldaegkmkjaaGreatDoor.bookKeeps

