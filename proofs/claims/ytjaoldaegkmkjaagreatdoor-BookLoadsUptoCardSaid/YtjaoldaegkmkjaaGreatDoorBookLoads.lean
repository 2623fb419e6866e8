/-
  The law BookLoads holds of every input of bulk at most 1,048,576: the call returns true and leaves its arguments as they were. Conditions: none but the statement's own bound on the arguments' bulk.
-/
import Derived.Test.YtjaoldaegkmkjaaGreatDoorBookLoadsA
import Derived.Test.YtjaoldaegkmkjaaGreatDoorBookLoadsB
import Derived.Test.YtjaoldaegkmkjaaGreatDoorMnBookLoads5
import Derived.Test.YtjaoldaegkmkjaaGreatDoorRows
import Derived.LaidMore
import Derived.LaidOnce
import Derived.Deep.DeepWitnessRowRef
import Derived.Stop.Joined
import Derived.Test.YtjaoldaegkmkjaaGreatDoorCards
import Derived.Test.YtjaoldaegkmkjaaGreatDoorTie
import Derived.WalkKit
import Derived.ProofKit
import Derived.OpenShut
import Derived.Deep.DeepHandedRow
import Derived.Lib.LaidTab
set_option linter.unusedVariables false
namespace Go.Proofs.YtjaoldaegkmkjaaGreatDoor.bookLoads
open Go.Hb Go.ChangeShapes Go.WideShapes Go.ChangeAt Go.RowKit
theorem said:Rows.BookLoadsUptoSaid:=
 OpenClaim.holds_of_cond 3 Tryz.f3 rfl rfl rfl rfl rfl rfl rfl ⟨rfl,rfl,rfl,rfl,rfl⟩ rfl rfl rfl rfl rfl aj Tryz.func3 jf
  (of_decide_eq_true aj) (by unfold Func.isWrapper; first | (rw [if_pos (by decide+kernel)]; kernel_rfl) | (rw [if_neg (by decide+kernel)]; exact ⟨rfl,rfl⟩))
  (fun os started H enc _ F=>by rw [OpenClaim.pre_eq_preRow]; exact lifted os started H enc F)
theorem plain (f:FuncId) (fn:Func) (C:Tryz.pinned.checked.prog.funcNamed "hornbook/hornbooklaw21.BookLoads" =some f) (E:Tryz.pinned.checked.prog.funcs[f]? =some fn):
 true =Tryz.pinned.checked.prog.looks []∧∀ (j:Nat) t,fn.params[j]? =some t→Tryz.pinned.checked.prog.wantsStandIn t=false :=by
 obtain rfl :f=3:=Option.some.inj ((show Tryz.prog.funcNamed "hornbook/hornbooklaw21.BookLoads" =some 3 by kernel_rfl).symm.trans C) |>.symm
 obtain rfl :fn=Tryz.f3:=(Option.some.inj (Tryz.func3.symm.trans E)).symm
 refine ⟨aj,fun j t A=> ?_⟩
 rw [Tryz.params3] at A
 have hm:=Array.mem_of_getElem? A
 simp only [List.mem_toArray,List.mem_cons,List.not_mem_nil,or_false] at hm
 rcases hm with rfl
 · exact (show Tryz.prog.wantsStandIn 9=false by kernel_rfl)
theorem holds:Rows.BookLoadsUptoCardSaid:=
 Claim7.holds_tied_plain_at .later [] _ _ _ _ said (fun _ h=>by cases h) aj (fun _ h=>by cases h) bookLoadsUpto_row_tie rfl ⟨rfl,rfl⟩ aj rfl plain gb
#print axioms holds
end Go.Proofs.YtjaoldaegkmkjaaGreatDoor.bookLoads

