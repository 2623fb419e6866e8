/-
  The law JoinedCounts: closed facts on the program. Conditions: none.
-/
import Derived.Test.YtiagknaekaknhaaGreatDoorMnJoinedCounts6
import Derived.Test.YtiagknaekaknhaaGreatDoorRows
import Derived.LaidMore
import Derived.LaidOnce
import Derived.Deep.DeepWitnessRowRef
import Derived.Stop.Joined
import Derived.Test.YtiagknaekaknhaaGreatDoorCards
import Derived.Test.YtiagknaekaknhaaGreatDoorTie
import Derived.WalkKit
import Derived.ProofKit
import Derived.OpenShut
import Derived.Deep.DeepHandedRow
import Derived.Lib.LaidTab
set_option linter.unusedVariables false
namespace Go.Proofs.YtiagknaekaknhaaGreatDoor.joinedCounts
open Go.Hb Go.ChangeShapes Go.WideShapes Go.ChangeAt Go.RowKit
theorem cR {a b:Bool} (h:a=true) (k:b=true):(a && b)=true :=by rw [h,k]; rfl
theorem H9:(Rows.joinedCountsUptoRow.inPlace==Tryz.pinned.checked.prog.inPlace 4)=true :=ai
theorem Ia:(Rows.joinedCountsUptoRow.unfollowed==Tryz.pinned.checked.prog.unfollowed 4)=true :=ai
theorem Ib:(Rows.joinedCountsUptoRow.recurses==Tryz.pinned.checked.prog.recurses 4)=true :=ai
theorem Ic:(Rows.joinedCountsUptoRow.named==Tryz.pinned.checked.prog.varsNamed 4)=true :=ai
theorem Ie:(Rows.joinedCountsUptoRow.lifted==Tryz.pinned.checked.prog.liftsFinal)=true :=ai
theorem jf:joinedFacts Tryz.pinned.checked.prog 4 Tryz.f4 (Rows.OpenSpec.upto Rows.joinedCountsSpec).bare Rows.joinedCountsUptoRow=true :=
 cR (cR (cR (cR (cR (cR (cR (cR (cR (cR (cR (cR (cR (cR (cR (cR (cR (cR (cR (cR (cR (cR (cR (cR (cR (cR (cR (cR (cR (cR (cR ai ai) ai) ai) ai) ai) ai) ai) ai) H9) Ia) Ib) Ic) ai) ai) ai) ai) ai) ai) ai) ai) ai) ai) ai) ai) ai) Ie) ai) ai) ai) ai) ai
theorem I5 {P:Program} (h:P.funcs.any Func.goes=false) (f:FuncId):P.goes f=false :=by
 unfold Program.goes
 rw [h,Bool.and_false,Bool.or_false,Bool.eq_false_iff]
 intro C
 simp only [List.any_eq_true] at C
 obtain ⟨q,_,A⟩:=C
 cases hf:P.funcs[q]? with
 | none=>rw [hf] at A; cases A
 | some fn=>
   rw [hf] at A
   have hn:P.funcs.any Func.goes=true :=by
    rw [Array.any_eq_true]
    obtain ⟨E,I⟩:=Array.getElem?_eq_some_iff.1 hf
    exact ⟨q,E,by rw [I]; exact A⟩
   rw [h] at hn
   cases hn
theorem I6 {P:Program} {c:OpenClaim} (h:P.funcs.any Func.goes=false) (A:c.start= .entering):false =c.goesBy P:=by
 unfold OpenClaim.goesBy Program.goesAt Program.goesFrom
 rw [A,Bool.or_false]
 cases P.funcNamed c.func with
 | none=>rfl
 | some f=>exact (I5 h f).symm
theorem gb:false =OpenClaim.goesBy Rows.joinedCountsUptoRow Tryz.pinned.checked.prog:=I6 ai rfl
end Go.Proofs.YtiagknaekaknhaaGreatDoor.joinedCounts
