/-
  The law JoinedMade: closed facts on the program. Conditions: none.
-/
import Derived.Test.YtiagknaekaknhaaGreatDoorMnJoinedMade6
import Derived.Test.YtiagknaekaknhaaGreatDoorRows
import Derived.LaidMore
import Derived.LaidOnce
import Derived.Deep.DeepWitnessRowRef
import Derived.Stop.Joined
import Derived.Test.YtiagknaekaknhaaGreatDoorCards
import Derived.Test.YtiagknaekaknhaaGreatDoorTie
import Derived.WalkKit
import Derived.ProofKit
import Derived.OpenShut
import Derived.Deep.DeepHandedRow
import Derived.Lib.LaidTab
set_option linter.unusedVariables false
namespace Go.Proofs.YtiagknaekaknhaaGreatDoor.joinedMade
open Go.Hb Go.ChangeShapes Go.WideShapes Go.ChangeAt Go.RowKit
theorem cR {a b:Bool} (h:a=true) (k:b=true):(a && b)=true :=by rw [h,k]; rfl
theorem IM:(Rows.joinedMadeUptoRow.inPlace==Tryz.pinned.checked.prog.inPlace 6)=true :=ai
theorem IN:(Rows.joinedMadeUptoRow.unfollowed==Tryz.pinned.checked.prog.unfollowed 6)=true :=ai
theorem IP:(Rows.joinedMadeUptoRow.recurses==Tryz.pinned.checked.prog.recurses 6)=true :=ai
theorem IQ:(Rows.joinedMadeUptoRow.named==Tryz.pinned.checked.prog.varsNamed 6)=true :=ai
theorem IS:(Rows.joinedMadeUptoRow.lifted==Tryz.pinned.checked.prog.liftsFinal)=true :=ai
theorem jf:joinedFacts Tryz.pinned.checked.prog 6 Tryz.f6 (Rows.OpenSpec.upto Rows.joinedMadeSpec).bare Rows.joinedMadeUptoRow=true :=
 cR (cR (cR (cR (cR (cR (cR (cR (cR (cR (cR (cR (cR (cR (cR (cR (cR (cR (cR (cR (cR (cR (cR (cR (cR (cR (cR (cR (cR (cR (cR ai ai) ai) ai) ai) ai) ai) ai) ai) IM) IN) IP) IQ) ai) ai) ai) ai) ai) ai) ai) ai) ai) ai) ai) ai) ai) IS) ai) ai) ai) ai) ai
theorem JO {P:Program} (h:P.funcs.any Func.goes=false) (f:FuncId):P.goes f=false :=by
 unfold Program.goes
 rw [h,Bool.and_false,Bool.or_false,Bool.eq_false_iff]
 intro C
 simp only [List.any_eq_true] at C
 obtain ⟨q,_,A⟩:=C
 cases hf:P.funcs[q]? with
 | none=>rw [hf] at A; cases A
 | some fn=>
   rw [hf] at A
   have hn:P.funcs.any Func.goes=true :=by
    rw [Array.any_eq_true]
    obtain ⟨E,I⟩:=Array.getElem?_eq_some_iff.1 hf
    exact ⟨q,E,by rw [I]; exact A⟩
   rw [h] at hn
   cases hn
theorem JP {P:Program} {c:OpenClaim} (h:P.funcs.any Func.goes=false) (A:c.start= .entering):false =c.goesBy P:=by
 unfold OpenClaim.goesBy Program.goesAt Program.goesFrom
 rw [A,Bool.or_false]
 cases P.funcNamed c.func with
 | none=>rfl
 | some f=>exact (JO h f).symm
theorem gb:false =OpenClaim.goesBy Rows.joinedMadeUptoRow Tryz.pinned.checked.prog:=JP ai rfl
end Go.Proofs.YtiagknaekaknhaaGreatDoor.joinedMade
