/-
  The law JoinedSound: closed facts on the program. Conditions: none.
-/
import Derived.Test.YtiagknaekaknhaaGreatDoorMnJoinedSound6
import Derived.Test.YtiagknaekaknhaaGreatDoorRows
import Derived.LaidMore
import Derived.LaidOnce
import Derived.Deep.DeepWitnessRowRef
import Derived.Stop.Joined
import Derived.Test.YtiagknaekaknhaaGreatDoorCards
import Derived.Test.YtiagknaekaknhaaGreatDoorTie
import Derived.WalkKit
import Derived.ProofKit
import Derived.OpenShut
import Derived.Deep.DeepHandedRow
import Derived.Lib.LaidTab
set_option linter.unusedVariables false
namespace Go.Proofs.YtiagknaekaknhaaGreatDoor.joinedSound
open Go.Hb Go.ChangeShapes Go.WideShapes Go.ChangeAt Go.RowKit
theorem cS {a b:Bool} (h:a=true) (k:b=true):(a && b)=true :=by rw [h,k]; rfl
theorem HU:(Rows.joinedSoundUptoRow.inPlace==Tryz.pinned.checked.prog.inPlace 5)=true :=ai
theorem HV:(Rows.joinedSoundUptoRow.unfollowed==Tryz.pinned.checked.prog.unfollowed 5)=true :=ai
theorem HW:(Rows.joinedSoundUptoRow.recurses==Tryz.pinned.checked.prog.recurses 5)=true :=ai
theorem HX:(Rows.joinedSoundUptoRow.named==Tryz.pinned.checked.prog.varsNamed 5)=true :=ai
theorem HY:(Rows.joinedSoundUptoRow.lifted==Tryz.pinned.checked.prog.liftsFinal)=true :=ai
theorem jf:joinedFacts Tryz.pinned.checked.prog 5 Tryz.f5 (Rows.OpenSpec.upto Rows.joinedSoundSpec).bare Rows.joinedSoundUptoRow=true :=
 cS (cS (cS (cS (cS (cS (cS (cS (cS (cS (cS (cS (cS (cS (cS (cS (cS (cS (cS (cS (cS (cS (cS (cS (cS (cS (cS (cS (cS (cS (cS ai ai) ai) ai) ai) ai) ai) ai) ai) HU) HV) HW) HX) ai) ai) ai) ai) ai) ai) ai) ai) ai) ai) ai) ai) ai) HY) ai) ai) ai) ai) ai
theorem IQ {P:Program} (h:P.funcs.any Func.goes=false) (f:FuncId):P.goes f=false :=by
 unfold Program.goes
 rw [h,Bool.and_false,Bool.or_false,Bool.eq_false_iff]
 intro C
 simp only [List.any_eq_true] at C
 obtain ⟨q,_,A⟩:=C
 cases hf:P.funcs[q]? with
 | none=>rw [hf] at A; cases A
 | some fn=>
   rw [hf] at A
   have hn:P.funcs.any Func.goes=true :=by
    rw [Array.any_eq_true]
    obtain ⟨E,I⟩:=Array.getElem?_eq_some_iff.1 hf
    exact ⟨q,E,by rw [I]; exact A⟩
   rw [h] at hn
   cases hn
theorem IS {P:Program} {c:OpenClaim} (h:P.funcs.any Func.goes=false) (A:c.start= .entering):false =c.goesBy P:=by
 unfold OpenClaim.goesBy Program.goesAt Program.goesFrom
 rw [A,Bool.or_false]
 cases P.funcNamed c.func with
 | none=>rfl
 | some f=>exact (IQ h f).symm
theorem gb:false =OpenClaim.goesBy Rows.joinedSoundUptoRow Tryz.pinned.checked.prog:=IS ai rfl
end Go.Proofs.YtiagknaekaknhaaGreatDoor.joinedSound
