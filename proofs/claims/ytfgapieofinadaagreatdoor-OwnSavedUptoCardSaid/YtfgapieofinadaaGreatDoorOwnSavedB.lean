/-
  The law OwnSaved: closed facts on the program. Conditions: none.
-/
import Derived.Test.YtfgapieofinadaaGreatDoorMnOwnSaved5
import Derived.Test.YtfgapieofinadaaGreatDoorRows
import Derived.LaidMore
import Derived.LaidOnce
import Derived.Deep.DeepWitnessRowRef
import Derived.Stop.Joined
import Derived.Test.YtfgapieofinadaaGreatDoorCards
import Derived.Test.YtfgapieofinadaaGreatDoorTie
import Derived.WalkKit
import Derived.ProofKit
import Derived.OpenShut
import Derived.Deep.DeepHandedRow
import Derived.Lib.LaidTab
set_option linter.unusedVariables false
namespace Go.Proofs.YtfgapieofinadaaGreatDoor.ownSaved
open Go.Hb Go.Hb.mE Go.ChangeShapes Go.WideShapes Go.ChangeAt Go.RowKit
theorem cM {a b:Bool} (h:a=true) (k:b=true):(a && b)=true :=by rw [h,k]; rfl
theorem IZ:(Rows.ownSavedUptoRow.inPlace==Tryz.pinned.checked.prog.inPlace 5)=true :=ai
theorem I0:(Rows.ownSavedUptoRow.unfollowed==Tryz.pinned.checked.prog.unfollowed 5)=true :=ai
theorem I2:(Rows.ownSavedUptoRow.recurses==Tryz.pinned.checked.prog.recurses 5)=true :=ai
theorem I3:(Rows.ownSavedUptoRow.named==Tryz.pinned.checked.prog.varsNamed 5)=true :=ai
theorem I4:(Rows.ownSavedUptoRow.lifted==Tryz.pinned.checked.prog.liftsFinal)=true :=ai
theorem jf:joinedFacts Tryz.pinned.checked.prog 5 Tryz.f5 (Rows.OpenSpec.upto Rows.ownSavedSpec).bare Rows.ownSavedUptoRow=true :=
 cM (cM (cM (cM (cM (cM (cM (cM (cM (cM (cM (cM (cM (cM (cM (cM (cM (cM (cM (cM (cM (cM (cM (cM (cM (cM (cM (cM (cM (cM (cM ai ai) ai) ai) ai) ai) ai) ai) ai) IZ) I0) I2) I3) ai) ai) ai) ai) ai) ai) ai) ai) ai) ai) ai) ai) ai) I4) ai) ai) ai) ai) ai
theorem JW {P:Program} (h:P.funcs.any Func.goes=false) (f:FuncId):P.goes f=false :=by
 unfold Program.goes
 rw [h,Bool.and_false,Bool.or_false,Bool.eq_false_iff]
 intro C
 simp only [List.any_eq_true] at C
 obtain ⟨q,_,A⟩:=C
 cases hf:P.funcs[q]? with
 | none=>rw [hf] at A; cases A
 | some fn=>
   rw [hf] at A
   have hn:P.funcs.any Func.goes=true :=by
    rw [Array.any_eq_true]
    obtain ⟨E,I⟩:=Array.getElem?_eq_some_iff.1 hf
    exact ⟨q,E,by rw [I]; exact A⟩
   rw [h] at hn
   cases hn
theorem JX {P:Program} {c:OpenClaim} (h:P.funcs.any Func.goes=false) (A:c.start= .entering):false =c.goesBy P:=by
 unfold OpenClaim.goesBy Program.goesAt Program.goesFrom
 rw [A,Bool.or_false]
 cases P.funcNamed c.func with
 | none=>rfl
 | some f=>exact (JW h f).symm
theorem gb:false =OpenClaim.goesBy Rows.ownSavedUptoRow Tryz.pinned.checked.prog:=JX ai rfl
end Go.Proofs.YtfgapieofinadaaGreatDoor.ownSaved
