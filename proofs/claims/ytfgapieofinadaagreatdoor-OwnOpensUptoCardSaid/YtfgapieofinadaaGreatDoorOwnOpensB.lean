/-
  The law OwnOpens: closed facts on the program. Conditions: none.
-/
import Derived.Test.YtfgapieofinadaaGreatDoorMnOwnOpens6
import Derived.Test.YtfgapieofinadaaGreatDoorRows
import Derived.LaidMore
import Derived.LaidOnce
import Derived.Deep.DeepWitnessRowRef
import Derived.Stop.Joined
import Derived.Test.YtfgapieofinadaaGreatDoorCards
import Derived.Test.YtfgapieofinadaaGreatDoorTie
import Derived.WalkKit
import Derived.ProofKit
import Derived.OpenShut
import Derived.Deep.DeepHandedRow
import Derived.Lib.LaidTab
set_option linter.unusedVariables false
namespace Go.Proofs.YtfgapieofinadaaGreatDoor.ownOpens
open Go.Hb Go.Hb.BX Go.Hb.oQ Go.ChangeShapes Go.WideShapes Go.ChangeAt Go.RowKit
theorem dP {a b:Bool} (h:a=true) (k:b=true):(a && b)=true :=by rw [h,k]; rfl
theorem MD:(Rows.ownOpensUptoRow.inPlace==Tryz.pinned.checked.prog.inPlace 4)=true :=an
theorem ME:(Rows.ownOpensUptoRow.unfollowed==Tryz.pinned.checked.prog.unfollowed 4)=true :=an
theorem MF:(Rows.ownOpensUptoRow.recurses==Tryz.pinned.checked.prog.recurses 4)=true :=an
theorem MH:(Rows.ownOpensUptoRow.named==Tryz.pinned.checked.prog.varsNamed 4)=true :=an
theorem MI:(Rows.ownOpensUptoRow.lifted==Tryz.pinned.checked.prog.liftsFinal)=true :=an
theorem jf:joinedFacts Tryz.pinned.checked.prog 4 Tryz.f4 (Rows.OpenSpec.upto Rows.ownOpensSpec).bare Rows.ownOpensUptoRow=true :=
 dP (dP (dP (dP (dP (dP (dP (dP (dP (dP (dP (dP (dP (dP (dP (dP (dP (dP (dP (dP (dP (dP (dP (dP (dP (dP (dP (dP (dP (dP (dP an an) an) an) an) an) an) an) an) MD) ME) MF) MH) an) an) an) an) an) an) an) an) an) an) an) an) an) MI) an) an) an) an) an
theorem NH {P:Program} (h:P.funcs.any Func.goes=false) (f:FuncId):P.goes f=false :=by
 unfold Program.goes
 rw [h,Bool.and_false,Bool.or_false,Bool.eq_false_iff]
 intro C
 simp only [List.any_eq_true] at C
 obtain ⟨q,_,A⟩:=C
 cases hf:P.funcs[q]? with
 | none=>rw [hf] at A; cases A
 | some fn=>
   rw [hf] at A
   have hn:P.funcs.any Func.goes=true :=by
    rw [Array.any_eq_true]
    obtain ⟨E,I⟩:=Array.getElem?_eq_some_iff.1 hf
    exact ⟨q,E,by rw [I]; exact A⟩
   rw [h] at hn
   cases hn
theorem NI {P:Program} {c:OpenClaim} (h:P.funcs.any Func.goes=false) (A:c.start= .entering):false =c.goesBy P:=by
 unfold OpenClaim.goesBy Program.goesAt Program.goesFrom
 rw [A,Bool.or_false]
 cases P.funcNamed c.func with
 | none=>rfl
 | some f=>exact (NH h f).symm
theorem gb:false =OpenClaim.goesBy Rows.ownOpensUptoRow Tryz.pinned.checked.prog:=NI an rfl
end Go.Proofs.YtfgapieofinadaaGreatDoor.ownOpens
