/-
  The law OwnPlays: closed facts on the program. Conditions: none.
-/
import Derived.Test.YtfgapieofinadaaGreatDoorMnOwnPlays6
import Derived.Test.YtfgapieofinadaaGreatDoorRows
import Derived.LaidMore
import Derived.LaidOnce
import Derived.Deep.DeepWitnessRowRef
import Derived.Stop.Joined
import Derived.Test.YtfgapieofinadaaGreatDoorCards
import Derived.Test.YtfgapieofinadaaGreatDoorTie
import Derived.WalkKit
import Derived.ProofKit
import Derived.OpenShut
import Derived.Deep.DeepHandedRow
import Derived.Lib.LaidTab
set_option linter.unusedVariables false
namespace Go.Proofs.YtfgapieofinadaaGreatDoor.ownPlays
open Go.Hb Go.Hb.Ce Go.Hb.o3 Go.ChangeShapes Go.WideShapes Go.ChangeAt Go.RowKit
theorem dO {a b:Bool} (h:a=true) (k:b=true):(a && b)=true :=by rw [h,k]; rfl
theorem M7:(Rows.ownPlaysUptoRow.inPlace==Tryz.pinned.checked.prog.inPlace 3)=true :=an
theorem M8:(Rows.ownPlaysUptoRow.unfollowed==Tryz.pinned.checked.prog.unfollowed 3)=true :=an
theorem M9:(Rows.ownPlaysUptoRow.recurses==Tryz.pinned.checked.prog.recurses 3)=true :=an
theorem Na:(Rows.ownPlaysUptoRow.named==Tryz.pinned.checked.prog.varsNamed 3)=true :=an
theorem Nb:(Rows.ownPlaysUptoRow.lifted==Tryz.pinned.checked.prog.liftsFinal)=true :=an
theorem jf:joinedFacts Tryz.pinned.checked.prog 3 Tryz.f3 (Rows.OpenSpec.upto Rows.ownPlaysSpec).bare Rows.ownPlaysUptoRow=true :=
 dO (dO (dO (dO (dO (dO (dO (dO (dO (dO (dO (dO (dO (dO (dO (dO (dO (dO (dO (dO (dO (dO (dO (dO (dO (dO (dO (dO (dO (dO (dO an an) an) an) an) an) an) an) an) M7) M8) M9) Na) an) an) an) an) an) an) an) an) an) an) an) an) an) Nb) an) an) an) an) an
theorem Oa {P:Program} (h:P.funcs.any Func.goes=false) (f:FuncId):P.goes f=false :=by
 unfold Program.goes
 rw [h,Bool.and_false,Bool.or_false,Bool.eq_false_iff]
 intro C
 simp only [List.any_eq_true] at C
 obtain ⟨q,_,A⟩:=C
 cases hf:P.funcs[q]? with
 | none=>rw [hf] at A; cases A
 | some fn=>
   rw [hf] at A
   have hn:P.funcs.any Func.goes=true :=by
    rw [Array.any_eq_true]
    obtain ⟨E,I⟩:=Array.getElem?_eq_some_iff.1 hf
    exact ⟨q,E,by rw [I]; exact A⟩
   rw [h] at hn
   cases hn
theorem Ob {P:Program} {c:OpenClaim} (h:P.funcs.any Func.goes=false) (A:c.start= .entering):false =c.goesBy P:=by
 unfold OpenClaim.goesBy Program.goesAt Program.goesFrom
 rw [A,Bool.or_false]
 cases P.funcNamed c.func with
 | none=>rfl
 | some f=>exact (Oa h f).symm
theorem gb:false =OpenClaim.goesBy Rows.ownPlaysUptoRow Tryz.pinned.checked.prog:=Ob an rfl
end Go.Proofs.YtfgapieofinadaaGreatDoor.ownPlays
