/-
  The law JoinedOn: closed facts on the program. Conditions: none.
-/
import Derived.Test.YtiagknaekaknhaaGreatDoorMnJoinedOn6
import Derived.Test.YtiagknaekaknhaaGreatDoorRows
import Derived.LaidMore
import Derived.LaidOnce
import Derived.Deep.DeepWitnessRowRef
import Derived.Stop.Joined
import Derived.Test.YtiagknaekaknhaaGreatDoorCards
import Derived.Test.YtiagknaekaknhaaGreatDoorTie
import Derived.WalkKit
import Derived.ProofKit
import Derived.OpenShut
import Derived.Deep.DeepHandedRow
import Derived.Lib.LaidTab
set_option linter.unusedVariables false
namespace Go.Proofs.YtiagknaekaknhaaGreatDoor.joinedOn
open Go.Hb Go.ChangeShapes Go.WideShapes Go.ChangeAt Go.RowKit
theorem cV {a b:Bool} (h:a=true) (k:b=true):(a && b)=true :=by rw [h,k]; rfl
theorem Jm:(Rows.joinedOnUptoRow.inPlace==Tryz.pinned.checked.prog.inPlace 7)=true :=ai
theorem Jn:(Rows.joinedOnUptoRow.unfollowed==Tryz.pinned.checked.prog.unfollowed 7)=true :=ai
theorem Jo:(Rows.joinedOnUptoRow.recurses==Tryz.pinned.checked.prog.recurses 7)=true :=ai
theorem Jp:(Rows.joinedOnUptoRow.named==Tryz.pinned.checked.prog.varsNamed 7)=true :=ai
theorem Jq:(Rows.joinedOnUptoRow.lifted==Tryz.pinned.checked.prog.liftsFinal)=true :=ai
theorem jf:joinedFacts Tryz.pinned.checked.prog 7 Tryz.f7 (Rows.OpenSpec.upto Rows.joinedOnSpec).bare Rows.joinedOnUptoRow=true :=
 cV (cV (cV (cV (cV (cV (cV (cV (cV (cV (cV (cV (cV (cV (cV (cV (cV (cV (cV (cV (cV (cV (cV (cV (cV (cV (cV (cV (cV (cV (cV ai ai) ai) ai) ai) ai) ai) ai) ai) Jm) Jn) Jo) Jp) ai) ai) ai) ai) ai) ai) ai) ai) ai) ai) ai) ai) ai) Jq) ai) ai) ai) ai) ai
theorem Kh {P:Program} (h:P.funcs.any Func.goes=false) (f:FuncId):P.goes f=false :=by
 unfold Program.goes
 rw [h,Bool.and_false,Bool.or_false,Bool.eq_false_iff]
 intro C
 simp only [List.any_eq_true] at C
 obtain ⟨q,_,A⟩:=C
 cases hf:P.funcs[q]? with
 | none=>rw [hf] at A; cases A
 | some fn=>
   rw [hf] at A
   have hn:P.funcs.any Func.goes=true :=by
    rw [Array.any_eq_true]
    obtain ⟨E,I⟩:=Array.getElem?_eq_some_iff.1 hf
    exact ⟨q,E,by rw [I]; exact A⟩
   rw [h] at hn
   cases hn
theorem Ki {P:Program} {c:OpenClaim} (h:P.funcs.any Func.goes=false) (A:c.start= .entering):false =c.goesBy P:=by
 unfold OpenClaim.goesBy Program.goesAt Program.goesFrom
 rw [A,Bool.or_false]
 cases P.funcNamed c.func with
 | none=>rfl
 | some f=>exact (Kh h f).symm
theorem gb:false =OpenClaim.goesBy Rows.joinedOnUptoRow Tryz.pinned.checked.prog:=Ki ai rfl
end Go.Proofs.YtiagknaekaknhaaGreatDoor.joinedOn
