/-
  The law BookKeeps: closed facts on the program. Conditions: none.
-/
import Derived.Test.YtjaoldaegkmkjaaGreatDoorMnBookKeeps5
import Derived.Test.YtjaoldaegkmkjaaGreatDoorRows
import Derived.LaidMore
import Derived.LaidOnce
import Derived.Deep.DeepWitnessRowRef
import Derived.Stop.Joined
import Derived.Test.YtjaoldaegkmkjaaGreatDoorCards
import Derived.Test.YtjaoldaegkmkjaaGreatDoorTie
import Derived.WalkKit
import Derived.ProofKit
import Derived.OpenShut
import Derived.Deep.DeepHandedRow
import Derived.Lib.LaidTab
set_option linter.unusedVariables false
namespace Go.Proofs.YtjaoldaegkmkjaaGreatDoor.bookKeeps
open Go.Hb Go.ChangeShapes Go.WideShapes Go.ChangeAt Go.RowKit
theorem cI {a b:Bool} (h:a=true) (k:b=true):(a && b)=true :=by rw [h,k]; rfl
theorem Gn:(Rows.bookKeepsUptoRow.inPlace==Tryz.pinned.checked.prog.inPlace 5)=true :=aj
theorem Gp:(Rows.bookKeepsUptoRow.unfollowed==Tryz.pinned.checked.prog.unfollowed 5)=true :=aj
theorem Gq:(Rows.bookKeepsUptoRow.recurses==Tryz.pinned.checked.prog.recurses 5)=true :=aj
theorem Gr:(Rows.bookKeepsUptoRow.named==Tryz.pinned.checked.prog.varsNamed 5)=true :=aj
theorem Gs:(Rows.bookKeepsUptoRow.lifted==Tryz.pinned.checked.prog.liftsFinal)=true :=aj
theorem jf:joinedFacts Tryz.pinned.checked.prog 5 Tryz.f5 (Rows.OpenSpec.upto Rows.bookKeepsSpec).bare Rows.bookKeepsUptoRow=true :=
 cI (cI (cI (cI (cI (cI (cI (cI (cI (cI (cI (cI (cI (cI (cI (cI (cI (cI (cI (cI (cI (cI (cI (cI (cI (cI (cI (cI (cI (cI (cI aj aj) aj) aj) aj) aj) aj) aj) aj) Gn) Gp) Gq) Gr) aj) aj) aj) aj) aj) aj) aj) aj) aj) aj) aj) aj) aj) Gs) aj) aj) aj) aj) aj
theorem Hi {P:Program} (h:P.funcs.any Func.goes=false) (f:FuncId):P.goes f=false :=by
 unfold Program.goes
 rw [h,Bool.and_false,Bool.or_false,Bool.eq_false_iff]
 intro E
 simp only [List.any_eq_true] at E
 obtain ⟨q,_,C⟩:=E
 cases hf:P.funcs[q]? with
 | none=>rw [hf] at C; cases C
 | some fn=>
   rw [hf] at C
   have hn:P.funcs.any Func.goes=true :=by
    rw [Array.any_eq_true]
    obtain ⟨aP,I⟩:=Array.getElem?_eq_some_iff.1 hf
    exact ⟨q,aP,by rw [I]; exact C⟩
   rw [h] at hn
   cases hn
theorem Hj {P:Program} {c:OpenClaim} (h:P.funcs.any Func.goes=false) (C:c.start= .entering):false =c.goesBy P:=by
 unfold OpenClaim.goesBy Program.goesAt Program.goesFrom
 rw [C,Bool.or_false]
 cases P.funcNamed c.func with
 | none=>rfl
 | some f=>exact (Hi h f).symm
theorem gb:false =OpenClaim.goesBy Rows.bookKeepsUptoRow Tryz.pinned.checked.prog:=Hj aj rfl
end Go.Proofs.YtjaoldaegkmkjaaGreatDoor.bookKeeps
