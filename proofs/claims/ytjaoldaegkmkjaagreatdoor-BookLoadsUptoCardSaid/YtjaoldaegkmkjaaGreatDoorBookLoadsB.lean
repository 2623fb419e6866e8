/-
  The law BookLoads: closed facts on the program. Conditions: none.
-/
import Derived.Test.YtjaoldaegkmkjaaGreatDoorMnBookLoads5
import Derived.Test.YtjaoldaegkmkjaaGreatDoorRows
import Derived.LaidMore
import Derived.LaidOnce
import Derived.Deep.DeepWitnessRowRef
import Derived.Stop.Joined
import Derived.Test.YtjaoldaegkmkjaaGreatDoorCards
import Derived.Test.YtjaoldaegkmkjaaGreatDoorTie
import Derived.WalkKit
import Derived.ProofKit
import Derived.OpenShut
import Derived.Deep.DeepHandedRow
import Derived.Lib.LaidTab
set_option linter.unusedVariables false
namespace Go.Proofs.YtjaoldaegkmkjaaGreatDoor.bookLoads
open Go.Hb Go.ChangeShapes Go.WideShapes Go.ChangeAt Go.RowKit
theorem cw {a b:Bool} (h:a=true) (k:b=true):(a && b)=true :=by rw [h,k]; rfl
theorem Ek:(Rows.bookLoadsUptoRow.inPlace==Tryz.pinned.checked.prog.inPlace 3)=true :=aj
theorem El:(Rows.bookLoadsUptoRow.unfollowed==Tryz.pinned.checked.prog.unfollowed 3)=true :=aj
theorem Em:(Rows.bookLoadsUptoRow.recurses==Tryz.pinned.checked.prog.recurses 3)=true :=aj
theorem En:(Rows.bookLoadsUptoRow.named==Tryz.pinned.checked.prog.varsNamed 3)=true :=aj
theorem Eo:(Rows.bookLoadsUptoRow.lifted==Tryz.pinned.checked.prog.liftsFinal)=true :=aj
theorem jf:joinedFacts Tryz.pinned.checked.prog 3 Tryz.f3 (Rows.OpenSpec.upto Rows.bookLoadsSpec).bare Rows.bookLoadsUptoRow=true :=
 cw (cw (cw (cw (cw (cw (cw (cw (cw (cw (cw (cw (cw (cw (cw (cw (cw (cw (cw (cw (cw (cw (cw (cw (cw (cw (cw (cw (cw (cw (cw aj aj) aj) aj) aj) aj) aj) aj) aj) Ek) El) Em) En) aj) aj) aj) aj) aj) aj) aj) aj) aj) aj) aj) aj) aj) Eo) aj) aj) aj) aj) aj
theorem E8 {P:Program} (h:P.funcs.any Func.goes=false) (f:FuncId):P.goes f=false :=by
 unfold Program.goes
 rw [h,Bool.and_false,Bool.or_false,Bool.eq_false_iff]
 intro C
 simp only [List.any_eq_true] at C
 obtain ⟨q,_,A⟩:=C
 cases hf:P.funcs[q]? with
 | none=>rw [hf] at A; cases A
 | some fn=>
   rw [hf] at A
   have hn:P.funcs.any Func.goes=true :=by
    rw [Array.any_eq_true]
    obtain ⟨aJ,E⟩:=Array.getElem?_eq_some_iff.1 hf
    exact ⟨q,aJ,by rw [E]; exact A⟩
   rw [h] at hn
   cases hn
theorem E9 {P:Program} {c:OpenClaim} (h:P.funcs.any Func.goes=false) (A:c.start= .entering):false =c.goesBy P:=by
 unfold OpenClaim.goesBy Program.goesAt Program.goesFrom
 rw [A,Bool.or_false]
 cases P.funcNamed c.func with
 | none=>rfl
 | some f=>exact (E8 h f).symm
theorem gb:false =OpenClaim.goesBy Rows.bookLoadsUptoRow Tryz.pinned.checked.prog:=E9 aj rfl
end Go.Proofs.YtjaoldaegkmkjaaGreatDoor.bookLoads
