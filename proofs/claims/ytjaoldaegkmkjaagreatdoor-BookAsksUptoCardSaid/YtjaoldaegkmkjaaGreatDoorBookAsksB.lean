/-
  The law BookAsks: closed facts on the program. Conditions: none.
-/
import Derived.Test.YtjaoldaegkmkjaaGreatDoorMnBookAsks6
import Derived.Test.YtjaoldaegkmkjaaGreatDoorRows
import Derived.LaidMore
import Derived.LaidOnce
import Derived.Deep.DeepWitnessRowRef
import Derived.Stop.Joined
import Derived.Test.YtjaoldaegkmkjaaGreatDoorCards
import Derived.Test.YtjaoldaegkmkjaaGreatDoorTie
import Derived.WalkKit
import Derived.ProofKit
import Derived.OpenShut
import Derived.Deep.DeepHandedRow
import Derived.Lib.LaidTab
set_option linter.unusedVariables false
namespace Go.Proofs.YtjaoldaegkmkjaaGreatDoor.bookAsks
open Go.Hb Go.ChangeShapes Go.WideShapes Go.ChangeAt Go.RowKit
theorem cR {a b:Bool} (h:a=true) (k:b=true):(a && b)=true :=by rw [h,k]; rfl
theorem Hs:(Rows.bookAsksUptoRow.inPlace==Tryz.pinned.checked.prog.inPlace 4)=true :=aq
theorem Ht:(Rows.bookAsksUptoRow.unfollowed==Tryz.pinned.checked.prog.unfollowed 4)=true :=aq
theorem Hu:(Rows.bookAsksUptoRow.recurses==Tryz.pinned.checked.prog.recurses 4)=true :=aq
theorem Hv:(Rows.bookAsksUptoRow.named==Tryz.pinned.checked.prog.varsNamed 4)=true :=aq
theorem Hw:(Rows.bookAsksUptoRow.lifted==Tryz.pinned.checked.prog.liftsFinal)=true :=aq
theorem jf:joinedFacts Tryz.pinned.checked.prog 4 Tryz.f4 (Rows.OpenSpec.upto Rows.bookAsksSpec).bare Rows.bookAsksUptoRow=true :=
 cR (cR (cR (cR (cR (cR (cR (cR (cR (cR (cR (cR (cR (cR (cR (cR (cR (cR (cR (cR (cR (cR (cR (cR (cR (cR (cR (cR (cR (cR (cR aq aq) aq) aq) aq) aq) aq) aq) aq) Hs) Ht) Hu) Hv) aq) aq) aq) aq) aq) aq) aq) aq) aq) aq) aq) aq) aq) Hw) aq) aq) aq) aq) aq
theorem Io {P:Program} (h:P.funcs.any Func.goes=false) (f:FuncId):P.goes f=false :=by
 unfold Program.goes
 rw [h,Bool.and_false,Bool.or_false,Bool.eq_false_iff]
 intro C
 simp only [List.any_eq_true] at C
 obtain ⟨q,_,A⟩:=C
 cases hf:P.funcs[q]? with
 | none=>rw [hf] at A; cases A
 | some fn=>
   rw [hf] at A
   have hn:P.funcs.any Func.goes=true :=by
    rw [Array.any_eq_true]
    obtain ⟨aP,E⟩:=Array.getElem?_eq_some_iff.1 hf
    exact ⟨q,aP,by rw [E]; exact A⟩
   rw [h] at hn
   cases hn
theorem Ip {P:Program} {c:OpenClaim} (h:P.funcs.any Func.goes=false) (A:c.start= .entering):false =c.goesBy P:=by
 unfold OpenClaim.goesBy Program.goesAt Program.goesFrom
 rw [A,Bool.or_false]
 cases P.funcNamed c.func with
 | none=>rfl
 | some f=>exact (Io h f).symm
theorem gb:false =OpenClaim.goesBy Rows.bookAsksUptoRow Tryz.pinned.checked.prog:=Ip aq rfl
end Go.Proofs.YtjaoldaegkmkjaaGreatDoor.bookAsks
