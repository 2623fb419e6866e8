/-
  The law AnalyseWords holds of every input of bulk at most 1,048,576: the call returns true and leaves its arguments as they were. Conditions: none but the statement's own bound on the arguments' bulk.
-/
import Derived.Test.YtchkamdekbbgeaaGreatDoorMnAnalyseWords9
import Derived.Test.YtchkamdekbbgeaaGreatDoorRows
import Derived.Test.YtchkamdekbbgeaaGreatDoorCards
import Derived.Test.YtchkamdekbbgeaaGreatDoorTie
import Derived.WalkKit
import Derived.ProofKit
import Derived.OpenShut
import Derived.Deep.DeepHandedRow
import Derived.Lib.LaidTab
set_option linter.unusedVariables false
namespace Go.Proofs.YtchkamdekbbgeaaGreatDoor.analyseWords
open Go.Hb Go.ChangeShapes Go.WideShapes Go.ChangeAt Go.RowKit
theorem own:ownKnob Tryz.prog.godebug=none:=aj
theorem laidOut:laidOutB Tryz.prog=true :=aj
set_option maxRecDepth 100000 in
theorem US (H:Type) (enc:TypeId×Value→H) (W:World) (base:Nat) (args:Array Value) (C gs:List (DataW H)) (before:List MemPlace)
 (Z:∀ (j:Nat) t v,Tryz.f3.params[j]? =some t→args[j]? =some v→Value.okWide Tryz.prog W .any base t v)
 (Y:DataW.Whole enc Tryz.prog Tryz.f3.params.toList Rows.analyseWordsSpec.vars false W args.toList C gs before) (hk:Rows.uptoSmall H (C++gs)=true):
 Calls Tryz.prog 3 args W fun e W'=> ∃ v,e= .returned v∧Rows.analyseWordsSpec.post enc Tryz.prog Tryz.f3 false true false false W args v W':=by
 have ai:=Y
 obtain ⟨p,q,V,ah,rfl,_,_⟩:=Y
 have O:DataW.TrodAll enc Tryz.prog W 0 (fun _=>true) true Tryz.f3.params.toList args.toList C p:=V
 rw [Tryz.params3] at O Z
 obtain ⟨v0,aB,d0,aq,aw,ax,au,rfl,rfl,ae,ap⟩:=trodAll_cons O
 obtain ⟨rfl,rfl,rfl⟩:=trodAll_nil ap
 obtain rfl :args= #[v0]:=by cases args; simp_all
 obtain ⟨rfl,rfl⟩:=trodVars_none ah
 clear V
 have ak:=Ry hk
 simp only [List.append_nil,Rows.uptoBulkAll] at ak
 obtain ⟨ao,rfl,_⟩:=okWide_struct Tryz.underlying23 (Z 0 23 v0 rfl rfl)
 obtain ⟨ac,am⟩:=ae
 obtain ⟨_,A,ag,av⟩:=(aaq (EP Tryz.underlying9 aj) (EP Tryz.underlying9 aj) (EP Tryz.underlying9 aj) (aap Tryz.underlying3 aj) Tryz.underlying23 rfl rfl rfl rfl rfl rfl rfl rfl aj).op enc W ac _ _ _ am
 obtain ⟨ay,az,aA,u3,al,E,G,I,⟨J,_⟩⟩:=ag
 simp only [List.cons.injEq,and_true] at E G I J
 subst E G I J
 have an:ao= [str A.1,str A.2.1,str A.2.2.1,.int .i64 A.2.2.2].toArray:=Array.toList_inj.1 al
 subst an
 exact abi ai aa aa aa Tryz.underlying4 laidOut aj (adL A.1 A.2.1 A.2.2.1 A.2.2.2 W ab ab ab)
noncomputable def Eh (os:Os):World:=
 {World.holding Tryz.prog os ⟨#[],#[],[]⟩ with heap:=(((World.holding Tryz.prog os ⟨#[],#[],[]⟩).heap.modify 1 fun
  | .cells _ t frozen=> .cells ((Go.Pinned.utf8FirstZ.map fun n=>Value.int .u8 (n:Nat)).toArray) t frozen
  | o=>o).modify 2 fun
  | .cells _ t frozen=> .cells (#[.int .u8 128,.int .u8 191,.int .u8 160,.int .u8 191,.int .u8 128,.int .u8 159,.int .u8 144,.int .u8 191,.int .u8 128,.int .u8 143,.int .u8 0,.int .u8 0,.int .u8 0,.int .u8 0,.int .u8 0,.int .u8 0,.int .u8 0,.int .u8 0,.int .u8 0,.int .u8 0,.int .u8 0,.int .u8 0,.int .u8 0,.int .u8 0,.int .u8 0,.int .u8 0,.int .u8 0,.int .u8 0,.int .u8 0,.int .u8 0,.int .u8 0,.int .u8 0]) t frozen
  | o=>o)}
set_option maxRecDepth 100000 in
theorem Zb (os:Os):laidMet Tryz.prog Rows.analyseWordsUptoRow.laid ((Eh os).forCall (fun _ _=>0) ⟨#[],#[.agg #[.string ⟨⟨[]⟩⟩,.string ⟨⟨[]⟩⟩,.string ⟨⟨[]⟩⟩,.int .i64 0]],[]⟩).memory:=
 laidMet_of_run' 8 aj aj
theorem reads (os:Os) {H:Type} (enc:TypeId×Value→H):∃ A,DataW.whole enc Tryz.prog ((Eh os).forCall (fun _ _=>0) ⟨#[],#[.agg #[.string ⟨⟨[]⟩⟩,.string ⟨⟨[]⟩⟩,.string ⟨⟨[]⟩⟩,.int .i64 0]],[]⟩).memory Tryz.f3.params.toList Rows.analyseWordsSpec.vars false #[.agg #[.string ⟨⟨[]⟩⟩,.string ⟨⟨[]⟩⟩,.string ⟨⟨[]⟩⟩,.int .i64 0]].toList 8=some ([.agg [.lit (.string []),.lit (.string []),.lit (.string []),.lit (.int .i64 0)]],[],A):=
 ⟨[],aj⟩
set_option maxRecDepth 100000 in
theorem lifted (os:Os) (started:os.Started) (H:Type) (enc:TypeId×Value→H) (F:Stop.Interp):
 ReturnsInHanded {} Tryz.checked os 3 .any ((Rows.OpenSpec.upto Rows.analyseWordsSpec).preRow enc Tryz.prog Tryz.f3 Rows.analyseWordsUptoRow.domain false Rows.analyseWordsUptoRow.laid) (((Rows.OpenSpec.upto Rows.analyseWordsSpec).at F).post enc Tryz.prog Tryz.f3 false true false false):=by
 obtain ⟨O,J⟩:=reads os enc
 refine returnsInHanded_of_row (C:=Tryz.checked) (s:=Rows.OpenSpec.upto Rows.analyseWordsSpec) own started aj Tryz.func3
  (witness_row_at (enc:=enc) (C:=Tryz.checked) false (Eh os) #[.agg #[.string ⟨⟨[]⟩⟩,.string ⟨⟨[]⟩⟩,.string ⟨⟨[]⟩⟩,.int .i64 0]] rfl aj aj aj
   (OpenSpec.preRow_of_cond 8 J aj (fun k hk=>by cases hk; kernel_rfl) aj (Zb os))) ?_
 intro W base args A gs before I E _ G _ _ _ _
 exact US H enc W base args A gs before I E (G _ rfl)
theorem fZ {a b:Bool} (h:a=true) (k:b=true):(a && b)=true :=by rw [h,k]; rfl
theorem YV:(Rows.analyseWordsUptoRow.inPlace==Tryz.pinned.checked.prog.inPlace 3)=true :=aj
theorem YW:(Rows.analyseWordsUptoRow.unfollowed==Tryz.pinned.checked.prog.unfollowed 3)=true :=aj
theorem YX:(Rows.analyseWordsUptoRow.recurses==Tryz.pinned.checked.prog.recurses 3)=true :=aj
theorem YY:(Rows.analyseWordsUptoRow.named==Tryz.pinned.checked.prog.varsNamed 3)=true :=aj
theorem YZ:(Rows.analyseWordsUptoRow.lifted==Tryz.pinned.checked.prog.liftsFinal)=true :=aj
theorem jf:joinedFacts Tryz.pinned.checked.prog 3 Tryz.f3 (Rows.OpenSpec.upto Rows.analyseWordsSpec).bare Rows.analyseWordsUptoRow=true :=
 fZ (fZ (fZ (fZ (fZ (fZ (fZ (fZ (fZ (fZ (fZ (fZ (fZ (fZ (fZ (fZ (fZ (fZ (fZ (fZ (fZ (fZ (fZ (fZ (fZ (fZ (fZ (fZ (fZ (fZ (fZ aj aj) aj) aj) aj) aj) aj) aj) aj) YV) YW) YX) YY) aj) aj) aj) aj) aj) aj) aj) aj) aj) aj) aj) aj) aj) YZ) aj) aj) aj) aj) aj
theorem said:Rows.AnalyseWordsUptoSaid:=
 OpenClaim.holds_of_cond 3 Tryz.f3 rfl rfl rfl rfl rfl rfl rfl ⟨rfl,rfl,rfl,rfl,rfl⟩ rfl rfl rfl rfl rfl aj Tryz.func3 jf
  (of_decide_eq_true aj) (by unfold Func.isWrapper; first | (rw [if_pos (by decide+kernel)]; kernel_rfl) | (rw [if_neg (by decide+kernel)]; exact ⟨rfl,rfl⟩))
  (fun os started H enc _ F=>by rw [OpenClaim.pre_eq_preRow]; exact lifted os started H enc F)
theorem plain (f:FuncId) (fn:Func) (C:Tryz.pinned.checked.prog.funcNamed "hornbook/hornbooklaw17.AnalyseWords" =some f) (E:Tryz.pinned.checked.prog.funcs[f]? =some fn):
 true =Tryz.pinned.checked.prog.looks []∧∀ (j:Nat) t,fn.params[j]? =some t→Tryz.pinned.checked.prog.wantsStandIn t=false :=by
 obtain rfl :f=3:=Option.some.inj ((show Tryz.prog.funcNamed "hornbook/hornbooklaw17.AnalyseWords" =some 3 by kernel_rfl).symm.trans C) |>.symm
 obtain rfl :fn=Tryz.f3:=(Option.some.inj (Tryz.func3.symm.trans E)).symm
 refine ⟨aj,fun j t A=> ?_⟩
 rw [Tryz.params3] at A
 have hm:=Array.mem_of_getElem? A
 simp only [List.mem_toArray,List.mem_cons,List.not_mem_nil,or_false] at hm
 rcases hm with rfl
 · exact (show Tryz.prog.wantsStandIn 23=false by kernel_rfl)
theorem holds:Rows.AnalyseWordsUptoCardSaid:=
 Claim7.holds_tied_plain_at .later [] _ _ _ _ said (fun _ h=>by cases h) aj (fun _ h=>by cases h) analyseWordsUpto_row_tie rfl ⟨rfl,rfl⟩ aj rfl plain aj
#print axioms holds
end Go.Proofs.YtchkamdekbbgeaaGreatDoor.analyseWords
