/-
  The law AnalyseMakes holds of every input of bulk at most 1,048,576: the call returns true and leaves its arguments as they were. Conditions: none but the statement's own bound on the arguments' bulk.
-/
import Derived.Test.YtchkamdekbbgeaaGreatDoorMnAnalyseMakes7
import Derived.Test.YtchkamdekbbgeaaGreatDoorRows
import Derived.Test.YtchkamdekbbgeaaGreatDoorCards
import Derived.Test.YtchkamdekbbgeaaGreatDoorTie
import Derived.WalkKit
import Derived.ProofKit
import Derived.OpenShut
import Derived.Deep.DeepHandedRow
import Derived.Lib.LaidTab
set_option linter.unusedVariables false
namespace Go.Proofs.YtchkamdekbbgeaaGreatDoor.analyseMakes
open Go.Hb Go.ChangeShapes Go.WideShapes Go.ChangeAt Go.RowKit
theorem own:ownKnob Tryz.prog.godebug=none:=ag
theorem laidOut:laidOutB Tryz.prog=true :=ag
set_option maxRecDepth 100000 in
theorem Od (H:Type) (enc:TypeId×Value→H) (W:World) (base:Nat) (args:Array Value) (c gs:List (DataW H)) (before:List MemPlace)
 (O:∀ (j:Nat) t v,Tryz.f7.params[j]? =some t→args[j]? =some v→Value.okWide Tryz.prog W .any base t v)
 (M:DataW.Whole enc Tryz.prog Tryz.f7.params.toList Rows.analyseMakesSpec.vars false W args.toList c gs before) (hk:Rows.uptoSmall H (c++gs)=true):
 Calls Tryz.prog 7 args W fun e W'=> ∃ v,e= .returned v∧Rows.analyseMakesSpec.post enc Tryz.prog Tryz.f7 false true false false W args v W':=by
 have ad:=M
 obtain ⟨p,q,J,ac,rfl,_,_⟩:=M
 have I:DataW.TrodAll enc Tryz.prog W 0 (fun _=>true) true Tryz.f7.params.toList args.toList c p:=J
 rw [Tryz.params7] at I O
 obtain ⟨v0,ax,d0,am,ap,aq,an,rfl,rfl,Y,al⟩:=trodAll_cons I
 obtain ⟨rfl,rfl,rfl⟩:=trodAll_nil al
 obtain rfl :args= #[v0]:=by cases args; simp_all
 obtain ⟨rfl,rfl⟩:=trodVars_none ac
 clear J
 have ae:=Ls hk
 simp only [List.append_nil,Rows.uptoBulkAll] at ae
 obtain ⟨ak,rfl,_⟩:=okWide_struct Tryz.underlying57 (O 0 57 v0 rfl rfl)
 obtain ⟨V,ai⟩:=Y
 obtain ⟨_,a,Z,ao⟩:=(TE (AZ Tryz.underlying9 ag) (AZ Tryz.underlying9 ag) (AZ Tryz.underlying9 ag) (TD Tryz.underlying3 ag) Tryz.underlying57 rfl rfl rfl rfl rfl rfl rfl rfl ag).op enc W V _ _ _ ai
 obtain ⟨au,av,aw,u3,ah,A,C,E,⟨G,_⟩⟩:=Z
 simp only [List.cons.injEq,and_true] at A C E G
 subst A C E G
 have aj:ak= [str a.1,str a.2.1,str a.2.2.1,.int .i64 a.2.2.2].toArray:=Array.toList_inj.1 ah
 subst aj
 exact UE ad aa aa aa Tryz.underlying4 laidOut ag (SK a.1 a.2.1 a.2.2.1 a.2.2.2 W ab ab ab)
noncomputable def Au (os:Os):World:=
 {World.holding Tryz.prog os ⟨#[],#[],[]⟩ with heap:=(((World.holding Tryz.prog os ⟨#[],#[],[]⟩).heap.modify 1 fun
  | .cells _ t frozen=> .cells ((Go.Pinned.utf8FirstZ.map fun n=>Value.int .u8 (n:Nat)).toArray) t frozen
  | o=>o).modify 2 fun
  | .cells _ t frozen=> .cells (#[.int .u8 128,.int .u8 191,.int .u8 160,.int .u8 191,.int .u8 128,.int .u8 159,.int .u8 144,.int .u8 191,.int .u8 128,.int .u8 143,.int .u8 0,.int .u8 0,.int .u8 0,.int .u8 0,.int .u8 0,.int .u8 0,.int .u8 0,.int .u8 0,.int .u8 0,.int .u8 0,.int .u8 0,.int .u8 0,.int .u8 0,.int .u8 0,.int .u8 0,.int .u8 0,.int .u8 0,.int .u8 0,.int .u8 0,.int .u8 0,.int .u8 0,.int .u8 0]) t frozen
  | o=>o)}
set_option maxRecDepth 100000 in
theorem Se (os:Os):laidMet Tryz.prog Rows.analyseMakesUptoRow.laid ((Au os).forCall (fun _ _=>0) ⟨#[],#[.agg #[.string ⟨⟨[]⟩⟩,.string ⟨⟨[]⟩⟩,.string ⟨⟨[]⟩⟩,.int .i64 0]],[]⟩).memory:=
 laidMet_of_run' 8 ag ag
theorem reads (os:Os) {H:Type} (enc:TypeId×Value→H):∃ a,DataW.whole enc Tryz.prog ((Au os).forCall (fun _ _=>0) ⟨#[],#[.agg #[.string ⟨⟨[]⟩⟩,.string ⟨⟨[]⟩⟩,.string ⟨⟨[]⟩⟩,.int .i64 0]],[]⟩).memory Tryz.f7.params.toList Rows.analyseMakesSpec.vars false #[.agg #[.string ⟨⟨[]⟩⟩,.string ⟨⟨[]⟩⟩,.string ⟨⟨[]⟩⟩,.int .i64 0]].toList 8=some ([.agg [.lit (.string []),.lit (.string []),.lit (.string []),.lit (.int .i64 0)]],[],a):=
 ⟨[],ag⟩
set_option maxRecDepth 100000 in
theorem lifted (os:Os) (started:os.Started) (H:Type) (enc:TypeId×Value→H) (F:Stop.Interp):
 ReturnsInHanded {} Tryz.checked os 7 .any ((Rows.OpenSpec.upto Rows.analyseMakesSpec).preRow enc Tryz.prog Tryz.f7 Rows.analyseMakesUptoRow.domain false Rows.analyseMakesUptoRow.laid) (((Rows.OpenSpec.upto Rows.analyseMakesSpec).at F).post enc Tryz.prog Tryz.f7 false true false false):=by
 obtain ⟨G,E⟩:=reads os enc
 refine returnsInHanded_of_row (C:=Tryz.checked) (s:=Rows.OpenSpec.upto Rows.analyseMakesSpec) own started ag Tryz.func7
  (witness_row_at (enc:=enc) (C:=Tryz.checked) false (Au os) #[.agg #[.string ⟨⟨[]⟩⟩,.string ⟨⟨[]⟩⟩,.string ⟨⟨[]⟩⟩,.int .i64 0]] rfl ag ag ag
   (OpenSpec.preRow_of_cond 8 E ag (fun k hk=>by cases hk; kernel_rfl) ag (Se os))) ?_
 intro W base args a gs before A c _ q _ _ _ _
 exact Od H enc W base args a gs before A c (q _ rfl)
theorem eH {a b:Bool} (h:a=true) (k:b=true):(a && b)=true :=by rw [h,k]; rfl
theorem RU:(Rows.analyseMakesUptoRow.inPlace==Tryz.pinned.checked.prog.inPlace 7)=true :=ag
theorem RV:(Rows.analyseMakesUptoRow.unfollowed==Tryz.pinned.checked.prog.unfollowed 7)=true :=ag
theorem RW:(Rows.analyseMakesUptoRow.recurses==Tryz.pinned.checked.prog.recurses 7)=true :=ag
theorem RX:(Rows.analyseMakesUptoRow.named==Tryz.pinned.checked.prog.varsNamed 7)=true :=ag
theorem RY:(Rows.analyseMakesUptoRow.lifted==Tryz.pinned.checked.prog.liftsFinal)=true :=ag
theorem jf:joinedFacts Tryz.pinned.checked.prog 7 Tryz.f7 (Rows.OpenSpec.upto Rows.analyseMakesSpec).bare Rows.analyseMakesUptoRow=true :=
 eH (eH (eH (eH (eH (eH (eH (eH (eH (eH (eH (eH (eH (eH (eH (eH (eH (eH (eH (eH (eH (eH (eH (eH (eH (eH (eH (eH (eH (eH (eH ag ag) ag) ag) ag) ag) ag) ag) ag) RU) RV) RW) RX) ag) ag) ag) ag) ag) ag) ag) ag) ag) ag) ag) ag) ag) RY) ag) ag) ag) ag) ag
theorem said:Rows.AnalyseMakesUptoSaid:=
 OpenClaim.holds_of_cond 7 Tryz.f7 rfl rfl rfl rfl rfl rfl rfl ⟨rfl,rfl,rfl,rfl,rfl⟩ rfl rfl rfl rfl rfl ag Tryz.func7 jf
  (of_decide_eq_true ag) (by unfold Func.isWrapper; first | (rw [if_pos (by decide+kernel)]; kernel_rfl) | (rw [if_neg (by decide+kernel)]; exact ⟨rfl,rfl⟩))
  (fun os started H enc _ F=>by rw [OpenClaim.pre_eq_preRow]; exact lifted os started H enc F)
theorem plain (f:FuncId) (fn:Func) (c:Tryz.pinned.checked.prog.funcNamed "hornbook/hornbooklaw17.AnalyseMakes" =some f) (q:Tryz.pinned.checked.prog.funcs[f]? =some fn):
 true =Tryz.pinned.checked.prog.looks []∧∀ (j:Nat) t,fn.params[j]? =some t→Tryz.pinned.checked.prog.wantsStandIn t=false :=by
 obtain rfl :f=7:=Option.some.inj ((show Tryz.prog.funcNamed "hornbook/hornbooklaw17.AnalyseMakes" =some 7 by kernel_rfl).symm.trans c) |>.symm
 obtain rfl :fn=Tryz.f7:=(Option.some.inj (Tryz.func7.symm.trans q)).symm
 refine ⟨ag,fun j t a=> ?_⟩
 rw [Tryz.params7] at a
 have hm:=Array.mem_of_getElem? a
 simp only [List.mem_toArray,List.mem_cons,List.not_mem_nil,or_false] at hm
 rcases hm with rfl
 · exact (show Tryz.prog.wantsStandIn 57=false by kernel_rfl)
theorem holds:Rows.AnalyseMakesUptoCardSaid:=
 Claim7.holds_tied_plain_at .later [] _ _ _ _ said (fun _ h=>by cases h) ag (fun _ h=>by cases h) analyseMakesUpto_row_tie rfl ⟨rfl,rfl⟩ ag rfl plain ag
#print axioms holds
end Go.Proofs.YtchkamdekbbgeaaGreatDoor.analyseMakes
