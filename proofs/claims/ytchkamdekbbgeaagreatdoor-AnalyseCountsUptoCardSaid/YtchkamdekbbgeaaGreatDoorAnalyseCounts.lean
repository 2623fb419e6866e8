/-
  The law AnalyseCounts holds of every input of bulk at most 1,048,576: the call returns true and leaves its arguments as they were. Conditions: none but the statement's own bound on the arguments' bulk.
-/
import Derived.Test.YtchkamdekbbgeaaGreatDoorMnAnalyseCounts7
import Derived.Test.YtchkamdekbbgeaaGreatDoorRows
import Derived.Test.YtchkamdekbbgeaaGreatDoorCards
import Derived.Test.YtchkamdekbbgeaaGreatDoorTie
import Derived.WalkKit
import Derived.ProofKit
import Derived.OpenShut
import Derived.Deep.DeepHandedRow
import Derived.Lib.LaidTab
set_option linter.unusedVariables false
namespace Go.Proofs.YtchkamdekbbgeaaGreatDoor.analyseCounts
open Go.Hb Go.ChangeShapes Go.WideShapes Go.ChangeAt Go.RowKit
theorem own:ownKnob Tryz.prog.godebug=none:=ag
theorem laidOut:laidOutB Tryz.prog=true :=ag
set_option maxRecDepth 100000 in
theorem Oq (H:Type) (enc:TypeId×Value→H) (W:World) (base:Nat) (args:Array Value) (c gs:List (DataW H)) (before:List MemPlace)
 (C:∀ (j:Nat) t v,Tryz.f8.params[j]? =some t→args[j]? =some v→Value.okWide Tryz.prog W .any base t v)
 (I:DataW.Whole enc Tryz.prog Tryz.f8.params.toList Rows.analyseCountsSpec.vars false W args.toList c gs before) (hk:Rows.uptoSmall H (c++gs)=true):
 Calls Tryz.prog 8 args W fun e W'=> ∃ v,e= .returned v∧Rows.analyseCountsSpec.post enc Tryz.prog Tryz.f8 false true false false W args v W':=by
 have A:=I
 obtain ⟨p,q,G,ae,rfl,_,_⟩:=I
 have E:DataW.TrodAll enc Tryz.prog W 0 (fun _=>true) true Tryz.f8.params.toList args.toList c p:=G
 rw [Tryz.params8] at E C
 obtain ⟨v0,aC,d0,ao,ay,aA,aq,rfl,rfl,Z,ak⟩:=trodAll_cons E
 obtain ⟨v1,aD,d1,ap,az,aB,rfl,rfl,rfl,h1,al⟩:=trodAll_cons ak
 obtain ⟨rfl,rfl,rfl⟩:=trodAll_nil al
 obtain rfl :args= #[v0,v1]:=by cases args; simp_all
 obtain ⟨rfl,rfl⟩:=trodVars_none ae
 clear G
 have ah:=Lv hk
 simp only [List.append_nil,Rows.uptoBulkAll] at ah
 obtain ⟨aw,rfl⟩:=okWide_string Tryz.underlying9 (C 0 9 v0 rfl rfl)
 obtain ⟨V,ai⟩:=Z
 obtain ⟨_,am,ac,au⟩:=(G1 Tryz.underlying9 ag).op enc W V _ _ _ ai
 obtain ⟨ax,rfl⟩:=okWide_string Tryz.underlying9 (C 1 9 v1 rfl rfl)
 obtain ⟨Y,aj⟩:=h1
 obtain ⟨_,an,ad,av⟩:=(G1 Tryz.underlying9 ag).op enc W Y _ _ _ aj
 have J:=ac
 simp only [Value.cells,List.cons.injEq,and_true] at J
 rw [J] at A ⊢
 have O:=ad
 simp only [Value.cells,List.cons.injEq,and_true] at O
 rw [O] at A ⊢
 exact UP A aa aa aa Tryz.underlying4 laidOut ag (Oy am an W ab ab)
noncomputable def Ax (os:Os):World:=
 {World.holding Tryz.prog os ⟨#[],#[],[]⟩ with heap:=(((World.holding Tryz.prog os ⟨#[],#[],[]⟩).heap.modify 1 fun
  | .cells _ t frozen=> .cells ((Go.Pinned.utf8FirstZ.map fun n=>Value.int .u8 (n:Nat)).toArray) t frozen
  | o=>o).modify 2 fun
  | .cells _ t frozen=> .cells (#[.int .u8 128,.int .u8 191,.int .u8 160,.int .u8 191,.int .u8 128,.int .u8 159,.int .u8 144,.int .u8 191,.int .u8 128,.int .u8 143,.int .u8 0,.int .u8 0,.int .u8 0,.int .u8 0,.int .u8 0,.int .u8 0,.int .u8 0,.int .u8 0,.int .u8 0,.int .u8 0,.int .u8 0,.int .u8 0,.int .u8 0,.int .u8 0,.int .u8 0,.int .u8 0,.int .u8 0,.int .u8 0,.int .u8 0,.int .u8 0,.int .u8 0,.int .u8 0]) t frozen
  | o=>o)}
set_option maxRecDepth 100000 in
theorem Sv (os:Os):laidMet Tryz.prog Rows.analyseCountsUptoRow.laid ((Ax os).forCall (fun _ _=>0) ⟨#[],#[.string ⟨⟨[]⟩⟩,.string ⟨⟨[]⟩⟩],[]⟩).memory:=
 laidMet_of_run' 8 ag ag
theorem reads (os:Os) {H:Type} (enc:TypeId×Value→H):∃ c,DataW.whole enc Tryz.prog ((Ax os).forCall (fun _ _=>0) ⟨#[],#[.string ⟨⟨[]⟩⟩,.string ⟨⟨[]⟩⟩],[]⟩).memory Tryz.f8.params.toList Rows.analyseCountsSpec.vars false #[.string ⟨⟨[]⟩⟩,.string ⟨⟨[]⟩⟩].toList 8=some ([.lit (.string []),.lit (.string [])],[],c):=
 ⟨[],ag⟩
set_option maxRecDepth 100000 in
theorem lifted (os:Os) (started:os.Started) (H:Type) (enc:TypeId×Value→H) (F:Stop.Interp):
 ReturnsInHanded {} Tryz.checked os 8 .any ((Rows.OpenSpec.upto Rows.analyseCountsSpec).preRow enc Tryz.prog Tryz.f8 Rows.analyseCountsUptoRow.domain false Rows.analyseCountsUptoRow.laid) (((Rows.OpenSpec.upto Rows.analyseCountsSpec).at F).post enc Tryz.prog Tryz.f8 false true false false):=by
 obtain ⟨J,I⟩:=reads os enc
 refine returnsInHanded_of_row (C:=Tryz.checked) (s:=Rows.OpenSpec.upto Rows.analyseCountsSpec) own started ag Tryz.func8
  (witness_row_at (enc:=enc) (C:=Tryz.checked) false (Ax os) #[.string ⟨⟨[]⟩⟩,.string ⟨⟨[]⟩⟩] rfl ag ag ag
   (OpenSpec.preRow_of_cond 8 I ag (fun k hk=>by cases hk; kernel_rfl) ag (Sv os))) ?_
 intro W base args c gs before G A _ E _ _ _ _
 exact Oq H enc W base args c gs before G A (E _ rfl)
theorem eL {a b:Bool} (h:a=true) (k:b=true):(a && b)=true :=by rw [h,k]; rfl
theorem Se:(Rows.analyseCountsUptoRow.inPlace==Tryz.pinned.checked.prog.inPlace 8)=true :=ag
theorem Sf:(Rows.analyseCountsUptoRow.unfollowed==Tryz.pinned.checked.prog.unfollowed 8)=true :=ag
theorem Sg:(Rows.analyseCountsUptoRow.recurses==Tryz.pinned.checked.prog.recurses 8)=true :=ag
theorem Sh:(Rows.analyseCountsUptoRow.named==Tryz.pinned.checked.prog.varsNamed 8)=true :=ag
theorem Si:(Rows.analyseCountsUptoRow.lifted==Tryz.pinned.checked.prog.liftsFinal)=true :=ag
theorem jf:joinedFacts Tryz.pinned.checked.prog 8 Tryz.f8 (Rows.OpenSpec.upto Rows.analyseCountsSpec).bare Rows.analyseCountsUptoRow=true :=
 eL (eL (eL (eL (eL (eL (eL (eL (eL (eL (eL (eL (eL (eL (eL (eL (eL (eL (eL (eL (eL (eL (eL (eL (eL (eL (eL (eL (eL (eL (eL ag ag) ag) ag) ag) ag) ag) ag) ag) Se) Sf) Sg) Sh) ag) ag) ag) ag) ag) ag) ag) ag) ag) ag) ag) ag) ag) Si) ag) ag) ag) ag) ag
theorem said:Rows.AnalyseCountsUptoSaid:=
 OpenClaim.holds_of_cond 8 Tryz.f8 rfl rfl rfl rfl rfl rfl rfl ⟨rfl,rfl,rfl,rfl,rfl⟩ rfl rfl rfl rfl rfl ag Tryz.func8 jf
  (of_decide_eq_true ag) (by unfold Func.isWrapper; first | (rw [if_pos (by decide+kernel)]; kernel_rfl) | (rw [if_neg (by decide+kernel)]; exact ⟨rfl,rfl⟩))
  (fun os started H enc _ F=>by rw [OpenClaim.pre_eq_preRow]; exact lifted os started H enc F)
theorem plain (f:FuncId) (fn:Func) (A:Tryz.pinned.checked.prog.funcNamed "hornbook/hornbooklaw17.AnalyseCounts" =some f) (C:Tryz.pinned.checked.prog.funcs[f]? =some fn):
 true =Tryz.pinned.checked.prog.looks []∧∀ (j:Nat) t,fn.params[j]? =some t→Tryz.pinned.checked.prog.wantsStandIn t=false :=by
 obtain rfl :f=8:=Option.some.inj ((show Tryz.prog.funcNamed "hornbook/hornbooklaw17.AnalyseCounts" =some 8 by kernel_rfl).symm.trans A) |>.symm
 obtain rfl :fn=Tryz.f8:=(Option.some.inj (Tryz.func8.symm.trans C)).symm
 refine ⟨ag,fun j t c=> ?_⟩
 rw [Tryz.params8] at c
 have hm:=Array.mem_of_getElem? c
 simp only [List.mem_toArray,List.mem_cons,List.not_mem_nil,or_false] at hm
 rcases hm with rfl | rfl
 · exact (show Tryz.prog.wantsStandIn 9=false by kernel_rfl)
 · exact (show Tryz.prog.wantsStandIn 9=false by kernel_rfl)
theorem holds:Rows.AnalyseCountsUptoCardSaid:=
 Claim7.holds_tied_plain_at .later [] _ _ _ _ said (fun _ h=>by cases h) ag (fun _ h=>by cases h) analyseCountsUpto_row_tie rfl ⟨rfl,rfl⟩ ag rfl plain ag
#print axioms holds
end Go.Proofs.YtchkamdekbbgeaaGreatDoor.analyseCounts
