/-
  The law AnalyseTells holds of every input of bulk at most 1,048,576: the call returns true and leaves its arguments as they were. Conditions: none but the statement's own bound on the arguments' bulk.
-/
import Derived.Test.YtchkamdekbbgeaaGreatDoorMnAnalyseTells7
import Derived.Test.YtchkamdekbbgeaaGreatDoorRows
import Derived.Test.YtchkamdekbbgeaaGreatDoorCards
import Derived.Test.YtchkamdekbbgeaaGreatDoorTie
import Derived.WalkKit
import Derived.ProofKit
import Derived.OpenShut
import Derived.Deep.DeepHandedRow
import Derived.Lib.LaidTab
set_option linter.unusedVariables false
namespace Go.Proofs.YtchkamdekbbgeaaGreatDoor.analyseTells
open Go.Hb Go.ChangeShapes Go.WideShapes Go.ChangeAt Go.RowKit
theorem own:ownKnob Tryz.prog.godebug=none:=ag
theorem laidOut:laidOutB Tryz.prog=true :=ag
set_option maxRecDepth 100000 in
theorem M5 (H:Type) (enc:TypeId×Value→H) (W:World) (base:Nat) (args:Array Value) (C gs:List (DataW H)) (before:List MemPlace)
 (A:∀ (j:Nat) t v,Tryz.f6.params[j]? =some t→args[j]? =some v→Value.okWide Tryz.prog W .any base t v)
 (I:DataW.Whole enc Tryz.prog Tryz.f6.params.toList Rows.analyseTellsSpec.vars false W args.toList C gs before) (hk:Rows.uptoSmall H (C++gs)=true):
 Calls Tryz.prog 6 args W fun e W'=> ∃ v,e= .returned v∧Rows.analyseTellsSpec.post enc Tryz.prog Tryz.f6 false true false false W args v W':=by
 have c:=I
 obtain ⟨p,q,G,aj,rfl,_,_⟩:=I
 have E:DataW.TrodAll enc Tryz.prog W 0 (fun _=>true) true Tryz.f6.params.toList args.toList C p:=G
 rw [Tryz.params6] at E A
 obtain ⟨v0,aN,d0,ax,aH,aK,aA,rfl,rfl,ad,ao⟩:=trodAll_cons E
 obtain ⟨v1,aO,d1,ay,aI,aL,rfl,rfl,rfl,h1,ap⟩:=trodAll_cons ao
 obtain ⟨v2,aP,d2,az,aJ,aM,rfl,rfl,rfl,h2,aq⟩:=trodAll_cons ap
 obtain ⟨rfl,rfl,rfl⟩:=trodAll_nil aq
 obtain rfl :args= #[v0,v1,v2]:=by cases args; simp_all
 obtain ⟨rfl,rfl⟩:=trodVars_none aj
 clear G
 have ak:=Ki hk
 simp only [List.append_nil,Rows.uptoBulkAll] at ak
 obtain ⟨aE,rfl⟩:=okWide_string Tryz.underlying9 (A 0 9 v0 rfl rfl)
 obtain ⟨Y,al⟩:=ad
 obtain ⟨_,au,ae,aB⟩:=(Aa Tryz.underlying9 ag).op enc W Y _ _ _ al
 obtain ⟨aF,rfl⟩:=okWide_string Tryz.underlying9 (A 1 9 v1 rfl rfl)
 obtain ⟨Z,am⟩:=h1
 obtain ⟨_,av,ah,aC⟩:=(Aa Tryz.underlying9 ag).op enc W Z _ _ _ am
 obtain ⟨aG,rfl⟩:=okWide_string Tryz.underlying9 (A 2 9 v2 rfl rfl)
 obtain ⟨ac,an⟩:=h2
 obtain ⟨_,aw,ai,aD⟩:=(Aa Tryz.underlying9 ag).op enc W ac _ _ _ an
 have J:=ae
 simp only [Value.cells,List.cons.injEq,and_true] at J
 rw [J] at c ⊢
 have O:=ah
 simp only [Value.cells,List.cons.injEq,and_true] at O
 rw [O] at c ⊢
 have V:=ai
 simp only [Value.cells,List.cons.injEq,and_true] at V
 rw [V] at c ⊢
 exact Tz c aa aa aa Tryz.underlying4 laidOut ag (Va au av aw W ab ab ab)
noncomputable def zr (os:Os):World:=
 {World.holding Tryz.prog os ⟨#[],#[],[]⟩ with heap:=(((World.holding Tryz.prog os ⟨#[],#[],[]⟩).heap.modify 1 fun
  | .cells _ t frozen=> .cells ((Go.Pinned.utf8FirstZ.map fun n=>Value.int .u8 (n:Nat)).toArray) t frozen
  | o=>o).modify 2 fun
  | .cells _ t frozen=> .cells (#[.int .u8 128,.int .u8 191,.int .u8 160,.int .u8 191,.int .u8 128,.int .u8 159,.int .u8 144,.int .u8 191,.int .u8 128,.int .u8 143,.int .u8 0,.int .u8 0,.int .u8 0,.int .u8 0,.int .u8 0,.int .u8 0,.int .u8 0,.int .u8 0,.int .u8 0,.int .u8 0,.int .u8 0,.int .u8 0,.int .u8 0,.int .u8 0,.int .u8 0,.int .u8 0,.int .u8 0,.int .u8 0,.int .u8 0,.int .u8 0,.int .u8 0,.int .u8 0]) t frozen
  | o=>o)}
set_option maxRecDepth 100000 in
theorem Q3 (os:Os):laidMet Tryz.prog Rows.analyseTellsUptoRow.laid ((zr os).forCall (fun _ _=>0) ⟨#[],#[.string ⟨⟨[]⟩⟩,.string ⟨⟨[]⟩⟩,.string ⟨⟨[]⟩⟩],[]⟩).memory:=
 laidMet_of_run' 8 ag ag
theorem reads (os:Os) {H:Type} (enc:TypeId×Value→H):∃ c,DataW.whole enc Tryz.prog ((zr os).forCall (fun _ _=>0) ⟨#[],#[.string ⟨⟨[]⟩⟩,.string ⟨⟨[]⟩⟩,.string ⟨⟨[]⟩⟩],[]⟩).memory Tryz.f6.params.toList Rows.analyseTellsSpec.vars false #[.string ⟨⟨[]⟩⟩,.string ⟨⟨[]⟩⟩,.string ⟨⟨[]⟩⟩].toList 8=some ([.lit (.string []),.lit (.string []),.lit (.string [])],[],c):=
 ⟨[],ag⟩
set_option maxRecDepth 100000 in
theorem lifted (os:Os) (started:os.Started) (H:Type) (enc:TypeId×Value→H) (F:Stop.Interp):
 ReturnsInHanded {} Tryz.checked os 6 .any ((Rows.OpenSpec.upto Rows.analyseTellsSpec).preRow enc Tryz.prog Tryz.f6 Rows.analyseTellsUptoRow.domain false Rows.analyseTellsUptoRow.laid) (((Rows.OpenSpec.upto Rows.analyseTellsSpec).at F).post enc Tryz.prog Tryz.f6 false true false false):=by
 obtain ⟨J,I⟩:=reads os enc
 refine returnsInHanded_of_row (C:=Tryz.checked) (s:=Rows.OpenSpec.upto Rows.analyseTellsSpec) own started ag Tryz.func6
  (witness_row_at (enc:=enc) (C:=Tryz.checked) false (zr os) #[.string ⟨⟨[]⟩⟩,.string ⟨⟨[]⟩⟩,.string ⟨⟨[]⟩⟩] rfl ag ag ag
   (OpenSpec.preRow_of_cond 8 I ag (fun k hk=>by cases hk; kernel_rfl) ag (Q3 os))) ?_
 intro W base args c gs before G A _ E _ _ _ _
 exact M5 H enc W base args c gs before G A (E _ rfl)
theorem eB {a b:Bool} (h:a=true) (k:b=true):(a && b)=true :=by rw [h,k]; rfl
theorem QO:(Rows.analyseTellsUptoRow.inPlace==Tryz.pinned.checked.prog.inPlace 6)=true :=ag
theorem QP:(Rows.analyseTellsUptoRow.unfollowed==Tryz.pinned.checked.prog.unfollowed 6)=true :=ag
theorem QQ:(Rows.analyseTellsUptoRow.recurses==Tryz.pinned.checked.prog.recurses 6)=true :=ag
theorem QR:(Rows.analyseTellsUptoRow.named==Tryz.pinned.checked.prog.varsNamed 6)=true :=ag
theorem QS:(Rows.analyseTellsUptoRow.lifted==Tryz.pinned.checked.prog.liftsFinal)=true :=ag
theorem jf:joinedFacts Tryz.pinned.checked.prog 6 Tryz.f6 (Rows.OpenSpec.upto Rows.analyseTellsSpec).bare Rows.analyseTellsUptoRow=true :=
 eB (eB (eB (eB (eB (eB (eB (eB (eB (eB (eB (eB (eB (eB (eB (eB (eB (eB (eB (eB (eB (eB (eB (eB (eB (eB (eB (eB (eB (eB (eB ag ag) ag) ag) ag) ag) ag) ag) ag) QO) QP) QQ) QR) ag) ag) ag) ag) ag) ag) ag) ag) ag) ag) ag) ag) ag) QS) ag) ag) ag) ag) ag
theorem said:Rows.AnalyseTellsUptoSaid:=
 OpenClaim.holds_of_cond 6 Tryz.f6 rfl rfl rfl rfl rfl rfl rfl ⟨rfl,rfl,rfl,rfl,rfl⟩ rfl rfl rfl rfl rfl ag Tryz.func6 jf
  (of_decide_eq_true ag) (by unfold Func.isWrapper; first | (rw [if_pos (by decide+kernel)]; kernel_rfl) | (rw [if_neg (by decide+kernel)]; exact ⟨rfl,rfl⟩))
  (fun os started H enc _ F=>by rw [OpenClaim.pre_eq_preRow]; exact lifted os started H enc F)
theorem plain (f:FuncId) (fn:Func) (A:Tryz.pinned.checked.prog.funcNamed "hornbook/hornbooklaw17.AnalyseTells" =some f) (C:Tryz.pinned.checked.prog.funcs[f]? =some fn):
 true =Tryz.pinned.checked.prog.looks []∧∀ (j:Nat) t,fn.params[j]? =some t→Tryz.pinned.checked.prog.wantsStandIn t=false :=by
 obtain rfl :f=6:=Option.some.inj ((show Tryz.prog.funcNamed "hornbook/hornbooklaw17.AnalyseTells" =some 6 by kernel_rfl).symm.trans A) |>.symm
 obtain rfl :fn=Tryz.f6:=(Option.some.inj (Tryz.func6.symm.trans C)).symm
 refine ⟨ag,fun j t c=> ?_⟩
 rw [Tryz.params6] at c
 have hm:=Array.mem_of_getElem? c
 simp only [List.mem_toArray,List.mem_cons,List.not_mem_nil,or_false] at hm
 rcases hm with rfl | rfl | rfl
 · exact (show Tryz.prog.wantsStandIn 9=false by kernel_rfl)
 · exact (show Tryz.prog.wantsStandIn 9=false by kernel_rfl)
 · exact (show Tryz.prog.wantsStandIn 9=false by kernel_rfl)
theorem holds:Rows.AnalyseTellsUptoCardSaid:=
 Claim7.holds_tied_plain_at .later [] _ _ _ _ said (fun _ h=>by cases h) ag (fun _ h=>by cases h) analyseTellsUpto_row_tie rfl ⟨rfl,rfl⟩ ag rfl plain ag
#print axioms holds
end Go.Proofs.YtchkamdekbbgeaaGreatDoor.analyseTells
