/-
  The law AnalyseStems holds of every input of bulk at most 1,048,576: the call returns true and leaves its arguments as they were. Conditions: none but the statement's own bound on the arguments' bulk.
-/
import Derived.Test.YtchkamdekbbgeaaGreatDoorMnAnalyseStems9
import Derived.Test.YtchkamdekbbgeaaGreatDoorRows
import Derived.Test.YtchkamdekbbgeaaGreatDoorCards
import Derived.Test.YtchkamdekbbgeaaGreatDoorTie
import Derived.WalkKit
import Derived.ProofKit
import Derived.OpenShut
import Derived.Deep.DeepHandedRow
import Derived.Lib.LaidTab
set_option linter.unusedVariables false
namespace Go.Proofs.YtchkamdekbbgeaaGreatDoor.analyseStems
open Go.Hb Go.ChangeShapes Go.WideShapes Go.ChangeAt Go.RowKit
theorem own:ownKnob Tryz.prog.godebug=none:=au
theorem laidOut:laidOutB Tryz.prog=true :=au
set_option maxRecDepth 100000 in
theorem VA (H:Type) (enc:TypeId×Value→H) (W:World) (base:Nat) (args:Array Value) (E gs:List (DataW H)) (before:List MemPlace)
 (C:∀ (j:Nat) t v,Tryz.f5.params[j]? =some t→args[j]? =some v→Value.okWide Tryz.prog W .any base t v)
 (J:DataW.Whole enc Tryz.prog Tryz.f5.params.toList Rows.analyseStemsSpec.vars false W args.toList E gs before) (hk:Rows.uptoSmall H (E++gs)=true):
 Calls Tryz.prog 5 args W fun e W'=> ∃ v,e= .returned v∧Rows.analyseStemsSpec.post enc Tryz.prog Tryz.f5 false true false false W args v W':=by
 have A:=J
 obtain ⟨p,q,I,ak,rfl,_,_⟩:=J
 have G:DataW.TrodAll enc Tryz.prog W 0 (fun _=>true) true Tryz.f5.params.toList args.toList E p:=I
 rw [Tryz.params5] at G C
 obtain ⟨v0,aP,d0,az,aJ,aM,aC,rfl,rfl,ac,ap⟩:=trodAll_cons G
 obtain ⟨v1,aQ,d1,aA,aK,aN,rfl,rfl,rfl,h1,aq⟩:=trodAll_cons ap
 obtain ⟨v2,aR,d2,aB,aL,aO,rfl,rfl,rfl,h2,av⟩:=trodAll_cons aq
 obtain ⟨rfl,rfl,rfl⟩:=trodAll_nil av
 obtain rfl :args= #[v0,v1,v2]:=by cases args; simp_all
 obtain ⟨rfl,rfl⟩:=trodVars_none ak
 clear I
 have al:=Sk hk
 simp only [List.append_nil,Rows.uptoBulkAll] at al
 obtain ⟨aG,rfl⟩:=okWide_string Tryz.underlying9 (C 0 9 v0 rfl rfl)
 obtain ⟨Z,am⟩:=ac
 obtain ⟨_,aw,ae,aD⟩:=(Fp Tryz.underlying9 au).op enc W Z _ _ _ am
 obtain ⟨aH,rfl⟩:=okWide_string Tryz.underlying9 (C 1 9 v1 rfl rfl)
 obtain ⟨aa,an⟩:=h1
 obtain ⟨_,ax,ah,aE⟩:=(Fp Tryz.underlying9 au).op enc W aa _ _ _ an
 obtain ⟨aI,rfl⟩:=okWide_string Tryz.underlying9 (C 2 9 v2 rfl rfl)
 obtain ⟨ab,ao⟩:=h2
 obtain ⟨_,ay,ai,aF⟩:=(Fp Tryz.underlying9 au).op enc W ab _ _ _ ao
 have O:=ae
 simp only [Value.cells,List.cons.injEq,and_true] at O
 rw [O] at A ⊢
 have V:=ah
 simp only [Value.cells,List.cons.injEq,and_true] at V
 rw [V] at A ⊢
 have Y:=ai
 simp only [Value.cells,List.cons.injEq,and_true] at Y
 rw [Y] at A ⊢
 exact abT A ag ag ag Tryz.underlying4 laidOut au (adm aw ax ay W aj aj aj)
noncomputable def EJ (os:Os):World:=
 {World.holding Tryz.prog os ⟨#[],#[],[]⟩ with heap:=(((World.holding Tryz.prog os ⟨#[],#[],[]⟩).heap.modify 1 fun
  | .cells _ t frozen=> .cells ((Go.Pinned.utf8FirstZ.map fun n=>Value.int .u8 (n:Nat)).toArray) t frozen
  | o=>o).modify 2 fun
  | .cells _ t frozen=> .cells (#[.int .u8 128,.int .u8 191,.int .u8 160,.int .u8 191,.int .u8 128,.int .u8 159,.int .u8 144,.int .u8 191,.int .u8 128,.int .u8 143,.int .u8 0,.int .u8 0,.int .u8 0,.int .u8 0,.int .u8 0,.int .u8 0,.int .u8 0,.int .u8 0,.int .u8 0,.int .u8 0,.int .u8 0,.int .u8 0,.int .u8 0,.int .u8 0,.int .u8 0,.int .u8 0,.int .u8 0,.int .u8 0,.int .u8 0,.int .u8 0,.int .u8 0,.int .u8 0]) t frozen
  | o=>o)}
set_option maxRecDepth 100000 in
theorem ZU (os:Os):laidMet Tryz.prog Rows.analyseStemsUptoRow.laid ((EJ os).forCall (fun _ _=>0) ⟨#[],#[.string ⟨⟨[]⟩⟩,.string ⟨⟨[]⟩⟩,.string ⟨⟨[]⟩⟩],[]⟩).memory:=
 laidMet_of_run' 8 au au
theorem reads (os:Os) {H:Type} (enc:TypeId×Value→H):∃ A,DataW.whole enc Tryz.prog ((EJ os).forCall (fun _ _=>0) ⟨#[],#[.string ⟨⟨[]⟩⟩,.string ⟨⟨[]⟩⟩,.string ⟨⟨[]⟩⟩],[]⟩).memory Tryz.f5.params.toList Rows.analyseStemsSpec.vars false #[.string ⟨⟨[]⟩⟩,.string ⟨⟨[]⟩⟩,.string ⟨⟨[]⟩⟩].toList 8=some ([.lit (.string []),.lit (.string []),.lit (.string [])],[],A):=
 ⟨[],au⟩
set_option maxRecDepth 100000 in
theorem lifted (os:Os) (started:os.Started) (H:Type) (enc:TypeId×Value→H) (F:Stop.Interp):
 ReturnsInHanded {} Tryz.checked os 5 .any ((Rows.OpenSpec.upto Rows.analyseStemsSpec).preRow enc Tryz.prog Tryz.f5 Rows.analyseStemsUptoRow.domain false Rows.analyseStemsUptoRow.laid) (((Rows.OpenSpec.upto Rows.analyseStemsSpec).at F).post enc Tryz.prog Tryz.f5 false true false false):=by
 obtain ⟨O,J⟩:=reads os enc
 refine returnsInHanded_of_row (C:=Tryz.checked) (s:=Rows.OpenSpec.upto Rows.analyseStemsSpec) own started au Tryz.func5
  (witness_row_at (enc:=enc) (C:=Tryz.checked) false (EJ os) #[.string ⟨⟨[]⟩⟩,.string ⟨⟨[]⟩⟩,.string ⟨⟨[]⟩⟩] rfl au au au
   (OpenSpec.preRow_of_cond 8 J au (fun k hk=>by cases hk; kernel_rfl) au (ZU os))) ?_
 intro W base args A gs before I E _ G _ _ _ _
 exact VA H enc W base args A gs before I E (G _ rfl)
theorem gw {a b:Bool} (h:a=true) (k:b=true):(a && b)=true :=by rw [h,k]; rfl
theorem ZE:(Rows.analyseStemsUptoRow.inPlace==Tryz.pinned.checked.prog.inPlace 5)=true :=au
theorem ZF:(Rows.analyseStemsUptoRow.unfollowed==Tryz.pinned.checked.prog.unfollowed 5)=true :=au
theorem ZG:(Rows.analyseStemsUptoRow.recurses==Tryz.pinned.checked.prog.recurses 5)=true :=au
theorem ZH:(Rows.analyseStemsUptoRow.named==Tryz.pinned.checked.prog.varsNamed 5)=true :=au
theorem ZI:(Rows.analyseStemsUptoRow.lifted==Tryz.pinned.checked.prog.liftsFinal)=true :=au
theorem jf:joinedFacts Tryz.pinned.checked.prog 5 Tryz.f5 (Rows.OpenSpec.upto Rows.analyseStemsSpec).bare Rows.analyseStemsUptoRow=true :=
 gw (gw (gw (gw (gw (gw (gw (gw (gw (gw (gw (gw (gw (gw (gw (gw (gw (gw (gw (gw (gw (gw (gw (gw (gw (gw (gw (gw (gw (gw (gw au au) au) au) au) au) au) au) au) ZE) ZF) ZG) ZH) au) au) au) au) au) au) au) au) au) au) au) au) au) ZI) au) au) au) au) au
theorem said:Rows.AnalyseStemsUptoSaid:=
 OpenClaim.holds_of_cond 5 Tryz.f5 rfl rfl rfl rfl rfl rfl rfl ⟨rfl,rfl,rfl,rfl,rfl⟩ rfl rfl rfl rfl rfl au Tryz.func5 jf
  (of_decide_eq_true au) (by unfold Func.isWrapper; first | (rw [if_pos (by decide+kernel)]; kernel_rfl) | (rw [if_neg (by decide+kernel)]; exact ⟨rfl,rfl⟩))
  (fun os started H enc _ F=>by rw [OpenClaim.pre_eq_preRow]; exact lifted os started H enc F)
theorem plain (f:FuncId) (fn:Func) (C:Tryz.pinned.checked.prog.funcNamed "hornbook/hornbooklaw17.AnalyseStems" =some f) (E:Tryz.pinned.checked.prog.funcs[f]? =some fn):
 true =Tryz.pinned.checked.prog.looks []∧∀ (j:Nat) t,fn.params[j]? =some t→Tryz.pinned.checked.prog.wantsStandIn t=false :=by
 obtain rfl :f=5:=Option.some.inj ((show Tryz.prog.funcNamed "hornbook/hornbooklaw17.AnalyseStems" =some 5 by kernel_rfl).symm.trans C) |>.symm
 obtain rfl :fn=Tryz.f5:=(Option.some.inj (Tryz.func5.symm.trans E)).symm
 refine ⟨au,fun j t A=> ?_⟩
 rw [Tryz.params5] at A
 have hm:=Array.mem_of_getElem? A
 simp only [List.mem_toArray,List.mem_cons,List.not_mem_nil,or_false] at hm
 rcases hm with rfl | rfl | rfl
 · exact (show Tryz.prog.wantsStandIn 9=false by kernel_rfl)
 · exact (show Tryz.prog.wantsStandIn 9=false by kernel_rfl)
 · exact (show Tryz.prog.wantsStandIn 9=false by kernel_rfl)
theorem holds:Rows.AnalyseStemsUptoCardSaid:=
 Claim7.holds_tied_plain_at .later [] _ _ _ _ said (fun _ h=>by cases h) au (fun _ h=>by cases h) analyseStemsUpto_row_tie rfl ⟨rfl,rfl⟩ au rfl plain au
#print axioms holds
end Go.Proofs.YtchkamdekbbgeaaGreatDoor.analyseStems
