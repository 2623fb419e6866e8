/-
  The law AnalyseAccepts holds of every input of bulk at most 1,048,576: the call returns true and leaves its arguments as they were. Conditions: none but the statement's own bound on the arguments' bulk.
-/
import Derived.Test.YtchkamdekbbgeaaGreatDoorMnAnalyseAccepts8
import Derived.Test.YtchkamdekbbgeaaGreatDoorRows
import Derived.Test.YtchkamdekbbgeaaGreatDoorCards
import Derived.Test.YtchkamdekbbgeaaGreatDoorTie
import Derived.WalkKit
import Derived.ProofKit
import Derived.OpenShut
import Derived.Deep.DeepHandedRow
import Derived.Lib.LaidTab
set_option linter.unusedVariables false
namespace Go.Proofs.YtchkamdekbbgeaaGreatDoor.analyseAccepts
open Go.Hb Go.ChangeShapes Go.WideShapes Go.ChangeAt Go.RowKit
theorem own:ownKnob Tryz.prog.godebug=none:=aj
theorem laidOut:laidOutB Tryz.prog=true :=aj
set_option maxRecDepth 100000 in
theorem P0 (H:Type) (enc:TypeId×Value→H) (W:World) (base:Nat) (args:Array Value) (C gs:List (DataW H)) (before:List MemPlace)
 (A:∀ (j:Nat) t v,Tryz.f4.params[j]? =some t→args[j]? =some v→Value.okWide Tryz.prog W .any base t v)
 (J:DataW.Whole enc Tryz.prog Tryz.f4.params.toList Rows.analyseAcceptsSpec.vars false W args.toList C gs before) (hk:Rows.uptoSmall H (C++gs)=true):
 Calls Tryz.prog 4 args W fun e W'=> ∃ v,e= .returned v∧Rows.analyseAcceptsSpec.post enc Tryz.prog Tryz.f4 false true false false W args v W':=by
 have E:=J
 obtain ⟨p,q,I,ai,rfl,_,_⟩:=J
 have G:DataW.TrodAll enc Tryz.prog W 0 (fun _=>true) true Tryz.f4.params.toList args.toList C p:=I
 rw [Tryz.params4] at G A
 obtain ⟨v0,aM,d0,ax,aG,aJ,aA,rfl,rfl,ac,ao⟩:=trodAll_cons G
 obtain ⟨v1,aN,d1,ay,aH,aK,rfl,rfl,rfl,h1,ap⟩:=trodAll_cons ao
 obtain ⟨v2,aO,d2,az,aI,aL,rfl,rfl,rfl,h2,aq⟩:=trodAll_cons ap
 obtain ⟨rfl,rfl,rfl⟩:=trodAll_nil aq
 obtain rfl :args= #[v0,v1,v2]:=by cases args; simp_all
 obtain ⟨rfl,rfl⟩:=trodVars_none ai
 clear I
 have ak:=On hk
 simp only [List.append_nil,Rows.uptoBulkAll] at ak
 obtain ⟨aE,rfl⟩:=okWide_string Tryz.underlying9 (A 0 9 v0 rfl rfl)
 obtain ⟨Y,am⟩:=ac
 obtain ⟨_,av,ae,aB⟩:=(Jy Tryz.underlying9 aj).op enc W Y _ _ _ am
 obtain ⟨aF,rfl⟩:=okWide_string Tryz.underlying9 (A 1 9 v1 rfl rfl)
 obtain ⟨Z,an⟩:=h1
 obtain ⟨_,aw,ag,aC⟩:=(Jy Tryz.underlying9 aj).op enc W Z _ _ _ an
 obtain ⟨au,a2,c2,rfl,ah,al⟩:=VI Tryz.underlying35 Tryz.underlying9 aj (A 2 35 v2 rfl rfl) h2
 have aD:=Oo al
 have O:=ae
 simp only [Value.cells,List.cons.injEq,and_true] at O
 rw [O] at E ⊢
 have V:=ag
 simp only [Value.cells,List.cons.injEq,and_true] at V
 rw [V] at E ⊢
 exact WH E aa aa aa Tryz.underlying4 laidOut aj (ND av aw au a2 c2 W ab ab ah ab)
noncomputable def B8 (os:Os):World:=
 {World.holding Tryz.prog os ⟨#[],#[],[]⟩ with heap:=(((World.holding Tryz.prog os ⟨#[],#[],[]⟩).heap.modify 1 fun
  | .cells _ t frozen=> .cells ((Go.Pinned.utf8FirstZ.map fun n=>Value.int .u8 (n:Nat)).toArray) t frozen
  | o=>o).modify 2 fun
  | .cells _ t frozen=> .cells (#[.int .u8 128,.int .u8 191,.int .u8 160,.int .u8 191,.int .u8 128,.int .u8 159,.int .u8 144,.int .u8 191,.int .u8 128,.int .u8 143,.int .u8 0,.int .u8 0,.int .u8 0,.int .u8 0,.int .u8 0,.int .u8 0,.int .u8 0,.int .u8 0,.int .u8 0,.int .u8 0,.int .u8 0,.int .u8 0,.int .u8 0,.int .u8 0,.int .u8 0,.int .u8 0,.int .u8 0,.int .u8 0,.int .u8 0,.int .u8 0,.int .u8 0,.int .u8 0]) t frozen
  | o=>o)}
set_option maxRecDepth 100000 in
theorem Uj (os:Os):laidMet Tryz.prog Rows.analyseAcceptsUptoRow.laid ((B8 os).forCall (fun _ _=>0) ⟨#[],#[.string ⟨⟨[]⟩⟩,.string ⟨⟨[]⟩⟩,.slice none 0 0],[]⟩).memory:=
 laidMet_of_run' 8 aj aj
theorem reads (os:Os) {H:Type} (enc:TypeId×Value→H):∃ A,DataW.whole enc Tryz.prog ((B8 os).forCall (fun _ _=>0) ⟨#[],#[.string ⟨⟨[]⟩⟩,.string ⟨⟨[]⟩⟩,.slice none 0 0],[]⟩).memory Tryz.f4.params.toList Rows.analyseAcceptsSpec.vars false #[.string ⟨⟨[]⟩⟩,.string ⟨⟨[]⟩⟩,.slice none 0 0].toList 8=some ([.lit (.string []),.lit (.string []),.nil],[],A):=
 ⟨[],aj⟩
set_option maxRecDepth 100000 in
theorem lifted (os:Os) (started:os.Started) (H:Type) (enc:TypeId×Value→H) (F:Stop.Interp):
 ReturnsInHanded {} Tryz.checked os 4 .any ((Rows.OpenSpec.upto Rows.analyseAcceptsSpec).preRow enc Tryz.prog Tryz.f4 Rows.analyseAcceptsUptoRow.domain false Rows.analyseAcceptsUptoRow.laid) (((Rows.OpenSpec.upto Rows.analyseAcceptsSpec).at F).post enc Tryz.prog Tryz.f4 false true false false):=by
 obtain ⟨O,J⟩:=reads os enc
 refine returnsInHanded_of_row (C:=Tryz.checked) (s:=Rows.OpenSpec.upto Rows.analyseAcceptsSpec) own started aj Tryz.func4
  (witness_row_at (enc:=enc) (C:=Tryz.checked) false (B8 os) #[.string ⟨⟨[]⟩⟩,.string ⟨⟨[]⟩⟩,.slice none 0 0] rfl aj aj aj
   (OpenSpec.preRow_of_cond 8 J aj (fun k hk=>by cases hk; kernel_rfl) aj (Uj os))) ?_
 intro W base args A gs before I E _ G _ _ _ _
 exact P0 H enc W base args A gs before I E (G _ rfl)
theorem fT {a b:Bool} (h:a=true) (k:b=true):(a && b)=true :=by rw [h,k]; rfl
theorem T3:(Rows.analyseAcceptsUptoRow.inPlace==Tryz.pinned.checked.prog.inPlace 4)=true :=aj
theorem T4:(Rows.analyseAcceptsUptoRow.unfollowed==Tryz.pinned.checked.prog.unfollowed 4)=true :=aj
theorem T5:(Rows.analyseAcceptsUptoRow.recurses==Tryz.pinned.checked.prog.recurses 4)=true :=aj
theorem T6:(Rows.analyseAcceptsUptoRow.named==Tryz.pinned.checked.prog.varsNamed 4)=true :=aj
theorem T7:(Rows.analyseAcceptsUptoRow.lifted==Tryz.pinned.checked.prog.liftsFinal)=true :=aj
theorem jf:joinedFacts Tryz.pinned.checked.prog 4 Tryz.f4 (Rows.OpenSpec.upto Rows.analyseAcceptsSpec).bare Rows.analyseAcceptsUptoRow=true :=
 fT (fT (fT (fT (fT (fT (fT (fT (fT (fT (fT (fT (fT (fT (fT (fT (fT (fT (fT (fT (fT (fT (fT (fT (fT (fT (fT (fT (fT (fT (fT aj aj) aj) aj) aj) aj) aj) aj) aj) T3) T4) T5) T6) aj) aj) aj) aj) aj) aj) aj) aj) aj) aj) aj) aj) aj) T7) aj) aj) aj) aj) aj
theorem said:Rows.AnalyseAcceptsUptoSaid:=
 OpenClaim.holds_of_cond 4 Tryz.f4 rfl rfl rfl rfl rfl rfl rfl ⟨rfl,rfl,rfl,rfl,rfl⟩ rfl rfl rfl rfl rfl aj Tryz.func4 jf
  (of_decide_eq_true aj) (by unfold Func.isWrapper; first | (rw [if_pos (by decide+kernel)]; kernel_rfl) | (rw [if_neg (by decide+kernel)]; exact ⟨rfl,rfl⟩))
  (fun os started H enc _ F=>by rw [OpenClaim.pre_eq_preRow]; exact lifted os started H enc F)
theorem plain (f:FuncId) (fn:Func) (C:Tryz.pinned.checked.prog.funcNamed "hornbook/hornbooklaw17.AnalyseAccepts" =some f) (E:Tryz.pinned.checked.prog.funcs[f]? =some fn):
 true =Tryz.pinned.checked.prog.looks []∧∀ (j:Nat) t,fn.params[j]? =some t→Tryz.pinned.checked.prog.wantsStandIn t=false :=by
 obtain rfl :f=4:=Option.some.inj ((show Tryz.prog.funcNamed "hornbook/hornbooklaw17.AnalyseAccepts" =some 4 by kernel_rfl).symm.trans C) |>.symm
 obtain rfl :fn=Tryz.f4:=(Option.some.inj (Tryz.func4.symm.trans E)).symm
 refine ⟨aj,fun j t A=> ?_⟩
 rw [Tryz.params4] at A
 have hm:=Array.mem_of_getElem? A
 simp only [List.mem_toArray,List.mem_cons,List.not_mem_nil,or_false] at hm
 rcases hm with rfl | rfl | rfl
 · exact (show Tryz.prog.wantsStandIn 9=false by kernel_rfl)
 · exact (show Tryz.prog.wantsStandIn 9=false by kernel_rfl)
 · exact (show Tryz.prog.wantsStandIn 35=false by kernel_rfl)
theorem holds:Rows.AnalyseAcceptsUptoCardSaid:=
 Claim7.holds_tied_plain_at .later [] _ _ _ _ said (fun _ h=>by cases h) aj (fun _ h=>by cases h) analyseAcceptsUpto_row_tie rfl ⟨rfl,rfl⟩ aj rfl plain aj
#print axioms holds
end Go.Proofs.YtchkamdekbbgeaaGreatDoor.analyseAccepts
