/-
  The law BookKeeps: what its call needs and gives. Conditions: none.
-/
import Derived.Test.YtjaoldaegkmkjaaGreatDoorMnBookKeeps5
import Derived.Test.YtjaoldaegkmkjaaGreatDoorRows
import Derived.LaidMore
import Derived.LaidOnce
import Derived.Deep.DeepWitnessRowRef
import Derived.Stop.Joined
import Derived.Test.YtjaoldaegkmkjaaGreatDoorCards
import Derived.Test.YtjaoldaegkmkjaaGreatDoorTie
import Derived.WalkKit
import Derived.ProofKit
import Derived.OpenShut
import Derived.Deep.DeepHandedRow
import Derived.Lib.LaidTab
set_option linter.unusedVariables false
namespace Go.Proofs.YtjaoldaegkmkjaaGreatDoor.bookKeeps
open Go.Hb Go.ChangeShapes Go.WideShapes Go.ChangeAt Go.RowKit
theorem own:ownKnob Tryz.prog.godebug=none:=aj
theorem laidOut:laidOutB Tryz.prog=true :=aj
theorem star: "*" ++ "errors.errorString" = "*errors.errorString" :=aM
theorem gU (u:TypeId) (h:Tryz.prog.typeName? 3 u=some "*errors.errorString"):u=520:=
 typeName_ptr_named (nm:= "errors.errorString") (by rw [star]; kernel_rfl) aj aM u (by rw [star]; exact h)
theorem Gy:(Rows.bookKeepsUptoRow.laid.filter fun x=>x.2.handleName?.isSome)= [("errors.errorType",Rows.laid_errors_errorType)]:=aj
theorem Gz:(Rows.bookKeepsUptoRow.laid.filter fun x=>x.2.handleName?.isNone)= [("unicode/utf8.acceptRanges",Rows.laid_unicode_utf8_acceptRanges),("hornbook/api.FailNil",Rows.laid_hornbook_api_FailNil),("hornbook/api.FailLimits",Rows.laid_hornbook_api_FailLimits),("hornbook/api.FailNoRun",Rows.laid_hornbook_api_FailNoRun),("hornbook/api.FailSealed",Rows.laid_hornbook_api_FailSealed),("hornbook/api.FailOpen",Rows.laid_hornbook_api_FailOpen),("hornbook/api.FailRange",Rows.laid_hornbook_api_FailRange),("hornbook/api.FailFull",Rows.laid_hornbook_api_FailFull),("hornbook/api.FailSpent",Rows.laid_hornbook_api_FailSpent),("hornbook/api.FailBroken",Rows.laid_hornbook_api_FailBroken),("hornbook/api.FailRecord",Rows.laid_hornbook_api_FailRecord),("hornbook/api.FailTorn",Rows.laid_hornbook_api_FailTorn),("hornbook/api.FailSame",Rows.laid_hornbook_api_FailSame),("hornbook/api.FailClosed",Rows.laid_hornbook_api_FailClosed),("unicode/utf8.first",Rows.laid_unicode_utf8_first)]:=aj
theorem vF (W:World) (h:laidMetH Tryz.prog Rows.bookKeepsUptoRow.laid W):cM 520 bU W:=by
 unfold laidMetH at h
 rw [Gy] at h
 have h0:=h.1
 rw [Gz] at h0
 have h1:=laidMet.tail h0
 have s1:=gW h1 (show Tryz.prog.globalNamed "hornbook/api.FailNil" =some 2 by kernel_rfl) (show (Tryz.prog.globals[2]?).map (·.type)=some 24 by kernel_rfl) Tryz.underlying24 gU Tryz.underlying520 Tryz.underlying538 rfl rfl Tryz.underlying9 aj aj
 have J:=laidMet.tail h1
 have s2:=gW J (show Tryz.prog.globalNamed "hornbook/api.FailLimits" =some 3 by kernel_rfl) (show (Tryz.prog.globals[3]?).map (·.type)=some 24 by kernel_rfl) Tryz.underlying24 gU Tryz.underlying520 Tryz.underlying538 rfl rfl Tryz.underlying9 aj aj
 have L:=laidMet.tail J
 have ak:=gW L (show Tryz.prog.globalNamed "hornbook/api.FailNoRun" =some 8 by kernel_rfl) (show (Tryz.prog.globals[8]?).map (·.type)=some 24 by kernel_rfl) Tryz.underlying24 gU Tryz.underlying520 Tryz.underlying538 rfl rfl Tryz.underlying9 aj aj
 have O:=laidMet.tail L
 have al:=gW O (show Tryz.prog.globalNamed "hornbook/api.FailSealed" =some 14 by kernel_rfl) (show (Tryz.prog.globals[14]?).map (·.type)=some 24 by kernel_rfl) Tryz.underlying24 gU Tryz.underlying520 Tryz.underlying538 rfl rfl Tryz.underlying9 aj aj
 have U:=laidMet.tail O
 have am:=gW U (show Tryz.prog.globalNamed "hornbook/api.FailOpen" =some 9 by kernel_rfl) (show (Tryz.prog.globals[9]?).map (·.type)=some 24 by kernel_rfl) Tryz.underlying24 gU Tryz.underlying520 Tryz.underlying538 rfl rfl Tryz.underlying9 aj aj
 have V:=laidMet.tail U
 have an:=gW V (show Tryz.prog.globalNamed "hornbook/api.FailRange" =some 10 by kernel_rfl) (show (Tryz.prog.globals[10]?).map (·.type)=some 24 by kernel_rfl) Tryz.underlying24 gU Tryz.underlying520 Tryz.underlying538 rfl rfl Tryz.underlying9 aj aj
 have Z:=laidMet.tail V
 have ao:=gW Z (show Tryz.prog.globalNamed "hornbook/api.FailFull" =some 0 by kernel_rfl) (show (Tryz.prog.globals[0]?).map (·.type)=some 24 by kernel_rfl) Tryz.underlying24 gU Tryz.underlying520 Tryz.underlying538 rfl rfl Tryz.underlying9 aj aj
 have ab:=laidMet.tail Z
 have ap:=gW ab (show Tryz.prog.globalNamed "hornbook/api.FailSpent" =some 11 by kernel_rfl) (show (Tryz.prog.globals[11]?).map (·.type)=some 24 by kernel_rfl) Tryz.underlying24 gU Tryz.underlying520 Tryz.underlying538 rfl rfl Tryz.underlying9 aj aj
 have ac:=laidMet.tail ab
 have aq:=gW ac (show Tryz.prog.globalNamed "hornbook/api.FailBroken" =some 13 by kernel_rfl) (show (Tryz.prog.globals[13]?).map (·.type)=some 24 by kernel_rfl) Tryz.underlying24 gU Tryz.underlying520 Tryz.underlying538 rfl rfl Tryz.underlying9 aj aj
 have C:=laidMet.tail ac
 have ae:=gW C (show Tryz.prog.globalNamed "hornbook/api.FailRecord" =some 4 by kernel_rfl) (show (Tryz.prog.globals[4]?).map (·.type)=some 24 by kernel_rfl) Tryz.underlying24 gU Tryz.underlying520 Tryz.underlying538 rfl rfl Tryz.underlying9 aj aj
 have E:=laidMet.tail C
 have ag:=gW E (show Tryz.prog.globalNamed "hornbook/api.FailTorn" =some 7 by kernel_rfl) (show (Tryz.prog.globals[7]?).map (·.type)=some 24 by kernel_rfl) Tryz.underlying24 gU Tryz.underlying520 Tryz.underlying538 rfl rfl Tryz.underlying9 aj aj
 have I:=laidMet.tail E
 have ah:=gW I (show Tryz.prog.globalNamed "hornbook/api.FailSame" =some 6 by kernel_rfl) (show (Tryz.prog.globals[6]?).map (·.type)=some 24 by kernel_rfl) Tryz.underlying24 gU Tryz.underlying520 Tryz.underlying538 rfl rfl Tryz.underlying9 aj aj
 have ad:=laidMet.tail I
 have ai:=gW ad (show Tryz.prog.globalNamed "hornbook/api.FailClosed" =some 5 by kernel_rfl) (show (Tryz.prog.globals[5]?).map (·.type)=some 24 by kernel_rfl) Tryz.underlying24 gU Tryz.underlying520 Tryz.underlying538 rfl rfl Tryz.underlying9 aj aj
 exact cM.sub (cM.cons (g:=2) s1 (cM.cons (g:=3) s2 (cM.cons (g:=8) ak (cM.cons (g:=14) al (cM.cons (g:=9) am (cM.cons (g:=10) an (cM.cons (g:=0) ao (cM.cons (g:=11) ap (cM.cons (g:=13) aq (cM.cons (g:=4) ae (cM.cons (g:=7) ag (cM.cons (g:=6) ah (cM.cons (g:=5) ai (cM.nil)))))))))))))) aM
set_option maxRecDepth 100000 in
theorem EF (H:Type) (enc:TypeId×Value→H) (W:World) (base:Nat) (args:Array Value) (C gs:List (DataW H)) (before:List MemPlace)
 (I:∀ (j:Nat) t v,Tryz.f5.params[j]? =some t→args[j]? =some v→Value.okWide Tryz.prog W .any base t v)
 (V:DataW.Whole enc Tryz.prog Tryz.f5.params.toList Rows.bookKeepsSpec.vars false W args.toList C gs before) (an:Rows.uptoSmall H (C++gs)=true) (ae:laidMetH Tryz.prog Rows.bookKeepsUptoRow.laid W):
 Calls Tryz.prog 5 args W fun e W'=> ∃ v,e= .returned v∧Rows.bookKeepsSpec.post enc Tryz.prog Tryz.f5 false true false false W args v W':=by
 have E:=V
 obtain ⟨p,q,O,ak,rfl,_,_⟩:=V
 have L:DataW.TrodAll enc Tryz.prog W 0 (fun _=>true) true Tryz.f5.params.toList args.toList C p:=O
 rw [Tryz.params5] at L I
 obtain ⟨v0,aE,d0,ar,aB,aC,av,rfl,rfl,h0,r0⟩:=trodAll_cons L
 obtain ⟨v1,aF,d1,au,p1,aD,rfl,rfl,rfl,h1,ao⟩:=trodAll_cons r0
 obtain ⟨rfl,rfl,rfl⟩:=trodAll_nil ao
 obtain rfl :args= #[v0,v1]:=by cases args; simp_all
 obtain ⟨rfl,rfl⟩:=trodVars_none ak
 clear O
 have hb:=Eg an
 simp only [List.append_nil,Rows.uptoBulkAll] at hb
 obtain ⟨ay,rfl⟩:=okWide_string Tryz.underlying9 (I 0 9 v0 rfl rfl)
 obtain ⟨ac,al⟩:=h0
 obtain ⟨_,ap,ag,aw⟩:=(AK Tryz.underlying9 aj).op enc W ac _ _ _ al
 obtain ⟨aA,rfl⟩:=okWide_string Tryz.underlying9 (I 1 9 v1 rfl rfl)
 obtain ⟨ad,am⟩:=h1
 obtain ⟨_,aq,ah,ax⟩:=(AK Tryz.underlying9 aj).op enc W ad _ _ _ am
 have ai:=vF W ae
 have Z:=ag
 simp only [Value.cells,List.cons.injEq,and_true] at Z
 rw [Z] at E ⊢
 have ab:=ah
 simp only [Value.cells,List.cons.injEq,and_true] at ab
 rw [ab] at E ⊢
 exact HK E J J J Tryz.underlying4 laidOut aj (Gt ap aq W ai U U)
noncomputable def uO (os:Os):World:=
 {World.holding Tryz.prog os ⟨#[],#[],[]⟩ with heap:=(((((((((((((((((World.holding Tryz.prog os ⟨#[],#[],[]⟩).heap.modify 1 fun
  | .cells _ t frozen=> .cells (#[.iface 346 (.agg #[.pointer (some ⟨17,24,none⟩)])]) t frozen
  | o=>o).modify 16 fun
  | .cells _ t frozen=> .cells (#[.int .u8 128,.int .u8 191,.int .u8 160,.int .u8 191,.int .u8 128,.int .u8 159,.int .u8 144,.int .u8 191,.int .u8 128,.int .u8 143,.int .u8 0,.int .u8 0,.int .u8 0,.int .u8 0,.int .u8 0,.int .u8 0,.int .u8 0,.int .u8 0,.int .u8 0,.int .u8 0,.int .u8 0,.int .u8 0,.int .u8 0,.int .u8 0,.int .u8 0,.int .u8 0,.int .u8 0,.int .u8 0,.int .u8 0,.int .u8 0,.int .u8 0,.int .u8 0]) t frozen
  | o=>o).modify 2 fun
  | .cells _ t frozen=> .cells (#[.iface 520 (.pointer (some ⟨22,0,none⟩))]) t frozen
  | o=>o).modify 3 fun
  | .cells _ t frozen=> .cells (#[.iface 520 (.pointer (some ⟨23,0,none⟩))]) t frozen
  | o=>o).modify 8 fun
  | .cells _ t frozen=> .cells (#[.iface 520 (.pointer (some ⟨24,0,none⟩))]) t frozen
  | o=>o).modify 14 fun
  | .cells _ t frozen=> .cells (#[.iface 520 (.pointer (some ⟨25,0,none⟩))]) t frozen
  | o=>o).modify 9 fun
  | .cells _ t frozen=> .cells (#[.iface 520 (.pointer (some ⟨26,0,none⟩))]) t frozen
  | o=>o).modify 10 fun
  | .cells _ t frozen=> .cells (#[.iface 520 (.pointer (some ⟨27,0,none⟩))]) t frozen
  | o=>o).modify 0 fun
  | .cells _ t frozen=> .cells (#[.iface 520 (.pointer (some ⟨28,0,none⟩))]) t frozen
  | o=>o).modify 11 fun
  | .cells _ t frozen=> .cells (#[.iface 520 (.pointer (some ⟨29,0,none⟩))]) t frozen
  | o=>o).modify 13 fun
  | .cells _ t frozen=> .cells (#[.iface 520 (.pointer (some ⟨30,0,none⟩))]) t frozen
  | o=>o).modify 4 fun
  | .cells _ t frozen=> .cells (#[.iface 520 (.pointer (some ⟨31,0,none⟩))]) t frozen
  | o=>o).modify 7 fun
  | .cells _ t frozen=> .cells (#[.iface 520 (.pointer (some ⟨32,0,none⟩))]) t frozen
  | o=>o).modify 6 fun
  | .cells _ t frozen=> .cells (#[.iface 520 (.pointer (some ⟨33,0,none⟩))]) t frozen
  | o=>o).modify 5 fun
  | .cells _ t frozen=> .cells (#[.iface 520 (.pointer (some ⟨34,0,none⟩))]) t frozen
  | o=>o).modify 15 fun
  | .cells _ t frozen=> .cells ((Go.Pinned.utf8FirstZ.map fun n=>Value.int .u8 (n:Nat)).toArray) t frozen
  | o=>o)++ #[.cells #[.string ⟨⟨[110,111,32,111,98,106,101,99,116]⟩⟩] 538 (0,0),.cells #[.string ⟨⟨[97,32,110,117,109,98,101,114,32,111,117,116,32,111,102,32,105,116,115,32,114,97,110,103,101]⟩⟩] 538 (0,0),.cells #[.string ⟨⟨[110,111,32,115,117,99,104,32,114,117,110]⟩⟩] 538 (0,0),.cells #[.string ⟨⟨[116,104,101,32,114,117,110,32,105,115,32,115,101,97,108,101,100]⟩⟩] 538 (0,0),.cells #[.string ⟨⟨[116,104,101,32,114,117,110,32,105,115,32,110,111,116,32,115,101,97,108,101,100]⟩⟩] 538 (0,0),.cells #[.string ⟨⟨[110,111,32,115,117,99,104,32,112,108,97,99,101,32,105,110,32,116,104,101,32,114,117,110]⟩⟩] 538 (0,0),.cells #[.string ⟨⟨[116,104,101,32,115,116,111,114,101,32,105,115,32,102,117,108,108]⟩⟩] 538 (0,0),.cells #[.string ⟨⟨[110,111,32,114,117,110,32,110,117,109,98,101,114,32,105,115,32,108,101,102,116]⟩⟩] 538 (0,0),.cells #[.string ⟨⟨[116,104,101,32,115,116,111,114,101,32,114,101,102,117,115,101,100,32,97,32,115,116,101,112]⟩⟩] 538 (0,0),.cells #[.string ⟨⟨[116,104,101,32,114,101,99,111,114,100,32,105,115,32,116,111,111,32,108,111,110,103]⟩⟩] 538 (0,0),.cells #[.string ⟨⟨[116,104,101,32,114,117,110,32,105,115,32,116,111,114,110]⟩⟩] 538 (0,0),.cells #[.string ⟨⟨[97,32,114,117,110,32,105,115,32,110,97,109,101,100,32,116,119,105,99,101]⟩⟩] 538 (0,0),.cells #[.string ⟨⟨[99,108,111,115,101,100]⟩⟩] 538 (0,0)]}
set_option maxRecDepth 100000 in
theorem GA (os:Os):laidMetH Tryz.prog Rows.bookKeepsUptoRow.laid ((uO os).forCall (fun _ _=>0) ⟨#[],#[.string ⟨⟨[]⟩⟩,.string ⟨⟨[]⟩⟩],[]⟩).memory:=
 laidMetH_of_parts3 (fuel:=8) (laidMet_of_run' 8 aj aj) aj aj
theorem reads (os:Os) {H:Type} (enc:TypeId×Value→H):∃ C,DataW.whole enc Tryz.prog ((uO os).forCall (fun _ _=>0) ⟨#[],#[.string ⟨⟨[]⟩⟩,.string ⟨⟨[]⟩⟩],[]⟩).memory Tryz.f5.params.toList Rows.bookKeepsSpec.vars false #[.string ⟨⟨[]⟩⟩,.string ⟨⟨[]⟩⟩].toList 8=some ([.lit (.string []),.lit (.string [])],[],C):=
 ⟨[],aj⟩
set_option maxRecDepth 100000 in
theorem lifted (os:Os) (started:os.Started) (H:Type) (enc:TypeId×Value→H) (F:Stop.Interp):
 ReturnsInHanded {} Tryz.checked os 5 .any ((Rows.OpenSpec.upto Rows.bookKeepsSpec).preRow enc Tryz.prog Tryz.f5 Rows.bookKeepsUptoRow.domain false Rows.bookKeepsUptoRow.laid) (((Rows.OpenSpec.upto Rows.bookKeepsSpec).at F).post enc Tryz.prog Tryz.f5 false true false false):=by
 obtain ⟨Z,V⟩:=reads os enc
 refine returnsInHanded_of_row (C:=Tryz.checked) (s:=Rows.OpenSpec.upto Rows.bookKeepsSpec) own started aj Tryz.func5
  (witness_row_atRef (enc:=enc) (C:=Tryz.checked) false (uO os) #[.string ⟨⟨[]⟩⟩,.string ⟨⟨[]⟩⟩] rfl aj aj aj
   (OpenSpec.preRow_of_cond 8 V aj (fun k O=>by cases O; kernel_rfl) aj (GA os))) ?_
 intro W base args E gs before U J _ L _ I _ _
 exact EF H enc W base args E gs before U J (L _ rfl) I
end Go.Proofs.YtjaoldaegkmkjaaGreatDoor.bookKeeps
