/-
  The law JoinedSplits: what its call needs and gives. Conditions: none.
-/
import Derived.Test.YtiagknaekaknhaaGreatDoorMnJoinedSplits6
import Derived.Test.YtiagknaekaknhaaGreatDoorRows
import Derived.LaidMore
import Derived.LaidOnce
import Derived.Deep.DeepWitnessRowRef
import Derived.Stop.Joined
import Derived.Test.YtiagknaekaknhaaGreatDoorCards
import Derived.Test.YtiagknaekaknhaaGreatDoorTie
import Derived.WalkKit
import Derived.ProofKit
import Derived.OpenShut
import Derived.Deep.DeepHandedRow
import Derived.Lib.LaidTab
set_option linter.unusedVariables false
namespace Go.Proofs.YtiagknaekaknhaaGreatDoor.joinedSplits
open Go.Hb Go.ChangeShapes Go.WideShapes Go.ChangeAt Go.RowKit
theorem own:ownKnob Tryz.prog.godebug=none:=ai
theorem laidOut:laidOutB Tryz.prog=true :=ai
theorem star: "*" ++ "errors.errorString" = "*errors.errorString" :=aE
theorem iB (u:TypeId) (h:Tryz.prog.typeName? 3 u=some "*errors.errorString"):u=524:=
 typeName_ptr_named (nm:= "errors.errorString") (by rw [star]; kernel_rfl) ai aE u (by rw [star]; exact h)
theorem H7:(Rows.joinedSplitsUptoRow.laid.filter fun x=>x.2.handleName?.isSome)= [("errors.errorType",Rows.laid_errors_errorType)]:=ai
theorem H8:(Rows.joinedSplitsUptoRow.laid.filter fun x=>x.2.handleName?.isNone)= [("unicode/utf8.acceptRanges",Rows.laid_unicode_utf8_acceptRanges),("hornbook/api.FailNil",Rows.laid_hornbook_api_FailNil),("hornbook/api.FailLimits",Rows.laid_hornbook_api_FailLimits),("hornbook/api.FailNoRun",Rows.laid_hornbook_api_FailNoRun),("hornbook/api.FailSealed",Rows.laid_hornbook_api_FailSealed),("hornbook/api.FailOpen",Rows.laid_hornbook_api_FailOpen),("hornbook/api.FailRange",Rows.laid_hornbook_api_FailRange),("hornbook/api.FailFull",Rows.laid_hornbook_api_FailFull),("hornbook/api.FailSpent",Rows.laid_hornbook_api_FailSpent),("hornbook/api.FailBroken",Rows.laid_hornbook_api_FailBroken),("hornbook/api.FailRecord",Rows.laid_hornbook_api_FailRecord),("hornbook/api.FailTorn",Rows.laid_hornbook_api_FailTorn),("hornbook/api.FailSame",Rows.laid_hornbook_api_FailSame),("hornbook/api.FailClosed",Rows.laid_hornbook_api_FailClosed),("unicode/utf8.first",Rows.laid_unicode_utf8_first)]:=ai
theorem xf (W:World) (h:laidMetH Tryz.prog Rows.joinedSplitsUptoRow.laid W):cO 524 bH W:=by
 unfold laidMetH at h
 rw [H7] at h
 have h0:=h.1
 rw [H8] at h0
 have h1:=laidMet.tail h0
 have s1:=iE h1 (show Tryz.prog.globalNamed "hornbook/api.FailNil" =some 2 by kernel_rfl) (show (Tryz.prog.globals[2]?).map (·.type)=some 52 by kernel_rfl) Tryz.underlying52 iB Tryz.underlying524 Tryz.underlying542 rfl rfl Tryz.underlying9 ai ai
 have I:=laidMet.tail h1
 have s2:=iE I (show Tryz.prog.globalNamed "hornbook/api.FailLimits" =some 3 by kernel_rfl) (show (Tryz.prog.globals[3]?).map (·.type)=some 52 by kernel_rfl) Tryz.underlying52 iB Tryz.underlying524 Tryz.underlying542 rfl rfl Tryz.underlying9 ai ai
 have J:=laidMet.tail I
 have ag:=iE J (show Tryz.prog.globalNamed "hornbook/api.FailNoRun" =some 8 by kernel_rfl) (show (Tryz.prog.globals[8]?).map (·.type)=some 52 by kernel_rfl) Tryz.underlying52 iB Tryz.underlying524 Tryz.underlying542 rfl rfl Tryz.underlying9 ai ai
 have L:=laidMet.tail J
 have ah:=iE L (show Tryz.prog.globalNamed "hornbook/api.FailSealed" =some 14 by kernel_rfl) (show (Tryz.prog.globals[14]?).map (·.type)=some 52 by kernel_rfl) Tryz.underlying52 iB Tryz.underlying524 Tryz.underlying542 rfl rfl Tryz.underlying9 ai ai
 have M:=laidMet.tail L
 have aj:=iE M (show Tryz.prog.globalNamed "hornbook/api.FailOpen" =some 9 by kernel_rfl) (show (Tryz.prog.globals[9]?).map (·.type)=some 52 by kernel_rfl) Tryz.underlying52 iB Tryz.underlying524 Tryz.underlying542 rfl rfl Tryz.underlying9 ai ai
 have O:=laidMet.tail M
 have ak:=iE O (show Tryz.prog.globalNamed "hornbook/api.FailRange" =some 10 by kernel_rfl) (show (Tryz.prog.globals[10]?).map (·.type)=some 52 by kernel_rfl) Tryz.underlying52 iB Tryz.underlying524 Tryz.underlying542 rfl rfl Tryz.underlying9 ai ai
 have U:=laidMet.tail O
 have al:=iE U (show Tryz.prog.globalNamed "hornbook/api.FailFull" =some 0 by kernel_rfl) (show (Tryz.prog.globals[0]?).map (·.type)=some 52 by kernel_rfl) Tryz.underlying52 iB Tryz.underlying524 Tryz.underlying542 rfl rfl Tryz.underlying9 ai ai
 have V:=laidMet.tail U
 have am:=iE V (show Tryz.prog.globalNamed "hornbook/api.FailSpent" =some 11 by kernel_rfl) (show (Tryz.prog.globals[11]?).map (·.type)=some 52 by kernel_rfl) Tryz.underlying52 iB Tryz.underlying524 Tryz.underlying542 rfl rfl Tryz.underlying9 ai ai
 have Z:=laidMet.tail V
 have ao:=iE Z (show Tryz.prog.globalNamed "hornbook/api.FailBroken" =some 13 by kernel_rfl) (show (Tryz.prog.globals[13]?).map (·.type)=some 52 by kernel_rfl) Tryz.underlying52 iB Tryz.underlying524 Tryz.underlying542 rfl rfl Tryz.underlying9 ai ai
 have A:=laidMet.tail Z
 have ab:=iE A (show Tryz.prog.globalNamed "hornbook/api.FailRecord" =some 4 by kernel_rfl) (show (Tryz.prog.globals[4]?).map (·.type)=some 52 by kernel_rfl) Tryz.underlying52 iB Tryz.underlying524 Tryz.underlying542 rfl rfl Tryz.underlying9 ai ai
 have C:=laidMet.tail A
 have ac:=iE C (show Tryz.prog.globalNamed "hornbook/api.FailTorn" =some 7 by kernel_rfl) (show (Tryz.prog.globals[7]?).map (·.type)=some 52 by kernel_rfl) Tryz.underlying52 iB Tryz.underlying524 Tryz.underlying542 rfl rfl Tryz.underlying9 ai ai
 have E:=laidMet.tail C
 have ad:=iE E (show Tryz.prog.globalNamed "hornbook/api.FailSame" =some 6 by kernel_rfl) (show (Tryz.prog.globals[6]?).map (·.type)=some 52 by kernel_rfl) Tryz.underlying52 iB Tryz.underlying524 Tryz.underlying542 rfl rfl Tryz.underlying9 ai ai
 have aa:=laidMet.tail E
 have ae:=iE aa (show Tryz.prog.globalNamed "hornbook/api.FailClosed" =some 5 by kernel_rfl) (show (Tryz.prog.globals[5]?).map (·.type)=some 52 by kernel_rfl) Tryz.underlying52 iB Tryz.underlying524 Tryz.underlying542 rfl rfl Tryz.underlying9 ai ai
 exact cO.sub (cO.cons (g:=2) s1 (cO.cons (g:=3) s2 (cO.cons (g:=8) ag (cO.cons (g:=14) ah (cO.cons (g:=9) aj (cO.cons (g:=10) ak (cO.cons (g:=0) al (cO.cons (g:=11) am (cO.cons (g:=13) ao (cO.cons (g:=4) ab (cO.cons (g:=7) ac (cO.cons (g:=6) ad (cO.cons (g:=5) ae (cO.nil)))))))))))))) aE
set_option maxRecDepth 100000 in
theorem F6 (H:Type) (enc:TypeId×Value→H) (W:World) (base:Nat) (args:Array Value) (A gs:List (DataW H)) (before:List MemPlace)
 (E:∀ (j:Nat) t v,Tryz.f3.params[j]? =some t→args[j]? =some v→Value.okWide Tryz.prog W .any base t v)
 (L:DataW.Whole enc Tryz.prog Tryz.f3.params.toList Rows.joinedSplitsSpec.vars false W args.toList A gs before) (ak:Rows.uptoSmall H (A++gs)=true) (aa:laidMetH Tryz.prog Rows.joinedSplitsUptoRow.laid W):
 Calls Tryz.prog 3 args W fun e W'=> ∃ v,e= .returned v∧Rows.joinedSplitsSpec.post enc Tryz.prog Tryz.f3 false true false false W args v W':=by
 have C:=L
 obtain ⟨p,q,J,ag,rfl,_,_⟩:=L
 have I:DataW.TrodAll enc Tryz.prog W 0 (fun _=>true) true Tryz.f3.params.toList args.toList A p:=J
 rw [Tryz.params3] at I E
 obtain ⟨v0,aB,d0,ap,ay,az,ar,rfl,rfl,h0,r0⟩:=trodAll_cons I
 obtain ⟨v1,aC,d1,aq,p1,aA,rfl,rfl,rfl,h1,al⟩:=trodAll_cons r0
 obtain ⟨rfl,rfl,rfl⟩:=trodAll_nil al
 obtain rfl :args= #[v0,v1]:=by cases args; simp_all
 obtain ⟨rfl,rfl⟩:=trodVars_none ag
 clear J
 have hb:=Fs ak
 simp only [List.append_nil,Rows.uptoBulkAll] at hb
 obtain ⟨aw,rfl⟩:=okWide_string Tryz.underlying9 (E 0 9 v0 rfl rfl)
 obtain ⟨V,ah⟩:=h0
 obtain ⟨_,am,ac,au⟩:=(BI Tryz.underlying9 ai).op enc W V _ _ _ ah
 obtain ⟨ax,rfl⟩:=okWide_string Tryz.underlying9 (E 1 9 v1 rfl rfl)
 obtain ⟨Z,aj⟩:=h1
 obtain ⟨_,ao,ad,av⟩:=(BI Tryz.underlying9 ai).op enc W Z _ _ _ aj
 have ae:=xf W aa
 have M:=ac
 simp only [Value.cells,List.cons.injEq,and_true] at M
 rw [M] at C ⊢
 have O:=ad
 simp only [Value.cells,List.cons.injEq,and_true] at O
 rw [O] at C ⊢
 exact Jj C U U U Tryz.underlying4 laidOut ai (Kk am ao W ae ab ab)
noncomputable def vP (os:Os):World:=
 {World.holding Tryz.prog os ⟨#[],#[],[]⟩ with heap:=(((((((((((((((((World.holding Tryz.prog os ⟨#[],#[],[]⟩).heap.modify 1 fun
  | .cells _ t frozen=> .cells (#[.iface 349 (.agg #[.pointer (some ⟨17,52,none⟩)])]) t frozen
  | o=>o).modify 16 fun
  | .cells _ t frozen=> .cells (#[.int .u8 128,.int .u8 191,.int .u8 160,.int .u8 191,.int .u8 128,.int .u8 159,.int .u8 144,.int .u8 191,.int .u8 128,.int .u8 143,.int .u8 0,.int .u8 0,.int .u8 0,.int .u8 0,.int .u8 0,.int .u8 0,.int .u8 0,.int .u8 0,.int .u8 0,.int .u8 0,.int .u8 0,.int .u8 0,.int .u8 0,.int .u8 0,.int .u8 0,.int .u8 0,.int .u8 0,.int .u8 0,.int .u8 0,.int .u8 0,.int .u8 0,.int .u8 0]) t frozen
  | o=>o).modify 2 fun
  | .cells _ t frozen=> .cells (#[.iface 524 (.pointer (some ⟨22,0,none⟩))]) t frozen
  | o=>o).modify 3 fun
  | .cells _ t frozen=> .cells (#[.iface 524 (.pointer (some ⟨23,0,none⟩))]) t frozen
  | o=>o).modify 8 fun
  | .cells _ t frozen=> .cells (#[.iface 524 (.pointer (some ⟨24,0,none⟩))]) t frozen
  | o=>o).modify 14 fun
  | .cells _ t frozen=> .cells (#[.iface 524 (.pointer (some ⟨25,0,none⟩))]) t frozen
  | o=>o).modify 9 fun
  | .cells _ t frozen=> .cells (#[.iface 524 (.pointer (some ⟨26,0,none⟩))]) t frozen
  | o=>o).modify 10 fun
  | .cells _ t frozen=> .cells (#[.iface 524 (.pointer (some ⟨27,0,none⟩))]) t frozen
  | o=>o).modify 0 fun
  | .cells _ t frozen=> .cells (#[.iface 524 (.pointer (some ⟨28,0,none⟩))]) t frozen
  | o=>o).modify 11 fun
  | .cells _ t frozen=> .cells (#[.iface 524 (.pointer (some ⟨29,0,none⟩))]) t frozen
  | o=>o).modify 13 fun
  | .cells _ t frozen=> .cells (#[.iface 524 (.pointer (some ⟨30,0,none⟩))]) t frozen
  | o=>o).modify 4 fun
  | .cells _ t frozen=> .cells (#[.iface 524 (.pointer (some ⟨31,0,none⟩))]) t frozen
  | o=>o).modify 7 fun
  | .cells _ t frozen=> .cells (#[.iface 524 (.pointer (some ⟨32,0,none⟩))]) t frozen
  | o=>o).modify 6 fun
  | .cells _ t frozen=> .cells (#[.iface 524 (.pointer (some ⟨33,0,none⟩))]) t frozen
  | o=>o).modify 5 fun
  | .cells _ t frozen=> .cells (#[.iface 524 (.pointer (some ⟨34,0,none⟩))]) t frozen
  | o=>o).modify 15 fun
  | .cells _ t frozen=> .cells ((Go.Pinned.utf8FirstZ.map fun n=>Value.int .u8 (n:Nat)).toArray) t frozen
  | o=>o)++ #[.cells #[.string ⟨⟨[110,111,32,111,98,106,101,99,116]⟩⟩] 542 (0,0),.cells #[.string ⟨⟨[97,32,110,117,109,98,101,114,32,111,117,116,32,111,102,32,105,116,115,32,114,97,110,103,101]⟩⟩] 542 (0,0),.cells #[.string ⟨⟨[110,111,32,115,117,99,104,32,114,117,110]⟩⟩] 542 (0,0),.cells #[.string ⟨⟨[116,104,101,32,114,117,110,32,105,115,32,115,101,97,108,101,100]⟩⟩] 542 (0,0),.cells #[.string ⟨⟨[116,104,101,32,114,117,110,32,105,115,32,110,111,116,32,115,101,97,108,101,100]⟩⟩] 542 (0,0),.cells #[.string ⟨⟨[110,111,32,115,117,99,104,32,112,108,97,99,101,32,105,110,32,116,104,101,32,114,117,110]⟩⟩] 542 (0,0),.cells #[.string ⟨⟨[116,104,101,32,115,116,111,114,101,32,105,115,32,102,117,108,108]⟩⟩] 542 (0,0),.cells #[.string ⟨⟨[110,111,32,114,117,110,32,110,117,109,98,101,114,32,105,115,32,108,101,102,116]⟩⟩] 542 (0,0),.cells #[.string ⟨⟨[116,104,101,32,115,116,111,114,101,32,114,101,102,117,115,101,100,32,97,32,115,116,101,112]⟩⟩] 542 (0,0),.cells #[.string ⟨⟨[116,104,101,32,114,101,99,111,114,100,32,105,115,32,116,111,111,32,108,111,110,103]⟩⟩] 542 (0,0),.cells #[.string ⟨⟨[116,104,101,32,114,117,110,32,105,115,32,116,111,114,110]⟩⟩] 542 (0,0),.cells #[.string ⟨⟨[97,32,114,117,110,32,105,115,32,110,97,109,101,100,32,116,119,105,99,101]⟩⟩] 542 (0,0),.cells #[.string ⟨⟨[99,108,111,115,101,100]⟩⟩] 542 (0,0)]}
set_option maxRecDepth 100000 in
theorem H9 (os:Os):laidMetH Tryz.prog Rows.joinedSplitsUptoRow.laid ((vP os).forCall (fun _ _=>0) ⟨#[],#[.string ⟨⟨[]⟩⟩,.string ⟨⟨[]⟩⟩],[]⟩).memory:=
 laidMetH_of_parts3 (fuel:=8) (laidMet_of_run' 8 ai ai) ai ai
theorem reads (os:Os) {H:Type} (enc:TypeId×Value→H):∃ A,DataW.whole enc Tryz.prog ((vP os).forCall (fun _ _=>0) ⟨#[],#[.string ⟨⟨[]⟩⟩,.string ⟨⟨[]⟩⟩],[]⟩).memory Tryz.f3.params.toList Rows.joinedSplitsSpec.vars false #[.string ⟨⟨[]⟩⟩,.string ⟨⟨[]⟩⟩].toList 8=some ([.lit (.string []),.lit (.string [])],[],A):=
 ⟨[],ai⟩
set_option maxRecDepth 100000 in
theorem lifted (os:Os) (started:os.Started) (H:Type) (enc:TypeId×Value→H) (F:Stop.Interp):
 ReturnsInHanded {} Tryz.checked os 3 .any ((Rows.OpenSpec.upto Rows.joinedSplitsSpec).preRow enc Tryz.prog Tryz.f3 Rows.joinedSplitsUptoRow.domain false Rows.joinedSplitsUptoRow.laid) (((Rows.OpenSpec.upto Rows.joinedSplitsSpec).at F).post enc Tryz.prog Tryz.f3 false true false false):=by
 obtain ⟨U,O⟩:=reads os enc
 refine returnsInHanded_of_row (C:=Tryz.checked) (s:=Rows.OpenSpec.upto Rows.joinedSplitsSpec) own started ai Tryz.func3
  (witness_row_atRef (enc:=enc) (C:=Tryz.checked) false (vP os) #[.string ⟨⟨[]⟩⟩,.string ⟨⟨[]⟩⟩] rfl ai ai ai
   (OpenSpec.preRow_of_cond 8 O ai (fun k L=>by cases L; kernel_rfl) ai (H9 os))) ?_
 intro W base args A gs before M I _ J _ E _ _
 exact F6 H enc W base args A gs before M I (J _ rfl) E
end Go.Proofs.YtiagknaekaknhaaGreatDoor.joinedSplits
