/-
  The law BookLoads: what its call needs and gives. Conditions: none.
-/
import Derived.Test.YtjaoldaegkmkjaaGreatDoorMnBookLoads5
import Derived.Test.YtjaoldaegkmkjaaGreatDoorRows
import Derived.LaidMore
import Derived.LaidOnce
import Derived.Deep.DeepWitnessRowRef
import Derived.Stop.Joined
import Derived.Test.YtjaoldaegkmkjaaGreatDoorCards
import Derived.Test.YtjaoldaegkmkjaaGreatDoorTie
import Derived.WalkKit
import Derived.ProofKit
import Derived.OpenShut
import Derived.Deep.DeepHandedRow
import Derived.Lib.LaidTab
set_option linter.unusedVariables false
namespace Go.Proofs.YtjaoldaegkmkjaaGreatDoor.bookLoads
open Go.Hb Go.ChangeShapes Go.WideShapes Go.ChangeAt Go.RowKit
theorem own:ownKnob Tryz.prog.godebug=none:=aj
theorem laidOut:laidOutB Tryz.prog=true :=aj
theorem star: "*" ++ "errors.errorString" = "*errors.errorString" :=aI
theorem gn (u:TypeId) (h:Tryz.prog.typeName? 3 u=some "*errors.errorString"):u=520:=
 typeName_ptr_named (nm:= "errors.errorString") (by rw [star]; kernel_rfl) aj aI u (by rw [star]; exact h)
theorem Es:(Rows.bookLoadsUptoRow.laid.filter fun x=>x.2.handleName?.isSome)= [("errors.errorType",Rows.laid_errors_errorType)]:=aj
theorem Et:(Rows.bookLoadsUptoRow.laid.filter fun x=>x.2.handleName?.isNone)= [("unicode/utf8.acceptRanges",Rows.laid_unicode_utf8_acceptRanges),("hornbook/api.FailNil",Rows.laid_hornbook_api_FailNil),("hornbook/api.FailLimits",Rows.laid_hornbook_api_FailLimits),("hornbook/api.FailNoRun",Rows.laid_hornbook_api_FailNoRun),("hornbook/api.FailSealed",Rows.laid_hornbook_api_FailSealed),("hornbook/api.FailOpen",Rows.laid_hornbook_api_FailOpen),("hornbook/api.FailRange",Rows.laid_hornbook_api_FailRange),("hornbook/api.FailFull",Rows.laid_hornbook_api_FailFull),("hornbook/api.FailSpent",Rows.laid_hornbook_api_FailSpent),("hornbook/api.FailBroken",Rows.laid_hornbook_api_FailBroken),("hornbook/api.FailRecord",Rows.laid_hornbook_api_FailRecord),("hornbook/api.FailTorn",Rows.laid_hornbook_api_FailTorn),("hornbook/api.FailSame",Rows.laid_hornbook_api_FailSame),("hornbook/api.FailClosed",Rows.laid_hornbook_api_FailClosed),("unicode/utf8.first",Rows.laid_unicode_utf8_first)]:=aj
theorem tI (W:World) (h:laidMetH Tryz.prog Rows.bookLoadsUptoRow.laid W):cz 520 bK W:=by
 unfold laidMetH at h
 rw [Es] at h
 have h0:=h.1
 rw [Et] at h0
 have h1:=laidMet.tail h0
 have s1:=gr h1 (show Tryz.prog.globalNamed "hornbook/api.FailNil" =some 2 by kernel_rfl) (show (Tryz.prog.globals[2]?).map (·.type)=some 24 by kernel_rfl) Tryz.underlying24 gn Tryz.underlying520 Tryz.underlying538 rfl rfl Tryz.underlying9 aj aj
 have I:=laidMet.tail h1
 have s2:=gr I (show Tryz.prog.globalNamed "hornbook/api.FailLimits" =some 3 by kernel_rfl) (show (Tryz.prog.globals[3]?).map (·.type)=some 24 by kernel_rfl) Tryz.underlying24 gn Tryz.underlying520 Tryz.underlying538 rfl rfl Tryz.underlying9 aj aj
 have J:=laidMet.tail I
 have ag:=gr J (show Tryz.prog.globalNamed "hornbook/api.FailNoRun" =some 8 by kernel_rfl) (show (Tryz.prog.globals[8]?).map (·.type)=some 24 by kernel_rfl) Tryz.underlying24 gn Tryz.underlying520 Tryz.underlying538 rfl rfl Tryz.underlying9 aj aj
 have L:=laidMet.tail J
 have ah:=gr L (show Tryz.prog.globalNamed "hornbook/api.FailSealed" =some 14 by kernel_rfl) (show (Tryz.prog.globals[14]?).map (·.type)=some 24 by kernel_rfl) Tryz.underlying24 gn Tryz.underlying520 Tryz.underlying538 rfl rfl Tryz.underlying9 aj aj
 have M:=laidMet.tail L
 have ai:=gr M (show Tryz.prog.globalNamed "hornbook/api.FailOpen" =some 9 by kernel_rfl) (show (Tryz.prog.globals[9]?).map (·.type)=some 24 by kernel_rfl) Tryz.underlying24 gn Tryz.underlying520 Tryz.underlying538 rfl rfl Tryz.underlying9 aj aj
 have O:=laidMet.tail M
 have ak:=gr O (show Tryz.prog.globalNamed "hornbook/api.FailRange" =some 10 by kernel_rfl) (show (Tryz.prog.globals[10]?).map (·.type)=some 24 by kernel_rfl) Tryz.underlying24 gn Tryz.underlying520 Tryz.underlying538 rfl rfl Tryz.underlying9 aj aj
 have U:=laidMet.tail O
 have al:=gr U (show Tryz.prog.globalNamed "hornbook/api.FailFull" =some 0 by kernel_rfl) (show (Tryz.prog.globals[0]?).map (·.type)=some 24 by kernel_rfl) Tryz.underlying24 gn Tryz.underlying520 Tryz.underlying538 rfl rfl Tryz.underlying9 aj aj
 have V:=laidMet.tail U
 have am:=gr V (show Tryz.prog.globalNamed "hornbook/api.FailSpent" =some 11 by kernel_rfl) (show (Tryz.prog.globals[11]?).map (·.type)=some 24 by kernel_rfl) Tryz.underlying24 gn Tryz.underlying520 Tryz.underlying538 rfl rfl Tryz.underlying9 aj aj
 have Z:=laidMet.tail V
 have an:=gr Z (show Tryz.prog.globalNamed "hornbook/api.FailBroken" =some 13 by kernel_rfl) (show (Tryz.prog.globals[13]?).map (·.type)=some 24 by kernel_rfl) Tryz.underlying24 gn Tryz.underlying520 Tryz.underlying538 rfl rfl Tryz.underlying9 aj aj
 have A:=laidMet.tail Z
 have ab:=gr A (show Tryz.prog.globalNamed "hornbook/api.FailRecord" =some 4 by kernel_rfl) (show (Tryz.prog.globals[4]?).map (·.type)=some 24 by kernel_rfl) Tryz.underlying24 gn Tryz.underlying520 Tryz.underlying538 rfl rfl Tryz.underlying9 aj aj
 have C:=laidMet.tail A
 have ac:=gr C (show Tryz.prog.globalNamed "hornbook/api.FailTorn" =some 7 by kernel_rfl) (show (Tryz.prog.globals[7]?).map (·.type)=some 24 by kernel_rfl) Tryz.underlying24 gn Tryz.underlying520 Tryz.underlying538 rfl rfl Tryz.underlying9 aj aj
 have E:=laidMet.tail C
 have ad:=gr E (show Tryz.prog.globalNamed "hornbook/api.FailSame" =some 6 by kernel_rfl) (show (Tryz.prog.globals[6]?).map (·.type)=some 24 by kernel_rfl) Tryz.underlying24 gn Tryz.underlying520 Tryz.underlying538 rfl rfl Tryz.underlying9 aj aj
 have aa:=laidMet.tail E
 have ae:=gr aa (show Tryz.prog.globalNamed "hornbook/api.FailClosed" =some 5 by kernel_rfl) (show (Tryz.prog.globals[5]?).map (·.type)=some 24 by kernel_rfl) Tryz.underlying24 gn Tryz.underlying520 Tryz.underlying538 rfl rfl Tryz.underlying9 aj aj
 exact cz.sub (cz.cons (g:=2) s1 (cz.cons (g:=3) s2 (cz.cons (g:=8) ag (cz.cons (g:=14) ah (cz.cons (g:=9) ai (cz.cons (g:=10) ak (cz.cons (g:=0) al (cz.cons (g:=11) am (cz.cons (g:=13) an (cz.cons (g:=4) ab (cz.cons (g:=7) ac (cz.cons (g:=6) ad (cz.cons (g:=5) ae (cz.nil)))))))))))))) aI
set_option maxRecDepth 100000 in
theorem CJ (H:Type) (enc:TypeId×Value→H) (W:World) (base:Nat) (args:Array Value) (A gs:List (DataW H)) (before:List MemPlace)
 (O:∀ (j:Nat) t v,Tryz.f3.params[j]? =some t→args[j]? =some v→Value.okWide Tryz.prog W .any base t v)
 (I:DataW.Whole enc Tryz.prog Tryz.f3.params.toList Rows.bookLoadsSpec.vars false W args.toList A gs before) (ae:Rows.uptoSmall H (A++gs)=true) (Z:laidMetH Tryz.prog Rows.bookLoadsUptoRow.laid W):
 Calls Tryz.prog 3 args W fun e W'=> ∃ v,e= .returned v∧Rows.bookLoadsSpec.post enc Tryz.prog Tryz.f3 false true false false W args v W':=by
 have L:=I
 obtain ⟨p,q,E,ac,rfl,_,_⟩:=I
 have C:DataW.TrodAll enc Tryz.prog W 0 (fun _=>true) true Tryz.f3.params.toList args.toList A p:=E
 rw [Tryz.params3] at C O
 obtain ⟨v0,ao,d0,ah,am,an,ai,rfl,rfl,h0,r0⟩:=trodAll_cons C
 obtain ⟨rfl,rfl,rfl⟩:=trodAll_nil r0
 obtain rfl :args= #[v0]:=by cases args; simp_all
 obtain ⟨rfl,rfl⟩:=trodVars_none ac
 clear E
 have hb:=Cg ae
 simp only [List.append_nil,Rows.uptoBulkAll] at hb
 obtain ⟨al,rfl⟩:=okWide_string Tryz.underlying9 (O 0 9 v0 rfl rfl)
 obtain ⟨V,ad⟩:=h0
 obtain ⟨_,ag,aa,ak⟩:=(Fk Tryz.underlying9 aj).op enc W V _ _ _ ad
 have ab:=tI W Z
 have M:=aa
 simp only [Value.cells,List.cons.injEq,and_true] at M
 rw [M] at L ⊢
 exact Fz L J J J Tryz.underlying4 laidOut aj (EI ag W ab U)
noncomputable def sO (os:Os):World:=
 {World.holding Tryz.prog os ⟨#[],#[],[]⟩ with heap:=(((((((((((((((((World.holding Tryz.prog os ⟨#[],#[],[]⟩).heap.modify 1 fun
  | .cells _ t frozen=> .cells (#[.iface 346 (.agg #[.pointer (some ⟨17,24,none⟩)])]) t frozen
  | o=>o).modify 16 fun
  | .cells _ t frozen=> .cells (#[.int .u8 128,.int .u8 191,.int .u8 160,.int .u8 191,.int .u8 128,.int .u8 159,.int .u8 144,.int .u8 191,.int .u8 128,.int .u8 143,.int .u8 0,.int .u8 0,.int .u8 0,.int .u8 0,.int .u8 0,.int .u8 0,.int .u8 0,.int .u8 0,.int .u8 0,.int .u8 0,.int .u8 0,.int .u8 0,.int .u8 0,.int .u8 0,.int .u8 0,.int .u8 0,.int .u8 0,.int .u8 0,.int .u8 0,.int .u8 0,.int .u8 0,.int .u8 0]) t frozen
  | o=>o).modify 2 fun
  | .cells _ t frozen=> .cells (#[.iface 520 (.pointer (some ⟨22,0,none⟩))]) t frozen
  | o=>o).modify 3 fun
  | .cells _ t frozen=> .cells (#[.iface 520 (.pointer (some ⟨23,0,none⟩))]) t frozen
  | o=>o).modify 8 fun
  | .cells _ t frozen=> .cells (#[.iface 520 (.pointer (some ⟨24,0,none⟩))]) t frozen
  | o=>o).modify 14 fun
  | .cells _ t frozen=> .cells (#[.iface 520 (.pointer (some ⟨25,0,none⟩))]) t frozen
  | o=>o).modify 9 fun
  | .cells _ t frozen=> .cells (#[.iface 520 (.pointer (some ⟨26,0,none⟩))]) t frozen
  | o=>o).modify 10 fun
  | .cells _ t frozen=> .cells (#[.iface 520 (.pointer (some ⟨27,0,none⟩))]) t frozen
  | o=>o).modify 0 fun
  | .cells _ t frozen=> .cells (#[.iface 520 (.pointer (some ⟨28,0,none⟩))]) t frozen
  | o=>o).modify 11 fun
  | .cells _ t frozen=> .cells (#[.iface 520 (.pointer (some ⟨29,0,none⟩))]) t frozen
  | o=>o).modify 13 fun
  | .cells _ t frozen=> .cells (#[.iface 520 (.pointer (some ⟨30,0,none⟩))]) t frozen
  | o=>o).modify 4 fun
  | .cells _ t frozen=> .cells (#[.iface 520 (.pointer (some ⟨31,0,none⟩))]) t frozen
  | o=>o).modify 7 fun
  | .cells _ t frozen=> .cells (#[.iface 520 (.pointer (some ⟨32,0,none⟩))]) t frozen
  | o=>o).modify 6 fun
  | .cells _ t frozen=> .cells (#[.iface 520 (.pointer (some ⟨33,0,none⟩))]) t frozen
  | o=>o).modify 5 fun
  | .cells _ t frozen=> .cells (#[.iface 520 (.pointer (some ⟨34,0,none⟩))]) t frozen
  | o=>o).modify 15 fun
  | .cells _ t frozen=> .cells ((Go.Pinned.utf8FirstZ.map fun n=>Value.int .u8 (n:Nat)).toArray) t frozen
  | o=>o)++ #[.cells #[.string ⟨⟨[110,111,32,111,98,106,101,99,116]⟩⟩] 538 (0,0),.cells #[.string ⟨⟨[97,32,110,117,109,98,101,114,32,111,117,116,32,111,102,32,105,116,115,32,114,97,110,103,101]⟩⟩] 538 (0,0),.cells #[.string ⟨⟨[110,111,32,115,117,99,104,32,114,117,110]⟩⟩] 538 (0,0),.cells #[.string ⟨⟨[116,104,101,32,114,117,110,32,105,115,32,115,101,97,108,101,100]⟩⟩] 538 (0,0),.cells #[.string ⟨⟨[116,104,101,32,114,117,110,32,105,115,32,110,111,116,32,115,101,97,108,101,100]⟩⟩] 538 (0,0),.cells #[.string ⟨⟨[110,111,32,115,117,99,104,32,112,108,97,99,101,32,105,110,32,116,104,101,32,114,117,110]⟩⟩] 538 (0,0),.cells #[.string ⟨⟨[116,104,101,32,115,116,111,114,101,32,105,115,32,102,117,108,108]⟩⟩] 538 (0,0),.cells #[.string ⟨⟨[110,111,32,114,117,110,32,110,117,109,98,101,114,32,105,115,32,108,101,102,116]⟩⟩] 538 (0,0),.cells #[.string ⟨⟨[116,104,101,32,115,116,111,114,101,32,114,101,102,117,115,101,100,32,97,32,115,116,101,112]⟩⟩] 538 (0,0),.cells #[.string ⟨⟨[116,104,101,32,114,101,99,111,114,100,32,105,115,32,116,111,111,32,108,111,110,103]⟩⟩] 538 (0,0),.cells #[.string ⟨⟨[116,104,101,32,114,117,110,32,105,115,32,116,111,114,110]⟩⟩] 538 (0,0),.cells #[.string ⟨⟨[97,32,114,117,110,32,105,115,32,110,97,109,101,100,32,116,119,105,99,101]⟩⟩] 538 (0,0),.cells #[.string ⟨⟨[99,108,111,115,101,100]⟩⟩] 538 (0,0)]}
set_option maxRecDepth 100000 in
theorem Eu (os:Os):laidMetH Tryz.prog Rows.bookLoadsUptoRow.laid ((sO os).forCall (fun _ _=>0) ⟨#[],#[.string ⟨⟨[]⟩⟩],[]⟩).memory:=
 laidMetH_of_parts3 (fuel:=8) (laidMet_of_run' 8 aj aj) aj aj
theorem reads (os:Os) {H:Type} (enc:TypeId×Value→H):∃ A,DataW.whole enc Tryz.prog ((sO os).forCall (fun _ _=>0) ⟨#[],#[.string ⟨⟨[]⟩⟩],[]⟩).memory Tryz.f3.params.toList Rows.bookLoadsSpec.vars false #[.string ⟨⟨[]⟩⟩].toList 8=some ([.lit (.string [])],[],A):=
 ⟨[],aj⟩
set_option maxRecDepth 100000 in
theorem lifted (os:Os) (started:os.Started) (H:Type) (enc:TypeId×Value→H) (F:Stop.Interp):
 ReturnsInHanded {} Tryz.checked os 3 .any ((Rows.OpenSpec.upto Rows.bookLoadsSpec).preRow enc Tryz.prog Tryz.f3 Rows.bookLoadsUptoRow.domain false Rows.bookLoadsUptoRow.laid) (((Rows.OpenSpec.upto Rows.bookLoadsSpec).at F).post enc Tryz.prog Tryz.f3 false true false false):=by
 obtain ⟨U,O⟩:=reads os enc
 refine returnsInHanded_of_row (C:=Tryz.checked) (s:=Rows.OpenSpec.upto Rows.bookLoadsSpec) own started aj Tryz.func3
  (witness_row_atRef (enc:=enc) (C:=Tryz.checked) false (sO os) #[.string ⟨⟨[]⟩⟩] rfl aj aj aj
   (OpenSpec.preRow_of_cond 8 O aj (fun k L=>by cases L; kernel_rfl) aj (Eu os))) ?_
 intro W base args A gs before M I _ J _ E _ _
 exact CJ H enc W base args A gs before M I (J _ rfl) E
end Go.Proofs.YtjaoldaegkmkjaaGreatDoor.bookLoads
