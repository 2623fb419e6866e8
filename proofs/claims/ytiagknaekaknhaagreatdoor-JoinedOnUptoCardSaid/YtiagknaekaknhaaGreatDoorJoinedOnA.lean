/-
  The law JoinedOn: what its call needs and gives. Conditions: none.
-/
import Derived.Test.YtiagknaekaknhaaGreatDoorMnJoinedOn6
import Derived.Test.YtiagknaekaknhaaGreatDoorRows
import Derived.LaidMore
import Derived.LaidOnce
import Derived.Deep.DeepWitnessRowRef
import Derived.Stop.Joined
import Derived.Test.YtiagknaekaknhaaGreatDoorCards
import Derived.Test.YtiagknaekaknhaaGreatDoorTie
import Derived.WalkKit
import Derived.ProofKit
import Derived.OpenShut
import Derived.Deep.DeepHandedRow
import Derived.Lib.LaidTab
set_option linter.unusedVariables false
namespace Go.Proofs.YtiagknaekaknhaaGreatDoor.joinedOn
open Go.Hb Go.ChangeShapes Go.WideShapes Go.ChangeAt Go.RowKit
theorem own:ownKnob Tryz.prog.godebug=none:=ai
theorem laidOut:laidOutB Tryz.prog=true :=ai
theorem star: "*" ++ "errors.errorString" = "*errors.errorString" :=aF
theorem iU (u:TypeId) (h:Tryz.prog.typeName? 3 u=some "*errors.errorString"):u=524:=
 typeName_ptr_named (nm:= "errors.errorString") (by rw [star]; kernel_rfl) ai aF u (by rw [star]; exact h)
theorem Jt:(Rows.joinedOnUptoRow.laid.filter fun x=>x.2.handleName?.isSome)= [("errors.errorType",Rows.laid_errors_errorType)]:=ai
theorem Ju:(Rows.joinedOnUptoRow.laid.filter fun x=>x.2.handleName?.isNone)= [("unicode/utf8.acceptRanges",Rows.laid_unicode_utf8_acceptRanges),("hornbook/api.FailNil",Rows.laid_hornbook_api_FailNil),("hornbook/api.FailLimits",Rows.laid_hornbook_api_FailLimits),("hornbook/api.FailNoRun",Rows.laid_hornbook_api_FailNoRun),("hornbook/api.FailSealed",Rows.laid_hornbook_api_FailSealed),("hornbook/api.FailOpen",Rows.laid_hornbook_api_FailOpen),("hornbook/api.FailRange",Rows.laid_hornbook_api_FailRange),("hornbook/api.FailFull",Rows.laid_hornbook_api_FailFull),("hornbook/api.FailSpent",Rows.laid_hornbook_api_FailSpent),("hornbook/api.FailBroken",Rows.laid_hornbook_api_FailBroken),("hornbook/api.FailRecord",Rows.laid_hornbook_api_FailRecord),("hornbook/api.FailTorn",Rows.laid_hornbook_api_FailTorn),("hornbook/api.FailSame",Rows.laid_hornbook_api_FailSame),("hornbook/api.FailClosed",Rows.laid_hornbook_api_FailClosed),("unicode/utf8.first",Rows.laid_unicode_utf8_first)]:=ai
theorem xZ (W:World) (h:laidMetH Tryz.prog Rows.joinedOnUptoRow.laid W):cP 524 bF W:=by
 unfold laidMetH at h
 rw [Jt] at h
 have h0:=h.1
 rw [Ju] at h0
 have h1:=laidMet.tail h0
 have s1:=iW h1 (show Tryz.prog.globalNamed "hornbook/api.FailNil" =some 2 by kernel_rfl) (show (Tryz.prog.globals[2]?).map (·.type)=some 52 by kernel_rfl) Tryz.underlying52 iU Tryz.underlying524 Tryz.underlying542 rfl rfl Tryz.underlying9 ai ai
 have I:=laidMet.tail h1
 have s2:=iW I (show Tryz.prog.globalNamed "hornbook/api.FailLimits" =some 3 by kernel_rfl) (show (Tryz.prog.globals[3]?).map (·.type)=some 52 by kernel_rfl) Tryz.underlying52 iU Tryz.underlying524 Tryz.underlying542 rfl rfl Tryz.underlying9 ai ai
 have J:=laidMet.tail I
 have ah:=iW J (show Tryz.prog.globalNamed "hornbook/api.FailNoRun" =some 8 by kernel_rfl) (show (Tryz.prog.globals[8]?).map (·.type)=some 52 by kernel_rfl) Tryz.underlying52 iU Tryz.underlying524 Tryz.underlying542 rfl rfl Tryz.underlying9 ai ai
 have L:=laidMet.tail J
 have aj:=iW L (show Tryz.prog.globalNamed "hornbook/api.FailSealed" =some 14 by kernel_rfl) (show (Tryz.prog.globals[14]?).map (·.type)=some 52 by kernel_rfl) Tryz.underlying52 iU Tryz.underlying524 Tryz.underlying542 rfl rfl Tryz.underlying9 ai ai
 have M:=laidMet.tail L
 have ak:=iW M (show Tryz.prog.globalNamed "hornbook/api.FailOpen" =some 9 by kernel_rfl) (show (Tryz.prog.globals[9]?).map (·.type)=some 52 by kernel_rfl) Tryz.underlying52 iU Tryz.underlying524 Tryz.underlying542 rfl rfl Tryz.underlying9 ai ai
 have O:=laidMet.tail M
 have al:=iW O (show Tryz.prog.globalNamed "hornbook/api.FailRange" =some 10 by kernel_rfl) (show (Tryz.prog.globals[10]?).map (·.type)=some 52 by kernel_rfl) Tryz.underlying52 iU Tryz.underlying524 Tryz.underlying542 rfl rfl Tryz.underlying9 ai ai
 have U:=laidMet.tail O
 have am:=iW U (show Tryz.prog.globalNamed "hornbook/api.FailFull" =some 0 by kernel_rfl) (show (Tryz.prog.globals[0]?).map (·.type)=some 52 by kernel_rfl) Tryz.underlying52 iU Tryz.underlying524 Tryz.underlying542 rfl rfl Tryz.underlying9 ai ai
 have V:=laidMet.tail U
 have ao:=iW V (show Tryz.prog.globalNamed "hornbook/api.FailSpent" =some 11 by kernel_rfl) (show (Tryz.prog.globals[11]?).map (·.type)=some 52 by kernel_rfl) Tryz.underlying52 iU Tryz.underlying524 Tryz.underlying542 rfl rfl Tryz.underlying9 ai ai
 have Z:=laidMet.tail V
 have ap:=iW Z (show Tryz.prog.globalNamed "hornbook/api.FailBroken" =some 13 by kernel_rfl) (show (Tryz.prog.globals[13]?).map (·.type)=some 52 by kernel_rfl) Tryz.underlying52 iU Tryz.underlying524 Tryz.underlying542 rfl rfl Tryz.underlying9 ai ai
 have A:=laidMet.tail Z
 have ac:=iW A (show Tryz.prog.globalNamed "hornbook/api.FailRecord" =some 4 by kernel_rfl) (show (Tryz.prog.globals[4]?).map (·.type)=some 52 by kernel_rfl) Tryz.underlying52 iU Tryz.underlying524 Tryz.underlying542 rfl rfl Tryz.underlying9 ai ai
 have C:=laidMet.tail A
 have ad:=iW C (show Tryz.prog.globalNamed "hornbook/api.FailTorn" =some 7 by kernel_rfl) (show (Tryz.prog.globals[7]?).map (·.type)=some 52 by kernel_rfl) Tryz.underlying52 iU Tryz.underlying524 Tryz.underlying542 rfl rfl Tryz.underlying9 ai ai
 have E:=laidMet.tail C
 have ae:=iW E (show Tryz.prog.globalNamed "hornbook/api.FailSame" =some 6 by kernel_rfl) (show (Tryz.prog.globals[6]?).map (·.type)=some 52 by kernel_rfl) Tryz.underlying52 iU Tryz.underlying524 Tryz.underlying542 rfl rfl Tryz.underlying9 ai ai
 have ab:=laidMet.tail E
 have ag:=iW ab (show Tryz.prog.globalNamed "hornbook/api.FailClosed" =some 5 by kernel_rfl) (show (Tryz.prog.globals[5]?).map (·.type)=some 52 by kernel_rfl) Tryz.underlying52 iU Tryz.underlying524 Tryz.underlying542 rfl rfl Tryz.underlying9 ai ai
 exact cP.sub (cP.cons (g:=2) s1 (cP.cons (g:=3) s2 (cP.cons (g:=8) ah (cP.cons (g:=14) aj (cP.cons (g:=9) ak (cP.cons (g:=10) al (cP.cons (g:=0) am (cP.cons (g:=11) ao (cP.cons (g:=13) ap (cP.cons (g:=4) ac (cP.cons (g:=7) ad (cP.cons (g:=6) ae (cP.cons (g:=5) ag (cP.nil)))))))))))))) aF
set_option maxRecDepth 100000 in
theorem Hm (H:Type) (enc:TypeId×Value→H) (W:World) (base:Nat) (args:Array Value) (E gs:List (DataW H)) (before:List MemPlace)
 (C:∀ (j:Nat) t v,Tryz.f7.params[j]? =some t→args[j]? =some v→Value.okWide Tryz.prog W .any base t v)
 (L:DataW.Whole enc Tryz.prog Tryz.f7.params.toList Rows.joinedOnSpec.vars false W args.toList E gs before) (ar:Rows.uptoSmall H (E++gs)=true) (ag:laidMetH Tryz.prog Rows.joinedOnUptoRow.laid W):
 Calls Tryz.prog 7 args W fun e W'=> ∃ v,e= .returned v∧Rows.joinedOnSpec.post enc Tryz.prog Tryz.f7 false true false false W args v W':=by
 have A:=L
 obtain ⟨p,q,J,am,rfl,_,_⟩:=L
 have I:DataW.TrodAll enc Tryz.prog W 0 (fun _=>true) true Tryz.f7.params.toList args.toList E p:=J
 rw [Tryz.params7] at I C
 obtain ⟨v0,aM,d0,ay,aI,aJ,aB,rfl,rfl,h0,r0⟩:=trodAll_cons I
 obtain ⟨v1,aN,d1,az,p1,aK,rfl,rfl,rfl,h1,au⟩:=trodAll_cons r0
 obtain ⟨v2,aO,d2,aA,p2,aL,rfl,rfl,rfl,ae,av⟩:=trodAll_cons au
 obtain ⟨rfl,rfl,rfl⟩:=trodAll_nil av
 obtain rfl :args= #[v0,v1,v2]:=by cases args; simp_all
 obtain ⟨rfl,rfl⟩:=trodVars_none am
 clear J
 have hb:=GD ar
 simp only [List.append_nil,Rows.uptoBulkAll] at hb
 obtain ⟨aG,rfl⟩:=okWide_string Tryz.underlying9 (C 0 9 v0 rfl rfl)
 obtain ⟨Z,ao⟩:=h0
 obtain ⟨_,aw,ah,aC⟩:=(CB Tryz.underlying9 ai).op enc W Z _ _ _ ao
 obtain ⟨aH,rfl⟩:=okWide_string Tryz.underlying9 (C 1 9 v1 rfl rfl)
 obtain ⟨ac,ap⟩:=h1
 obtain ⟨_,ax,aj,aD⟩:=(CB Tryz.underlying9 ai).op enc W ac _ _ _ ap
 obtain ⟨aF,rfl⟩:=okWide_int Tryz.underlying3 (C 2 3 v2 rfl rfl)
 obtain ⟨ad,aq⟩:=ae
 obtain ⟨_,x2,ak,aE⟩:=(KB Tryz.underlying3 ai).op enc W ad _ _ _ aq
 have al:=xZ W ag
 have M:=ah
 simp only [Value.cells,List.cons.injEq,and_true] at M
 rw [M] at A ⊢
 have O:=aj
 simp only [Value.cells,List.cons.injEq,and_true] at O
 rw [O] at A ⊢
 obtain ⟨V,_⟩:=ak
 simp only [Value.cells,List.cons.injEq,and_true] at V
 rw [V] at A ⊢
 exact KW A U U U Tryz.underlying4 laidOut ai (Kv aw ax x2 W al ab ab)
noncomputable def wZ (os:Os):World:=
 {World.holding Tryz.prog os ⟨#[],#[],[]⟩ with heap:=(((((((((((((((((World.holding Tryz.prog os ⟨#[],#[],[]⟩).heap.modify 1 fun
  | .cells _ t frozen=> .cells (#[.iface 349 (.agg #[.pointer (some ⟨17,52,none⟩)])]) t frozen
  | o=>o).modify 16 fun
  | .cells _ t frozen=> .cells (#[.int .u8 128,.int .u8 191,.int .u8 160,.int .u8 191,.int .u8 128,.int .u8 159,.int .u8 144,.int .u8 191,.int .u8 128,.int .u8 143,.int .u8 0,.int .u8 0,.int .u8 0,.int .u8 0,.int .u8 0,.int .u8 0,.int .u8 0,.int .u8 0,.int .u8 0,.int .u8 0,.int .u8 0,.int .u8 0,.int .u8 0,.int .u8 0,.int .u8 0,.int .u8 0,.int .u8 0,.int .u8 0,.int .u8 0,.int .u8 0,.int .u8 0,.int .u8 0]) t frozen
  | o=>o).modify 2 fun
  | .cells _ t frozen=> .cells (#[.iface 524 (.pointer (some ⟨22,0,none⟩))]) t frozen
  | o=>o).modify 3 fun
  | .cells _ t frozen=> .cells (#[.iface 524 (.pointer (some ⟨23,0,none⟩))]) t frozen
  | o=>o).modify 8 fun
  | .cells _ t frozen=> .cells (#[.iface 524 (.pointer (some ⟨24,0,none⟩))]) t frozen
  | o=>o).modify 14 fun
  | .cells _ t frozen=> .cells (#[.iface 524 (.pointer (some ⟨25,0,none⟩))]) t frozen
  | o=>o).modify 9 fun
  | .cells _ t frozen=> .cells (#[.iface 524 (.pointer (some ⟨26,0,none⟩))]) t frozen
  | o=>o).modify 10 fun
  | .cells _ t frozen=> .cells (#[.iface 524 (.pointer (some ⟨27,0,none⟩))]) t frozen
  | o=>o).modify 0 fun
  | .cells _ t frozen=> .cells (#[.iface 524 (.pointer (some ⟨28,0,none⟩))]) t frozen
  | o=>o).modify 11 fun
  | .cells _ t frozen=> .cells (#[.iface 524 (.pointer (some ⟨29,0,none⟩))]) t frozen
  | o=>o).modify 13 fun
  | .cells _ t frozen=> .cells (#[.iface 524 (.pointer (some ⟨30,0,none⟩))]) t frozen
  | o=>o).modify 4 fun
  | .cells _ t frozen=> .cells (#[.iface 524 (.pointer (some ⟨31,0,none⟩))]) t frozen
  | o=>o).modify 7 fun
  | .cells _ t frozen=> .cells (#[.iface 524 (.pointer (some ⟨32,0,none⟩))]) t frozen
  | o=>o).modify 6 fun
  | .cells _ t frozen=> .cells (#[.iface 524 (.pointer (some ⟨33,0,none⟩))]) t frozen
  | o=>o).modify 5 fun
  | .cells _ t frozen=> .cells (#[.iface 524 (.pointer (some ⟨34,0,none⟩))]) t frozen
  | o=>o).modify 15 fun
  | .cells _ t frozen=> .cells ((Go.Pinned.utf8FirstZ.map fun n=>Value.int .u8 (n:Nat)).toArray) t frozen
  | o=>o)++ #[.cells #[.string ⟨⟨[110,111,32,111,98,106,101,99,116]⟩⟩] 542 (0,0),.cells #[.string ⟨⟨[97,32,110,117,109,98,101,114,32,111,117,116,32,111,102,32,105,116,115,32,114,97,110,103,101]⟩⟩] 542 (0,0),.cells #[.string ⟨⟨[110,111,32,115,117,99,104,32,114,117,110]⟩⟩] 542 (0,0),.cells #[.string ⟨⟨[116,104,101,32,114,117,110,32,105,115,32,115,101,97,108,101,100]⟩⟩] 542 (0,0),.cells #[.string ⟨⟨[116,104,101,32,114,117,110,32,105,115,32,110,111,116,32,115,101,97,108,101,100]⟩⟩] 542 (0,0),.cells #[.string ⟨⟨[110,111,32,115,117,99,104,32,112,108,97,99,101,32,105,110,32,116,104,101,32,114,117,110]⟩⟩] 542 (0,0),.cells #[.string ⟨⟨[116,104,101,32,115,116,111,114,101,32,105,115,32,102,117,108,108]⟩⟩] 542 (0,0),.cells #[.string ⟨⟨[110,111,32,114,117,110,32,110,117,109,98,101,114,32,105,115,32,108,101,102,116]⟩⟩] 542 (0,0),.cells #[.string ⟨⟨[116,104,101,32,115,116,111,114,101,32,114,101,102,117,115,101,100,32,97,32,115,116,101,112]⟩⟩] 542 (0,0),.cells #[.string ⟨⟨[116,104,101,32,114,101,99,111,114,100,32,105,115,32,116,111,111,32,108,111,110,103]⟩⟩] 542 (0,0),.cells #[.string ⟨⟨[116,104,101,32,114,117,110,32,105,115,32,116,111,114,110]⟩⟩] 542 (0,0),.cells #[.string ⟨⟨[97,32,114,117,110,32,105,115,32,110,97,109,101,100,32,116,119,105,99,101]⟩⟩] 542 (0,0),.cells #[.string ⟨⟨[99,108,111,115,101,100]⟩⟩] 542 (0,0)]}
set_option maxRecDepth 100000 in
theorem Jv (os:Os):laidMetH Tryz.prog Rows.joinedOnUptoRow.laid ((wZ os).forCall (fun _ _=>0) ⟨#[],#[.string ⟨⟨[]⟩⟩,.string ⟨⟨[]⟩⟩,.int .i64 0],[]⟩).memory:=
 laidMetH_of_parts3 (fuel:=8) (laidMet_of_run' 8 ai ai) ai ai
theorem reads (os:Os) {H:Type} (enc:TypeId×Value→H):∃ A,DataW.whole enc Tryz.prog ((wZ os).forCall (fun _ _=>0) ⟨#[],#[.string ⟨⟨[]⟩⟩,.string ⟨⟨[]⟩⟩,.int .i64 0],[]⟩).memory Tryz.f7.params.toList Rows.joinedOnSpec.vars false #[.string ⟨⟨[]⟩⟩,.string ⟨⟨[]⟩⟩,.int .i64 0].toList 8=some ([.lit (.string []),.lit (.string []),.lit (.int .i64 0)],[],A):=
 ⟨[],ai⟩
set_option maxRecDepth 100000 in
theorem lifted (os:Os) (started:os.Started) (H:Type) (enc:TypeId×Value→H) (F:Stop.Interp):
 ReturnsInHanded {} Tryz.checked os 7 .any ((Rows.OpenSpec.upto Rows.joinedOnSpec).preRow enc Tryz.prog Tryz.f7 Rows.joinedOnUptoRow.domain false Rows.joinedOnUptoRow.laid) (((Rows.OpenSpec.upto Rows.joinedOnSpec).at F).post enc Tryz.prog Tryz.f7 false true false false):=by
 obtain ⟨U,O⟩:=reads os enc
 refine returnsInHanded_of_row (C:=Tryz.checked) (s:=Rows.OpenSpec.upto Rows.joinedOnSpec) own started ai Tryz.func7
  (witness_row_atRef (enc:=enc) (C:=Tryz.checked) false (wZ os) #[.string ⟨⟨[]⟩⟩,.string ⟨⟨[]⟩⟩,.int .i64 0] rfl ai ai ai
   (OpenSpec.preRow_of_cond 8 O ai (fun k L=>by cases L; kernel_rfl) ai (Jv os))) ?_
 intro W base args A gs before M I _ J _ E _ _
 exact Hm H enc W base args A gs before M I (J _ rfl) E
end Go.Proofs.YtiagknaekaknhaaGreatDoor.joinedOn
