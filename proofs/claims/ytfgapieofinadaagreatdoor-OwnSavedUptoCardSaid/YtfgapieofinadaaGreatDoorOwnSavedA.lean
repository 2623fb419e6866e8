/-
  The law OwnSaved: what its call needs and gives. Conditions: none.
-/
import Derived.Test.YtfgapieofinadaaGreatDoorMnOwnSaved5
import Derived.Test.YtfgapieofinadaaGreatDoorRows
import Derived.LaidMore
import Derived.LaidOnce
import Derived.Deep.DeepWitnessRowRef
import Derived.Stop.Joined
import Derived.Test.YtfgapieofinadaaGreatDoorCards
import Derived.Test.YtfgapieofinadaaGreatDoorTie
import Derived.WalkKit
import Derived.ProofKit
import Derived.OpenShut
import Derived.Deep.DeepHandedRow
import Derived.Lib.LaidTab
set_option linter.unusedVariables false
namespace Go.Proofs.YtfgapieofinadaaGreatDoor.ownSaved
open Go.Hb Go.Hb.mE Go.ChangeShapes Go.WideShapes Go.ChangeAt Go.RowKit
theorem own:ownKnob Tryz.prog.godebug=none:=ai
theorem laidOut:laidOutB Tryz.prog=true :=ai
theorem star: "*" ++ "errors.errorString" = "*errors.errorString" :=aW
theorem iS (u:TypeId) (h:Tryz.prog.typeName? 3 u=some "*errors.errorString"):u=544:=
 typeName_ptr_named (nm:= "errors.errorString") (by rw [star]; kernel_rfl) ai aW u (by rw [star]; exact h)
theorem Jd:(Rows.ownSavedUptoRow.laid.filter fun x=>x.2.handleName?.isSome)= [("errors.errorType",Rows.laid_errors_errorType)]:=ai
theorem Je:(Rows.ownSavedUptoRow.laid.filter fun x=>x.2.handleName?.isNone)= [("unicode/utf8.acceptRanges",Rows.laid_unicode_utf8_acceptRanges),("hornbook/api.FailNil",Rows.laid_hornbook_api_FailNil),("hornbook/api.FailLimits",Rows.laid_hornbook_api_FailLimits),("hornbook/api.FailNoRun",Rows.laid_hornbook_api_FailNoRun),("hornbook/api.FailSealed",Rows.laid_hornbook_api_FailSealed),("hornbook/api.FailOpen",Rows.laid_hornbook_api_FailOpen),("hornbook/api.FailRange",Rows.laid_hornbook_api_FailRange),("hornbook/api.FailFull",Rows.laid_hornbook_api_FailFull),("hornbook/api.FailSpent",Rows.laid_hornbook_api_FailSpent),("hornbook/api.FailBroken",Rows.laid_hornbook_api_FailBroken),("hornbook/api.FailRecord",Rows.laid_hornbook_api_FailRecord),("hornbook/api.FailTorn",Rows.laid_hornbook_api_FailTorn),("hornbook/api.FailSame",Rows.laid_hornbook_api_FailSame),("hornbook/api.FailClosed",Rows.laid_hornbook_api_FailClosed),("unicode/utf8.first",Rows.laid_unicode_utf8_first)]:=ai
theorem tq (W:World) (h:laidMetH Tryz.prog Rows.ownSavedUptoRow.laid W):cY 544 np W:=by
 unfold laidMetH at h
 rw [Jd] at h
 have h0:=h.1
 rw [Je] at h0
 have A:=laidMet.tail h0
 have s1:=iU A (show Tryz.prog.globalNamed "hornbook/api.FailNil" =some 2 by kernel_rfl) (show (Tryz.prog.globals[2]?).map (·.type)=some 42 by kernel_rfl) Tryz.underlying42 iS Tryz.underlying544 Tryz.underlying562 rfl rfl Tryz.underlying9 ai ai
 have J:=laidMet.tail A
 have s2:=iU J (show Tryz.prog.globalNamed "hornbook/api.FailLimits" =some 3 by kernel_rfl) (show (Tryz.prog.globals[3]?).map (·.type)=some 42 by kernel_rfl) Tryz.underlying42 iS Tryz.underlying544 Tryz.underlying562 rfl rfl Tryz.underlying9 ai ai
 have L:=laidMet.tail J
 have ah:=iU L (show Tryz.prog.globalNamed "hornbook/api.FailNoRun" =some 9 by kernel_rfl) (show (Tryz.prog.globals[9]?).map (·.type)=some 42 by kernel_rfl) Tryz.underlying42 iS Tryz.underlying544 Tryz.underlying562 rfl rfl Tryz.underlying9 ai ai
 have M:=laidMet.tail L
 have aj:=iU M (show Tryz.prog.globalNamed "hornbook/api.FailSealed" =some 14 by kernel_rfl) (show (Tryz.prog.globals[14]?).map (·.type)=some 42 by kernel_rfl) Tryz.underlying42 iS Tryz.underlying544 Tryz.underlying562 rfl rfl Tryz.underlying9 ai ai
 have O:=laidMet.tail M
 have ak:=iU O (show Tryz.prog.globalNamed "hornbook/api.FailOpen" =some 10 by kernel_rfl) (show (Tryz.prog.globals[10]?).map (·.type)=some 42 by kernel_rfl) Tryz.underlying42 iS Tryz.underlying544 Tryz.underlying562 rfl rfl Tryz.underlying9 ai ai
 have U:=laidMet.tail O
 have al:=iU U (show Tryz.prog.globalNamed "hornbook/api.FailRange" =some 11 by kernel_rfl) (show (Tryz.prog.globals[11]?).map (·.type)=some 42 by kernel_rfl) Tryz.underlying42 iS Tryz.underlying544 Tryz.underlying562 rfl rfl Tryz.underlying9 ai ai
 have V:=laidMet.tail U
 have am:=iU V (show Tryz.prog.globalNamed "hornbook/api.FailFull" =some 0 by kernel_rfl) (show (Tryz.prog.globals[0]?).map (·.type)=some 42 by kernel_rfl) Tryz.underlying42 iS Tryz.underlying544 Tryz.underlying562 rfl rfl Tryz.underlying9 ai ai
 have Z:=laidMet.tail V
 have an:=iU Z (show Tryz.prog.globalNamed "hornbook/api.FailSpent" =some 12 by kernel_rfl) (show (Tryz.prog.globals[12]?).map (·.type)=some 42 by kernel_rfl) Tryz.underlying42 iS Tryz.underlying544 Tryz.underlying562 rfl rfl Tryz.underlying9 ai ai
 have aa:=laidMet.tail Z
 have ao:=iU aa (show Tryz.prog.globalNamed "hornbook/api.FailBroken" =some 13 by kernel_rfl) (show (Tryz.prog.globals[13]?).map (·.type)=some 42 by kernel_rfl) Tryz.underlying42 iS Tryz.underlying544 Tryz.underlying562 rfl rfl Tryz.underlying9 ai ai
 have C:=laidMet.tail aa
 have ac:=iU C (show Tryz.prog.globalNamed "hornbook/api.FailRecord" =some 4 by kernel_rfl) (show (Tryz.prog.globals[4]?).map (·.type)=some 42 by kernel_rfl) Tryz.underlying42 iS Tryz.underlying544 Tryz.underlying562 rfl rfl Tryz.underlying9 ai ai
 have E:=laidMet.tail C
 have ad:=iU E (show Tryz.prog.globalNamed "hornbook/api.FailTorn" =some 7 by kernel_rfl) (show (Tryz.prog.globals[7]?).map (·.type)=some 42 by kernel_rfl) Tryz.underlying42 iS Tryz.underlying544 Tryz.underlying562 rfl rfl Tryz.underlying9 ai ai
 have I:=laidMet.tail E
 have ae:=iU I (show Tryz.prog.globalNamed "hornbook/api.FailSame" =some 6 by kernel_rfl) (show (Tryz.prog.globals[6]?).map (·.type)=some 42 by kernel_rfl) Tryz.underlying42 iS Tryz.underlying544 Tryz.underlying562 rfl rfl Tryz.underlying9 ai ai
 have ab:=laidMet.tail I
 have ag:=iU ab (show Tryz.prog.globalNamed "hornbook/api.FailClosed" =some 5 by kernel_rfl) (show (Tryz.prog.globals[5]?).map (·.type)=some 42 by kernel_rfl) Tryz.underlying42 iS Tryz.underlying544 Tryz.underlying562 rfl rfl Tryz.underlying9 ai ai
 exact cY.sub (cY.cons (g:=2) s1 (cY.cons (g:=3) s2 (cY.cons (g:=9) ah (cY.cons (g:=14) aj (cY.cons (g:=10) ak (cY.cons (g:=11) al (cY.cons (g:=0) am (cY.cons (g:=12) an (cY.cons (g:=13) ao (cY.cons (g:=4) ac (cY.cons (g:=7) ad (cY.cons (g:=6) ae (cY.cons (g:=5) ag (cY.nil)))))))))))))) aW
set_option maxRecDepth 100000 in
theorem Gi (H:Type) (enc:TypeId×Value→H) (W:World) (base:Nat) (args:Array Value) (C gs:List (DataW H)) (before:List MemPlace)
 (A:∀ (j:Nat) t v,Tryz.f5.params[j]? =some t→args[j]? =some v→Value.okWide Tryz.prog W .any base t v)
 (J:DataW.Whole enc Tryz.prog Tryz.f5.params.toList Rows.ownSavedSpec.vars false W args.toList C gs before) (ar:Rows.uptoSmall H (C++gs)=true) (ae:laidMetH Tryz.prog Rows.ownSavedUptoRow.laid W):
 Calls Tryz.prog 5 args W fun e W'=> ∃ v,e= .returned v∧Rows.ownSavedSpec.post enc Tryz.prog Tryz.f5 false true false false W args v W':=by
 have L:=J
 obtain ⟨p,q,I,am,rfl,_,_⟩:=J
 have E:DataW.TrodAll enc Tryz.prog W 0 (fun _=>true) true Tryz.f5.params.toList args.toList C p:=I
 rw [Tryz.params5] at E A
 obtain ⟨v0,aP,d0,aA,aL,aM,aD,rfl,rfl,h0,r0⟩:=trodAll_cons E
 obtain ⟨v1,aQ,d1,aB,p1,aN,rfl,rfl,rfl,ac,au⟩:=trodAll_cons r0
 obtain ⟨v2,aR,d2,aC,p2,aO,rfl,rfl,rfl,ad,av⟩:=trodAll_cons au
 obtain ⟨rfl,rfl,rfl⟩:=trodAll_nil av
 obtain rfl :args= #[v0,v1,v2]:=by cases args; simp_all
 obtain ⟨rfl,rfl⟩:=trodVars_none am
 clear I
 have hb:=FE ar
 simp only [List.append_nil,Rows.uptoBulkAll] at hb
 obtain ⟨aK,rfl⟩:=okWide_string Tryz.underlying9 (A 0 9 v0 rfl rfl)
 obtain ⟨Z,ap⟩:=h0
 obtain ⟨_,ax,ag,aE⟩:=(wS Tryz.underlying9 ai).op enc W Z _ _ _ ap
 obtain ⟨aH,aJ,aI,rfl⟩:=okWide_slice Tryz.underlying22 (A 1 22 v1 rfl rfl)
 obtain ⟨aa,aq⟩:=ac
 obtain ⟨_,V,ah,an⟩:=(BD (Ki (Kh Tryz.underlying3 ai) (BD (wS Tryz.underlying9 ai) Tryz.underlying27 ai aW) (wS Tryz.underlying9 ai) Tryz.underlying29 rfl rfl rfl rfl rfl rfl ai) Tryz.underlying22 ai aW).op enc W aa _ _ _ aq
 obtain ⟨aw,a2,c2,rfl,ak,ao⟩:=Kf Tryz.underlying27 Tryz.underlying9 ai (A 2 27 v2 rfl rfl) ad
 have aG:=FF ao
 have al:=tq W ae
 have M:=ag
 simp only [Value.cells,List.cons.injEq,and_true] at M
 rw [M] at L ⊢
 obtain ⟨ay,az,O,aj⟩:=LS ah
 simp only [Value.slice.injEq] at O
 obtain ⟨rfl,rfl,rfl⟩:=O
 have aF:(V.map jo).sum+1≤_:=an
 exact KJ L U U U Tryz.underlying4 laidOut ai (Lh ax V _ _ aw a2 c2 W al ab aj ab ak ab)
noncomputable def vU (os:Os):World:=
 {World.holding Tryz.prog os ⟨#[],#[],[]⟩ with heap:=(((((((((((((((((World.holding Tryz.prog os ⟨#[],#[],[]⟩).heap.modify 1 fun
  | .cells _ t frozen=> .cells (#[.iface 389 (.agg #[.pointer (some ⟨17,42,none⟩)])]) t frozen
  | o=>o).modify 16 fun
  | .cells _ t frozen=> .cells (#[.int .u8 128,.int .u8 191,.int .u8 160,.int .u8 191,.int .u8 128,.int .u8 159,.int .u8 144,.int .u8 191,.int .u8 128,.int .u8 143,.int .u8 0,.int .u8 0,.int .u8 0,.int .u8 0,.int .u8 0,.int .u8 0,.int .u8 0,.int .u8 0,.int .u8 0,.int .u8 0,.int .u8 0,.int .u8 0,.int .u8 0,.int .u8 0,.int .u8 0,.int .u8 0,.int .u8 0,.int .u8 0,.int .u8 0,.int .u8 0,.int .u8 0,.int .u8 0]) t frozen
  | o=>o).modify 2 fun
  | .cells _ t frozen=> .cells (#[.iface 544 (.pointer (some ⟨22,0,none⟩))]) t frozen
  | o=>o).modify 3 fun
  | .cells _ t frozen=> .cells (#[.iface 544 (.pointer (some ⟨23,0,none⟩))]) t frozen
  | o=>o).modify 9 fun
  | .cells _ t frozen=> .cells (#[.iface 544 (.pointer (some ⟨24,0,none⟩))]) t frozen
  | o=>o).modify 14 fun
  | .cells _ t frozen=> .cells (#[.iface 544 (.pointer (some ⟨25,0,none⟩))]) t frozen
  | o=>o).modify 10 fun
  | .cells _ t frozen=> .cells (#[.iface 544 (.pointer (some ⟨26,0,none⟩))]) t frozen
  | o=>o).modify 11 fun
  | .cells _ t frozen=> .cells (#[.iface 544 (.pointer (some ⟨27,0,none⟩))]) t frozen
  | o=>o).modify 0 fun
  | .cells _ t frozen=> .cells (#[.iface 544 (.pointer (some ⟨28,0,none⟩))]) t frozen
  | o=>o).modify 12 fun
  | .cells _ t frozen=> .cells (#[.iface 544 (.pointer (some ⟨29,0,none⟩))]) t frozen
  | o=>o).modify 13 fun
  | .cells _ t frozen=> .cells (#[.iface 544 (.pointer (some ⟨30,0,none⟩))]) t frozen
  | o=>o).modify 4 fun
  | .cells _ t frozen=> .cells (#[.iface 544 (.pointer (some ⟨31,0,none⟩))]) t frozen
  | o=>o).modify 7 fun
  | .cells _ t frozen=> .cells (#[.iface 544 (.pointer (some ⟨32,0,none⟩))]) t frozen
  | o=>o).modify 6 fun
  | .cells _ t frozen=> .cells (#[.iface 544 (.pointer (some ⟨33,0,none⟩))]) t frozen
  | o=>o).modify 5 fun
  | .cells _ t frozen=> .cells (#[.iface 544 (.pointer (some ⟨34,0,none⟩))]) t frozen
  | o=>o).modify 15 fun
  | .cells _ t frozen=> .cells ((Go.Pinned.utf8FirstZ.map fun n=>Value.int .u8 (n:Nat)).toArray) t frozen
  | o=>o)++ #[.cells #[.string ⟨⟨[110,111,32,111,98,106,101,99,116]⟩⟩] 562 (0,0),.cells #[.string ⟨⟨[97,32,110,117,109,98,101,114,32,111,117,116,32,111,102,32,105,116,115,32,114,97,110,103,101]⟩⟩] 562 (0,0),.cells #[.string ⟨⟨[110,111,32,115,117,99,104,32,114,117,110]⟩⟩] 562 (0,0),.cells #[.string ⟨⟨[116,104,101,32,114,117,110,32,105,115,32,115,101,97,108,101,100]⟩⟩] 562 (0,0),.cells #[.string ⟨⟨[116,104,101,32,114,117,110,32,105,115,32,110,111,116,32,115,101,97,108,101,100]⟩⟩] 562 (0,0),.cells #[.string ⟨⟨[110,111,32,115,117,99,104,32,112,108,97,99,101,32,105,110,32,116,104,101,32,114,117,110]⟩⟩] 562 (0,0),.cells #[.string ⟨⟨[116,104,101,32,115,116,111,114,101,32,105,115,32,102,117,108,108]⟩⟩] 562 (0,0),.cells #[.string ⟨⟨[110,111,32,114,117,110,32,110,117,109,98,101,114,32,105,115,32,108,101,102,116]⟩⟩] 562 (0,0),.cells #[.string ⟨⟨[116,104,101,32,115,116,111,114,101,32,114,101,102,117,115,101,100,32,97,32,115,116,101,112]⟩⟩] 562 (0,0),.cells #[.string ⟨⟨[116,104,101,32,114,101,99,111,114,100,32,105,115,32,116,111,111,32,108,111,110,103]⟩⟩] 562 (0,0),.cells #[.string ⟨⟨[116,104,101,32,114,117,110,32,105,115,32,116,111,114,110]⟩⟩] 562 (0,0),.cells #[.string ⟨⟨[97,32,114,117,110,32,105,115,32,110,97,109,101,100,32,116,119,105,99,101]⟩⟩] 562 (0,0),.cells #[.string ⟨⟨[99,108,111,115,101,100]⟩⟩] 562 (0,0)]}
set_option maxRecDepth 100000 in
theorem Jf (os:Os):laidMetH Tryz.prog Rows.ownSavedUptoRow.laid ((vU os).forCall (fun _ _=>0) ⟨#[],#[.string ⟨⟨[]⟩⟩,.slice none 0 0,.slice none 0 0],[]⟩).memory:=
 laidMetH_of_parts3 (fuel:=8) (laidMet_of_run' 8 ai ai) ai ai
theorem reads (os:Os) {H:Type} (enc:TypeId×Value→H):∃ A,DataW.whole enc Tryz.prog ((vU os).forCall (fun _ _=>0) ⟨#[],#[.string ⟨⟨[]⟩⟩,.slice none 0 0,.slice none 0 0],[]⟩).memory Tryz.f5.params.toList Rows.ownSavedSpec.vars false #[.string ⟨⟨[]⟩⟩,.slice none 0 0,.slice none 0 0].toList 8=some ([.lit (.string []),.nil,.nil],[],A):=
 ⟨[],ai⟩
set_option maxRecDepth 100000 in
theorem lifted (os:Os) (started:os.Started) (H:Type) (enc:TypeId×Value→H) (F:Stop.Interp):
 ReturnsInHanded {} Tryz.checked os 5 .any ((Rows.OpenSpec.upto Rows.ownSavedSpec).preRow enc Tryz.prog Tryz.f5 Rows.ownSavedUptoRow.domain false Rows.ownSavedUptoRow.laid) (((Rows.OpenSpec.upto Rows.ownSavedSpec).at F).post enc Tryz.prog Tryz.f5 false true false false):=by
 obtain ⟨U,O⟩:=reads os enc
 refine returnsInHanded_of_row (C:=Tryz.checked) (s:=Rows.OpenSpec.upto Rows.ownSavedSpec) own started ai Tryz.func5
  (witness_row_atRef (enc:=enc) (C:=Tryz.checked) false (vU os) #[.string ⟨⟨[]⟩⟩,.slice none 0 0,.slice none 0 0] rfl ai ai ai
   (OpenSpec.preRow_of_cond 8 O ai (fun k L=>by cases L; kernel_rfl) ai (Jf os))) ?_
 intro W base args A gs before M I _ J _ E _ _
 exact Gi H enc W base args A gs before M I (J _ rfl) E
end Go.Proofs.YtfgapieofinadaaGreatDoor.ownSaved
