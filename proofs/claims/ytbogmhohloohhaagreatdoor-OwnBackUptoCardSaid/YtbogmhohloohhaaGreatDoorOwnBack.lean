/-
  The law OwnBack holds of every input of bulk at most 1,048,576: the call returns true and leaves its arguments as they were. Conditions: none but the statement's own bound on the arguments' bulk.
-/
import Derived.Test.YtbogmhohloohhaaGreatDoorMnOwnBack5
import Derived.Test.YtbogmhohloohhaaGreatDoorRows
import Derived.LaidMore
import Derived.LaidOnce
import Derived.Deep.DeepWitnessRowRef
import Derived.Stop.Joined
import Derived.Test.YtbogmhohloohhaaGreatDoorCards
import Derived.Test.YtbogmhohloohhaaGreatDoorTie
import Derived.WalkKit
import Derived.ProofKit
import Derived.OpenShut
import Derived.Deep.DeepHandedRow
import Derived.Lib.LaidTab
set_option linter.unusedVariables false
namespace Go.Proofs.YtbogmhohloohhaaGreatDoor.ownBack
open Go.Hb Go.Hb.wo Go.Hb.mK Go.ChangeShapes Go.WideShapes Go.ChangeAt Go.RowKit
theorem own:ownKnob Tryz.prog.godebug=none:=ai
theorem laidOut:laidOutB Tryz.prog=true :=ai
theorem star: "*" ++ "errors.errorString" = "*errors.errorString" :=aP
theorem gQ (u:TypeId) (h:Tryz.prog.typeName? 3 u=some "*errors.errorString"):u=482:=
 typeName_ptr_named (nm:= "errors.errorString") (by rw [star]; kernel_rfl) ai aP u (by rw [star]; exact h)
theorem FI:(Rows.ownBackUptoRow.laid.filter fun x=>x.2.handleName?.isSome)= [("errors.errorType",Rows.laid_errors_errorType)]:=ai
theorem FJ:(Rows.ownBackUptoRow.laid.filter fun x=>x.2.handleName?.isNone)= [("unicode/utf8.acceptRanges",Rows.laid_unicode_utf8_acceptRanges),("hornbook/api.FailNil",Rows.laid_hornbook_api_FailNil),("hornbook/api.FailLimits",Rows.laid_hornbook_api_FailLimits),("hornbook/api.FailNoRun",Rows.laid_hornbook_api_FailNoRun),("hornbook/api.FailSealed",Rows.laid_hornbook_api_FailSealed),("hornbook/api.FailOpen",Rows.laid_hornbook_api_FailOpen),("hornbook/api.FailRange",Rows.laid_hornbook_api_FailRange),("hornbook/api.FailFull",Rows.laid_hornbook_api_FailFull),("hornbook/api.FailSpent",Rows.laid_hornbook_api_FailSpent),("hornbook/api.FailBroken",Rows.laid_hornbook_api_FailBroken),("hornbook/api.FailRecord",Rows.laid_hornbook_api_FailRecord),("hornbook/api.FailTorn",Rows.laid_hornbook_api_FailTorn),("hornbook/api.FailSame",Rows.laid_hornbook_api_FailSame),("hornbook/api.FailClosed",Rows.laid_hornbook_api_FailClosed),("unicode/utf8.first",Rows.laid_unicode_utf8_first)]:=ai
theorem q6 (W:World) (h:laidMetH Tryz.prog Rows.ownBackUptoRow.laid W):cz 482 lU W:=by
 unfold laidMetH at h
 rw [FI] at h
 have h0:=h.1
 rw [FJ] at h0
 have A:=laidMet.tail h0
 have s1:=gS A (show Tryz.prog.globalNamed "hornbook/api.FailNil" =some 2 by kernel_rfl) (show (Tryz.prog.globals[2]?).map (·.type)=some 26 by kernel_rfl) Tryz.underlying26 gQ Tryz.underlying482 Tryz.underlying500 rfl rfl Tryz.underlying9 ai ai
 have J:=laidMet.tail A
 have s2:=gS J (show Tryz.prog.globalNamed "hornbook/api.FailLimits" =some 3 by kernel_rfl) (show (Tryz.prog.globals[3]?).map (·.type)=some 26 by kernel_rfl) Tryz.underlying26 gQ Tryz.underlying482 Tryz.underlying500 rfl rfl Tryz.underlying9 ai ai
 have L:=laidMet.tail J
 have ah:=gS L (show Tryz.prog.globalNamed "hornbook/api.FailNoRun" =some 9 by kernel_rfl) (show (Tryz.prog.globals[9]?).map (·.type)=some 26 by kernel_rfl) Tryz.underlying26 gQ Tryz.underlying482 Tryz.underlying500 rfl rfl Tryz.underlying9 ai ai
 have M:=laidMet.tail L
 have aj:=gS M (show Tryz.prog.globalNamed "hornbook/api.FailSealed" =some 14 by kernel_rfl) (show (Tryz.prog.globals[14]?).map (·.type)=some 26 by kernel_rfl) Tryz.underlying26 gQ Tryz.underlying482 Tryz.underlying500 rfl rfl Tryz.underlying9 ai ai
 have O:=laidMet.tail M
 have ak:=gS O (show Tryz.prog.globalNamed "hornbook/api.FailOpen" =some 10 by kernel_rfl) (show (Tryz.prog.globals[10]?).map (·.type)=some 26 by kernel_rfl) Tryz.underlying26 gQ Tryz.underlying482 Tryz.underlying500 rfl rfl Tryz.underlying9 ai ai
 have U:=laidMet.tail O
 have al:=gS U (show Tryz.prog.globalNamed "hornbook/api.FailRange" =some 11 by kernel_rfl) (show (Tryz.prog.globals[11]?).map (·.type)=some 26 by kernel_rfl) Tryz.underlying26 gQ Tryz.underlying482 Tryz.underlying500 rfl rfl Tryz.underlying9 ai ai
 have V:=laidMet.tail U
 have am:=gS V (show Tryz.prog.globalNamed "hornbook/api.FailFull" =some 0 by kernel_rfl) (show (Tryz.prog.globals[0]?).map (·.type)=some 26 by kernel_rfl) Tryz.underlying26 gQ Tryz.underlying482 Tryz.underlying500 rfl rfl Tryz.underlying9 ai ai
 have Z:=laidMet.tail V
 have an:=gS Z (show Tryz.prog.globalNamed "hornbook/api.FailSpent" =some 12 by kernel_rfl) (show (Tryz.prog.globals[12]?).map (·.type)=some 26 by kernel_rfl) Tryz.underlying26 gQ Tryz.underlying482 Tryz.underlying500 rfl rfl Tryz.underlying9 ai ai
 have aa:=laidMet.tail Z
 have ao:=gS aa (show Tryz.prog.globalNamed "hornbook/api.FailBroken" =some 13 by kernel_rfl) (show (Tryz.prog.globals[13]?).map (·.type)=some 26 by kernel_rfl) Tryz.underlying26 gQ Tryz.underlying482 Tryz.underlying500 rfl rfl Tryz.underlying9 ai ai
 have C:=laidMet.tail aa
 have ac:=gS C (show Tryz.prog.globalNamed "hornbook/api.FailRecord" =some 4 by kernel_rfl) (show (Tryz.prog.globals[4]?).map (·.type)=some 26 by kernel_rfl) Tryz.underlying26 gQ Tryz.underlying482 Tryz.underlying500 rfl rfl Tryz.underlying9 ai ai
 have E:=laidMet.tail C
 have ad:=gS E (show Tryz.prog.globalNamed "hornbook/api.FailTorn" =some 7 by kernel_rfl) (show (Tryz.prog.globals[7]?).map (·.type)=some 26 by kernel_rfl) Tryz.underlying26 gQ Tryz.underlying482 Tryz.underlying500 rfl rfl Tryz.underlying9 ai ai
 have I:=laidMet.tail E
 have ae:=gS I (show Tryz.prog.globalNamed "hornbook/api.FailSame" =some 6 by kernel_rfl) (show (Tryz.prog.globals[6]?).map (·.type)=some 26 by kernel_rfl) Tryz.underlying26 gQ Tryz.underlying482 Tryz.underlying500 rfl rfl Tryz.underlying9 ai ai
 have ab:=laidMet.tail I
 have ag:=gS ab (show Tryz.prog.globalNamed "hornbook/api.FailClosed" =some 5 by kernel_rfl) (show (Tryz.prog.globals[5]?).map (·.type)=some 26 by kernel_rfl) Tryz.underlying26 gQ Tryz.underlying482 Tryz.underlying500 rfl rfl Tryz.underlying9 ai ai
 exact cz.sub (cz.cons (g:=2) s1 (cz.cons (g:=3) s2 (cz.cons (g:=9) ah (cz.cons (g:=14) aj (cz.cons (g:=10) ak (cz.cons (g:=11) al (cz.cons (g:=0) am (cz.cons (g:=12) an (cz.cons (g:=13) ao (cz.cons (g:=4) ac (cz.cons (g:=7) ad (cz.cons (g:=6) ae (cz.cons (g:=5) ag (cz.nil)))))))))))))) aP
set_option maxRecDepth 100000 in
theorem DA (H:Type) (enc:TypeId×Value→H) (W:World) (base:Nat) (args:Array Value) (A gs:List (DataW H)) (before:List MemPlace)
 (C:∀ (j:Nat) t v,Tryz.f3.params[j]? =some t→args[j]? =some v→Value.okWide Tryz.prog W .any base t v)
 (J:DataW.Whole enc Tryz.prog Tryz.f3.params.toList Rows.ownBackSpec.vars false W args.toList A gs before) (ao:Rows.uptoSmall H (A++gs)=true) (ac:laidMetH Tryz.prog Rows.ownBackUptoRow.laid W):
 Calls Tryz.prog 3 args W fun e W'=> ∃ v,e= .returned v∧Rows.ownBackSpec.post enc Tryz.prog Tryz.f3 false true false false W args v W':=by
 have L:=J
 obtain ⟨p,q,I,ak,rfl,_,_⟩:=J
 have E:DataW.TrodAll enc Tryz.prog W 0 (fun _=>true) true Tryz.f3.params.toList args.toList A p:=I
 rw [Tryz.params3] at E C
 obtain ⟨v0,aH,d0,av,aE,aF,ax,rfl,rfl,h0,r0⟩:=trodAll_cons E
 obtain ⟨v1,aI,d1,aw,p1,aG,rfl,rfl,rfl,ab,ap⟩:=trodAll_cons r0
 obtain ⟨rfl,rfl,rfl⟩:=trodAll_nil ap
 obtain rfl :args= #[v0,v1]:=by cases args; simp_all
 obtain ⟨rfl,rfl⟩:=trodVars_none ak
 clear I
 have hb:=C1 ao
 simp only [List.append_nil,Rows.uptoBulkAll] at hb
 obtain ⟨aD,rfl⟩:=okWide_string Tryz.underlying9 (C 0 9 v0 rfl rfl)
 obtain ⟨Z,am⟩:=h0
 obtain ⟨_,aq,ad,ay⟩:=(ui Tryz.underlying9 ai).op enc W Z _ _ _ am
 obtain ⟨aA,aC,aB,rfl⟩:=okWide_slice Tryz.underlying22 (C 1 22 v1 rfl rfl)
 obtain ⟨aa,an⟩:=ab
 obtain ⟨_,V,ae,al⟩:=(zn (GK (GJ Tryz.underlying3 ai) (zn (ui Tryz.underlying9 ai) Tryz.underlying31 ai aP) (ui Tryz.underlying9 ai) Tryz.underlying33 rfl rfl rfl rfl rfl rfl ai) Tryz.underlying22 ai aP).op enc W aa _ _ _ an
 have aj:=q6 W ac
 have M:=ad
 simp only [Value.cells,List.cons.injEq,and_true] at M
 rw [M] at L ⊢
 obtain ⟨ar,au,O,ah⟩:=Ic ae
 simp only [Value.slice.injEq] at O
 obtain ⟨rfl,rfl,rfl⟩:=O
 have az:(V.map il).sum+1≤_:=al
 exact G8 L U U U Tryz.underlying4 laidOut ai (CQ aq V _ _ W aj ag ah ag)
noncomputable def tL (os:Os):World:=
 {World.holding Tryz.prog os ⟨#[],#[],[]⟩ with heap:=(((((((((((((((((World.holding Tryz.prog os ⟨#[],#[],[]⟩).heap.modify 1 fun
  | .cells _ t frozen=> .cells (#[.iface 326 (.agg #[.pointer (some ⟨17,26,none⟩)])]) t frozen
  | o=>o).modify 16 fun
  | .cells _ t frozen=> .cells (#[.int .u8 128,.int .u8 191,.int .u8 160,.int .u8 191,.int .u8 128,.int .u8 159,.int .u8 144,.int .u8 191,.int .u8 128,.int .u8 143,.int .u8 0,.int .u8 0,.int .u8 0,.int .u8 0,.int .u8 0,.int .u8 0,.int .u8 0,.int .u8 0,.int .u8 0,.int .u8 0,.int .u8 0,.int .u8 0,.int .u8 0,.int .u8 0,.int .u8 0,.int .u8 0,.int .u8 0,.int .u8 0,.int .u8 0,.int .u8 0,.int .u8 0,.int .u8 0]) t frozen
  | o=>o).modify 2 fun
  | .cells _ t frozen=> .cells (#[.iface 482 (.pointer (some ⟨22,0,none⟩))]) t frozen
  | o=>o).modify 3 fun
  | .cells _ t frozen=> .cells (#[.iface 482 (.pointer (some ⟨23,0,none⟩))]) t frozen
  | o=>o).modify 9 fun
  | .cells _ t frozen=> .cells (#[.iface 482 (.pointer (some ⟨24,0,none⟩))]) t frozen
  | o=>o).modify 14 fun
  | .cells _ t frozen=> .cells (#[.iface 482 (.pointer (some ⟨25,0,none⟩))]) t frozen
  | o=>o).modify 10 fun
  | .cells _ t frozen=> .cells (#[.iface 482 (.pointer (some ⟨26,0,none⟩))]) t frozen
  | o=>o).modify 11 fun
  | .cells _ t frozen=> .cells (#[.iface 482 (.pointer (some ⟨27,0,none⟩))]) t frozen
  | o=>o).modify 0 fun
  | .cells _ t frozen=> .cells (#[.iface 482 (.pointer (some ⟨28,0,none⟩))]) t frozen
  | o=>o).modify 12 fun
  | .cells _ t frozen=> .cells (#[.iface 482 (.pointer (some ⟨29,0,none⟩))]) t frozen
  | o=>o).modify 13 fun
  | .cells _ t frozen=> .cells (#[.iface 482 (.pointer (some ⟨30,0,none⟩))]) t frozen
  | o=>o).modify 4 fun
  | .cells _ t frozen=> .cells (#[.iface 482 (.pointer (some ⟨31,0,none⟩))]) t frozen
  | o=>o).modify 7 fun
  | .cells _ t frozen=> .cells (#[.iface 482 (.pointer (some ⟨32,0,none⟩))]) t frozen
  | o=>o).modify 6 fun
  | .cells _ t frozen=> .cells (#[.iface 482 (.pointer (some ⟨33,0,none⟩))]) t frozen
  | o=>o).modify 5 fun
  | .cells _ t frozen=> .cells (#[.iface 482 (.pointer (some ⟨34,0,none⟩))]) t frozen
  | o=>o).modify 15 fun
  | .cells _ t frozen=> .cells ((Go.Pinned.utf8FirstZ.map fun n=>Value.int .u8 (n:Nat)).toArray) t frozen
  | o=>o)++ #[.cells #[.string ⟨⟨[110,111,32,111,98,106,101,99,116]⟩⟩] 500 (0,0),.cells #[.string ⟨⟨[97,32,110,117,109,98,101,114,32,111,117,116,32,111,102,32,105,116,115,32,114,97,110,103,101]⟩⟩] 500 (0,0),.cells #[.string ⟨⟨[110,111,32,115,117,99,104,32,114,117,110]⟩⟩] 500 (0,0),.cells #[.string ⟨⟨[116,104,101,32,114,117,110,32,105,115,32,115,101,97,108,101,100]⟩⟩] 500 (0,0),.cells #[.string ⟨⟨[116,104,101,32,114,117,110,32,105,115,32,110,111,116,32,115,101,97,108,101,100]⟩⟩] 500 (0,0),.cells #[.string ⟨⟨[110,111,32,115,117,99,104,32,112,108,97,99,101,32,105,110,32,116,104,101,32,114,117,110]⟩⟩] 500 (0,0),.cells #[.string ⟨⟨[116,104,101,32,115,116,111,114,101,32,105,115,32,102,117,108,108]⟩⟩] 500 (0,0),.cells #[.string ⟨⟨[110,111,32,114,117,110,32,110,117,109,98,101,114,32,105,115,32,108,101,102,116]⟩⟩] 500 (0,0),.cells #[.string ⟨⟨[116,104,101,32,115,116,111,114,101,32,114,101,102,117,115,101,100,32,97,32,115,116,101,112]⟩⟩] 500 (0,0),.cells #[.string ⟨⟨[116,104,101,32,114,101,99,111,114,100,32,105,115,32,116,111,111,32,108,111,110,103]⟩⟩] 500 (0,0),.cells #[.string ⟨⟨[116,104,101,32,114,117,110,32,105,115,32,116,111,114,110]⟩⟩] 500 (0,0),.cells #[.string ⟨⟨[97,32,114,117,110,32,105,115,32,110,97,109,101,100,32,116,119,105,99,101]⟩⟩] 500 (0,0),.cells #[.string ⟨⟨[99,108,111,115,101,100]⟩⟩] 500 (0,0)]}
set_option maxRecDepth 100000 in
theorem FK (os:Os):laidMetH Tryz.prog Rows.ownBackUptoRow.laid ((tL os).forCall (fun _ _=>0) ⟨#[],#[.string ⟨⟨[]⟩⟩,.slice none 0 0],[]⟩).memory:=
 laidMetH_of_parts3 (fuel:=8) (laidMet_of_run' 8 ai ai) ai ai
theorem reads (os:Os) {H:Type} (enc:TypeId×Value→H):∃ A,DataW.whole enc Tryz.prog ((tL os).forCall (fun _ _=>0) ⟨#[],#[.string ⟨⟨[]⟩⟩,.slice none 0 0],[]⟩).memory Tryz.f3.params.toList Rows.ownBackSpec.vars false #[.string ⟨⟨[]⟩⟩,.slice none 0 0].toList 8=some ([.lit (.string []),.nil],[],A):=
 ⟨[],ai⟩
set_option maxRecDepth 100000 in
theorem lifted (os:Os) (started:os.Started) (H:Type) (enc:TypeId×Value→H) (F:Stop.Interp):
 ReturnsInHanded {} Tryz.checked os 3 .any ((Rows.OpenSpec.upto Rows.ownBackSpec).preRow enc Tryz.prog Tryz.f3 Rows.ownBackUptoRow.domain false Rows.ownBackUptoRow.laid) (((Rows.OpenSpec.upto Rows.ownBackSpec).at F).post enc Tryz.prog Tryz.f3 false true false false):=by
 obtain ⟨U,O⟩:=reads os enc
 refine returnsInHanded_of_row (C:=Tryz.checked) (s:=Rows.OpenSpec.upto Rows.ownBackSpec) own started ai Tryz.func3
  (witness_row_atRef (enc:=enc) (C:=Tryz.checked) false (tL os) #[.string ⟨⟨[]⟩⟩,.slice none 0 0] rfl ai ai ai
   (OpenSpec.preRow_of_cond 8 O ai (fun k L=>by cases L; kernel_rfl) ai (FK os))) ?_
 intro W base args A gs before M I _ J _ E _ _
 exact DA H enc W base args A gs before M I (J _ rfl) E
theorem b9 {a b:Bool} (h:a=true) (k:b=true):(a && b)=true :=by rw [h,k]; rfl
theorem Fw:(Rows.ownBackUptoRow.inPlace==Tryz.pinned.checked.prog.inPlace 3)=true :=ai
theorem Fy:(Rows.ownBackUptoRow.unfollowed==Tryz.pinned.checked.prog.unfollowed 3)=true :=ai
theorem Fz:(Rows.ownBackUptoRow.recurses==Tryz.pinned.checked.prog.recurses 3)=true :=ai
theorem FA:(Rows.ownBackUptoRow.named==Tryz.pinned.checked.prog.varsNamed 3)=true :=ai
theorem FB:(Rows.ownBackUptoRow.lifted==Tryz.pinned.checked.prog.liftsFinal)=true :=ai
theorem jf:joinedFacts Tryz.pinned.checked.prog 3 Tryz.f3 (Rows.OpenSpec.upto Rows.ownBackSpec).bare Rows.ownBackUptoRow=true :=
 b9 (b9 (b9 (b9 (b9 (b9 (b9 (b9 (b9 (b9 (b9 (b9 (b9 (b9 (b9 (b9 (b9 (b9 (b9 (b9 (b9 (b9 (b9 (b9 (b9 (b9 (b9 (b9 (b9 (b9 (b9 ai ai) ai) ai) ai) ai) ai) ai) ai) Fw) Fy) Fz) FA) ai) ai) ai) ai) ai) ai) ai) ai) ai) ai) ai) ai) ai) FB) ai) ai) ai) ai) ai
theorem said:Rows.OwnBackUptoSaid:=
 OpenClaim.holds_of_cond 3 Tryz.f3 rfl rfl rfl rfl rfl rfl rfl ⟨rfl,rfl,rfl,rfl,rfl⟩ rfl rfl rfl rfl rfl ai Tryz.func3 jf
  (of_decide_eq_true ai) (by unfold Func.isWrapper; first | (rw [if_pos (by decide+kernel)]; kernel_rfl) | (rw [if_neg (by decide+kernel)]; exact ⟨rfl,rfl⟩))
  (fun os started H enc _ F=>by rw [OpenClaim.pre_eq_preRow]; exact lifted os started H enc F)
theorem plain (f:FuncId) (fn:Func) (C:Tryz.pinned.checked.prog.funcNamed "hornbook/hornbooklaw28.OwnBack" =some f) (E:Tryz.pinned.checked.prog.funcs[f]? =some fn):
 true =Tryz.pinned.checked.prog.looks []∧∀ (j:Nat) t,fn.params[j]? =some t→Tryz.pinned.checked.prog.wantsStandIn t=false :=by
 obtain rfl :f=3:=Option.some.inj ((show Tryz.prog.funcNamed "hornbook/hornbooklaw28.OwnBack" =some 3 by kernel_rfl).symm.trans C) |>.symm
 obtain rfl :fn=Tryz.f3:=(Option.some.inj (Tryz.func3.symm.trans E)).symm
 refine ⟨ai,fun j t A=> ?_⟩
 rw [Tryz.params3] at A
 have hm:=Array.mem_of_getElem? A
 simp only [List.mem_toArray,List.mem_cons,List.not_mem_nil,or_false] at hm
 rcases hm with rfl | rfl
 · exact (show Tryz.prog.wantsStandIn 9=false by kernel_rfl)
 · exact (show Tryz.prog.wantsStandIn 22=false by kernel_rfl)
theorem holds:Rows.OwnBackUptoCardSaid:=
 Claim7.holds_tied_plain_at .later [] _ _ _ _ said (fun _ h=>by cases h) ai (fun _ h=>by cases h) ownBackUpto_row_tie rfl ⟨rfl,rfl⟩ ai rfl plain ai
#print axioms holds
end Go.Proofs.YtbogmhohloohhaaGreatDoor.ownBack
