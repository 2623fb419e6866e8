/-
  The law OwnNone holds of every input of bulk at most 1,048,576: the call returns true and leaves its arguments as they were. Conditions: none but the statement's own bound on the arguments' bulk.
-/
import Derived.Test.YtbogmhohloohhaaGreatDoorMnOwnNone4
import Derived.Test.YtbogmhohloohhaaGreatDoorRows
import Derived.LaidMore
import Derived.LaidOnce
import Derived.Deep.DeepWitnessRowRef
import Derived.Stop.Joined
import Derived.Test.YtbogmhohloohhaaGreatDoorCards
import Derived.Test.YtbogmhohloohhaaGreatDoorTie
import Derived.WalkKit
import Derived.ProofKit
import Derived.OpenShut
import Derived.Deep.DeepHandedRow
import Derived.Lib.LaidTab
set_option linter.unusedVariables false
namespace Go.Proofs.YtbogmhohloohhaaGreatDoor.ownNone
open Go.Hb Go.Hb.rz Go.Hb.lr Go.ChangeShapes Go.WideShapes Go.ChangeAt Go.RowKit
theorem own:ownKnob Tryz.prog.godebug=none:=ah
theorem laidOut:laidOutB Tryz.prog=true :=ah
theorem star: "*" ++ "errors.errorString" = "*errors.errorString" :=bH
theorem eR (u:TypeId) (h:Tryz.prog.typeName? 3 u=some "*errors.errorString"):u=482:=
 typeName_ptr_named (nm:= "errors.errorString") (by rw [star]; kernel_rfl) ah bH u (by rw [star]; exact h)
theorem zO:(Rows.ownNoneUptoRow.laid.filter fun x=>x.2.handleName?.isSome)= [("errors.errorType",Rows.laid_errors_errorType)]:=ah
theorem zP:(Rows.ownNoneUptoRow.laid.filter fun x=>x.2.handleName?.isNone)= [("unicode/utf8.acceptRanges",Rows.laid_unicode_utf8_acceptRanges),("hornbook/api.FailNil",Rows.laid_hornbook_api_FailNil),("hornbook/api.FailLimits",Rows.laid_hornbook_api_FailLimits),("hornbook/api.FailNoRun",Rows.laid_hornbook_api_FailNoRun),("hornbook/api.FailSealed",Rows.laid_hornbook_api_FailSealed),("hornbook/api.FailOpen",Rows.laid_hornbook_api_FailOpen),("hornbook/api.FailRange",Rows.laid_hornbook_api_FailRange),("hornbook/api.FailFull",Rows.laid_hornbook_api_FailFull),("hornbook/api.FailSpent",Rows.laid_hornbook_api_FailSpent),("hornbook/api.FailBroken",Rows.laid_hornbook_api_FailBroken),("hornbook/api.FailRecord",Rows.laid_hornbook_api_FailRecord),("hornbook/api.FailTorn",Rows.laid_hornbook_api_FailTorn),("hornbook/api.FailSame",Rows.laid_hornbook_api_FailSame),("hornbook/api.FailClosed",Rows.laid_hornbook_api_FailClosed),("unicode/utf8.first",Rows.laid_unicode_utf8_first)]:=ah
theorem nT (W:World) (h:laidMetH Tryz.prog Rows.ownNoneUptoRow.laid W):bL 482 jA W:=by
 unfold laidMetH at h
 rw [zO] at h
 have h0:=h.1
 rw [zP] at h0
 have A:=laidMet.tail h0
 have s1:=eT A (show Tryz.prog.globalNamed "hornbook/api.FailNil" =some 2 by kernel_rfl) (show (Tryz.prog.globals[2]?).map (·.type)=some 26 by kernel_rfl) Tryz.underlying26 eR Tryz.underlying482 Tryz.underlying500 rfl rfl Tryz.underlying9 ah ah
 have J:=laidMet.tail A
 have s2:=eT J (show Tryz.prog.globalNamed "hornbook/api.FailLimits" =some 3 by kernel_rfl) (show (Tryz.prog.globals[3]?).map (·.type)=some 26 by kernel_rfl) Tryz.underlying26 eR Tryz.underlying482 Tryz.underlying500 rfl rfl Tryz.underlying9 ah ah
 have L:=laidMet.tail J
 have ai:=eT L (show Tryz.prog.globalNamed "hornbook/api.FailNoRun" =some 9 by kernel_rfl) (show (Tryz.prog.globals[9]?).map (·.type)=some 26 by kernel_rfl) Tryz.underlying26 eR Tryz.underlying482 Tryz.underlying500 rfl rfl Tryz.underlying9 ah ah
 have M:=laidMet.tail L
 have aj:=eT M (show Tryz.prog.globalNamed "hornbook/api.FailSealed" =some 14 by kernel_rfl) (show (Tryz.prog.globals[14]?).map (·.type)=some 26 by kernel_rfl) Tryz.underlying26 eR Tryz.underlying482 Tryz.underlying500 rfl rfl Tryz.underlying9 ah ah
 have O:=laidMet.tail M
 have ak:=eT O (show Tryz.prog.globalNamed "hornbook/api.FailOpen" =some 10 by kernel_rfl) (show (Tryz.prog.globals[10]?).map (·.type)=some 26 by kernel_rfl) Tryz.underlying26 eR Tryz.underlying482 Tryz.underlying500 rfl rfl Tryz.underlying9 ah ah
 have U:=laidMet.tail O
 have al:=eT U (show Tryz.prog.globalNamed "hornbook/api.FailRange" =some 11 by kernel_rfl) (show (Tryz.prog.globals[11]?).map (·.type)=some 26 by kernel_rfl) Tryz.underlying26 eR Tryz.underlying482 Tryz.underlying500 rfl rfl Tryz.underlying9 ah ah
 have V:=laidMet.tail U
 have am:=eT V (show Tryz.prog.globalNamed "hornbook/api.FailFull" =some 0 by kernel_rfl) (show (Tryz.prog.globals[0]?).map (·.type)=some 26 by kernel_rfl) Tryz.underlying26 eR Tryz.underlying482 Tryz.underlying500 rfl rfl Tryz.underlying9 ah ah
 have Z:=laidMet.tail V
 have an:=eT Z (show Tryz.prog.globalNamed "hornbook/api.FailSpent" =some 12 by kernel_rfl) (show (Tryz.prog.globals[12]?).map (·.type)=some 26 by kernel_rfl) Tryz.underlying26 eR Tryz.underlying482 Tryz.underlying500 rfl rfl Tryz.underlying9 ah ah
 have aa:=laidMet.tail Z
 have ao:=eT aa (show Tryz.prog.globalNamed "hornbook/api.FailBroken" =some 13 by kernel_rfl) (show (Tryz.prog.globals[13]?).map (·.type)=some 26 by kernel_rfl) Tryz.underlying26 eR Tryz.underlying482 Tryz.underlying500 rfl rfl Tryz.underlying9 ah ah
 have C:=laidMet.tail aa
 have ac:=eT C (show Tryz.prog.globalNamed "hornbook/api.FailRecord" =some 4 by kernel_rfl) (show (Tryz.prog.globals[4]?).map (·.type)=some 26 by kernel_rfl) Tryz.underlying26 eR Tryz.underlying482 Tryz.underlying500 rfl rfl Tryz.underlying9 ah ah
 have E:=laidMet.tail C
 have ad:=eT E (show Tryz.prog.globalNamed "hornbook/api.FailTorn" =some 7 by kernel_rfl) (show (Tryz.prog.globals[7]?).map (·.type)=some 26 by kernel_rfl) Tryz.underlying26 eR Tryz.underlying482 Tryz.underlying500 rfl rfl Tryz.underlying9 ah ah
 have I:=laidMet.tail E
 have ae:=eT I (show Tryz.prog.globalNamed "hornbook/api.FailSame" =some 6 by kernel_rfl) (show (Tryz.prog.globals[6]?).map (·.type)=some 26 by kernel_rfl) Tryz.underlying26 eR Tryz.underlying482 Tryz.underlying500 rfl rfl Tryz.underlying9 ah ah
 have ab:=laidMet.tail I
 have ag:=eT ab (show Tryz.prog.globalNamed "hornbook/api.FailClosed" =some 5 by kernel_rfl) (show (Tryz.prog.globals[5]?).map (·.type)=some 26 by kernel_rfl) Tryz.underlying26 eR Tryz.underlying482 Tryz.underlying500 rfl rfl Tryz.underlying9 ah ah
 exact bL.sub (bL.cons (g:=2) s1 (bL.cons (g:=3) s2 (bL.cons (g:=9) ai (bL.cons (g:=14) aj (bL.cons (g:=10) ak (bL.cons (g:=11) al (bL.cons (g:=0) am (bL.cons (g:=12) an (bL.cons (g:=13) ao (bL.cons (g:=4) ac (bL.cons (g:=7) ad (bL.cons (g:=6) ae (bL.cons (g:=5) ag (bL.nil)))))))))))))) bH
set_option maxRecDepth 100000 in
theorem yy (H:Type) (enc:TypeId×Value→H) (W:World) (base:Nat) (args:Array Value) (A gs:List (DataW H)) (before:List MemPlace)
 (L:∀ (j:Nat) t v,Tryz.f4.params[j]? =some t→args[j]? =some v→Value.okWide Tryz.prog W .any base t v)
 (I:DataW.Whole enc Tryz.prog Tryz.f4.params.toList Rows.ownNoneSpec.vars false W args.toList A gs before) (aj:Rows.uptoSmall H (A++gs)=true) (V:laidMetH Tryz.prog Rows.ownNoneUptoRow.laid W):
 Calls Tryz.prog 4 args W fun e W'=> ∃ v,e= .returned v∧Rows.ownNoneSpec.post enc Tryz.prog Tryz.f4 false true false false W args v W':=by
 have ad:=I
 obtain ⟨p,q,E,ac,rfl,_,_⟩:=I
 have C:DataW.TrodAll enc Tryz.prog W 0 (fun _=>true) true Tryz.f4.params.toList args.toList A p:=E
 rw [Tryz.params4] at C L
 obtain ⟨v0,av,d0,al,ar,au,am,rfl,rfl,h0,r0⟩:=trodAll_cons C
 obtain ⟨rfl,rfl,rfl⟩:=trodAll_nil r0
 obtain rfl :args= #[v0]:=by cases args; simp_all
 obtain ⟨rfl,rfl⟩:=trodVars_none ac
 clear E
 have hb:=xU aj
 simp only [List.append_nil,Rows.uptoBulkAll] at hb
 obtain ⟨ao,aq,ap,rfl⟩:=okWide_slice Tryz.underlying22 (L 0 22 v0 rfl rfl)
 obtain ⟨O,ai⟩:=h0
 obtain ⟨_,M,Z,ae⟩:=(uh (AA (Az Tryz.underlying3 ah) (uh (ui Tryz.underlying9 ah) Tryz.underlying31 ah bH) (ui Tryz.underlying9 ah) Tryz.underlying33 rfl rfl rfl rfl rfl rfl ah) Tryz.underlying22 ah bH).op enc W O _ _ _ ai
 have ab:=nT W V
 obtain ⟨a0,ak,J,aa⟩:=Bu Z
 simp only [Value.slice.injEq] at J
 obtain ⟨rfl,rfl,rfl⟩:=J
 have an:(M.map fl).sum+1≤_:=ae
 exact AX ad U U U Tryz.underlying4 laidOut ah (Ao M _ _ W ab aa ag)
noncomputable def pQ (os:Os):World:=
 {World.holding Tryz.prog os ⟨#[],#[],[]⟩ with heap:=(((((((((((((((((World.holding Tryz.prog os ⟨#[],#[],[]⟩).heap.modify 1 fun
  | .cells _ t frozen=> .cells (#[.iface 326 (.agg #[.pointer (some ⟨17,26,none⟩)])]) t frozen
  | o=>o).modify 16 fun
  | .cells _ t frozen=> .cells (#[.int .u8 128,.int .u8 191,.int .u8 160,.int .u8 191,.int .u8 128,.int .u8 159,.int .u8 144,.int .u8 191,.int .u8 128,.int .u8 143,.int .u8 0,.int .u8 0,.int .u8 0,.int .u8 0,.int .u8 0,.int .u8 0,.int .u8 0,.int .u8 0,.int .u8 0,.int .u8 0,.int .u8 0,.int .u8 0,.int .u8 0,.int .u8 0,.int .u8 0,.int .u8 0,.int .u8 0,.int .u8 0,.int .u8 0,.int .u8 0,.int .u8 0,.int .u8 0]) t frozen
  | o=>o).modify 2 fun
  | .cells _ t frozen=> .cells (#[.iface 482 (.pointer (some ⟨22,0,none⟩))]) t frozen
  | o=>o).modify 3 fun
  | .cells _ t frozen=> .cells (#[.iface 482 (.pointer (some ⟨23,0,none⟩))]) t frozen
  | o=>o).modify 9 fun
  | .cells _ t frozen=> .cells (#[.iface 482 (.pointer (some ⟨24,0,none⟩))]) t frozen
  | o=>o).modify 14 fun
  | .cells _ t frozen=> .cells (#[.iface 482 (.pointer (some ⟨25,0,none⟩))]) t frozen
  | o=>o).modify 10 fun
  | .cells _ t frozen=> .cells (#[.iface 482 (.pointer (some ⟨26,0,none⟩))]) t frozen
  | o=>o).modify 11 fun
  | .cells _ t frozen=> .cells (#[.iface 482 (.pointer (some ⟨27,0,none⟩))]) t frozen
  | o=>o).modify 0 fun
  | .cells _ t frozen=> .cells (#[.iface 482 (.pointer (some ⟨28,0,none⟩))]) t frozen
  | o=>o).modify 12 fun
  | .cells _ t frozen=> .cells (#[.iface 482 (.pointer (some ⟨29,0,none⟩))]) t frozen
  | o=>o).modify 13 fun
  | .cells _ t frozen=> .cells (#[.iface 482 (.pointer (some ⟨30,0,none⟩))]) t frozen
  | o=>o).modify 4 fun
  | .cells _ t frozen=> .cells (#[.iface 482 (.pointer (some ⟨31,0,none⟩))]) t frozen
  | o=>o).modify 7 fun
  | .cells _ t frozen=> .cells (#[.iface 482 (.pointer (some ⟨32,0,none⟩))]) t frozen
  | o=>o).modify 6 fun
  | .cells _ t frozen=> .cells (#[.iface 482 (.pointer (some ⟨33,0,none⟩))]) t frozen
  | o=>o).modify 5 fun
  | .cells _ t frozen=> .cells (#[.iface 482 (.pointer (some ⟨34,0,none⟩))]) t frozen
  | o=>o).modify 15 fun
  | .cells _ t frozen=> .cells ((Go.Pinned.utf8FirstZ.map fun n=>Value.int .u8 (n:Nat)).toArray) t frozen
  | o=>o)++ #[.cells #[.string ⟨⟨[110,111,32,111,98,106,101,99,116]⟩⟩] 500 (0,0),.cells #[.string ⟨⟨[97,32,110,117,109,98,101,114,32,111,117,116,32,111,102,32,105,116,115,32,114,97,110,103,101]⟩⟩] 500 (0,0),.cells #[.string ⟨⟨[110,111,32,115,117,99,104,32,114,117,110]⟩⟩] 500 (0,0),.cells #[.string ⟨⟨[116,104,101,32,114,117,110,32,105,115,32,115,101,97,108,101,100]⟩⟩] 500 (0,0),.cells #[.string ⟨⟨[116,104,101,32,114,117,110,32,105,115,32,110,111,116,32,115,101,97,108,101,100]⟩⟩] 500 (0,0),.cells #[.string ⟨⟨[110,111,32,115,117,99,104,32,112,108,97,99,101,32,105,110,32,116,104,101,32,114,117,110]⟩⟩] 500 (0,0),.cells #[.string ⟨⟨[116,104,101,32,115,116,111,114,101,32,105,115,32,102,117,108,108]⟩⟩] 500 (0,0),.cells #[.string ⟨⟨[110,111,32,114,117,110,32,110,117,109,98,101,114,32,105,115,32,108,101,102,116]⟩⟩] 500 (0,0),.cells #[.string ⟨⟨[116,104,101,32,115,116,111,114,101,32,114,101,102,117,115,101,100,32,97,32,115,116,101,112]⟩⟩] 500 (0,0),.cells #[.string ⟨⟨[116,104,101,32,114,101,99,111,114,100,32,105,115,32,116,111,111,32,108,111,110,103]⟩⟩] 500 (0,0),.cells #[.string ⟨⟨[116,104,101,32,114,117,110,32,105,115,32,116,111,114,110]⟩⟩] 500 (0,0),.cells #[.string ⟨⟨[97,32,114,117,110,32,105,115,32,110,97,109,101,100,32,116,119,105,99,101]⟩⟩] 500 (0,0),.cells #[.string ⟨⟨[99,108,111,115,101,100]⟩⟩] 500 (0,0)]}
set_option maxRecDepth 100000 in
theorem zQ (os:Os):laidMetH Tryz.prog Rows.ownNoneUptoRow.laid ((pQ os).forCall (fun _ _=>0) ⟨#[],#[.slice none 0 0],[]⟩).memory:=
 laidMetH_of_parts3 (fuel:=8) (laidMet_of_run' 8 ah ah) ah ah
theorem reads (os:Os) {H:Type} (enc:TypeId×Value→H):∃ A,DataW.whole enc Tryz.prog ((pQ os).forCall (fun _ _=>0) ⟨#[],#[.slice none 0 0],[]⟩).memory Tryz.f4.params.toList Rows.ownNoneSpec.vars false #[.slice none 0 0].toList 8=some ([.nil],[],A):=
 ⟨[],ah⟩
set_option maxRecDepth 100000 in
theorem lifted (os:Os) (started:os.Started) (H:Type) (enc:TypeId×Value→H) (F:Stop.Interp):
 ReturnsInHanded {} Tryz.checked os 4 .any ((Rows.OpenSpec.upto Rows.ownNoneSpec).preRow enc Tryz.prog Tryz.f4 Rows.ownNoneUptoRow.domain false Rows.ownNoneUptoRow.laid) (((Rows.OpenSpec.upto Rows.ownNoneSpec).at F).post enc Tryz.prog Tryz.f4 false true false false):=by
 obtain ⟨U,O⟩:=reads os enc
 refine returnsInHanded_of_row (C:=Tryz.checked) (s:=Rows.OpenSpec.upto Rows.ownNoneSpec) own started ah Tryz.func4
  (witness_row_atRef (enc:=enc) (C:=Tryz.checked) false (pQ os) #[.slice none 0 0] rfl ah ah ah
   (OpenSpec.preRow_of_cond 8 O ah (fun k L=>by cases L; kernel_rfl) ah (zQ os))) ?_
 intro W base args A gs before M I _ J _ E _ _
 exact yy H enc W base args A gs before M I (J _ rfl) E
theorem bJ {a b:Bool} (h:a=true) (k:b=true):(a && b)=true :=by rw [h,k]; rfl
theorem zD:(Rows.ownNoneUptoRow.inPlace==Tryz.pinned.checked.prog.inPlace 4)=true :=ah
theorem zE:(Rows.ownNoneUptoRow.unfollowed==Tryz.pinned.checked.prog.unfollowed 4)=true :=ah
theorem zF:(Rows.ownNoneUptoRow.recurses==Tryz.pinned.checked.prog.recurses 4)=true :=ah
theorem zG:(Rows.ownNoneUptoRow.named==Tryz.pinned.checked.prog.varsNamed 4)=true :=ah
theorem zH:(Rows.ownNoneUptoRow.lifted==Tryz.pinned.checked.prog.liftsFinal)=true :=ah
theorem jf:joinedFacts Tryz.pinned.checked.prog 4 Tryz.f4 (Rows.OpenSpec.upto Rows.ownNoneSpec).bare Rows.ownNoneUptoRow=true :=
 bJ (bJ (bJ (bJ (bJ (bJ (bJ (bJ (bJ (bJ (bJ (bJ (bJ (bJ (bJ (bJ (bJ (bJ (bJ (bJ (bJ (bJ (bJ (bJ (bJ (bJ (bJ (bJ (bJ (bJ (bJ ah ah) ah) ah) ah) ah) ah) ah) ah) zD) zE) zF) zG) ah) ah) ah) ah) ah) ah) ah) ah) ah) ah) ah) ah) ah) zH) ah) ah) ah) ah) ah
theorem said:Rows.OwnNoneUptoSaid:=
 OpenClaim.holds_of_cond 4 Tryz.f4 rfl rfl rfl rfl rfl rfl rfl ⟨rfl,rfl,rfl,rfl,rfl⟩ rfl rfl rfl rfl rfl ah Tryz.func4 jf
  (of_decide_eq_true ah) (by unfold Func.isWrapper; first | (rw [if_pos (by decide+kernel)]; kernel_rfl) | (rw [if_neg (by decide+kernel)]; exact ⟨rfl,rfl⟩))
  (fun os started H enc _ F=>by rw [OpenClaim.pre_eq_preRow]; exact lifted os started H enc F)
theorem plain (f:FuncId) (fn:Func) (C:Tryz.pinned.checked.prog.funcNamed "hornbook/hornbooklaw28.OwnNone" =some f) (E:Tryz.pinned.checked.prog.funcs[f]? =some fn):
 true =Tryz.pinned.checked.prog.looks []∧∀ (j:Nat) t,fn.params[j]? =some t→Tryz.pinned.checked.prog.wantsStandIn t=false :=by
 obtain rfl :f=4:=Option.some.inj ((show Tryz.prog.funcNamed "hornbook/hornbooklaw28.OwnNone" =some 4 by kernel_rfl).symm.trans C) |>.symm
 obtain rfl :fn=Tryz.f4:=(Option.some.inj (Tryz.func4.symm.trans E)).symm
 refine ⟨ah,fun j t A=> ?_⟩
 rw [Tryz.params4] at A
 have hm:=Array.mem_of_getElem? A
 simp only [List.mem_toArray,List.mem_cons,List.not_mem_nil,or_false] at hm
 rcases hm with rfl
 · exact (show Tryz.prog.wantsStandIn 22=false by kernel_rfl)
theorem holds:Rows.OwnNoneUptoCardSaid:=
 Claim7.holds_tied_plain_at .later [] _ _ _ _ said (fun _ h=>by cases h) ah (fun _ h=>by cases h) ownNoneUpto_row_tie rfl ⟨rfl,rfl⟩ ah rfl plain ah
#print axioms holds
end Go.Proofs.YtbogmhohloohhaaGreatDoor.ownNone
