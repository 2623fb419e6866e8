/-
  The law BookAsks: what its call needs and gives. Conditions: none.
-/
import Derived.Test.YtjaoldaegkmkjaaGreatDoorMnBookAsks6
import Derived.Test.YtjaoldaegkmkjaaGreatDoorRows
import Derived.LaidMore
import Derived.LaidOnce
import Derived.Deep.DeepWitnessRowRef
import Derived.Stop.Joined
import Derived.Test.YtjaoldaegkmkjaaGreatDoorCards
import Derived.Test.YtjaoldaegkmkjaaGreatDoorTie
import Derived.WalkKit
import Derived.ProofKit
import Derived.OpenShut
import Derived.Deep.DeepHandedRow
import Derived.Lib.LaidTab
set_option linter.unusedVariables false
namespace Go.Proofs.YtjaoldaegkmkjaaGreatDoor.bookAsks
open Go.Hb Go.ChangeShapes Go.WideShapes Go.ChangeAt Go.RowKit
theorem own:ownKnob Tryz.prog.godebug=none:=aq
theorem laidOut:laidOutB Tryz.prog=true :=aq
theorem star: "*" ++ "errors.errorString" = "*errors.errorString" :=aX
theorem g9 (u:TypeId) (h:Tryz.prog.typeName? 3 u=some "*errors.errorString"):u=520:=
 typeName_ptr_named (nm:= "errors.errorString") (by rw [star]; kernel_rfl) aq aX u (by rw [star]; exact h)
theorem Hz:(Rows.bookAsksUptoRow.laid.filter fun x=>x.2.handleName?.isSome)= [("errors.errorType",Rows.laid_errors_errorType)]:=aq
theorem HA:(Rows.bookAsksUptoRow.laid.filter fun x=>x.2.handleName?.isNone)= [("unicode/utf8.acceptRanges",Rows.laid_unicode_utf8_acceptRanges),("hornbook/api.FailNil",Rows.laid_hornbook_api_FailNil),("hornbook/api.FailLimits",Rows.laid_hornbook_api_FailLimits),("hornbook/api.FailNoRun",Rows.laid_hornbook_api_FailNoRun),("hornbook/api.FailSealed",Rows.laid_hornbook_api_FailSealed),("hornbook/api.FailOpen",Rows.laid_hornbook_api_FailOpen),("hornbook/api.FailRange",Rows.laid_hornbook_api_FailRange),("hornbook/api.FailFull",Rows.laid_hornbook_api_FailFull),("hornbook/api.FailSpent",Rows.laid_hornbook_api_FailSpent),("hornbook/api.FailBroken",Rows.laid_hornbook_api_FailBroken),("hornbook/api.FailRecord",Rows.laid_hornbook_api_FailRecord),("hornbook/api.FailTorn",Rows.laid_hornbook_api_FailTorn),("hornbook/api.FailSame",Rows.laid_hornbook_api_FailSame),("hornbook/api.FailClosed",Rows.laid_hornbook_api_FailClosed),("unicode/utf8.first",Rows.laid_unicode_utf8_first)]:=aq
theorem wx (W:World) (h:laidMetH Tryz.prog Rows.bookAsksUptoRow.laid W):cT 520 bY W:=by
 unfold laidMetH at h
 rw [Hz] at h
 have h0:=h.1
 rw [HA] at h0
 have h1:=laidMet.tail h0
 have s1:=hZ h1 (show Tryz.prog.globalNamed "hornbook/api.FailNil" =some 2 by kernel_rfl) (show (Tryz.prog.globals[2]?).map (·.type)=some 24 by kernel_rfl) Tryz.underlying24 g9 Tryz.underlying520 Tryz.underlying538 rfl rfl Tryz.underlying9 aq aq
 have I:=laidMet.tail h1
 have s2:=hZ I (show Tryz.prog.globalNamed "hornbook/api.FailLimits" =some 3 by kernel_rfl) (show (Tryz.prog.globals[3]?).map (·.type)=some 24 by kernel_rfl) Tryz.underlying24 g9 Tryz.underlying520 Tryz.underlying538 rfl rfl Tryz.underlying9 aq aq
 have J:=laidMet.tail I
 have ah:=hZ J (show Tryz.prog.globalNamed "hornbook/api.FailNoRun" =some 8 by kernel_rfl) (show (Tryz.prog.globals[8]?).map (·.type)=some 24 by kernel_rfl) Tryz.underlying24 g9 Tryz.underlying520 Tryz.underlying538 rfl rfl Tryz.underlying9 aq aq
 have L:=laidMet.tail J
 have ai:=hZ L (show Tryz.prog.globalNamed "hornbook/api.FailSealed" =some 14 by kernel_rfl) (show (Tryz.prog.globals[14]?).map (·.type)=some 24 by kernel_rfl) Tryz.underlying24 g9 Tryz.underlying520 Tryz.underlying538 rfl rfl Tryz.underlying9 aq aq
 have M:=laidMet.tail L
 have aj:=hZ M (show Tryz.prog.globalNamed "hornbook/api.FailOpen" =some 9 by kernel_rfl) (show (Tryz.prog.globals[9]?).map (·.type)=some 24 by kernel_rfl) Tryz.underlying24 g9 Tryz.underlying520 Tryz.underlying538 rfl rfl Tryz.underlying9 aq aq
 have O:=laidMet.tail M
 have ak:=hZ O (show Tryz.prog.globalNamed "hornbook/api.FailRange" =some 10 by kernel_rfl) (show (Tryz.prog.globals[10]?).map (·.type)=some 24 by kernel_rfl) Tryz.underlying24 g9 Tryz.underlying520 Tryz.underlying538 rfl rfl Tryz.underlying9 aq aq
 have U:=laidMet.tail O
 have al:=hZ U (show Tryz.prog.globalNamed "hornbook/api.FailFull" =some 0 by kernel_rfl) (show (Tryz.prog.globals[0]?).map (·.type)=some 24 by kernel_rfl) Tryz.underlying24 g9 Tryz.underlying520 Tryz.underlying538 rfl rfl Tryz.underlying9 aq aq
 have V:=laidMet.tail U
 have am:=hZ V (show Tryz.prog.globalNamed "hornbook/api.FailSpent" =some 11 by kernel_rfl) (show (Tryz.prog.globals[11]?).map (·.type)=some 24 by kernel_rfl) Tryz.underlying24 g9 Tryz.underlying520 Tryz.underlying538 rfl rfl Tryz.underlying9 aq aq
 have Z:=laidMet.tail V
 have an:=hZ Z (show Tryz.prog.globalNamed "hornbook/api.FailBroken" =some 13 by kernel_rfl) (show (Tryz.prog.globals[13]?).map (·.type)=some 24 by kernel_rfl) Tryz.underlying24 g9 Tryz.underlying520 Tryz.underlying538 rfl rfl Tryz.underlying9 aq aq
 have A:=laidMet.tail Z
 have ac:=hZ A (show Tryz.prog.globalNamed "hornbook/api.FailRecord" =some 4 by kernel_rfl) (show (Tryz.prog.globals[4]?).map (·.type)=some 24 by kernel_rfl) Tryz.underlying24 g9 Tryz.underlying520 Tryz.underlying538 rfl rfl Tryz.underlying9 aq aq
 have C:=laidMet.tail A
 have ad:=hZ C (show Tryz.prog.globalNamed "hornbook/api.FailTorn" =some 7 by kernel_rfl) (show (Tryz.prog.globals[7]?).map (·.type)=some 24 by kernel_rfl) Tryz.underlying24 g9 Tryz.underlying520 Tryz.underlying538 rfl rfl Tryz.underlying9 aq aq
 have E:=laidMet.tail C
 have ae:=hZ E (show Tryz.prog.globalNamed "hornbook/api.FailSame" =some 6 by kernel_rfl) (show (Tryz.prog.globals[6]?).map (·.type)=some 24 by kernel_rfl) Tryz.underlying24 g9 Tryz.underlying520 Tryz.underlying538 rfl rfl Tryz.underlying9 aq aq
 have ab:=laidMet.tail E
 have ag:=hZ ab (show Tryz.prog.globalNamed "hornbook/api.FailClosed" =some 5 by kernel_rfl) (show (Tryz.prog.globals[5]?).map (·.type)=some 24 by kernel_rfl) Tryz.underlying24 g9 Tryz.underlying520 Tryz.underlying538 rfl rfl Tryz.underlying9 aq aq
 exact cT.sub (cT.cons (g:=2) s1 (cT.cons (g:=3) s2 (cT.cons (g:=8) ah (cT.cons (g:=14) ai (cT.cons (g:=9) aj (cT.cons (g:=10) ak (cT.cons (g:=0) al (cT.cons (g:=11) am (cT.cons (g:=13) an (cT.cons (g:=4) ac (cT.cons (g:=7) ad (cT.cons (g:=6) ae (cT.cons (g:=5) ag (cT.nil)))))))))))))) aX
theorem LF {ws : List (List UInt8)} {B : Nat} (h : (ws.map fun x => x.length + 1).sum ≤ B) : ws.length ≤ B := by
 induction ws generalizing B with
 | nil => simp
 | cons x ws ih =>
  rw [List.map_cons, List.sum_cons] at h
  have := ih (B := B - 1) (by omega)
  rw [List.length_cons]; omega
theorem LC {ws : List (List UInt8)} {B : Nat} (h : (ws.map fun x => x.length + 1).sum ≤ B) (i : Nat) : (ws.getD i []).length ≤ B := by
 induction ws generalizing i B with
 | nil => simp
 | cons x ws ih =>
  rw [List.map_cons, List.sum_cons] at h
  cases i with
  | zero => rw [List.getD_cons_zero]; omega
  | succ i => rw [List.getD_cons_succ]; exact ih (by omega) i
set_option maxRecDepth 100000 in
theorem Fx (H:Type) (enc:TypeId×Value→H) (W:World) (base:Nat) (args:Array Value) (C gs:List (DataW H)) (before:List MemPlace)
 (ac:∀ (j:Nat) t v,Tryz.f4.params[j]? =some t→args[j]? =some v→Value.okWide Tryz.prog W .any base t v)
 (ab:DataW.Whole enc Tryz.prog Tryz.f4.params.toList Rows.bookAsksSpec.vars false W args.toList C gs before) (an:Rows.uptoSmall H (C++gs)=true) (ae:laidMetH Tryz.prog Rows.bookAsksUptoRow.laid W):
 Calls Tryz.prog 4 args W fun e W'=> ∃ v,e= .returned v∧Rows.bookAsksSpec.post enc Tryz.prog Tryz.f4 false true false false W args v W':=by
 have ak:=ab
 obtain ⟨p,q,Z,aj,rfl,_,_⟩:=ab
 have V:DataW.TrodAll enc Tryz.prog W 0 (fun _=>true) true Tryz.f4.params.toList args.toList C p:=Z
 rw [Tryz.params4] at V ac
 obtain ⟨v0,aD,d0,ar,ax,ay,au,rfl,rfl,h0,r0⟩:=trodAll_cons V
 obtain ⟨rfl,rfl,rfl⟩:=trodAll_nil r0
 obtain rfl :args= #[v0]:=by cases args; simp_all
 obtain ⟨rfl,rfl⟩:=trodVars_none aj
 clear Z
 have hb:=E4 an
 simp only [List.append_nil,Rows.uptoBulkAll] at hb
 obtain ⟨ap,rfl,_⟩:=okWide_struct Tryz.underlying47 (ac 0 47 v0 rfl rfl)
 obtain ⟨ad,am⟩:=h0
 obtain ⟨_,A,ag,av⟩:=(IC (vP Tryz.underlying9 aq) (A5 Tryz.underlying3 aq) (vP Tryz.underlying9 aq) (A5 Tryz.underlying3 aq) (IB (vP Tryz.underlying9 aq) Tryz.underlying45 aq aX) Tryz.underlying47 rfl rfl rfl rfl rfl rfl rfl rfl rfl rfl aq).op enc W ad _ _ _ am
 have ai:=wx W ae
 obtain ⟨az,aA,aB,u3,u4,al,L,⟨M,_⟩,h02,⟨O,_⟩,h04⟩:=ag
 simp only [List.cons.injEq,and_true] at L M h02 O
 subst L M h02 O
 obtain ⟨E,I,rfl,ah,aw⟩:=J5 h04
 have ao:ap= [str A.1,.int .i64 A.2.1,str A.2.2.1,.int .i64 A.2.2.2.1,.slice E A.2.2.2.2.length I].toArray:=Array.toList_inj.1 al
 subst ao
 exact IW ak J J J Tryz.underlying4 laidOut aq (ER A.1 A.2.1 A.2.2.1 A.2.2.2.1 A.2.2.2.2 E I W ai ah U U (LF U) (LC U))
noncomputable def vn (os:Os):World:=
 {World.holding Tryz.prog os ⟨#[],#[],[]⟩ with heap:=(((((((((((((((((World.holding Tryz.prog os ⟨#[],#[],[]⟩).heap.modify 1 fun
  | .cells _ t frozen=> .cells (#[.iface 346 (.agg #[.pointer (some ⟨17,24,none⟩)])]) t frozen
  | o=>o).modify 16 fun
  | .cells _ t frozen=> .cells (#[.int .u8 128,.int .u8 191,.int .u8 160,.int .u8 191,.int .u8 128,.int .u8 159,.int .u8 144,.int .u8 191,.int .u8 128,.int .u8 143,.int .u8 0,.int .u8 0,.int .u8 0,.int .u8 0,.int .u8 0,.int .u8 0,.int .u8 0,.int .u8 0,.int .u8 0,.int .u8 0,.int .u8 0,.int .u8 0,.int .u8 0,.int .u8 0,.int .u8 0,.int .u8 0,.int .u8 0,.int .u8 0,.int .u8 0,.int .u8 0,.int .u8 0,.int .u8 0]) t frozen
  | o=>o).modify 2 fun
  | .cells _ t frozen=> .cells (#[.iface 520 (.pointer (some ⟨22,0,none⟩))]) t frozen
  | o=>o).modify 3 fun
  | .cells _ t frozen=> .cells (#[.iface 520 (.pointer (some ⟨23,0,none⟩))]) t frozen
  | o=>o).modify 8 fun
  | .cells _ t frozen=> .cells (#[.iface 520 (.pointer (some ⟨24,0,none⟩))]) t frozen
  | o=>o).modify 14 fun
  | .cells _ t frozen=> .cells (#[.iface 520 (.pointer (some ⟨25,0,none⟩))]) t frozen
  | o=>o).modify 9 fun
  | .cells _ t frozen=> .cells (#[.iface 520 (.pointer (some ⟨26,0,none⟩))]) t frozen
  | o=>o).modify 10 fun
  | .cells _ t frozen=> .cells (#[.iface 520 (.pointer (some ⟨27,0,none⟩))]) t frozen
  | o=>o).modify 0 fun
  | .cells _ t frozen=> .cells (#[.iface 520 (.pointer (some ⟨28,0,none⟩))]) t frozen
  | o=>o).modify 11 fun
  | .cells _ t frozen=> .cells (#[.iface 520 (.pointer (some ⟨29,0,none⟩))]) t frozen
  | o=>o).modify 13 fun
  | .cells _ t frozen=> .cells (#[.iface 520 (.pointer (some ⟨30,0,none⟩))]) t frozen
  | o=>o).modify 4 fun
  | .cells _ t frozen=> .cells (#[.iface 520 (.pointer (some ⟨31,0,none⟩))]) t frozen
  | o=>o).modify 7 fun
  | .cells _ t frozen=> .cells (#[.iface 520 (.pointer (some ⟨32,0,none⟩))]) t frozen
  | o=>o).modify 6 fun
  | .cells _ t frozen=> .cells (#[.iface 520 (.pointer (some ⟨33,0,none⟩))]) t frozen
  | o=>o).modify 5 fun
  | .cells _ t frozen=> .cells (#[.iface 520 (.pointer (some ⟨34,0,none⟩))]) t frozen
  | o=>o).modify 15 fun
  | .cells _ t frozen=> .cells ((Go.Pinned.utf8FirstZ.map fun n=>Value.int .u8 (n:Nat)).toArray) t frozen
  | o=>o)++ #[.cells #[.string ⟨⟨[110,111,32,111,98,106,101,99,116]⟩⟩] 538 (0,0),.cells #[.string ⟨⟨[97,32,110,117,109,98,101,114,32,111,117,116,32,111,102,32,105,116,115,32,114,97,110,103,101]⟩⟩] 538 (0,0),.cells #[.string ⟨⟨[110,111,32,115,117,99,104,32,114,117,110]⟩⟩] 538 (0,0),.cells #[.string ⟨⟨[116,104,101,32,114,117,110,32,105,115,32,115,101,97,108,101,100]⟩⟩] 538 (0,0),.cells #[.string ⟨⟨[116,104,101,32,114,117,110,32,105,115,32,110,111,116,32,115,101,97,108,101,100]⟩⟩] 538 (0,0),.cells #[.string ⟨⟨[110,111,32,115,117,99,104,32,112,108,97,99,101,32,105,110,32,116,104,101,32,114,117,110]⟩⟩] 538 (0,0),.cells #[.string ⟨⟨[116,104,101,32,115,116,111,114,101,32,105,115,32,102,117,108,108]⟩⟩] 538 (0,0),.cells #[.string ⟨⟨[110,111,32,114,117,110,32,110,117,109,98,101,114,32,105,115,32,108,101,102,116]⟩⟩] 538 (0,0),.cells #[.string ⟨⟨[116,104,101,32,115,116,111,114,101,32,114,101,102,117,115,101,100,32,97,32,115,116,101,112]⟩⟩] 538 (0,0),.cells #[.string ⟨⟨[116,104,101,32,114,101,99,111,114,100,32,105,115,32,116,111,111,32,108,111,110,103]⟩⟩] 538 (0,0),.cells #[.string ⟨⟨[116,104,101,32,114,117,110,32,105,115,32,116,111,114,110]⟩⟩] 538 (0,0),.cells #[.string ⟨⟨[97,32,114,117,110,32,105,115,32,110,97,109,101,100,32,116,119,105,99,101]⟩⟩] 538 (0,0),.cells #[.string ⟨⟨[99,108,111,115,101,100]⟩⟩] 538 (0,0)]}
set_option maxRecDepth 100000 in
theorem HB (os:Os):laidMetH Tryz.prog Rows.bookAsksUptoRow.laid ((vn os).forCall (fun _ _=>0) ⟨#[],#[.agg #[.string ⟨⟨[]⟩⟩,.int .i64 0,.string ⟨⟨[]⟩⟩,.int .i64 0,.slice none 0 0]],[]⟩).memory:=
 laidMetH_of_parts3 (fuel:=8) (laidMet_of_run' 8 aq aq) aq aq
theorem reads (os:Os) {H:Type} (enc:TypeId×Value→H):∃ A,DataW.whole enc Tryz.prog ((vn os).forCall (fun _ _=>0) ⟨#[],#[.agg #[.string ⟨⟨[]⟩⟩,.int .i64 0,.string ⟨⟨[]⟩⟩,.int .i64 0,.slice none 0 0]],[]⟩).memory Tryz.f4.params.toList Rows.bookAsksSpec.vars false #[.agg #[.string ⟨⟨[]⟩⟩,.int .i64 0,.string ⟨⟨[]⟩⟩,.int .i64 0,.slice none 0 0]].toList 8=some ([.agg [.lit (.string []),.lit (.int .i64 0),.lit (.string []),.lit (.int .i64 0),.nil]],[],A):=
 ⟨[],aq⟩
set_option maxRecDepth 100000 in
theorem lifted (os:Os) (started:os.Started) (H:Type) (enc:TypeId×Value→H) (F:Stop.Interp):
 ReturnsInHanded {} Tryz.checked os 4 .any ((Rows.OpenSpec.upto Rows.bookAsksSpec).preRow enc Tryz.prog Tryz.f4 Rows.bookAsksUptoRow.domain false Rows.bookAsksUptoRow.laid) (((Rows.OpenSpec.upto Rows.bookAsksSpec).at F).post enc Tryz.prog Tryz.f4 false true false false):=by
 obtain ⟨U,O⟩:=reads os enc
 refine returnsInHanded_of_row (C:=Tryz.checked) (s:=Rows.OpenSpec.upto Rows.bookAsksSpec) own started aq Tryz.func4
  (witness_row_atRef (enc:=enc) (C:=Tryz.checked) false (vn os) #[.agg #[.string ⟨⟨[]⟩⟩,.int .i64 0,.string ⟨⟨[]⟩⟩,.int .i64 0,.slice none 0 0]] rfl aq aq aq
   (OpenSpec.preRow_of_cond 8 O aq (fun k L=>by cases L; kernel_rfl) aq (HB os))) ?_
 intro W base args A gs before M I _ J _ E _ _
 exact Fx H enc W base args A gs before M I (J _ rfl) E
end Go.Proofs.YtjaoldaegkmkjaaGreatDoor.bookAsks
