/-
  The law DicRemarks holds of every input of bulk at most 1,048,576: the call returns true and leaves its arguments as they were. Conditions: none but the statement's own bound on the arguments' bulk.
-/
import Derived.Test.YtkiemnnhcilhpaaGreatDoorMnDicRemarks5
import Derived.Test.YtkiemnnhcilhpaaGreatDoorRows
import Derived.Test.YtkiemnnhcilhpaaGreatDoorCards
import Derived.Test.YtkiemnnhcilhpaaGreatDoorTie
import Derived.WalkKit
import Derived.ProofKit
import Derived.OpenShut
import Derived.Deep.DeepHandedRow
import Derived.Lib.LaidTab
set_option linter.unusedVariables false
namespace Go.Proofs.YtkiemnnhcilhpaaGreatDoor.dicRemarks
open Go.Hb Go.Hb.rB Go.ChangeShapes Go.WideShapes Go.ChangeAt Go.RowKit
theorem own:ownKnob Tryz.prog.godebug=none:=by kernel_rfl
theorem laidOut:laidOutB Tryz.prog=true :=by kernel_rfl
set_option maxRecDepth 100000 in
theorem Ag (H:Type) (enc:TypeId×Value→H) (W:World) (base:Nat) (args:Array Value) (a gs:List (DataW H)) (before:List MemPlace)
 (hval:∀ (j:Nat) t v,Tryz.f5.params[j]? =some t→args[j]? =some v→Value.okWide Tryz.prog W .any base t v)
 (s:DataW.Whole enc Tryz.prog Tryz.f5.params.toList Rows.dicRemarksSpec.vars false W args.toList a gs before) (hk:Rows.uptoSmall H (a++gs)=true):
 Calls Tryz.prog 5 args W fun e W'=> ∃ v,e= .returned v∧Rows.dicRemarksSpec.post enc Tryz.prog Tryz.f5 false true false false W args v W':=by
 have hW':=s
 obtain ⟨p,q,i,I,rfl,_,_⟩:=s
 have c:DataW.TrodAll enc Tryz.prog W 0 (fun _=>true) true Tryz.f5.params.toList args.toList a p:=i
 rw [Tryz.params5] at c hval
 obtain ⟨v0,an,d0,ab,aj,am,ae,rfl,rfl,h0,U⟩:=trodAll_cons c
 obtain ⟨v1,ao,d1,ac,ak,q1,rfl,rfl,rfl,h1,V⟩:=trodAll_cons U
 obtain ⟨v2,ap,d2,ad,al,q2,rfl,rfl,rfl,h2,Y⟩:=trodAll_cons V
 obtain ⟨rfl,rfl,rfl⟩:=trodAll_nil Y
 obtain rfl :args= #[v0,v1,v2]:=by cases args; simp_all
 obtain ⟨rfl,rfl⟩:=trodVars_none I
 clear i
 have hb:=yh hk
 simp only [List.append_nil,Rows.uptoBulkAll] at hb
 obtain ⟨ah,rfl⟩:=okWide_string Tryz.underlying9 (hval 0 9 v0 rfl rfl)
 obtain ⟨C,J⟩:=h0
 obtain ⟨_,Z,hR0,hb0⟩:=(vm Tryz.underlying9 (by kernel_rfl)).op enc W C _ _ _ J
 obtain ⟨ai,rfl⟩:=okWide_string Tryz.underlying9 (hval 1 9 v1 rfl rfl)
 obtain ⟨E,hf1⟩:=h1
 obtain ⟨_,aa,hR1,ag⟩:=(vm Tryz.underlying9 (by kernel_rfl)).op enc W E _ _ _ hf1
 obtain ⟨O,rfl⟩:=okWide_int Tryz.underlying3 (hval 2 3 v2 rfl rfl)
 obtain ⟨G,M⟩:=h2
 obtain ⟨_,aq,hR2,hb2⟩:=(Eu Tryz.underlying3 (by kernel_rfl)).op enc W G _ _ _ M
 have hq0:=hR0
 simp only [Value.cells,List.cons.injEq,and_true] at hq0
 rw [hq0] at hW' ⊢
 have hq1:=hR1
 simp only [Value.cells,List.cons.injEq,and_true] at hq1
 rw [hq1] at hW' ⊢
 obtain ⟨A,_⟩:=hR2
 simp only [Value.cells,List.cons.injEq,Value.int.injEq,true_and,and_true] at A
 subst A
 exact Ft hW' rfl rfl rfl Tryz.underlying4 laidOut (by kernel_rfl) (AV Z aa O W (by omega) (by omega))
noncomputable def qt (os:Os):World:=
 {World.holding Tryz.prog os ⟨#[],#[],[]⟩ with heap:=(((World.holding Tryz.prog os ⟨#[],#[],[]⟩).heap.modify 1 fun
  | .cells _ t frozen=> .cells ((Go.Pinned.utf8FirstZ.map fun n=>Value.int .u8 (n:Nat)).toArray) t frozen
  | o=>o).modify 2 fun
  | .cells _ t frozen=> .cells (#[.int .u8 128,.int .u8 191,.int .u8 160,.int .u8 191,.int .u8 128,.int .u8 159,.int .u8 144,.int .u8 191,.int .u8 128,.int .u8 143,.int .u8 0,.int .u8 0,.int .u8 0,.int .u8 0,.int .u8 0,.int .u8 0,.int .u8 0,.int .u8 0,.int .u8 0,.int .u8 0,.int .u8 0,.int .u8 0,.int .u8 0,.int .u8 0,.int .u8 0,.int .u8 0,.int .u8 0,.int .u8 0,.int .u8 0,.int .u8 0,.int .u8 0,.int .u8 0]) t frozen
  | o=>o)}
set_option maxRecDepth 100000 in
theorem Dr (os:Os):laidMet Tryz.prog Rows.dicRemarksUptoRow.laid ((qt os).forCall (fun _ _=>0) ⟨#[],#[.string ⟨⟨[]⟩⟩,.string ⟨⟨[]⟩⟩,.int .i64 0],[]⟩).memory:=
 laidMet_of_run' 8 (by kernel_rfl) (by kernel_rfl)
theorem reads (os:Os) {H:Type} (enc:TypeId×Value→H):∃ a,DataW.whole enc Tryz.prog ((qt os).forCall (fun _ _=>0) ⟨#[],#[.string ⟨⟨[]⟩⟩,.string ⟨⟨[]⟩⟩,.int .i64 0],[]⟩).memory Tryz.f5.params.toList Rows.dicRemarksSpec.vars false #[.string ⟨⟨[]⟩⟩,.string ⟨⟨[]⟩⟩,.int .i64 0].toList 8=some ([.lit (.string []),.lit (.string []),.lit (.int .i64 0)],[],a):=
 ⟨[],by kernel_rfl⟩
set_option maxRecDepth 100000 in
theorem lifted (os:Os) (started:os.Started) (H:Type) (enc:TypeId×Value→H) (F:Stop.Interp):
 ReturnsInHanded {} Tryz.checked os 5 .any ((Rows.OpenSpec.upto Rows.dicRemarksSpec).preRow enc Tryz.prog Tryz.f5 Rows.dicRemarksUptoRow.domain false Rows.dicRemarksUptoRow.laid) (((Rows.OpenSpec.upto Rows.dicRemarksSpec).at F).post enc Tryz.prog Tryz.f5 false true false false):=by
 obtain ⟨p,j⟩:=reads os enc
 refine returnsInHanded_of_row (C:=Tryz.checked) (s:=Rows.OpenSpec.upto Rows.dicRemarksSpec) own started (by kernel_rfl) Tryz.func5
  (witness_row_at (enc:=enc) (C:=Tryz.checked) false (qt os) #[.string ⟨⟨[]⟩⟩,.string ⟨⟨[]⟩⟩,.int .i64 0] rfl (by kernel_rfl) (by kernel_rfl) (by kernel_rfl)
   (OpenSpec.preRow_of_cond 8 j (by kernel_rfl) (fun k hk=>by cases hk; kernel_rfl) (by kernel_rfl) (Dr os))) ?_
 intro W base args a gs before hval c _ i _ _ _ _
 exact Ag H enc W base args a gs before hval c (i _ rfl)
theorem said:Rows.DicRemarksUptoSaid:=
 OpenClaim.holds_of_cond 5 Tryz.f5 rfl rfl rfl rfl rfl rfl rfl ⟨rfl,rfl,rfl,rfl,rfl⟩ rfl rfl rfl rfl rfl (by kernel_rfl) Tryz.func5 (by kernel_rfl)
  (of_decide_eq_true (by kernel_rfl)) (by unfold Func.isWrapper; first | (rw [if_pos (by decide+kernel)]; kernel_rfl) | (rw [if_neg (by decide+kernel)]; exact ⟨rfl,rfl⟩))
  (fun os started H enc _ F=>by rw [OpenClaim.pre_eq_preRow]; exact lifted os started H enc F)
theorem plain (f:FuncId) (fn:Func) (hf:Tryz.pinned.checked.prog.funcNamed "hornbook/hornbooklaw12.DicRemarks" =some f) (c:Tryz.pinned.checked.prog.funcs[f]? =some fn):
 true =Tryz.pinned.checked.prog.looks []∧∀ (j:Nat) t,fn.params[j]? =some t→Tryz.pinned.checked.prog.wantsStandIn t=false :=by
 obtain rfl :f=5:=Option.some.inj ((show Tryz.prog.funcNamed "hornbook/hornbooklaw12.DicRemarks" =some 5 by kernel_rfl).symm.trans hf) |>.symm
 obtain rfl :fn=Tryz.f5:=(Option.some.inj (Tryz.func5.symm.trans c)).symm
 refine ⟨by kernel_rfl,fun j t a=> ?_⟩
 rw [Tryz.params5] at a
 have hm:=Array.mem_of_getElem? a
 simp only [List.mem_toArray,List.mem_cons,List.not_mem_nil,or_false] at hm
 rcases hm with rfl | rfl | rfl
 · exact (show Tryz.prog.wantsStandIn 9=false by kernel_rfl)
 · exact (show Tryz.prog.wantsStandIn 9=false by kernel_rfl)
 · exact (show Tryz.prog.wantsStandIn 3=false by kernel_rfl)
theorem holds:Rows.DicRemarksUptoCardSaid:=
 Claim7.holds_tied_plain_at .later [] _ _ _ _ said (fun _ h=>by cases h) (by kernel_rfl) (fun _ h=>by cases h) dicRemarksUpto_row_tie rfl ⟨rfl,rfl⟩ (by kernel_rfl) rfl plain (by kernel_rfl)
#print axioms holds
end Go.Proofs.YtkiemnnhcilhpaaGreatDoor.dicRemarks
