/-
  The law DicFirst holds of every input of bulk at most 1,048,576: the call returns true and leaves its arguments as they were. Conditions: none but the statement's own bound on the arguments' bulk.
-/
import Derived.Test.YtkiemnnhcilhpaaGreatDoorMnDicFirst5
import Derived.Test.YtkiemnnhcilhpaaGreatDoorRows
import Derived.Test.YtkiemnnhcilhpaaGreatDoorCards
import Derived.Test.YtkiemnnhcilhpaaGreatDoorTie
import Derived.WalkKit
import Derived.ProofKit
import Derived.OpenShut
import Derived.Deep.DeepHandedRow
import Derived.Lib.LaidTab
set_option linter.unusedVariables false
namespace Go.Proofs.YtkiemnnhcilhpaaGreatDoor.dicFirst
open Go.Hb Go.Hb.qU Go.ChangeShapes Go.WideShapes Go.ChangeAt Go.RowKit
theorem own:ownKnob Tryz.prog.godebug=none:=by kernel_rfl
theorem laidOut:laidOutB Tryz.prog=true :=by kernel_rfl
set_option maxRecDepth 100000 in
theorem zR (H:Type) (enc:TypeId×Value→H) (W:World) (base:Nat) (args:Array Value) (a gs:List (DataW H)) (before:List MemPlace)
 (hval:∀ (j:Nat) t v,Tryz.f6.params[j]? =some t→args[j]? =some v→Value.okWide Tryz.prog W .any base t v)
 (s:DataW.Whole enc Tryz.prog Tryz.f6.params.toList Rows.dicFirstSpec.vars false W args.toList a gs before) (hk:Rows.uptoSmall H (a++gs)=true):
 Calls Tryz.prog 6 args W fun e W'=> ∃ v,e= .returned v∧Rows.dicFirstSpec.post enc Tryz.prog Tryz.f6 false true false false W args v W':=by
 have hW':=s
 obtain ⟨p,q,i,G,rfl,_,_⟩:=s
 have c:DataW.TrodAll enc Tryz.prog W 0 (fun _=>true) true Tryz.f6.params.toList args.toList a p:=i
 rw [Tryz.params6] at c hval
 obtain ⟨v0,an,d0,aa,aj,am,ad,rfl,rfl,h0,M⟩:=trodAll_cons c
 obtain ⟨v1,ao,d1,ab,ak,q1,rfl,rfl,rfl,h1,O⟩:=trodAll_cons M
 obtain ⟨v2,ap,d2,ac,al,q2,rfl,rfl,rfl,h2,U⟩:=trodAll_cons O
 obtain ⟨rfl,rfl,rfl⟩:=trodAll_nil U
 obtain rfl :args= #[v0,v1,v2]:=by cases args; simp_all
 obtain ⟨rfl,rfl⟩:=trodVars_none G
 clear i
 have hb:=xP hk
 simp only [List.append_nil,Rows.uptoBulkAll] at hb
 obtain ⟨ag,rfl⟩:=okWide_string Tryz.underlying9 (hval 0 9 v0 rfl rfl)
 obtain ⟨A,I⟩:=h0
 obtain ⟨_,V,hR0,hb0⟩:=(qj Tryz.underlying9 (by kernel_rfl)).op enc W A _ _ _ I
 obtain ⟨ah,rfl⟩:=okWide_string Tryz.underlying9 (hval 1 9 v1 rfl rfl)
 obtain ⟨C,hf1⟩:=h1
 obtain ⟨_,Y,hR1,ae⟩:=(qj Tryz.underlying9 (by kernel_rfl)).op enc W C _ _ _ hf1
 obtain ⟨ai,rfl⟩:=okWide_string Tryz.underlying9 (hval 2 9 v2 rfl rfl)
 obtain ⟨E,J⟩:=h2
 obtain ⟨_,Z,hR2,hb2⟩:=(qj Tryz.underlying9 (by kernel_rfl)).op enc W E _ _ _ J
 have hq0:=hR0
 simp only [Value.cells,List.cons.injEq,and_true] at hq0
 rw [hq0] at hW' ⊢
 have hq1:=hR1
 simp only [Value.cells,List.cons.injEq,and_true] at hq1
 rw [hq1] at hW' ⊢
 have hq2:=hR2
 simp only [Value.cells,List.cons.injEq,and_true] at hq2
 rw [hq2] at hW' ⊢
 exact EZ hW' rfl rfl rfl Tryz.underlying4 laidOut (by kernel_rfl) (Ax V Y Z W (by omega) (by omega) (by omega))
noncomputable def pW (os:Os):World:=
 {World.holding Tryz.prog os ⟨#[],#[],[]⟩ with heap:=(((World.holding Tryz.prog os ⟨#[],#[],[]⟩).heap.modify 1 fun
  | .cells _ t frozen=> .cells ((Go.Pinned.utf8FirstZ.map fun n=>Value.int .u8 (n:Nat)).toArray) t frozen
  | o=>o).modify 2 fun
  | .cells _ t frozen=> .cells (#[.int .u8 128,.int .u8 191,.int .u8 160,.int .u8 191,.int .u8 128,.int .u8 159,.int .u8 144,.int .u8 191,.int .u8 128,.int .u8 143,.int .u8 0,.int .u8 0,.int .u8 0,.int .u8 0,.int .u8 0,.int .u8 0,.int .u8 0,.int .u8 0,.int .u8 0,.int .u8 0,.int .u8 0,.int .u8 0,.int .u8 0,.int .u8 0,.int .u8 0,.int .u8 0,.int .u8 0,.int .u8 0,.int .u8 0,.int .u8 0,.int .u8 0,.int .u8 0]) t frozen
  | o=>o)}
set_option maxRecDepth 100000 in
theorem C7 (os:Os):laidMet Tryz.prog Rows.dicFirstUptoRow.laid ((pW os).forCall (fun _ _=>0) ⟨#[],#[.string ⟨⟨[]⟩⟩,.string ⟨⟨[]⟩⟩,.string ⟨⟨[]⟩⟩],[]⟩).memory:=
 laidMet_of_run' 8 (by kernel_rfl) (by kernel_rfl)
theorem reads (os:Os) {H:Type} (enc:TypeId×Value→H):∃ a,DataW.whole enc Tryz.prog ((pW os).forCall (fun _ _=>0) ⟨#[],#[.string ⟨⟨[]⟩⟩,.string ⟨⟨[]⟩⟩,.string ⟨⟨[]⟩⟩],[]⟩).memory Tryz.f6.params.toList Rows.dicFirstSpec.vars false #[.string ⟨⟨[]⟩⟩,.string ⟨⟨[]⟩⟩,.string ⟨⟨[]⟩⟩].toList 8=some ([.lit (.string []),.lit (.string []),.lit (.string [])],[],a):=
 ⟨[],by kernel_rfl⟩
set_option maxRecDepth 100000 in
theorem lifted (os:Os) (started:os.Started) (H:Type) (enc:TypeId×Value→H) (F:Stop.Interp):
 ReturnsInHanded {} Tryz.checked os 6 .any ((Rows.OpenSpec.upto Rows.dicFirstSpec).preRow enc Tryz.prog Tryz.f6 Rows.dicFirstUptoRow.domain false Rows.dicFirstUptoRow.laid) (((Rows.OpenSpec.upto Rows.dicFirstSpec).at F).post enc Tryz.prog Tryz.f6 false true false false):=by
 obtain ⟨p,j⟩:=reads os enc
 refine returnsInHanded_of_row (C:=Tryz.checked) (s:=Rows.OpenSpec.upto Rows.dicFirstSpec) own started (by kernel_rfl) Tryz.func6
  (witness_row_at (enc:=enc) (C:=Tryz.checked) false (pW os) #[.string ⟨⟨[]⟩⟩,.string ⟨⟨[]⟩⟩,.string ⟨⟨[]⟩⟩] rfl (by kernel_rfl) (by kernel_rfl) (by kernel_rfl)
   (OpenSpec.preRow_of_cond 8 j (by kernel_rfl) (fun k hk=>by cases hk; kernel_rfl) (by kernel_rfl) (C7 os))) ?_
 intro W base args a gs before hval c _ i _ _ _ _
 exact zR H enc W base args a gs before hval c (i _ rfl)
theorem said:Rows.DicFirstUptoSaid:=
 OpenClaim.holds_of_cond 6 Tryz.f6 rfl rfl rfl rfl rfl rfl rfl ⟨rfl,rfl,rfl,rfl,rfl⟩ rfl rfl rfl rfl rfl (by kernel_rfl) Tryz.func6 (by kernel_rfl)
  (of_decide_eq_true (by kernel_rfl)) (by unfold Func.isWrapper; first | (rw [if_pos (by decide+kernel)]; kernel_rfl) | (rw [if_neg (by decide+kernel)]; exact ⟨rfl,rfl⟩))
  (fun os started H enc _ F=>by rw [OpenClaim.pre_eq_preRow]; exact lifted os started H enc F)
theorem plain (f:FuncId) (fn:Func) (hf:Tryz.pinned.checked.prog.funcNamed "hornbook/hornbooklaw12.DicFirst" =some f) (c:Tryz.pinned.checked.prog.funcs[f]? =some fn):
 true =Tryz.pinned.checked.prog.looks []∧∀ (j:Nat) t,fn.params[j]? =some t→Tryz.pinned.checked.prog.wantsStandIn t=false :=by
 obtain rfl :f=6:=Option.some.inj ((show Tryz.prog.funcNamed "hornbook/hornbooklaw12.DicFirst" =some 6 by kernel_rfl).symm.trans hf) |>.symm
 obtain rfl :fn=Tryz.f6:=(Option.some.inj (Tryz.func6.symm.trans c)).symm
 refine ⟨by kernel_rfl,fun j t a=> ?_⟩
 rw [Tryz.params6] at a
 have hm:=Array.mem_of_getElem? a
 simp only [List.mem_toArray,List.mem_cons,List.not_mem_nil,or_false] at hm
 rcases hm with rfl | rfl | rfl
 · exact (show Tryz.prog.wantsStandIn 9=false by kernel_rfl)
 · exact (show Tryz.prog.wantsStandIn 9=false by kernel_rfl)
 · exact (show Tryz.prog.wantsStandIn 9=false by kernel_rfl)
theorem holds:Rows.DicFirstUptoCardSaid:=
 Claim7.holds_tied_plain_at .later [] _ _ _ _ said (fun _ h=>by cases h) (by kernel_rfl) (fun _ h=>by cases h) dicFirstUpto_row_tie rfl ⟨rfl,rfl⟩ (by kernel_rfl) rfl plain (by kernel_rfl)
#print axioms holds
end Go.Proofs.YtkiemnnhcilhpaaGreatDoor.dicFirst
