/-
  The law DicKeeps holds of every input of bulk at most 1,048,576: the call returns true and leaves its arguments as they were. Conditions: none but the statement's own bound on the arguments' bulk.
-/
import Derived.Test.YtkiemnnhcilhpaaGreatDoorMnDicKeeps7
import Derived.Test.YtkiemnnhcilhpaaGreatDoorRows
import Derived.Test.YtkiemnnhcilhpaaGreatDoorCards
import Derived.Test.YtkiemnnhcilhpaaGreatDoorTie
import Derived.WalkKit
import Derived.ProofKit
import Derived.OpenShut
import Derived.Deep.DeepHandedRow
import Derived.Lib.LaidTab
set_option linter.unusedVariables false
namespace Go.Proofs.YtkiemnnhcilhpaaGreatDoor.dicKeeps
open Go.Hb Go.Hb.vM Go.ChangeShapes Go.WideShapes Go.ChangeAt Go.RowKit
theorem own:ownKnob Tryz.prog.godebug=none:=by kernel_rfl
theorem laidOut:laidOutB Tryz.prog=true :=by kernel_rfl
set_option maxRecDepth 100000 in
theorem Fj (H:Type) (enc:TypeId×Value→H) (W:World) (base:Nat) (args:Array Value) (a gs:List (DataW H)) (before:List MemPlace)
 (hval:∀ (j:Nat) t v,Tryz.f8.params[j]? =some t→args[j]? =some v→Value.okWide Tryz.prog W .any base t v)
 (A:DataW.Whole enc Tryz.prog Tryz.f8.params.toList Rows.dicKeepsSpec.vars false W args.toList a gs before) (hk:Rows.uptoSmall H (a++gs)=true):
 Calls Tryz.prog 8 args W fun e W'=> ∃ v,e= .returned v∧Rows.dicKeepsSpec.post enc Tryz.prog Tryz.f8 false true false false W args v W':=by
 have hW':=A
 obtain ⟨p,q,s,G,rfl,_,_⟩:=A
 have i:DataW.TrodAll enc Tryz.prog W 0 (fun _=>true) true Tryz.f8.params.toList args.toList a p:=s
 rw [Tryz.params8] at i hval
 obtain ⟨v0,ah,d0,V,ae,ag,Z,rfl,rfl,h0,J⟩:=trodAll_cons i
 obtain ⟨v1,ai,d1,Y,p1,q1,rfl,rfl,rfl,h1,M⟩:=trodAll_cons J
 obtain ⟨rfl,rfl,rfl⟩:=trodAll_nil M
 obtain rfl :args= #[v0,v1]:=by cases args; simp_all
 obtain ⟨rfl,rfl⟩:=trodVars_none G
 clear s
 have hb:=C5 hk
 simp only [List.append_nil,Rows.uptoBulkAll] at hb
 obtain ⟨ab,rfl⟩:=okWide_string Tryz.underlying9 (hval 0 9 v0 rfl rfl)
 obtain ⟨C,I⟩:=h0
 obtain ⟨_,O,hR0,hb0⟩:=(AE Tryz.underlying9 (by kernel_rfl)).op enc W C _ _ _ I
 obtain ⟨ac,rfl⟩:=okWide_string Tryz.underlying9 (hval 1 9 v1 rfl rfl)
 obtain ⟨E,hf1⟩:=h1
 obtain ⟨_,U,hR1,aa⟩:=(AE Tryz.underlying9 (by kernel_rfl)).op enc W E _ _ _ hf1
 have hq0:=hR0
 simp only [Value.cells,List.cons.injEq,and_true] at hq0
 rw [hq0] at hW' ⊢
 have hq1:=hR1
 simp only [Value.cells,List.cons.injEq,and_true] at hq1
 rw [hq1] at hW' ⊢
 exact Ku hW' rfl rfl rfl Tryz.underlying4 laidOut (by kernel_rfl) (F5 O U W (by omega) (by omega))
noncomputable def tX (os:Os):World:=
 {World.holding Tryz.prog os ⟨#[],#[],[]⟩ with heap:=(((World.holding Tryz.prog os ⟨#[],#[],[]⟩).heap.modify 1 fun
  | .cells _ t frozen=> .cells ((Go.Pinned.utf8FirstZ.map fun n=>Value.int .u8 (n:Nat)).toArray) t frozen
  | o=>o).modify 2 fun
  | .cells _ t frozen=> .cells (#[.int .u8 128,.int .u8 191,.int .u8 160,.int .u8 191,.int .u8 128,.int .u8 159,.int .u8 144,.int .u8 191,.int .u8 128,.int .u8 143,.int .u8 0,.int .u8 0,.int .u8 0,.int .u8 0,.int .u8 0,.int .u8 0,.int .u8 0,.int .u8 0,.int .u8 0,.int .u8 0,.int .u8 0,.int .u8 0,.int .u8 0,.int .u8 0,.int .u8 0,.int .u8 0,.int .u8 0,.int .u8 0,.int .u8 0,.int .u8 0,.int .u8 0,.int .u8 0]) t frozen
  | o=>o)}
set_option maxRecDepth 100000 in
theorem IJ (os:Os):laidMet Tryz.prog Rows.dicKeepsUptoRow.laid ((tX os).forCall (fun _ _=>0) ⟨#[],#[.string ⟨⟨[]⟩⟩,.string ⟨⟨[]⟩⟩],[]⟩).memory:=
 laidMet_of_run' 8 (by kernel_rfl) (by kernel_rfl)
theorem reads (os:Os) {H:Type} (enc:TypeId×Value→H):∃ a,DataW.whole enc Tryz.prog ((tX os).forCall (fun _ _=>0) ⟨#[],#[.string ⟨⟨[]⟩⟩,.string ⟨⟨[]⟩⟩],[]⟩).memory Tryz.f8.params.toList Rows.dicKeepsSpec.vars false #[.string ⟨⟨[]⟩⟩,.string ⟨⟨[]⟩⟩].toList 8=some ([.lit (.string []),.lit (.string [])],[],a):=
 ⟨[],by kernel_rfl⟩
set_option maxRecDepth 100000 in
theorem lifted (os:Os) (started:os.Started) (H:Type) (enc:TypeId×Value→H) (F:Stop.Interp):
 ReturnsInHanded {} Tryz.checked os 8 .any ((Rows.OpenSpec.upto Rows.dicKeepsSpec).preRow enc Tryz.prog Tryz.f8 Rows.dicKeepsUptoRow.domain false Rows.dicKeepsUptoRow.laid) (((Rows.OpenSpec.upto Rows.dicKeepsSpec).at F).post enc Tryz.prog Tryz.f8 false true false false):=by
 obtain ⟨q,p⟩:=reads os enc
 refine returnsInHanded_of_row (C:=Tryz.checked) (s:=Rows.OpenSpec.upto Rows.dicKeepsSpec) own started (by kernel_rfl) Tryz.func8
  (witness_row_at (enc:=enc) (C:=Tryz.checked) false (tX os) #[.string ⟨⟨[]⟩⟩,.string ⟨⟨[]⟩⟩] rfl (by kernel_rfl) (by kernel_rfl) (by kernel_rfl)
   (OpenSpec.preRow_of_cond 8 p (by kernel_rfl) (fun k hk=>by cases hk; kernel_rfl) (by kernel_rfl) (IJ os))) ?_
 intro W base args a gs before hval i _ j _ _ _ _
 exact Fj H enc W base args a gs before hval i (j _ rfl)
theorem said:Rows.DicKeepsUptoSaid:=
 OpenClaim.holds_of_cond 8 Tryz.f8 rfl rfl rfl rfl rfl rfl rfl ⟨rfl,rfl,rfl,rfl,rfl⟩ rfl rfl rfl rfl rfl (by kernel_rfl) Tryz.func8 (by kernel_rfl)
  (of_decide_eq_true (by kernel_rfl)) (by unfold Func.isWrapper; first | (rw [if_pos (by decide+kernel)]; kernel_rfl) | (rw [if_neg (by decide+kernel)]; exact ⟨rfl,rfl⟩))
  (fun os started H enc _ F=>by rw [OpenClaim.pre_eq_preRow]; exact lifted os started H enc F)
theorem plain (f:FuncId) (fn:Func) (hf:Tryz.pinned.checked.prog.funcNamed "hornbook/hornbooklaw12.DicKeeps" =some f) (i:Tryz.pinned.checked.prog.funcs[f]? =some fn):
 true =Tryz.pinned.checked.prog.looks []∧∀ (j:Nat) t,fn.params[j]? =some t→Tryz.pinned.checked.prog.wantsStandIn t=false :=by
 obtain rfl :f=8:=Option.some.inj ((show Tryz.prog.funcNamed "hornbook/hornbooklaw12.DicKeeps" =some 8 by kernel_rfl).symm.trans hf) |>.symm
 obtain rfl :fn=Tryz.f8:=(Option.some.inj (Tryz.func8.symm.trans i)).symm
 refine ⟨by kernel_rfl,fun j t a=> ?_⟩
 rw [Tryz.params8] at a
 have hm:=Array.mem_of_getElem? a
 simp only [List.mem_toArray,List.mem_cons,List.not_mem_nil,or_false] at hm
 rcases hm with rfl | rfl
 · exact (show Tryz.prog.wantsStandIn 9=false by kernel_rfl)
 · exact (show Tryz.prog.wantsStandIn 9=false by kernel_rfl)
theorem holds:Rows.DicKeepsUptoCardSaid:=
 Claim7.holds_tied_plain_at .later [] _ _ _ _ said (fun _ h=>by cases h) (by kernel_rfl) (fun _ h=>by cases h) dicKeepsUpto_row_tie rfl ⟨rfl,rfl⟩ (by kernel_rfl) rfl plain (by kernel_rfl)
#print axioms holds
end Go.Proofs.YtkiemnnhcilhpaaGreatDoor.dicKeeps
