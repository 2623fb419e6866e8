/-
  The law DicAnyWord holds of every input of bulk at most 1,048,576: the call returns true and leaves its arguments as they were. Conditions: none but the statement's own bound on the arguments' bulk.
-/
import Derived.Test.YtkiemnnhcilhpaaGreatDoorMnDicAnyWord5
import Derived.Test.YtkiemnnhcilhpaaGreatDoorRows
import Derived.Test.YtkiemnnhcilhpaaGreatDoorCards
import Derived.Test.YtkiemnnhcilhpaaGreatDoorTie
import Derived.WalkKit
import Derived.ProofKit
import Derived.OpenShut
import Derived.Deep.DeepHandedRow
import Derived.Lib.LaidTab
set_option linter.unusedVariables false
namespace Go.Proofs.YtkiemnnhcilhpaaGreatDoor.dicAnyWord
open Go.Hb Go.Hb.qZ Go.ChangeShapes Go.WideShapes Go.ChangeAt Go.RowKit
theorem own:ownKnob Tryz.prog.godebug=none:=by kernel_rfl
theorem laidOut:laidOutB Tryz.prog=true :=by kernel_rfl
set_option maxRecDepth 100000 in
theorem zX (H:Type) (enc:TypeId×Value→H) (W:World) (base:Nat) (args:Array Value) (a gs:List (DataW H)) (before:List MemPlace)
 (hval:∀ (j:Nat) t v,Tryz.f9.params[j]? =some t→args[j]? =some v→Value.okWide Tryz.prog W .any base t v)
 (s:DataW.Whole enc Tryz.prog Tryz.f9.params.toList Rows.dicAnyWordSpec.vars false W args.toList a gs before) (hk:Rows.uptoSmall H (a++gs)=true):
 Calls Tryz.prog 9 args W fun e W'=> ∃ v,e= .returned v∧Rows.dicAnyWordSpec.post enc Tryz.prog Tryz.f9 false true false false W args v W':=by
 have hW':=s
 obtain ⟨p,q,i,G,rfl,_,_⟩:=s
 have c:DataW.TrodAll enc Tryz.prog W 0 (fun _=>true) true Tryz.f9.params.toList args.toList a p:=i
 rw [Tryz.params9] at c hval
 obtain ⟨v0,Z,d0,O,V,Y,U,rfl,rfl,h0,J⟩:=trodAll_cons c
 obtain ⟨rfl,rfl,rfl⟩:=trodAll_nil J
 obtain rfl :args= #[v0]:=by cases args; simp_all
 obtain ⟨rfl,rfl⟩:=trodVars_none G
 clear i
 have hb:=xS hk
 simp only [List.append_nil,Rows.uptoBulkAll] at hb
 obtain ⟨M,A,C,rfl,E,I⟩:=DZ Tryz.underlying48 Tryz.underlying9 (by kernel_rfl) (hval 0 48 v0 rfl rfl) h0
 have hb0:=xT I
 exact EN hW' rfl rfl rfl Tryz.underlying4 laidOut (by kernel_rfl) (AN M A C W E (by omega))
noncomputable def pY (os:Os):World:=
 {World.holding Tryz.prog os ⟨#[],#[],[]⟩ with heap:=(((World.holding Tryz.prog os ⟨#[],#[],[]⟩).heap.modify 1 fun
  | .cells _ t frozen=> .cells ((Go.Pinned.utf8FirstZ.map fun n=>Value.int .u8 (n:Nat)).toArray) t frozen
  | o=>o).modify 2 fun
  | .cells _ t frozen=> .cells (#[.int .u8 128,.int .u8 191,.int .u8 160,.int .u8 191,.int .u8 128,.int .u8 159,.int .u8 144,.int .u8 191,.int .u8 128,.int .u8 143,.int .u8 0,.int .u8 0,.int .u8 0,.int .u8 0,.int .u8 0,.int .u8 0,.int .u8 0,.int .u8 0,.int .u8 0,.int .u8 0,.int .u8 0,.int .u8 0,.int .u8 0,.int .u8 0,.int .u8 0,.int .u8 0,.int .u8 0,.int .u8 0,.int .u8 0,.int .u8 0,.int .u8 0,.int .u8 0]) t frozen
  | o=>o)}
set_option maxRecDepth 100000 in
theorem C3 (os:Os):laidMet Tryz.prog Rows.dicAnyWordUptoRow.laid ((pY os).forCall (fun _ _=>0) ⟨#[],#[.slice none 0 0],[]⟩).memory:=
 laidMet_of_run' 8 (by kernel_rfl) (by kernel_rfl)
theorem reads (os:Os) {H:Type} (enc:TypeId×Value→H):∃ a,DataW.whole enc Tryz.prog ((pY os).forCall (fun _ _=>0) ⟨#[],#[.slice none 0 0],[]⟩).memory Tryz.f9.params.toList Rows.dicAnyWordSpec.vars false #[.slice none 0 0].toList 8=some ([.nil],[],a):=
 ⟨[],by kernel_rfl⟩
set_option maxRecDepth 100000 in
theorem lifted (os:Os) (started:os.Started) (H:Type) (enc:TypeId×Value→H) (F:Stop.Interp):
 ReturnsInHanded {} Tryz.checked os 9 .any ((Rows.OpenSpec.upto Rows.dicAnyWordSpec).preRow enc Tryz.prog Tryz.f9 Rows.dicAnyWordUptoRow.domain false Rows.dicAnyWordUptoRow.laid) (((Rows.OpenSpec.upto Rows.dicAnyWordSpec).at F).post enc Tryz.prog Tryz.f9 false true false false):=by
 obtain ⟨j,hx⟩:=reads os enc
 refine returnsInHanded_of_row (C:=Tryz.checked) (s:=Rows.OpenSpec.upto Rows.dicAnyWordSpec) own started (by kernel_rfl) Tryz.func9
  (witness_row_at (enc:=enc) (C:=Tryz.checked) false (pY os) #[.slice none 0 0] rfl (by kernel_rfl) (by kernel_rfl) (by kernel_rfl)
   (OpenSpec.preRow_of_cond 8 hx (by kernel_rfl) (fun k hk=>by cases hk; kernel_rfl) (by kernel_rfl) (C3 os))) ?_
 intro W base args a gs before hval c _ i _ _ _ _
 exact zX H enc W base args a gs before hval c (i _ rfl)
theorem said:Rows.DicAnyWordUptoSaid:=
 OpenClaim.holds_of_cond 9 Tryz.f9 rfl rfl rfl rfl rfl rfl rfl ⟨rfl,rfl,rfl,rfl,rfl⟩ rfl rfl rfl rfl rfl (by kernel_rfl) Tryz.func9 (by kernel_rfl)
  (of_decide_eq_true (by kernel_rfl)) (by unfold Func.isWrapper; first | (rw [if_pos (by decide+kernel)]; kernel_rfl) | (rw [if_neg (by decide+kernel)]; exact ⟨rfl,rfl⟩))
  (fun os started H enc _ F=>by rw [OpenClaim.pre_eq_preRow]; exact lifted os started H enc F)
theorem plain (f:FuncId) (fn:Func) (hf:Tryz.pinned.checked.prog.funcNamed "hornbook/hornbooklaw12.DicAnyWord" =some f) (c:Tryz.pinned.checked.prog.funcs[f]? =some fn):
 true =Tryz.pinned.checked.prog.looks []∧∀ (j:Nat) t,fn.params[j]? =some t→Tryz.pinned.checked.prog.wantsStandIn t=false :=by
 obtain rfl :f=9:=Option.some.inj ((show Tryz.prog.funcNamed "hornbook/hornbooklaw12.DicAnyWord" =some 9 by kernel_rfl).symm.trans hf) |>.symm
 obtain rfl :fn=Tryz.f9:=(Option.some.inj (Tryz.func9.symm.trans c)).symm
 refine ⟨by kernel_rfl,fun j t a=> ?_⟩
 rw [Tryz.params9] at a
 have hm:=Array.mem_of_getElem? a
 simp only [List.mem_toArray,List.mem_cons,List.not_mem_nil,or_false] at hm
 rcases hm with rfl
 · exact (show Tryz.prog.wantsStandIn 48=false by kernel_rfl)
theorem holds:Rows.DicAnyWordUptoCardSaid:=
 Claim7.holds_tied_plain_at .later [] _ _ _ _ said (fun _ h=>by cases h) (by kernel_rfl) (fun _ h=>by cases h) dicAnyWordUpto_row_tie rfl ⟨rfl,rfl⟩ (by kernel_rfl) rfl plain (by kernel_rfl)
#print axioms holds
end Go.Proofs.YtkiemnnhcilhpaaGreatDoor.dicAnyWord
