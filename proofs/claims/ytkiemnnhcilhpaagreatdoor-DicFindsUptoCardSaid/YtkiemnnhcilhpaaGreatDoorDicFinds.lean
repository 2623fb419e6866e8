/-
  The law DicFinds holds of every input of bulk at most 1,048,576: the call returns true and leaves its arguments as they were. Conditions: none but the statement's own bound on the arguments' bulk.
-/
import Derived.Test.YtkiemnnhcilhpaaGreatDoorMnDicFinds7
import Derived.Test.YtkiemnnhcilhpaaGreatDoorRows
import Derived.Test.YtkiemnnhcilhpaaGreatDoorCards
import Derived.Test.YtkiemnnhcilhpaaGreatDoorTie
import Derived.WalkKit
import Derived.ProofKit
import Derived.OpenShut
import Derived.Deep.DeepHandedRow
import Derived.Lib.LaidTab
set_option linter.unusedVariables false
namespace Go.Proofs.YtkiemnnhcilhpaaGreatDoor.dicFinds
open Go.Hb Go.Hb.vG Go.ChangeShapes Go.WideShapes Go.ChangeAt Go.RowKit
theorem own:ownKnob Tryz.prog.godebug=none:=by kernel_rfl
theorem laidOut:laidOutB Tryz.prog=true :=by kernel_rfl
set_option maxRecDepth 100000 in
theorem Ff (H:Type) (enc:TypeId×Value→H) (W:World) (base:Nat) (args:Array Value) (a gs:List (DataW H)) (before:List MemPlace)
 (hval:∀ (j:Nat) t v,Tryz.f7.params[j]? =some t→args[j]? =some v→Value.okWide Tryz.prog W .any base t v)
 (A:DataW.Whole enc Tryz.prog Tryz.f7.params.toList Rows.dicFindsSpec.vars false W args.toList a gs before) (hk:Rows.uptoSmall H (a++gs)=true):
 Calls Tryz.prog 7 args W fun e W'=> ∃ v,e= .returned v∧Rows.dicFindsSpec.post enc Tryz.prog Tryz.f7 false true false false W args v W':=by
 have hW':=A
 obtain ⟨p,q,s,J,rfl,_,_⟩:=A
 have i:DataW.TrodAll enc Tryz.prog W 0 (fun _=>true) true Tryz.f7.params.toList args.toList a p:=s
 rw [Tryz.params7] at i hval
 obtain ⟨v0,an,d0,ab,ak,am,ag,rfl,rfl,h0,O⟩:=trodAll_cons i
 obtain ⟨v1,ao,d1,ac,p1,q1,rfl,rfl,rfl,h1,U⟩:=trodAll_cons O
 obtain ⟨v2,ap,d2,ae,al,q2,rfl,rfl,rfl,h2,V⟩:=trodAll_cons U
 obtain ⟨rfl,rfl,rfl⟩:=trodAll_nil V
 obtain rfl :args= #[v0,v1,v2]:=by cases args; simp_all
 obtain ⟨rfl,rfl⟩:=trodVars_none J
 clear s
 have hb:=C0 hk
 simp only [List.append_nil,Rows.uptoBulkAll] at hb
 obtain ⟨ai,rfl⟩:=okWide_string Tryz.underlying9 (hval 0 9 v0 rfl rfl)
 obtain ⟨E,M⟩:=h0
 obtain ⟨_,Z,hR0,hb0⟩:=(AB Tryz.underlying9 (by kernel_rfl)).op enc W E _ _ _ M
 obtain ⟨aj,rfl⟩:=okWide_string Tryz.underlying9 (hval 1 9 v1 rfl rfl)
 obtain ⟨G,hf1⟩:=h1
 obtain ⟨_,aa,hR1,ah⟩:=(AB Tryz.underlying9 (by kernel_rfl)).op enc W G _ _ _ hf1
 obtain ⟨Y,C,c2,rfl,I,hd2⟩:=Jy Tryz.underlying48 Tryz.underlying9 (by kernel_rfl) (hval 2 48 v2 rfl rfl) h2
 have hb2:=C1 hd2
 have hq0:=hR0
 simp only [Value.cells,List.cons.injEq,and_true] at hq0
 rw [hq0] at hW' ⊢
 have hq1:=hR1
 simp only [Value.cells,List.cons.injEq,and_true] at hq1
 rw [hq1] at hW' ⊢
 exact Kk hW' rfl rfl rfl Tryz.underlying4 laidOut (by kernel_rfl) (F1 Z aa W Y C c2 I (by omega) (by omega) (by omega))
noncomputable def tU (os:Os):World:=
 {World.holding Tryz.prog os ⟨#[],#[],[]⟩ with heap:=(((World.holding Tryz.prog os ⟨#[],#[],[]⟩).heap.modify 1 fun
  | .cells _ t frozen=> .cells ((Go.Pinned.utf8FirstZ.map fun n=>Value.int .u8 (n:Nat)).toArray) t frozen
  | o=>o).modify 2 fun
  | .cells _ t frozen=> .cells (#[.int .u8 128,.int .u8 191,.int .u8 160,.int .u8 191,.int .u8 128,.int .u8 159,.int .u8 144,.int .u8 191,.int .u8 128,.int .u8 143,.int .u8 0,.int .u8 0,.int .u8 0,.int .u8 0,.int .u8 0,.int .u8 0,.int .u8 0,.int .u8 0,.int .u8 0,.int .u8 0,.int .u8 0,.int .u8 0,.int .u8 0,.int .u8 0,.int .u8 0,.int .u8 0,.int .u8 0,.int .u8 0,.int .u8 0,.int .u8 0,.int .u8 0,.int .u8 0]) t frozen
  | o=>o)}
set_option maxRecDepth 100000 in
theorem IA (os:Os):laidMet Tryz.prog Rows.dicFindsUptoRow.laid ((tU os).forCall (fun _ _=>0) ⟨#[],#[.string ⟨⟨[]⟩⟩,.string ⟨⟨[]⟩⟩,.slice none 0 0],[]⟩).memory:=
 laidMet_of_run' 8 (by kernel_rfl) (by kernel_rfl)
theorem reads (os:Os) {H:Type} (enc:TypeId×Value→H):∃ a,DataW.whole enc Tryz.prog ((tU os).forCall (fun _ _=>0) ⟨#[],#[.string ⟨⟨[]⟩⟩,.string ⟨⟨[]⟩⟩,.slice none 0 0],[]⟩).memory Tryz.f7.params.toList Rows.dicFindsSpec.vars false #[.string ⟨⟨[]⟩⟩,.string ⟨⟨[]⟩⟩,.slice none 0 0].toList 8=some ([.lit (.string []),.lit (.string []),.nil],[],a):=
 ⟨[],by kernel_rfl⟩
set_option maxRecDepth 100000 in
theorem lifted (os:Os) (started:os.Started) (H:Type) (enc:TypeId×Value→H) (F:Stop.Interp):
 ReturnsInHanded {} Tryz.checked os 7 .any ((Rows.OpenSpec.upto Rows.dicFindsSpec).preRow enc Tryz.prog Tryz.f7 Rows.dicFindsUptoRow.domain false Rows.dicFindsUptoRow.laid) (((Rows.OpenSpec.upto Rows.dicFindsSpec).at F).post enc Tryz.prog Tryz.f7 false true false false):=by
 obtain ⟨q,p⟩:=reads os enc
 refine returnsInHanded_of_row (C:=Tryz.checked) (s:=Rows.OpenSpec.upto Rows.dicFindsSpec) own started (by kernel_rfl) Tryz.func7
  (witness_row_at (enc:=enc) (C:=Tryz.checked) false (tU os) #[.string ⟨⟨[]⟩⟩,.string ⟨⟨[]⟩⟩,.slice none 0 0] rfl (by kernel_rfl) (by kernel_rfl) (by kernel_rfl)
   (OpenSpec.preRow_of_cond 8 p (by kernel_rfl) (fun k hk=>by cases hk; kernel_rfl) (by kernel_rfl) (IA os))) ?_
 intro W base args a gs before hval i _ j _ _ _ _
 exact Ff H enc W base args a gs before hval i (j _ rfl)
theorem said:Rows.DicFindsUptoSaid:=
 OpenClaim.holds_of_cond 7 Tryz.f7 rfl rfl rfl rfl rfl rfl rfl ⟨rfl,rfl,rfl,rfl,rfl⟩ rfl rfl rfl rfl rfl (by kernel_rfl) Tryz.func7 (by kernel_rfl)
  (of_decide_eq_true (by kernel_rfl)) (by unfold Func.isWrapper; first | (rw [if_pos (by decide+kernel)]; kernel_rfl) | (rw [if_neg (by decide+kernel)]; exact ⟨rfl,rfl⟩))
  (fun os started H enc _ F=>by rw [OpenClaim.pre_eq_preRow]; exact lifted os started H enc F)
theorem plain (f:FuncId) (fn:Func) (hf:Tryz.pinned.checked.prog.funcNamed "hornbook/hornbooklaw12.DicFinds" =some f) (i:Tryz.pinned.checked.prog.funcs[f]? =some fn):
 true =Tryz.pinned.checked.prog.looks []∧∀ (j:Nat) t,fn.params[j]? =some t→Tryz.pinned.checked.prog.wantsStandIn t=false :=by
 obtain rfl :f=7:=Option.some.inj ((show Tryz.prog.funcNamed "hornbook/hornbooklaw12.DicFinds" =some 7 by kernel_rfl).symm.trans hf) |>.symm
 obtain rfl :fn=Tryz.f7:=(Option.some.inj (Tryz.func7.symm.trans i)).symm
 refine ⟨by kernel_rfl,fun j t a=> ?_⟩
 rw [Tryz.params7] at a
 have hm:=Array.mem_of_getElem? a
 simp only [List.mem_toArray,List.mem_cons,List.not_mem_nil,or_false] at hm
 rcases hm with rfl | rfl | rfl
 · exact (show Tryz.prog.wantsStandIn 9=false by kernel_rfl)
 · exact (show Tryz.prog.wantsStandIn 9=false by kernel_rfl)
 · exact (show Tryz.prog.wantsStandIn 48=false by kernel_rfl)
theorem holds:Rows.DicFindsUptoCardSaid:=
 Claim7.holds_tied_plain_at .later [] _ _ _ _ said (fun _ h=>by cases h) (by kernel_rfl) (fun _ h=>by cases h) dicFindsUpto_row_tie rfl ⟨rfl,rfl⟩ (by kernel_rfl) rfl plain (by kernel_rfl)
#print axioms holds
end Go.Proofs.YtkiemnnhcilhpaaGreatDoor.dicFinds
