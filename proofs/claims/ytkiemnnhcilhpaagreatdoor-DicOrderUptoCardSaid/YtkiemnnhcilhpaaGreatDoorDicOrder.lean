/-
  The law DicOrder holds of every input of bulk at most 1,048,576: the call returns true and leaves its arguments as they were. Conditions: none but the statement's own bound on the arguments' bulk.
-/
import Derived.Test.YtkiemnnhcilhpaaGreatDoorMnDicOrder6
import Derived.Test.YtkiemnnhcilhpaaGreatDoorRows
import Derived.Test.YtkiemnnhcilhpaaGreatDoorCards
import Derived.Test.YtkiemnnhcilhpaaGreatDoorTie
import Derived.WalkKit
import Derived.ProofKit
import Derived.OpenShut
import Derived.Deep.DeepHandedRow
import Derived.Lib.LaidTab
set_option linter.unusedVariables false
namespace Go.Proofs.YtkiemnnhcilhpaaGreatDoor.dicOrder
open Go.Hb Go.Hb.ss Go.ChangeShapes Go.WideShapes Go.ChangeAt Go.RowKit
theorem own:ownKnob Tryz.prog.godebug=none:=ab
theorem laidOut:laidOutB Tryz.prog=true :=ab
set_option maxRecDepth 100000 in
theorem Bb (H:Type) (enc:TypeId×Value→H) (W:World) (base:Nat) (args:Array Value) (c gs:List (DataW H)) (before:List MemPlace)
 (J:∀ (j:Nat) t v,Tryz.f4.params[j]? =some t→args[j]? =some v→Value.okWide Tryz.prog W .any base t v)
 (I:DataW.Whole enc Tryz.prog Tryz.f4.params.toList Rows.dicOrderSpec.vars false W args.toList c gs before) (hk:Rows.uptoSmall H (c++gs)=true):
 Calls Tryz.prog 4 args W fun e W'=> ∃ v,e= .returned v∧Rows.dicOrderSpec.post enc Tryz.prog Tryz.f4 false true false false W args v W':=by
 have Z:=I
 obtain ⟨p,q,G,Y,rfl,_,_⟩:=I
 have E:DataW.TrodAll enc Tryz.prog W 0 (fun _=>true) true Tryz.f4.params.toList args.toList c p:=G
 rw [Tryz.params4] at E J
 obtain ⟨v0,ar,d0,aj,am,an,ak,rfl,rfl,O,ai⟩:=trodAll_cons E
 obtain ⟨rfl,rfl,rfl⟩:=trodAll_nil ai
 obtain rfl :args= #[v0]:=by cases args; simp_all
 obtain ⟨rfl,rfl⟩:=trodVars_none Y
 clear G
 have ac:=y9 hk
 simp only [List.append_nil,Rows.uptoBulkAll] at ac
 obtain ⟨ah,rfl,_⟩:=okWide_struct Tryz.underlying44 (J 0 44 v0 rfl rfl)
 obtain ⟨M,ae⟩:=O
 obtain ⟨_,a,V,al⟩:=(Fy (wz Tryz.underlying9 ab) (wz Tryz.underlying9 ab) (wy Tryz.underlying3 ab) (wy Tryz.underlying3 ab) Tryz.underlying44 rfl rfl rfl rfl rfl rfl rfl rfl ab).op enc W M _ _ _ ae
 obtain ⟨ao,ap,aq,u3,ad,i,s,⟨A,_⟩,⟨C,_⟩⟩:=V
 simp only [List.cons.injEq,and_true] at i s A C
 subst i s A C
 have ag:ah= [str a.1,str a.2.1,.int .i64 a.2.2.1,.int .i64 a.2.2.2].toArray:=Array.toList_inj.1 ad
 subst ag
 exact Gt Z U U U Tryz.underlying4 laidOut ab (B8 a.1 a.2.1 a.2.2.1 a.2.2.2 W aa aa)
noncomputable def q7 (os:Os):World:=
 {World.holding Tryz.prog os ⟨#[],#[],[]⟩ with heap:=(((World.holding Tryz.prog os ⟨#[],#[],[]⟩).heap.modify 1 fun
  | .cells _ t frozen=> .cells ((Go.Pinned.utf8FirstZ.map fun n=>Value.int .u8 (n:Nat)).toArray) t frozen
  | o=>o).modify 2 fun
  | .cells _ t frozen=> .cells (#[.int .u8 128,.int .u8 191,.int .u8 160,.int .u8 191,.int .u8 128,.int .u8 159,.int .u8 144,.int .u8 191,.int .u8 128,.int .u8 143,.int .u8 0,.int .u8 0,.int .u8 0,.int .u8 0,.int .u8 0,.int .u8 0,.int .u8 0,.int .u8 0,.int .u8 0,.int .u8 0,.int .u8 0,.int .u8 0,.int .u8 0,.int .u8 0,.int .u8 0,.int .u8 0,.int .u8 0,.int .u8 0,.int .u8 0,.int .u8 0,.int .u8 0,.int .u8 0]) t frozen
  | o=>o)}
set_option maxRecDepth 100000 in
theorem Eo (os:Os):laidMet Tryz.prog Rows.dicOrderUptoRow.laid ((q7 os).forCall (fun _ _=>0) ⟨#[],#[.agg #[.string ⟨⟨[]⟩⟩,.string ⟨⟨[]⟩⟩,.int .i64 0,.int .i64 0]],[]⟩).memory:=
 laidMet_of_run' 8 ab ab
theorem reads (os:Os) {H:Type} (enc:TypeId×Value→H):∃ a,DataW.whole enc Tryz.prog ((q7 os).forCall (fun _ _=>0) ⟨#[],#[.agg #[.string ⟨⟨[]⟩⟩,.string ⟨⟨[]⟩⟩,.int .i64 0,.int .i64 0]],[]⟩).memory Tryz.f4.params.toList Rows.dicOrderSpec.vars false #[.agg #[.string ⟨⟨[]⟩⟩,.string ⟨⟨[]⟩⟩,.int .i64 0,.int .i64 0]].toList 8=some ([.agg [.lit (.string []),.lit (.string []),.lit (.int .i64 0),.lit (.int .i64 0)]],[],a):=
 ⟨[],ab⟩
set_option maxRecDepth 100000 in
theorem lifted (os:Os) (started:os.Started) (H:Type) (enc:TypeId×Value→H) (F:Stop.Interp):
 ReturnsInHanded {} Tryz.checked os 4 .any ((Rows.OpenSpec.upto Rows.dicOrderSpec).preRow enc Tryz.prog Tryz.f4 Rows.dicOrderUptoRow.domain false Rows.dicOrderUptoRow.laid) (((Rows.OpenSpec.upto Rows.dicOrderSpec).at F).post enc Tryz.prog Tryz.f4 false true false false):=by
 obtain ⟨q,p⟩:=reads os enc
 refine returnsInHanded_of_row (C:=Tryz.checked) (s:=Rows.OpenSpec.upto Rows.dicOrderSpec) own started ab Tryz.func4
  (witness_row_at (enc:=enc) (C:=Tryz.checked) false (q7 os) #[.agg #[.string ⟨⟨[]⟩⟩,.string ⟨⟨[]⟩⟩,.int .i64 0,.int .i64 0]] rfl ab ab ab
   (OpenSpec.preRow_of_cond 8 p ab (fun k hk=>by cases hk; kernel_rfl) ab (Eo os))) ?_
 intro W base args a gs before j c _ i _ _ _ _
 exact Bb H enc W base args a gs before j c (i _ rfl)
theorem said:Rows.DicOrderUptoSaid:=
 OpenClaim.holds_of_cond 4 Tryz.f4 rfl rfl rfl rfl rfl rfl rfl ⟨rfl,rfl,rfl,rfl,rfl⟩ rfl rfl rfl rfl rfl ab Tryz.func4 ab
  (of_decide_eq_true ab) (by unfold Func.isWrapper; first | (rw [if_pos (by decide+kernel)]; kernel_rfl) | (rw [if_neg (by decide+kernel)]; exact ⟨rfl,rfl⟩))
  (fun os started H enc _ F=>by rw [OpenClaim.pre_eq_preRow]; exact lifted os started H enc F)
theorem plain (f:FuncId) (fn:Func) (c:Tryz.pinned.checked.prog.funcNamed "hornbook/hornbooklaw12.DicOrder" =some f) (i:Tryz.pinned.checked.prog.funcs[f]? =some fn):
 true =Tryz.pinned.checked.prog.looks []∧∀ (j:Nat) t,fn.params[j]? =some t→Tryz.pinned.checked.prog.wantsStandIn t=false :=by
 obtain rfl :f=4:=Option.some.inj ((show Tryz.prog.funcNamed "hornbook/hornbooklaw12.DicOrder" =some 4 by kernel_rfl).symm.trans c) |>.symm
 obtain rfl :fn=Tryz.f4:=(Option.some.inj (Tryz.func4.symm.trans i)).symm
 refine ⟨ab,fun j t a=> ?_⟩
 rw [Tryz.params4] at a
 have hm:=Array.mem_of_getElem? a
 simp only [List.mem_toArray,List.mem_cons,List.not_mem_nil,or_false] at hm
 rcases hm with rfl
 · exact (show Tryz.prog.wantsStandIn 44=false by kernel_rfl)
theorem holds:Rows.DicOrderUptoCardSaid:=
 Claim7.holds_tied_plain_at .later [] _ _ _ _ said (fun _ h=>by cases h) ab (fun _ h=>by cases h) dicOrderUpto_row_tie rfl ⟨rfl,rfl⟩ ab rfl plain ab
#print axioms holds
end Go.Proofs.YtkiemnnhcilhpaaGreatDoor.dicOrder
