/-
  The law DeriveSound holds of every input of bulk at most 1,048,576: the call returns true and leaves its arguments as they were. Conditions: none but the statement's own bound on the arguments' bulk.
-/
import Derived.Test.YtffmhpaepdkabaaGreatDoorMnDeriveSound6
import Derived.Test.YtffmhpaepdkabaaGreatDoorRows
import Derived.Test.YtffmhpaepdkabaaGreatDoorCards
import Derived.Test.YtffmhpaepdkabaaGreatDoorTie
import Derived.WalkKit
import Derived.ProofKit
import Derived.OpenShut
import Derived.Deep.DeepHandedRow
import Derived.Lib.LaidTab
set_option linter.unusedVariables false
namespace Go.Proofs.YtffmhpaepdkabaaGreatDoor.deriveSound
open Go.Hb Go.ChangeShapes Go.WideShapes Go.ChangeAt Go.RowKit
theorem own:ownKnob Tryz.prog.godebug=none:=ag
theorem laidOut:laidOutB Tryz.prog=true :=ag
set_option maxRecDepth 100000 in
theorem Kl (H:Type) (enc:TypeId×Value→H) (W:World) (base:Nat) (args:Array Value) (c gs:List (DataW H)) (before:List MemPlace)
 (a:∀ (j:Nat) t v,Tryz.f8.params[j]? =some t→args[j]? =some v→Value.okWide Tryz.prog W .any base t v)
 (E:DataW.Whole enc Tryz.prog Tryz.f8.params.toList Rows.deriveSoundSpec.vars false W args.toList c gs before) (hk:Rows.uptoSmall H (c++gs)=true):
 Calls Tryz.prog 8 args W fun e W'=> ∃ v,e= .returned v∧Rows.deriveSoundSpec.post enc Tryz.prog Tryz.f8 false true false false W args v W':=by
 have i:=E
 obtain ⟨p,q,C,ad,rfl,_,_⟩:=E
 have A:DataW.TrodAll enc Tryz.prog W 0 (fun _=>true) true Tryz.f8.params.toList args.toList c p:=C
 rw [Tryz.params8] at A a
 obtain ⟨v0,aH,d0,aq,aB,aE,av,rfl,rfl,V,al⟩:=trodAll_cons A
 obtain ⟨v1,aI,d1,ar,aC,aF,rfl,rfl,rfl,h1,am⟩:=trodAll_cons al
 obtain ⟨v2,aJ,d2,au,aD,aG,rfl,rfl,rfl,h2,an⟩:=trodAll_cons am
 obtain ⟨rfl,rfl,rfl⟩:=trodAll_nil an
 obtain rfl :args= #[v0,v1,v2]:=by cases args; simp_all
 obtain ⟨rfl,rfl⟩:=trodVars_none ad
 clear C
 have ae:=HR hk
 simp only [List.append_nil,Rows.uptoBulkAll] at ae
 obtain ⟨az,rfl⟩:=okWide_string Tryz.underlying9 (a 0 9 v0 rfl rfl)
 obtain ⟨M,ah⟩:=V
 obtain ⟨_,ao,Y,aw⟩:=(DN Tryz.underlying9 ag).op enc W M _ _ _ ah
 obtain ⟨aA,rfl⟩:=okWide_string Tryz.underlying9 (a 1 9 v1 rfl rfl)
 obtain ⟨O,ai⟩:=h1
 obtain ⟨_,ap,Z,ax⟩:=(DN Tryz.underlying9 ag).op enc W O _ _ _ ai
 obtain ⟨ak,rfl⟩:=okWide_int Tryz.underlying3 (a 2 3 v2 rfl rfl)
 obtain ⟨U,aj⟩:=h2
 obtain ⟨_,aK,ac,ay⟩:=(Pb Tryz.underlying3 ag).op enc W U _ _ _ aj
 have G:=Y
 simp only [Value.cells,List.cons.injEq,and_true] at G
 rw [G] at i ⊢
 have I:=Z
 simp only [Value.cells,List.cons.injEq,and_true] at I
 rw [I] at i ⊢
 obtain ⟨J,_⟩:=ac
 simp only [Value.cells,List.cons.injEq,Value.int.injEq,true_and,and_true] at J
 subst J
 exact P5 i aa aa aa Tryz.underlying4 laidOut ag (QN ao ap ak W ab ab)
noncomputable def x8 (os:Os):World:=
 {World.holding Tryz.prog os ⟨#[],#[],[]⟩ with heap:=(((World.holding Tryz.prog os ⟨#[],#[],[]⟩).heap.modify 12 fun
  | .cells _ t frozen=> .cells ((Go.Pinned.utf8FirstZ.map fun n=>Value.int .u8 (n:Nat)).toArray) t frozen
  | o=>o).modify 13 fun
  | .cells _ t frozen=> .cells (#[.int .u8 128,.int .u8 191,.int .u8 160,.int .u8 191,.int .u8 128,.int .u8 159,.int .u8 144,.int .u8 191,.int .u8 128,.int .u8 143,.int .u8 0,.int .u8 0,.int .u8 0,.int .u8 0,.int .u8 0,.int .u8 0,.int .u8 0,.int .u8 0,.int .u8 0,.int .u8 0,.int .u8 0,.int .u8 0,.int .u8 0,.int .u8 0,.int .u8 0,.int .u8 0,.int .u8 0,.int .u8 0,.int .u8 0,.int .u8 0,.int .u8 0,.int .u8 0]) t frozen
  | o=>o)}
set_option maxRecDepth 100000 in
theorem N4 (os:Os):laidMet Tryz.prog Rows.deriveSoundUptoRow.laid ((x8 os).forCall (fun _ _=>0) ⟨#[],#[.string ⟨⟨[]⟩⟩,.string ⟨⟨[]⟩⟩,.int .i64 0],[]⟩).memory:=
 laidMet_of_run' 8 ag ag
theorem reads (os:Os) {H:Type} (enc:TypeId×Value→H):∃ a,DataW.whole enc Tryz.prog ((x8 os).forCall (fun _ _=>0) ⟨#[],#[.string ⟨⟨[]⟩⟩,.string ⟨⟨[]⟩⟩,.int .i64 0],[]⟩).memory Tryz.f8.params.toList Rows.deriveSoundSpec.vars false #[.string ⟨⟨[]⟩⟩,.string ⟨⟨[]⟩⟩,.int .i64 0].toList 8=some ([.lit (.string []),.lit (.string []),.lit (.int .i64 0)],[],a):=
 ⟨[],ag⟩
set_option maxRecDepth 100000 in
theorem lifted (os:Os) (started:os.Started) (H:Type) (enc:TypeId×Value→H) (F:Stop.Interp):
 ReturnsInHanded {} Tryz.checked os 8 .any ((Rows.OpenSpec.upto Rows.deriveSoundSpec).preRow enc Tryz.prog Tryz.f8 Rows.deriveSoundUptoRow.domain false Rows.deriveSoundUptoRow.laid) (((Rows.OpenSpec.upto Rows.deriveSoundSpec).at F).post enc Tryz.prog Tryz.f8 false true false false):=by
 obtain ⟨E,A⟩:=reads os enc
 refine returnsInHanded_of_row (C:=Tryz.checked) (s:=Rows.OpenSpec.upto Rows.deriveSoundSpec) own started ag Tryz.func8
  (witness_row_at (enc:=enc) (C:=Tryz.checked) false (x8 os) #[.string ⟨⟨[]⟩⟩,.string ⟨⟨[]⟩⟩,.int .i64 0] rfl ag ag ag
   (OpenSpec.preRow_of_cond 8 A ag (fun k hk=>by cases hk; kernel_rfl) ag (N4 os))) ?_
 intro W base args a gs before q c _ i _ _ _ _
 exact Kl H enc W base args a gs before q c (i _ rfl)
theorem eh {a b:Bool} (h:a=true) (k:b=true):(a && b)=true :=by rw [h,k]; rfl
theorem NP:(Rows.deriveSoundUptoRow.inPlace==Tryz.pinned.checked.prog.inPlace 8)=true :=ag
theorem NQ:(Rows.deriveSoundUptoRow.unfollowed==Tryz.pinned.checked.prog.unfollowed 8)=true :=ag
theorem NR:(Rows.deriveSoundUptoRow.recurses==Tryz.pinned.checked.prog.recurses 8)=true :=ag
theorem NS:(Rows.deriveSoundUptoRow.named==Tryz.pinned.checked.prog.varsNamed 8)=true :=ag
theorem NT:(Rows.deriveSoundUptoRow.lifted==Tryz.pinned.checked.prog.liftsFinal)=true :=ag
theorem jf:joinedFacts Tryz.pinned.checked.prog 8 Tryz.f8 (Rows.OpenSpec.upto Rows.deriveSoundSpec).bare Rows.deriveSoundUptoRow=true :=
 eh (eh (eh (eh (eh (eh (eh (eh (eh (eh (eh (eh (eh (eh (eh (eh (eh (eh (eh (eh (eh (eh (eh (eh (eh (eh (eh (eh (eh (eh (eh ag ag) ag) ag) ag) ag) ag) ag) ag) NP) NQ) NR) NS) ag) ag) ag) ag) ag) ag) ag) ag) ag) ag) ag) ag) ag) NT) ag) ag) ag) ag) ag
theorem said:Rows.DeriveSoundUptoSaid:=
 OpenClaim.holds_of_cond 8 Tryz.f8 rfl rfl rfl rfl rfl rfl rfl ⟨rfl,rfl,rfl,rfl,rfl⟩ rfl rfl rfl rfl rfl ag Tryz.func8 jf
  (of_decide_eq_true ag) (by unfold Func.isWrapper; first | (rw [if_pos (by decide+kernel)]; kernel_rfl) | (rw [if_neg (by decide+kernel)]; exact ⟨rfl,rfl⟩))
  (fun os started H enc _ F=>by rw [OpenClaim.pre_eq_preRow]; exact lifted os started H enc F)
theorem plain (f:FuncId) (fn:Func) (c:Tryz.pinned.checked.prog.funcNamed "hornbook/hornbooklaw16.DeriveSound" =some f) (i:Tryz.pinned.checked.prog.funcs[f]? =some fn):
 true =Tryz.pinned.checked.prog.looks []∧∀ (j:Nat) t,fn.params[j]? =some t→Tryz.pinned.checked.prog.wantsStandIn t=false :=by
 obtain rfl :f=8:=Option.some.inj ((show Tryz.prog.funcNamed "hornbook/hornbooklaw16.DeriveSound" =some 8 by kernel_rfl).symm.trans c) |>.symm
 obtain rfl :fn=Tryz.f8:=(Option.some.inj (Tryz.func8.symm.trans i)).symm
 refine ⟨ag,fun j t a=> ?_⟩
 rw [Tryz.params8] at a
 have hm:=Array.mem_of_getElem? a
 simp only [List.mem_toArray,List.mem_cons,List.not_mem_nil,or_false] at hm
 rcases hm with rfl | rfl | rfl
 · exact (show Tryz.prog.wantsStandIn 9=false by kernel_rfl)
 · exact (show Tryz.prog.wantsStandIn 9=false by kernel_rfl)
 · exact (show Tryz.prog.wantsStandIn 3=false by kernel_rfl)
theorem holds:Rows.DeriveSoundUptoCardSaid:=
 Claim7.holds_tied_plain_at .later [] _ _ _ _ said (fun _ h=>by cases h) ag (fun _ h=>by cases h) deriveSoundUpto_row_tie rfl ⟨rfl,rfl⟩ ag rfl plain ag
#print axioms holds
end Go.Proofs.YtffmhpaepdkabaaGreatDoor.deriveSound
