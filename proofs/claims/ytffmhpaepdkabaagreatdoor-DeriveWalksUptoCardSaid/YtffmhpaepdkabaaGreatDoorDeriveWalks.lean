/-
  The law DeriveWalks holds of every input of bulk at most 1,048,576: the call returns true and leaves its arguments as they were. Conditions: none but the statement's own bound on the arguments' bulk.
-/
import Derived.Test.YtffmhpaepdkabaaGreatDoorMnDeriveWalks9
import Derived.Test.YtffmhpaepdkabaaGreatDoorRows
import Derived.Test.YtffmhpaepdkabaaGreatDoorCards
import Derived.Test.YtffmhpaepdkabaaGreatDoorTie
import Derived.WalkKit
import Derived.ProofKit
import Derived.OpenShut
import Derived.Deep.DeepHandedRow
import Derived.Lib.LaidTab
set_option linter.unusedVariables false
namespace Go.Proofs.YtffmhpaepdkabaaGreatDoor.deriveWalks
open Go.Hb Go.ChangeShapes Go.WideShapes Go.ChangeAt Go.RowKit
theorem own:ownKnob Tryz.prog.godebug=none:=aj
theorem laidOut:laidOutB Tryz.prog=true :=aj
set_option maxRecDepth 100000 in
theorem RO (H:Type) (enc:TypeId×Value→H) (W:World) (base:Nat) (args:Array Value) (i gs:List (DataW H)) (before:List MemPlace)
 (a:∀ (j:Nat) t v,Tryz.f5.params[j]? =some t→args[j]? =some v→Value.okWide Tryz.prog W .any base t v)
 (G:DataW.Whole enc Tryz.prog Tryz.f5.params.toList Rows.deriveWalksSpec.vars false W args.toList i gs before) (hk:Rows.uptoSmall H (i++gs)=true):
 Calls Tryz.prog 5 args W fun e W'=> ∃ v,e= .returned v∧Rows.deriveWalksSpec.post enc Tryz.prog Tryz.f5 false true false false W args v W':=by
 have A:=G
 obtain ⟨p,q,E,ag,rfl,_,_⟩:=G
 have C:DataW.TrodAll enc Tryz.prog W 0 (fun _=>true) true Tryz.f5.params.toList args.toList i p:=E
 rw [Tryz.params5] at C a
 obtain ⟨v0,aJ,d0,au,aD,aG,ax,rfl,rfl,Y,an⟩:=trodAll_cons C
 obtain ⟨v1,aK,d1,av,aE,aH,rfl,rfl,rfl,h1,ao⟩:=trodAll_cons an
 obtain ⟨v2,aL,d2,aw,aF,aI,rfl,rfl,rfl,h2,ap⟩:=trodAll_cons ao
 obtain ⟨rfl,rfl,rfl⟩:=trodAll_nil ap
 obtain rfl :args= #[v0,v1,v2]:=by cases args; simp_all
 obtain ⟨rfl,rfl⟩:=trodVars_none ag
 clear E
 have ah:=O1 hk
 simp only [List.append_nil,Rows.uptoBulkAll] at ah
 obtain ⟨aB,rfl⟩:=okWide_string Tryz.underlying9 (a 0 9 v0 rfl rfl)
 obtain ⟨O,ai⟩:=Y
 obtain ⟨_,aq,Z,ay⟩:=(Kr Tryz.underlying9 aj).op enc W O _ _ _ ai
 obtain ⟨aC,rfl⟩:=okWide_string Tryz.underlying9 (a 1 9 v1 rfl rfl)
 obtain ⟨U,ak⟩:=h1
 obtain ⟨_,ar,ac,az⟩:=(Kr Tryz.underlying9 aj).op enc W U _ _ _ ak
 obtain ⟨am,rfl⟩:=okWide_int Tryz.underlying3 (a 2 3 v2 rfl rfl)
 obtain ⟨V,al⟩:=h2
 obtain ⟨_,aM,ae,aA⟩:=(WE Tryz.underlying3 aj).op enc W V _ _ _ al
 have I:=Z
 simp only [Value.cells,List.cons.injEq,and_true] at I
 rw [I] at A ⊢
 have J:=ac
 simp only [Value.cells,List.cons.injEq,and_true] at J
 rw [J] at A ⊢
 obtain ⟨M,_⟩:=ae
 simp only [Value.cells,List.cons.injEq,Value.int.injEq,true_and,and_true] at M
 subst M
 exact Xr A aa aa aa Tryz.underlying4 laidOut aj (Zy aq ar am W ab ab)
noncomputable def CA (os:Os):World:=
 {World.holding Tryz.prog os ⟨#[],#[],[]⟩ with heap:=(((World.holding Tryz.prog os ⟨#[],#[],[]⟩).heap.modify 12 fun
  | .cells _ t frozen=> .cells ((Go.Pinned.utf8FirstZ.map fun n=>Value.int .u8 (n:Nat)).toArray) t frozen
  | o=>o).modify 13 fun
  | .cells _ t frozen=> .cells (#[.int .u8 128,.int .u8 191,.int .u8 160,.int .u8 191,.int .u8 128,.int .u8 159,.int .u8 144,.int .u8 191,.int .u8 128,.int .u8 143,.int .u8 0,.int .u8 0,.int .u8 0,.int .u8 0,.int .u8 0,.int .u8 0,.int .u8 0,.int .u8 0,.int .u8 0,.int .u8 0,.int .u8 0,.int .u8 0,.int .u8 0,.int .u8 0,.int .u8 0,.int .u8 0,.int .u8 0,.int .u8 0,.int .u8 0,.int .u8 0,.int .u8 0,.int .u8 0]) t frozen
  | o=>o)}
set_option maxRecDepth 100000 in
theorem VD (os:Os):laidMet Tryz.prog Rows.deriveWalksUptoRow.laid ((CA os).forCall (fun _ _=>0) ⟨#[],#[.string ⟨⟨[]⟩⟩,.string ⟨⟨[]⟩⟩,.int .i64 0],[]⟩).memory:=
 laidMet_of_run' 8 aj aj
theorem reads (os:Os) {H:Type} (enc:TypeId×Value→H):∃ a,DataW.whole enc Tryz.prog ((CA os).forCall (fun _ _=>0) ⟨#[],#[.string ⟨⟨[]⟩⟩,.string ⟨⟨[]⟩⟩,.int .i64 0],[]⟩).memory Tryz.f5.params.toList Rows.deriveWalksSpec.vars false #[.string ⟨⟨[]⟩⟩,.string ⟨⟨[]⟩⟩,.int .i64 0].toList 8=some ([.lit (.string []),.lit (.string []),.lit (.int .i64 0)],[],a):=
 ⟨[],aj⟩
set_option maxRecDepth 100000 in
theorem lifted (os:Os) (started:os.Started) (H:Type) (enc:TypeId×Value→H) (F:Stop.Interp):
 ReturnsInHanded {} Tryz.checked os 5 .any ((Rows.OpenSpec.upto Rows.deriveWalksSpec).preRow enc Tryz.prog Tryz.f5 Rows.deriveWalksUptoRow.domain false Rows.deriveWalksUptoRow.laid) (((Rows.OpenSpec.upto Rows.deriveWalksSpec).at F).post enc Tryz.prog Tryz.f5 false true false false):=by
 obtain ⟨G,E⟩:=reads os enc
 refine returnsInHanded_of_row (C:=Tryz.checked) (s:=Rows.OpenSpec.upto Rows.deriveWalksSpec) own started aj Tryz.func5
  (witness_row_at (enc:=enc) (C:=Tryz.checked) false (CA os) #[.string ⟨⟨[]⟩⟩,.string ⟨⟨[]⟩⟩,.int .i64 0] rfl aj aj aj
   (OpenSpec.preRow_of_cond 8 E aj (fun k hk=>by cases hk; kernel_rfl) aj (VD os))) ?_
 intro W base args a gs before A i _ q _ _ _ _
 exact RO H enc W base args a gs before A i (q _ rfl)
theorem fG {a b:Bool} (h:a=true) (k:b=true):(a && b)=true :=by rw [h,k]; rfl
theorem Vp:(Rows.deriveWalksUptoRow.inPlace==Tryz.pinned.checked.prog.inPlace 5)=true :=aj
theorem Vq:(Rows.deriveWalksUptoRow.unfollowed==Tryz.pinned.checked.prog.unfollowed 5)=true :=aj
theorem Vr:(Rows.deriveWalksUptoRow.recurses==Tryz.pinned.checked.prog.recurses 5)=true :=aj
theorem Vs:(Rows.deriveWalksUptoRow.named==Tryz.pinned.checked.prog.varsNamed 5)=true :=aj
theorem Vt:(Rows.deriveWalksUptoRow.lifted==Tryz.pinned.checked.prog.liftsFinal)=true :=aj
theorem jf:joinedFacts Tryz.pinned.checked.prog 5 Tryz.f5 (Rows.OpenSpec.upto Rows.deriveWalksSpec).bare Rows.deriveWalksUptoRow=true :=
 fG (fG (fG (fG (fG (fG (fG (fG (fG (fG (fG (fG (fG (fG (fG (fG (fG (fG (fG (fG (fG (fG (fG (fG (fG (fG (fG (fG (fG (fG (fG aj aj) aj) aj) aj) aj) aj) aj) aj) Vp) Vq) Vr) Vs) aj) aj) aj) aj) aj) aj) aj) aj) aj) aj) aj) aj) aj) Vt) aj) aj) aj) aj) aj
theorem said:Rows.DeriveWalksUptoSaid:=
 OpenClaim.holds_of_cond 5 Tryz.f5 rfl rfl rfl rfl rfl rfl rfl ⟨rfl,rfl,rfl,rfl,rfl⟩ rfl rfl rfl rfl rfl aj Tryz.func5 jf
  (of_decide_eq_true aj) (by unfold Func.isWrapper; first | (rw [if_pos (by decide+kernel)]; kernel_rfl) | (rw [if_neg (by decide+kernel)]; exact ⟨rfl,rfl⟩))
  (fun os started H enc _ F=>by rw [OpenClaim.pre_eq_preRow]; exact lifted os started H enc F)
theorem plain (f:FuncId) (fn:Func) (i:Tryz.pinned.checked.prog.funcNamed "hornbook/hornbooklaw16.DeriveWalks" =some f) (q:Tryz.pinned.checked.prog.funcs[f]? =some fn):
 true =Tryz.pinned.checked.prog.looks []∧∀ (j:Nat) t,fn.params[j]? =some t→Tryz.pinned.checked.prog.wantsStandIn t=false :=by
 obtain rfl :f=5:=Option.some.inj ((show Tryz.prog.funcNamed "hornbook/hornbooklaw16.DeriveWalks" =some 5 by kernel_rfl).symm.trans i) |>.symm
 obtain rfl :fn=Tryz.f5:=(Option.some.inj (Tryz.func5.symm.trans q)).symm
 refine ⟨aj,fun j t a=> ?_⟩
 rw [Tryz.params5] at a
 have hm:=Array.mem_of_getElem? a
 simp only [List.mem_toArray,List.mem_cons,List.not_mem_nil,or_false] at hm
 rcases hm with rfl | rfl | rfl
 · exact (show Tryz.prog.wantsStandIn 9=false by kernel_rfl)
 · exact (show Tryz.prog.wantsStandIn 9=false by kernel_rfl)
 · exact (show Tryz.prog.wantsStandIn 3=false by kernel_rfl)
theorem holds:Rows.DeriveWalksUptoCardSaid:=
 Claim7.holds_tied_plain_at .later [] _ _ _ _ said (fun _ h=>by cases h) aj (fun _ h=>by cases h) deriveWalksUpto_row_tie rfl ⟨rfl,rfl⟩ aj rfl plain aj
#print axioms holds
end Go.Proofs.YtffmhpaepdkabaaGreatDoor.deriveWalks
