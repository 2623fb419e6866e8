/-
  Walks and plain laws that the law rests on, laid together. No conditions but those that each theorem names.
-/
import Derived.WalkKit
import Derived.OrdersHeld
import Derived.TacticsIn
import Derived.Lib.Strings
import Derived.Lib.UnsafeStr
import Derived.Laws.MakeOwn
import Derived.Laws.StructEq
import Derived.SliceStrings
import Derived.Carry
import Derived.JoinedCond
import Derived.ProofKit
import Derived.OpenShut
import Derived.Test.YtffmhpaepdkabaaGreatDoorRows
import Derived.Sort.AssemblyPlain
import Derived.RangeFuncFrom
import Derived.RangeFuncLeaves
import Derived.Recover
import Derived.Laws.OwnMore
import Derived.Lib.Bytealg
import Derived.Lib.SliceRun
import Derived.OrdersIn
import Derived.Test.YtffmhpaepdkabaaGreatDoorChecked
import Derived.Shelf.Slices.In.SortAlone
import Derived.Shelf.Slices.In.SortNone
import Derived.Sort.OwnSortedInts
import Derived.Sort.EveryDepth
set_option linter.unusedVariables false
open Array renaming ext_getElem?→Fy,getD_eq_getD_getElem?→za,getElem?_eq_getElem→u6,getElem?_eq_none→qA,getElem?_eq_some_iff→cy,getElem?_setIfInBounds→zb,getElem?_toList→zc,length_toList→sD,mem_toList_iff→sE,range→nw,replicate→qB,setIfInBounds_comm→zd,toArray_toList→u7,toList_append→FB,toList_inj→vb,toList_map→kB,toList_setIfInBounds→ze
open BitVec renaming ofInt→eN,toNat_and→FD,toNat_ofInt→ny,toNat_or→FE
open Bool renaming and_eq_true→fE,eq_iff_iff→qC,noConfusion→c7,not_eq_true'→vd,or_eq_true→zf,or_false→FF,true_and→sF
open Except.ok renaming injEq→o6
open Go.Addr renaming add→vf
open Go.Builtin renaming append_→vg,firstCells→FG,lenOf→FH,len_→FI
open Go.Calls renaming mono→jQ
open Go.Conv renaming bytesToString→FL,seenAt→FM,unsafePointer→FN
open Go.DataW renaming TrodAll→FO
open Go.Deferred renaming ofValue→nz
open Go.Fence renaming wide→gq
open Go.Instr renaming alloc→FR,buildSlice→zh,checkKey→qE,fill→kZ,findKey→vj,loadAt→FV,lookup→FW,slice→sH,sliceAt→o8,sliceBound→pc,sliceBounds→mT,storeAt→zl,sureAddr→n9
open Go.IntKind renaming i64→vk,u16→mU,u64→dy,u8→nA
open Go.Next renaming value→zm
open Go.Obj.cells renaming injEq→sI
open Go.Op renaming equal→zn,equalIn→qF,intArith→sJ,intBits→sK,intCmp→qG,stringOp→zo,unary→zp
open Go.Oper renaming upon→ju,uponIn→oa,wp→iF
open Go.Region renaming Mode→pd,binds→iG,free_spec→zq,noSelect_spec→zr,ready→gF,wanted→oc
open Go.Result renaming andThen_ok→ph,ok→zt
open Go.Sem renaming run_bind→pj,run_ite→zy,run_pure→qH
open Go.Sort renaming SortedIn→qI
open Go.Value renaming bool→bQ,cells→qL,int→gG,oneCell'→eW,ownBlock→fT,pointer→vo,slice→bB
open Go.Value.slice renaming injEq→lF
open Go.Value.string renaming inj→F9
open Go.World renaming freeze→sN,ownsRow_nil→dJ,setCell→vt,shape?→zE
open Int renaming toNat_natCast→jv
open List.Pairwise renaming imp_of_mem→SB
open List renaming all_cons→vu,all_eq_true→kD,any_eq_true→Ge,append_assoc→dK,append_nil→eb,cons_append→zH,drop_append→Gf,drop_eq_nil_of_le→k0,drop_of_length_le→Gg,drop_succ_cons→sO,drop_take→vw,drop_zero→sP,eq_nil_of_length_eq_zero→gr,ext_getElem?→nB,filter_eq_self→Gh,flatMap_cons→jw,foldl_append→zL,foldl_cons→qN,getD_cons_zero→ma,getD_eq_getElem?_getD→cX,getElem?_append_left→lG,getElem?_append_right→me,getElem?_cons_succ→Gn,getElem?_drop→sQ,getElem?_eq_getElem→cj,getElem?_eq_none→qO,getElem?_map→gu,getElem?_range→vA,getElem?_set→jR,getElem?_take→mg,idxOf_cons→sR,idxOf_cons_self→zN,length→k3,length_append→bJ,length_cons→bV,length_drop→fU,length_filter_le→vC,length_nil→fV,length_pos_iff→mW,length_singleton→iH,length_take→ec,mapM_toArray→sT,map_append→iJ,map_cons→nD,mem_append_left→Gt,mem_cons→eY,mem_cons_of_mem→oq,mem_iff_getElem→Gv,mem_map→lH,mem_map_of_mem→sU,mem_of_getElem?→gV,mem_range→sV,mem_singleton→lI,nil_append→lJ,nodup_cons→Gx,nodup_iff_pairwise_ne→Gy,pairwise_cons→nE,range→gH,replicate→iK,size_toArray→mi,takeWhile_sublist→GD,take_append→sY,take_nil→GF,take_of_length_le→fq,take_succ_cons→qQ,take_zero→nG,zipIdx_cons→vE
open Nat renaming add_assoc→GH,add_sub_cancel→qR,add_sub_cancel_left→GJ,beq→sZ,ble→lK,blt→e8,eq_of_beq_eq_true→GK,le_of_ble_eq_true→ot,le_refl→cw,le_trans→e9,lt_of_lt_of_le→pw,lt_or_ge→gI,lt_succ_self→qS,min_eq_left→mY,mul_le_mul_right→qT,or_lt_two_pow→zS,pow_lt_pow_right→vF,succ_mul→nH,testBit_or→GL,testBit_two_pow→GM,zero_add→fF,zero_mul→zT
open Option renaming bind_some→mj,isSome_iff_exists→nI,map_eq_some_iff→lL,map_some→kE
open Option.some renaming injEq→eZ
open Prod renaming fst→gW
open Prod.mk renaming injEq→s5
open UInt8 renaming ofNat→jd,toNat_inj→pA,toNat_lt→iS,toNat_ofNat'→zV
open Go.Proofs.Tryz
open Go.RowKit

namespace Go.Hb
theorem ab {p:Prop} (h:p:=by omega):p:=h
theorem ag {p:Prop} (h:p:=by kernel_rfl):p:=h
theorem aw {p:Prop} (h:p:=by decide):p:=h
theorem aa {α:Sort _} {a:α} :a=a:=rfl
end Go.Hb
section
namespace Go.Hb
structure Fm where
 n:Nat
 D:List Deferred
 F:List Nat
 r:Option Nat
def cB (σ:Nat→Value) (d:Nat) (v:Value):Nat→Value:=fun i=>cond (sZ i d) v<|σ i
def fD (σ:Nat→Value):Option Nat→Value→Nat→Value
 | some d,v=>cB σ d v
 | none,_=>σ
def act (N:Fm) (σ:Nat→Value):Act:=⟨((gH N.n).map σ).toArray,N.D⟩
def ev (N:Fm) (σ:Nat→Value):Operand→Value
 | .tmp t=>cond (e8 t N.n) (σ t) undef
 | .const v=>v
 | .global g=> .pointer<|some ⟨g,0,none⟩
 | .func f=> .func (.func f) #[] #[]
theorem m7 (N:Fm) (σ:Nat→Value) (t:Nat):(act N σ).tmps[t]? =if t < N.n then some (σ t) else none:=by
 simp only [act,List.getElem?_toArray,gu]
 split
 · rename_i h; rw [vA h]; rfl
 · rename_i h; rw [qO (by simpa using h)]; rfl
theorem fH (N:Fm) (σ:Nat→Value):(act N σ).eval=ev N σ:=by
 funext x
 cases x with
 | tmp t=>
   simp only [Act.eval,ev,za,m7]
   by_cases h:t < N.n
   · rw [if_pos h,show e8 t N.n=true from by simpa using h]; rfl
   · rw [if_neg h,show e8 t N.n=false from by cases hx:e8 t N.n <;> simp_all [e8,Nat.ble_eq] <;> omega]; rfl
 | _=>rfl
theorem tg {a b:Act} (hd:a.defers=b.defers) (c:∀ i:Nat,a.tmps[i]? =b.tmps[i]?):a=b:=by
 cases a; cases b
 simp only at hd c
 subst hd
 congr 1
 exact Fy c
theorem il (N:Fm) (σ:Nat→Value) (dst:Option Nat) (v:Value):(act N σ).put dst v=act N (fD σ dst v):=by
 cases dst with
 | none=>rfl
 | some d=>
   refine tg aa fun i=> ?_
   have q:((act N σ).put (some d) v).tmps=(act N σ).tmps.setIfInBounds d v:=rfl
   rw [q,zb,m7,m7]
   have hs:(act N σ).tmps.size=N.n:=by simp [act]
   simp only [fD,cB]
   by_cases c:i=d
   · subst c
     rw [hs]
     have a:sZ i i=true :=by simp
     by_cases h:i < N.n
     · rw [if_pos rfl,if_pos h,if_pos h,a]; rfl
     · rw [if_pos rfl,if_neg h,if_neg h]
   · rw [if_neg (fun e=>c e.symm)]
     have a:sZ i d=false :=by
      cases hx:sZ i d
      · rfl
      · exact absurd (GK hx) c
     rw [a]; rfl
theorem l2 {σ:Nat→Value} {i:Nat} {v:Value} (h:σ i=v):cB σ i v=σ:=by
 funext j
 unfold cB
 cases hx:sZ j i
 · rfl
 · have :=GK hx; subst this; exact h.symm
def lift (N:Fm) (Q:Exit→(Nat→Value)→World→Prop):Exit→Act→World→Prop
 | .panic c,a,w=> ∃ σ,a=act N σ∧∀ q,(∀ i∈N.F,q i=σ i)→Q (.panic c) q w
 | .outgrown,_,_=>False
 | e,a,w=> ∃ σ,a=act N σ∧Q e σ w
def fe:Option Nat→Fence
 | none=>gq
 | some l=>gq.inRound l
theorem xq (r:Option Nat):(fe r).round=r:=by cases r <;> rfl
theorem tR (r:Option Nat) (f:FuncId):(fe r).fn f:=by cases r <;> trivial
theorem rH (r:Option Nat):(fe r).depth=none:=by cases r <;> rfl
theorem BW {r:Option Nat} {n:Nat} {P:Program} {f:FuncId} {args:Array Value} {w:World} {R:Ending→World→Prop} (h:Calls P f args w R):CallsIn (fe r) n P f args w R:=by
 cases r
 · exact callsIn_wide.2 h
 · exact (callsIn_wide (n:=n)).2 h
theorem xr {r:Option Nat} {n:Nat} {P:Program} {row:String} {args:Array Value} {w:World} {R:Value→World→Prop} (h:Rows P row args w R):RowsIn (fe r) n P row args w R:=fun c cs _=>by
 obtain ⟨v,w',a,hs⟩:=h c cs
 refine ⟨v,w',a,?_⟩
 cases r
 · exact stepsIn_wide.2 hs
 · exact stepsIn_wide.2 hs
def DB (ops:List Oper):Bool:=ops.all fun o=>match o.op with | .defer _=>false | _=>true
def qf (r:Option Nat) (ops:List Oper):Bool:=match r with | none=>true | some _=>DB ops
theorem OY {l:List Oper} (h:DB l=true):∀ o∈l,∀ c,o.op≠.defer c:=fun o a c e=>by
 have :=kD.1 h o a
 rw [e] at this
 cases this
theorem xZ {r:Option Nat} {P:Program} {ops:Array Oper} {Q:Exit→Act→World→Prop} (A:¬LetsOut Q) (C:qf r ops.toList=true):∀ (l:List Nat) (a:Act) (w:World),wpOps P ops Q l a w→wpOpsIn (fe r) 0 P ops Q l a w:=by
 intro l
 induction l with
 | nil=>exact fun _ _ h=>h
 | cons i l q=>
   intro a w h
   simp only [wpOps] at h
   simp only [wpOpsIn]
   cases ho:ops[i]? with
   | none=>simp only [ho] at h ⊢; exact q a w h
   | some o=>
     simp only [ho] at h ⊢
     by_cases hw:oc o (yielded ops a.tmps)=true
     · rw [if_pos hw] at h ⊢
       rcases h with h | h
       · refine ⟨fun f _=>tR r f,?_⟩
         rw [xq]
         have E:o.semAt r a.eval=execOp a.eval o:=by
          cases r with
          | none=>rfl
          | some k=>exact Oper.semAt_eq _ _ _<|OY C o<|sE.2<|Array.mem_of_getElem? ho
         rw [E]
         unfold iF at h
         generalize (execOp a.eval o).run P w=x at h
         cases x with
         | ok n w'=>
           cases n <;> simp only [ju,oa] at h ⊢ <;>
            first
             | exact q _ _ h
             | (refine ⟨fun c=>(by rw [rH] at c; cases c),CallsIn.mono (BW h) fun e w'' he=> ?_⟩
                cases e <;> first | exact q _ _ he | exact he)
             | exact ⟨fun c=>(by rw [rH] at c; cases c),RowsIn.mono (xr h) fun v w'' he=>q _ _ he⟩
         | halt x w'=>cases x <;> simp only [ju,oa] at h ⊢ <;> exact h
       · exact absurd h.2 A
     · rw [if_neg hw] at h ⊢
       exact ⟨fun f _=>tR r f,q _ _ h⟩
def cH (P:Program) (N:Fm) (c:Code) (Q:Exit→(Nat→Value)→World→Prop) (σ:Nat→Value) (w:World):Prop :=
 c.wpIn (fe N.r) 0 P (lift N Q) (act N σ) w
def dD (P:Program) (N:Fm) (ops:Array Oper) (Q:Exit→(Nat→Value)→World→Prop) (l:List Oper) (σ:Nat→Value) (w:World):Prop :=
 wpList P ops (lift N Q) l (act N σ) w
def kb (K:(Nat→Value)→World→Prop) (Q:Exit→(Nat→Value)→World→Prop):Exit→(Nat→Value)→World→Prop
 | .normal,σ,w=>K σ w
 | e,σ,w=>Q e σ w
def nU (id:Nat) (Q:Exit→(Nat→Value)→World→Prop):Exit→(Nat→Value)→World→Prop
 | .exit a,σ,w=>if a=id then Q .normal σ w else Q (.exit a) σ w
 | e,σ,w=>Q e σ w
section
variable {P:Program} {N:Fm} {Q:Exit→(Nat→Value)→World→Prop} {σ:Nat→Value} {w:World} {K:(Nat→Value)→World→Prop}
theorem Ob {Q q:Exit→(Nat→Value)→World→Prop} (h:∀ e σ w,Q e σ w→q e σ w) (e:Exit) (a:Act) (w:World):lift N Q e a w→lift N q e a w:=by
 cases e <;> first | exact fun h=>h.elim | exact fun ⟨σ,c,i⟩=>⟨σ,c,h _ _ _ i⟩ | exact fun ⟨σ,c,i⟩=>⟨σ,c,fun C A=>h _ _ _<|i C A⟩
theorem Sa {a:Exit→(Nat→Value)→World→Prop} {c:Code} (h:∀ e σ w,Q e σ w→a e σ w) (i:cH P N c Q σ w):cH P N c a σ w:=
 wpIn_mono i (Ob h)
theorem tn (h:K σ w):kb K Q .normal σ w:=h
theorem te (id:Nat) (h:Q (.exit id) σ w):kb K Q (.exit id) σ w:=h
theorem tr (h:Q .ret σ w):kb K Q .ret σ w:=h
theorem bn {id:Nat} (h:Q .normal σ w):nU id Q .normal σ w:=h
theorem be {id:Nat} (h:Q .normal σ w):nU id Q (.exit id) σ w:=by simpa only [nU,if_true] using h
theorem la {id a:Nat} (c:a≠id) (h:Q (.exit a) σ w):nU id Q (.exit a) σ w:=by simpa only [nU,if_neg c] using h
theorem br {id:Nat} (h:Q .ret σ w):nU id Q .ret σ w:=h
theorem sq {x y:Code} (h:∀ K:(Nat→Value)→World→Prop,(∀ σ w,cH P N y Q σ w→K σ w)→cH P N x (kb K Q) σ w):cH P N (.seq x y) Q σ w:=by
 refine wpIn_seq<|wpIn_mono (h (fun σ w=>cH P N y Q σ w) fun _ _ h=>h) ?_
 intro e a w i
 cases e with
 | normal=>obtain ⟨σ,rfl,q⟩:=i; exact q
 | panic c=>exact i
 | outgrown=>exact i
 | _=>obtain ⟨σ,rfl,q⟩:=i; exact ⟨σ,rfl,q⟩
theorem eD {x y:Code} (a:(Nat→Value)→World→Prop) (h:cH P N x (kb a Q) σ w) (hk:∀ σ w,a σ w→cH P N y Q σ w):cH P N (.seq x y) Q σ w:=
 sq fun _ i=>Sa (fun e _ _ c=>by cases e <;> first | exact i _ _ (hk _ _ c) | exact c) h
theorem ct {c:Operand} {x y:Code} (a:ev N σ c= .bool true) (h:cH P N x Q σ w):cH P N (.cond c x y) Q σ w:=
 wpIn_cond_true (by rw [fH]; exact a) h
theorem cf {c:Operand} {x y:Code} (a:ev N σ c= .bool false) (h:cH P N y Q σ w):cH P N (.cond c x y) Q σ w:=
 wpIn_cond_false (by rw [fH]; exact a) h
theorem cb {c:Operand} {x y:Code} {b:Bool} (a:ev N σ c= .bool b) (q:b=true→cH P N x Q σ w) (i:b=false→cH P N y Q σ w):cH P N (.cond c x y) Q σ w:=by
 cases b
 · exact cf a<|i aa
 · exact ct a<|q aa
theorem cd {c:Operand} {x y:Code} {p:Prop} [Decidable p] (a:ev N σ c= .bool (decide p)) (q:p→cH P N x Q σ w) (i:¬p→cH P N y Q σ w):cH P N (.cond c x y) Q σ w:=
 cb a (fun h=>q<|of_decide_eq_true h) (fun h=>i<|of_decide_eq_false h)
theorem aB {id:Nat} {c:Code} (h:cH P N c (nU id Q) σ w):cH P N (.block id c) Q σ w:=by
 refine wpIn_block<|wpIn_mono h ?_
 intro e a w q
 cases e with
 | panic c=>exact q
 | outgrown=>exact q
 | exit A=>
   obtain ⟨σ,rfl,i⟩:=q
   simp only [nU,Exit.inBlock] at i ⊢
   split
   · rename_i e; rw [if_pos e] at i; exact ⟨σ,rfl,i⟩
   · rename_i e; rw [if_neg e] at i; exact ⟨σ,rfl,i⟩
 | _=>obtain ⟨σ,rfl,i⟩:=q; exact ⟨σ,rfl,i⟩
theorem ext {id:Nat} (h:Q (.exit id) σ w):cH P N (.exit id) Q σ w:=wpIn_exit ⟨σ,rfl,h⟩
theorem aO (h:Q .normal σ w):cH P N .skip Q σ w:=wpIn_skip ⟨σ,rfl,h⟩
theorem rt (h:Q .ret σ w):cH P N .ret Q σ w:=wpIn_ret ⟨σ,rfl,h⟩
theorem fx {c:Code} {v:Value} (i:Nat) (h:σ i=v) (a:cH P N c Q (cB σ i v) w):cH P N c Q σ w:=by rw [l2 h] at a; exact a
theorem lp {c:Code} (E:Nat→(Nat→Value)→World→Prop) (n:Nat) (Y:E n σ w)
 (h:∀ n σ w,E n σ w→cH P N c (kb (fun ai w'=> ∃ m,m < n∧E m ai w') Q) σ w):cH P N (.loop c) Q σ w:=by
 intro b k cs ae I J
 have key:∀ n σ w,E n σ w→
  ∃ e G w',lift N Q e G w'∧ArrivesIn (Machine.fenced P<|fe N.r) P (lone (b.atR (act N σ) (.code c:: .inLoop c::k)) cs w) b k cs e G w':=by
  intro n
  induction n using Nat.strongRecOn with
  | _ n ag=>
    intro σ w Z
    obtain ⟨e,M,C,A,i⟩:=h n σ w Z b (.inLoop c::k) cs ae I J
    cases e with
    | normal=>
      obtain ⟨a,rfl,m,hm,ab⟩:=A
      obtain ⟨V,O,ah,ad,ac⟩:=ag m hm a C ab
      exact ⟨V,O,ah,ad,.of_steps (StepsIn.trans i<|.one (fenced_calm I J aa) stepR_inLoop) ac⟩
    | exit id=>obtain ⟨a,rfl,q⟩:=A; exact ⟨.exit id,act N a,C,⟨a,rfl,q⟩,.pass (x:= .inLoop c) rfl (fun _ _=> .inl<|by simp) i⟩
    | goto l=>obtain ⟨a,rfl,q⟩:=A; exact ⟨.goto l,act N a,C,⟨a,rfl,q⟩,.pass (x:= .inLoop c) rfl (fun _ _=> .inl<|by simp) i⟩
    | ret=>obtain ⟨a,rfl,q⟩:=A; exact ⟨.ret,act N a,C,⟨a,rfl,q⟩,.pass (x:= .inLoop c) rfl (fun _ _=> .inl<|by simp) i⟩
    | panic U=>exact ⟨.panic U,M,C,A,.pass (x:= .inLoop c) rfl (fun _ _=> .inl<|by simp) i⟩
    | outgrown=>exact A.elim
 obtain ⟨e,G,w',q,i⟩:=key _ σ w Y
 exact ⟨e,G,w',q,.of_steps (.one (fenced_calm I J aa) stepR_loop) i⟩
def cE (P:Program) (N:Fm) (o:Oper) (σ:Nat→Value) (w:World) (K:(Nat→Value)→World→Prop):Prop :=
 iF P o (act N σ) w (fun a w=> ∃ σ,a=act N σ∧K σ w) (fun _ _ _=>False)
theorem RI {o:Oper} {a:Act} {K q:Act→World→Prop} {Q:Exit→Act→World→Prop} (h:∀ a w,K a w→q a w)
 (r:Result Next) (i:o.upon P a K (fun _ _ _=>False) r):o.upon P a q Q r:=by
 cases r with
 | ok n w'=>
   cases n <;> simp only [ju] at i ⊢ <;>
    first
     | exact h _ _ i
     | exact jQ i (fun e w'' he=>by
      cases e with
      | returned v=>exact h _ _ he
      | panicked c=>exact he.elim
      | outgrown=>obtain ⟨_,_,A⟩:=he; exact A.elim)
     | exact Rows.mono i fun _ _ he=>h _ _ he
 | halt x w'=>cases x <;> simp only [ju] at i ⊢
theorem qw {K:(Nat→Value)→World→Prop} {c:Act→World→Prop} {Q:Exit→Act→World→Prop} {o:Oper} (h:cE P N o σ w K) (hk:∀ σ w,K σ w→c (act N σ) w):o.wp P (act N σ) w c Q:=by
 unfold cE at h
 unfold iF at*
 exact RI (fun a w ⟨σ,q,i⟩=>by subst q; exact hk _ _ i) _ h
theorem Fe {K a:(Nat→Value)→World→Prop} {o:Oper} (h:cE P N o σ w K) (hk:∀ σ w,K σ w→a σ w):cE P N o σ w a:=
 qw h (fun σ w c=>⟨σ,rfl,hk σ w c⟩)
variable {ops:Array Oper} {rest:List Oper} {d:Nat} {op:Op} {ty:TypeId} {pos :String} {af:Array Edge} {d':Option Nat} {v:Value} {o:Oper}
theorem uU (a:oc o (yielded ops (act N σ).tmps)=true) (h:cE P N o σ w (fun σ w=>dD P N ops Q rest σ w)):dD P N ops Q (o::rest) σ w:=by
 unfold dD wpList
 rw [if_pos a]
 exact .inl<|qw h fun _ _ hk=>hk
theorem l6 {K:(Nat→Value)→World→Prop} {w':World} (a:(execOp (ev N σ) o).run P w= .ok (.value v) w') (hk:K (fD σ o.dst v) w'):cE P N o σ w K:=by
 unfold cE iF
 rw [fH,a]
 exact ⟨_,il ..,hk⟩
theorem ij (o:Oper) (a:o.guard=none) (y:Nat→Option Bool):oc o y=true :=by simp [oc,a]
def iN (ops:Array Oper) (j:Nat):Option Nat:=(ops[j]?).bind (·.dst)
theorem nq {j t:Nat} {want b:Bool} (c:o.guard=some (j,want)) (a:iN ops j=some t) (i:e8 t N.n=true) (q:σ t= .bool b):
 oc o (yielded ops (act N σ).tmps)=(b==want):=by
 have h1:yielded ops (act N σ).tmps j=some b:=by
  unfold yielded
  unfold iN at a
  rw [a]
  simp only [mj,m7]
  rw [if_pos (pw (qS t)<|ot i),q]
 simp only [oc,c,h1]
 cases b <;> cases want <;> rfl
theorem RU {j t:Nat} {want:Bool} (c:o.guard=some (j,want)) (a:iN ops j=some t) (i:e8 t N.n=true) (q:σ t=undef):
 oc o (yielded ops (act N σ).tmps)=false :=by
 have h1:yielded ops (act N σ).tmps j=none:=by
  unfold yielded
  unfold iN at a
  rw [a]
  simp only [mj,m7]
  rw [if_pos (pw (qS t)<|ot i),q]; rfl
 simp only [oc,c,h1]
 rfl
theorem p (h:(execOp (ev N σ) ⟨some d,op,ty,pos,af,none⟩).run P w= .ok (.value v) w) (k:dD P N ops Q rest (cB σ d v) w):
 dD P N ops Q (⟨some d,op,ty,pos,af,none⟩::rest) σ w:=
 uU (ij _ rfl _) (l6 h k)
theorem pg {j t:Nat} {want:Bool} (a:iN ops j=some t) (c:e8 t N.n=true) (i:σ t= .bool want)
 (h:(execOp (ev N σ) ⟨some d,op,ty,pos,af,some (j,want)⟩).run P w= .ok (.value v) w) (k:dD P N ops Q rest (cB σ d v) w):
 dD P N ops Q (⟨some d,op,ty,pos,af,some (j,want)⟩::rest) σ w:=
 uU (by rw [nq rfl a c i]; cases want <;> rfl) (l6 h k)
theorem sk {j t:Nat} {want b:Bool} (c:iN ops j=some t) (i:e8 t N.n=true) (q:σ t= .bool b) (a:(b==want)=false)
 (k:dD P N ops Q rest (cB σ d undef) w):dD P N ops Q (⟨some d,op,ty,pos,af,some (j,want)⟩::rest) σ w:=by
 unfold dD wpList
 rw [if_neg (by rw [nq rfl c i q,a]; simp),il]
 exact k
theorem uA {j t:Nat} {want:Bool} (a:iN ops j=some t) (c:e8 t N.n=true) (i:σ t=undef)
 (k:dD P N ops Q rest (cB σ d undef) w):dD P N ops Q (⟨some d,op,ty,pos,af,some (j,want)⟩::rest) σ w:=by
 unfold dD wpList
 rw [if_neg (by rw [RU rfl a c i]; simp),il]
 exact k
theorem e (h:cE P N ⟨d',op,ty,pos,af,none⟩ σ w (fun σ w=>dD P N ops Q rest σ w)):dD P N ops Q (⟨d',op,ty,pos,af,none⟩::rest) σ w:=
 uU (ij _ rfl _) h
theorem eg {j t:Nat} {want:Bool} (a:iN ops j=some t) (c:e8 t N.n=true) (i:σ t= .bool want)
 (h:cE P N ⟨d',op,ty,pos,af,some (j,want)⟩ σ w (fun σ w=>dD P N ops Q rest σ w)):dD P N ops Q (⟨d',op,ty,pos,af,some (j,want)⟩::rest) σ w:=
 uU (by rw [nq rfl a c i]; cases want <;> rfl) h
theorem nl (h:Q .normal σ w):dD P N ops Q [] σ w:=⟨σ,rfl,h⟩
theorem yb:¬LetsOut (lift N Q):=fun ⟨_,_,h⟩=>h
theorem rg {id:Nat} {l:List Oper} (a:qf N.r l=true) (h:dD P N l.toArray Q l σ w):cH P N (.region id l.toArray false) Q σ w:=by
 refine wpIn_region<|xZ yb a _ _ _ ?_
 have h1:=wpOps_eq_wpList (P:=P) (ops:=l.toArray) (Q:=lift N Q) l 0 fun j=>by simp
 rw [List.range_eq_range',mi,h1]
 exact h
theorem gs {l:List Oper} {t:Nat} {q:Prop} [Decidable q] (h:σ t= .bool (decide q)) (i:q→dD P N ops Q l (cB σ t<|.bool true) w) (c:¬q→dD P N ops Q l (cB σ t<|.bool false) w):dD P N ops Q l σ w:=by
 by_cases a:q
 · have :=i a; rwa [l2 (by rw [h,decide_eq_true a])] at this
 · have :=c a; rwa [l2 (by rw [h,decide_eq_false a])] at this
theorem gb {l:List Oper} {t:Nat} {b:Bool} (h:σ t= .bool b) (c:b=true→dD P N ops Q l (cB σ t<|.bool true) w) (a:b=false→dD P N ops Q l (cB σ t<|.bool false) w):dD P N ops Q l σ w:=by
 cases b
 · have :=a rfl; rwa [l2 h] at this
 · have :=c rfl; rwa [l2 h] at this
def eE (P:Program) (N:Fm) (ops:Array Oper) (Q:Exit→(Nat→Value)→World→Prop) (S:World→Prop) (fuel:Nat) (aQ:Array Bool) (σ:Nat→Value) (w:World):Prop :=
 wpAnyH P .any ops (lift N Q) S fuel aQ (act N σ) w
variable {S:World→Prop} {fuel:Nat} {aQ:Array Bool}
theorem Ak {id:Nat} {l:List Oper} (a:qf N.r l=true) (hm:P.follows .mixedOrders=true) (h:wpAny P .any l.toArray (lift N Q) l.toArray.size (qB l.toArray.size false) (act N σ) w.drew):cH P N (.region id l.toArray true) Q σ w:=by
 refine wpIn_region_draw fun t=>xZ yb a _ _ _ ?_
 simp only [Region.schedule,hm,Bool.true_or,if_true]
 exact wpAny_sound _ t _ _ _ h
theorem bM {id:Nat} {l:List Oper} (S:World→Prop) (a:qf N.r l=true) (hm:P.follows .mixedOrders=true) (c:S w.drew) (h:eE P N l.toArray Q S l.length (qB l.length false) σ w.drew):cH P N (.region id l.toArray true) Q σ w:=
 Ak a hm (wpAny_of_held _ _ _ _<|by rw [mi]; exact h)
def yw (F:List Nat) (d:Option Nat):Bool:=match d with | some d=> !(F.contains d) | none=>true
def gS (F:List Nat) (ops:Array Oper) (aQ:Array Bool) (i:Nat):Bool:=
 Region.noSelect ops && Region.free .any ops aQ i && (gF .any ops aQ).contains i && yw F ((ops[i]?).bind (·.dst))
theorem nk {d:Option Nat} {v:Value} (hd:yw N.F d=true) (c:List PanicEntry) (a:Act) (w:World):lift N Q (.panic c) (a.put d v) w→lift N Q (.panic c) a w:=by
 rintro ⟨σ,q,h⟩
 cases d with
 | none=>exact ⟨σ,q,h⟩
 | some d=>
   have J:a.tmps.size=N.n:=by
    have :=congrArg (fun x:Act=>x.tmps.size) q
    simpa [Act.put,act] using this
   have C:a.defers=N.D:=congrArg (fun x:Act=>x.defers) q
   have E:∀ i:Nat,i≠d→a.tmps[i]? =if i < N.n then some (σ i) else none:=fun i hi=>by
    have h1:(a.put (some d) v).tmps[i]? =a.tmps[i]? :=by
     show (a.tmps.setIfInBounds d v)[i]? =_
     rw [zb,if_neg (fun e=>hi e.symm)]
    rw [← h1,q,m7]
   refine ⟨fun i=>if i < N.n then a.tmps.getD i undef else σ i,tg C fun i=> ?_,fun I A=>h I fun i hi=> ?_⟩
   · rw [m7]
     by_cases h1:i < N.n
     · rw [if_pos h1,if_pos h1,za,u6 ab]; rfl
     · rw [if_neg h1,qA ab]
   · have G:i≠d:=by
      rintro rfl
      simp only [yw,vd,List.contains_eq_mem,decide_eq_false_iff_not] at hd
      exact hd hi
     rw [A i hi]
     by_cases h1:i < N.n
     · simp only [if_pos h1]
       rw [za,E i G,if_pos h1]; rfl
     · simp only [if_neg h1]
theorem hp (i:Nat) (hi:ops[i]? =some ⟨some d,op,ty,pos,af,none⟩) (q:gS N.F ops aQ i=true)
 (C:∀ w,S w→(execOp (ev N σ) ⟨some d,op,ty,pos,af,none⟩).run P w= .ok (.value v) w) (A:S w)
 (k:eE P N ops Q S fuel (aQ.setIfInBounds i true) (cB σ d v) w):eE P N ops Q S (fuel+1) aQ σ w:=by
 simp only [gS,fE] at q
 refine wpAnyH_take hi q.1.1.1 q.1.1.2 q.1.2 (fun c a w=>nk (by have :=q.2; rwa [hi] at this) c a w) (.inl ⟨ij _ rfl _,fun w A=> ?_⟩) A ?_ (v:=v)
 · rw [fH]; exact C w A
 · rw [il]; exact k
theorem mD (i:Nat) {j t:Nat} {want:Bool} (hi:ops[i]? =some ⟨some d,op,ty,pos,af,some (j,want)⟩) (q:gS N.F ops aQ i=true)
 (C:iN ops j=some t) (E:e8 t N.n=true) (G:σ t= .bool want)
 (I:∀ w,S w→(execOp (ev N σ) ⟨some d,op,ty,pos,af,some (j,want)⟩).run P w= .ok (.value v) w) (A:S w)
 (k:eE P N ops Q S fuel (aQ.setIfInBounds i true) (cB σ d v) w):eE P N ops Q S (fuel+1) aQ σ w:=by
 simp only [gS,fE] at q
 refine wpAnyH_take hi q.1.1.1 q.1.1.2 q.1.2 (fun c a w=>nk (by have :=q.2; rwa [hi] at this) c a w) (.inl ⟨by rw [nq aa C E G]; cases want <;> rfl,fun w A=> ?_⟩) A ?_ (v:=v)
 · rw [fH]; exact I w A
 · rw [il]; exact k
theorem mE (i:Nat) {j t:Nat} {want b:Bool} (hi:ops[i]? =some ⟨some d,op,ty,pos,af,some (j,want)⟩) (q:gS N.F ops aQ i=true)
 (E:iN ops j=some t) (G:e8 t N.n=true) (I:σ t= .bool b) (C:(b==want)=false) (A:S w)
 (k:eE P N ops Q S fuel (aQ.setIfInBounds i true) (cB σ d undef) w):eE P N ops Q S (fuel+1) aQ σ w:=by
 simp only [gS,fE] at q
 refine wpAnyH_take hi q.1.1.1 q.1.1.2 q.1.2 (fun c a w=>nk (by have :=q.2; rwa [hi] at this) c a w) (.inr ⟨by rw [nq aa E G I,C],aa⟩) A ?_ (v:=undef)
 rw [il]; exact k
def jM (ops:Array Oper) (aQ:Array Bool) (i:Nat):Bool:=(gF .any ops aQ)== [i]
theorem he (i:Nat) (hi:ops[i]? =some ⟨d',op,ty,pos,af,none⟩) (a:jM ops aQ i=true)
 (h:cE P N ⟨d',op,ty,pos,af,none⟩ σ w (fun σ w=>S w∧eE P N ops Q S fuel (aQ.setIfInBounds i true) σ w)):eE P N ops Q S (fuel+1) aQ σ w:=by
 refine wpAnyH_all (rs:= [i]) (by simpa [jM] using a) (by simp) ?_
 intro k hk
 obtain rfl :k=i:=by simpa using hk
 unfold wpOp
 simp only [hi]
 rw [if_pos (ij _ rfl _)]
 exact .inl<|qw h fun _ _ hk=>hk
theorem kq (i:Nat) {j t:Nat} {want:Bool} (hi:ops[i]? =some ⟨d',op,ty,pos,af,some (j,want)⟩) (c:jM ops aQ i=true)
 (a:iN ops j=some t) (q:e8 t N.n=true) (A:σ t= .bool want)
 (h:cE P N ⟨d',op,ty,pos,af,some (j,want)⟩ σ w (fun σ w=>S w∧eE P N ops Q S fuel (aQ.setIfInBounds i true) σ w)):eE P N ops Q S (fuel+1) aQ σ w:=by
 refine wpAnyH_all (rs:= [i]) (by simpa [jM] using c) (by simp) ?_
 intro k hk
 obtain rfl :k=i:=by simpa using hk
 unfold wpOp
 simp only [hi]
 rw [if_pos (by rw [nq rfl a q A]; cases want <;> rfl)]
 exact .inl<|qw h fun _ _ hk=>hk
theorem hn (a:(gF .any ops aQ).isEmpty=true) (h:Q .normal σ w):eE P N ops Q S fuel aQ σ w:=
 wpAnyH_done (by simpa using a) ⟨σ,rfl,h⟩ fuel
theorem ir {t:Nat} {q:Prop} [Decidable q] (h:σ t= .bool (decide q)) (i:q→eE P N ops Q S fuel aQ (cB σ t<|.bool true) w) (c:¬q→eE P N ops Q S fuel aQ (cB σ t<|.bool false) w):eE P N ops Q S fuel aQ σ w:=by
 by_cases a:q
 · have :=i a; rwa [l2 (by rw [h,decide_eq_true a])] at this
 · have :=c a; rwa [l2 (by rw [h,decide_eq_false a])] at this
theorem CS {t:Nat} {b:Bool} (h:σ t= .bool b) (c:b=true→eE P N ops Q S fuel aQ (cB σ t<|.bool true) w) (a:b=false→eE P N ops Q S fuel aQ (cB σ t<|.bool false) w):eE P N ops Q S fuel aQ σ w:=by
 cases b
 · have :=a rfl; rwa [l2 h] at this
 · have :=c rfl; rwa [l2 h] at this
end
def bd (P:Program) (f:FuncId) (args:Array Value) (w:World) (R:Value→World→Prop):Prop :=
 Calls P f args w fun e w'=> ∃ v,e= .returned v∧R v w'
theorem bd.mono {P:Program} {f:FuncId} {args:Array Value} {w:World} {R R':Value→World→Prop} (h:bd P f args w R) (c:∀ v w',R v w'→R' v w'):bd P f args w R':=
 jQ h fun _ _ ⟨v,he,a⟩=>⟨v,he,c _ _ a⟩
def kV (args:List Value):Nat→Value:=fun i=>args.getD i undef
def fin (P:Program) (fn:Func) (N:Fm) (R:Value→World→Prop):Exit→(Nat→Value)→World→Prop
 | .normal,σ,w=> ∃ v,(results fn (act N σ).tmps).run P w= .ok v w∧R v w
 | .ret,σ,w=> ∃ v,(results fn (act N σ).tmps).run P w= .ok v w∧R v w
 | _,_,_=>False
theorem enter {P:Program} {f:FuncId} {N:Nat} {fn:Func} {c:Code} {args:List Value} {w:World} {R:Value→World→Prop} (M:P.funcs[f]? =some fn) (J:fn.body=some c)
 (G:fn.ntmps=N) (hn:lK args.length N=true) (h:cH P ⟨N,[],[],none⟩ c (fin P fn ⟨N,[],[],none⟩ R) (kV args) w):bd P f args.toArray w R:=by
 subst G
 refine calls_of_wp M J ?_
 have I:({tmps:=args.toArray++qB (fn.ntmps - args.toArray.size) undef,defers:= []} :Act)=act ⟨fn.ntmps,[],[],none⟩ (kV args):=by
  have O:args.length≤fn.ntmps:=by simpa using hn
  refine tg aa fun i=> ?_
  rw [m7]
  simp only [kV,cX,mi]
  by_cases h1:i < args.length
  · rw [Array.getElem?_append_left (by simpa using h1),if_pos ab]
    simp [h1]
  · rw [Array.getElem?_append_right (by simpa using h1)]
    simp only [mi,Array.getElem?_replicate]
    by_cases h2:i < fn.ntmps
    · rw [if_pos ab,if_pos h2,qO ab]; rfl
    · rw [if_neg ab,if_neg h2]
 rw [I]
 refine Code.wp_mono ?_<|wpIn_wide.1 h
 intro e a w q
 cases e with
 | normal=>obtain ⟨σ,rfl,v,E,C⟩:=q; exact ⟨rfl,v,E,v,rfl,C⟩
 | ret=>obtain ⟨σ,rfl,v,E,C⟩:=q; exact ⟨rfl,v,E,v,rfl,C⟩
 | exit id=>obtain ⟨σ,rfl,A⟩:=q; exact A.elim
 | goto l=>obtain ⟨σ,rfl,A⟩:=q; exact A.elim
 | panic c=>obtain ⟨σ,rfl,A⟩:=q; exact (A σ fun _ _=>rfl).elim
 | outgrown=>exact q.elim
section
variable {P:Program} {N:Fm} {σ:Nat→Value} {w:World} {fn:Func} {R:Value→World→Prop}
theorem kY (t:Nat):(act N σ).tmps.getD t undef=ev N σ (.tmp t):=by
 rw [← fH]; rfl
theorem f0 (h:fn.results= #[]) (a:R (.tuple #[]) w):fin P fn N R .normal σ w:=⟨_,results_none h _ _ _,a⟩
theorem tO (h:fn.results= #[]) (a:R (.tuple #[]) w):fin P fn N R .ret σ w:=⟨_,results_none h _ _ _,a⟩
theorem f1 {t:Nat} {v:Value} (h:fn.results= #[.tmp t]) (c:ev N σ (.tmp t)=v) (a:R v w):fin P fn N R .ret σ w:=
 ⟨v,by rw [results_tmp h,kY,c],a⟩
theorem f2 {t u:Nat} {v a:Value} (h:fn.results= #[.tmp t,.tmp u]) (i:ev N σ (.tmp t)=v) (hu:ev N σ (.tmp u)=a) (c:R (.tuple #[v,a]) w):fin P fn N R .ret σ w:=
 ⟨_,by rw [results_tmp2 h,kY,kY,i,hu],c⟩
theorem f3 {t u s:Nat} {v a c:Value} (h:fn.results= #[.tmp t,.tmp u,.tmp s]) (q:ev N σ (.tmp t)=v) (hu:ev N σ (.tmp u)=a) (hs:ev N σ (.tmp s)=c) (i:R (.tuple #[v,a,c]) w):fin P fn N R .ret σ w:=by
 refine ⟨_,?_,i⟩
 simp only [results,h]
 subst q hu hs
 simp only [← kY]
 simp [sT]
theorem f4 {t u s r:Nat} {v a c v3:Value} (h:fn.results= #[.tmp t,.tmp u,.tmp s,.tmp r]) (A:ev N σ (.tmp t)=v) (hu:ev N σ (.tmp u)=a) (hs:ev N σ (.tmp s)=c) (q:ev N σ (.tmp r)=v3) (i:R (.tuple #[v,a,c,v3]) w):fin P fn N R .ret σ w:=by
 refine ⟨_,?_,i⟩
 simp only [results,h]
 subst A hu hs q
 simp only [← kY]
 simp [sT]
end
attribute [irreducible] dD cH eE cE
end Go.Hb
namespace Go.Hb
def aI (h:Array Obj) (b off :Nat):Option Value:=
 match h[b]? with
 | some (.cells c _ _)=>c[off]?
 | _=>none
theorem lQ (w:World) (b off :Nat):w.cell? ⟨b,off,none⟩=aI w.heap b off :=by
 unfold World.cell? aI
 simp only
 split <;> simp_all
theorem aY {h:Array Obj} {b off :Nat} {c:Array Value} {t:TypeId} {f:Nat×Nat} (a:h[b]? =some (.cells c t f)):aI h b off =c[off]? :=by
 simp only [aI,a]
theorem Jh {h:Array Obj} {b off :Nat} {v:Value} (a:aI h b off =some v):b < h.size:=by
 unfold aI at a
 rcases gI b h.size with i | c
 · exact i
 · simp [qA c] at a
structure Md (F:Nat→Prop) (w w':World):Prop where
 os:w'.os=w.os
 output:w'.output=w.output
 size:w.heap.size≤w'.heap.size
 dO:∀ k,k < w.heap.size→¬F k→w'.heap[k]? =w.heap[k]?
abbrev Wk (w w':World):Prop :=Md (fun _=>False) w w'
theorem Md.refl (F:Nat→Prop) (w:World):Md F w w:=⟨rfl,rfl,cw _,fun _ _ _=>rfl⟩
theorem Md.drew {F:Nat→Prop} {w w':World} (h:Md F w w'):Md F w w'.drew:=⟨h.os,h.output,h.size,h.dO⟩
theorem Md.mono {F G:Nat→Prop} {w w':World} (h:Md F w w') (c:∀ k,k < w.heap.size→F k→G k):Md G w w':=
 ⟨h.os,h.output,h.size,fun k hk i=>h.dO k hk fun a=>i<|c k hk a⟩
theorem Md.trans {F:Nat→Prop} {a b c:World} (h:Md F a b) (i:Md F b c):Md F a c:=
 ⟨i.os.trans h.os,i.output.trans h.output,e9 h.size i.size,fun k hk q=>(i.dO k (pw hk h.size) q).trans<|h.dO k hk q⟩
theorem Md.trans' {F G:Nat→Prop} {a b c:World} (h:Md F a b) (i:Md G b c) (A:∀ k,k < a.heap.size→G k→F k):Md F a c:=
 ⟨i.os.trans h.os,i.output.trans h.output,e9 h.size i.size,
  fun k hk q=>(i.dO k (pw hk h.size) fun x=>q<|A k hk x).trans (h.dO k hk q)⟩
theorem Md.aB {F:Nat→Prop} {w w':World} (h:Md F w w') {k:Nat} {o:Obj} (hk:w.heap[k]? =some o) (a:¬F k):w'.heap[k]? =some o:=
 (h.dO k (cy.1 hk).1 a).trans hk
theorem Md.aI {F:Nat→Prop} {w w':World} (h:Md F w w') {b off :Nat} {v:Value} (a:Hb.aI w.heap b off =some v) (c:¬F b):Hb.aI w'.heap b off =some v:=by
 have :=h.dO b (Jh a) c
 unfold Hb.aI at*
 rw [this]; exact a
theorem Wk.aI {w w':World} (h:Wk w w') {b off :Nat} {v:Value} (a:Hb.aI w.heap b off =some v):Hb.aI w'.heap b off =some v:=Md.aI h a id
theorem Wk.aB {w w':World} (h:Wk w w') {k:Nat} {o:Obj} (hk:w.heap[k]? =some o):w'.heap[k]? =some o:=Md.aB h hk id
structure Nw (w w':World):Prop where
 md:Wk w w'
 size:w'.heap.size=w.heap.size+1
theorem yr (w:World) (o:Obj):Nw w {w with heap:=w.heap.push o} :=
 ⟨⟨rfl,rfl,by simp,fun k hk _=>by show (w.heap.push o)[k]? =_; rw [Array.getElem?_push,if_neg ab]⟩,by simp⟩
def cR (P:Program) (t:TypeId):Option (Option Nat):=
 match P.underlying t with
 | some (.struct _) | some (.array _ _)=>((P.info? t).map (·.size)).map some
 | some _=>some none
 | none=>none
def cD (P:Program) (s f:Nat):Option Nat:=
 match P.underlying s with
 | some (.struct fs)=>match fs[f]? with
   | some fd=>match P.info? fd.type with
     | some i=>if i.size=0 then none else some fd.offset
     | none=>none
   | none=>none
 | _=>none
def fY (P:Program) (t:TypeId):Option Nat:=
 match P.underlying t with
 | some (.slice e)=>(P.info? e).map (·.size)
 | _=>none
section
variable {P:Program} {N:Fm} {σ:Nat→Value} {w:World} {dst:Option Nat} {ty:TypeId} {pos :String} {af:Array Edge} {g:Option (Nat×Bool)} {x y z:Operand}
theorem dj {t:TypeId} {d:TypeDesc} (h:P.underlying t=some d) (w:World):(underlying t).run P w= .ok d w:=by
 simp [underlying,h]
theorem gd {t:TypeId} {i:TypeInfo} (h:P.info? t=some i) (w:World):(typeInfo t).run P w= .ok i w:=by
 simp [typeInfo,h]
theorem mv:(execOp (ev N σ) ⟨dst,.move x,ty,pos,af,g⟩).run P w= .ok (.value<|ev N σ x) w:=rfl
theorem aA:(execOp (ev N σ) ⟨dst,.assign x,ty,pos,af,g⟩).run P w= .ok (.value<|ev N σ x) w:=rfl
theorem aH (v:Value) (h:ev N σ x=v):(execOp (ev N σ) ⟨dst,.move x,ty,pos,af,g⟩).run P w= .ok (.value v) w:=by rw [← h]; rfl
theorem bZ (v:Value) (h:ev N σ x=v):(execOp (ev N σ) ⟨dst,.assign x,ty,pos,af,g⟩).run P w= .ok (.value v) w:=by rw [← h]; rfl
theorem bL {c:Operand} (a:ev N σ c= .bool true):(execOp (ev N σ) ⟨dst,.pick c x y,ty,pos,af,g⟩).run P w= .ok (.value<|ev N σ x) w:=by
 simp [execOp,a,asBool]
theorem bC {c:Operand} (a:ev N σ c= .bool false):(execOp (ev N σ) ⟨dst,.pick c x y,ty,pos,af,g⟩).run P w= .ok (.value<|ev N σ y) w:=by
 simp [execOp,a,asBool]
theorem nc {a:Addr} (c:ev N σ x= .pointer (some a)):(execOp (ev N σ) ⟨dst,.nilCheck x,ty,pos,af,g⟩).run P w= .ok (.value<|.pointer<|some a) w:=by
 simp [execOp,c]
theorem xt {i:Nat} {vs:Array Value} {v:Value} (c:ev N σ x= .tuple vs) (a:vs[i]? =some v):(execOp (ev N σ) ⟨dst,.extract x i,ty,pos,af,g⟩).run P w= .ok (.value v) w:=by
 simp [execOp,c,Instr.extract,a]
theorem fa {s f n b off :Nat} (a:cD P s f=some n) (A:ev N σ x= .pointer (some ⟨b,off,none⟩)):
 (execOp (ev N σ) ⟨dst,.fieldAddr s x f,ty,pos,af,g⟩).run P w= .ok (.value<|.pointer<|some ⟨b,off+n,none⟩) w:=by
 unfold cD at a
 split at a
 · rename_i fs hu
   split at a
   · rename_i fd q
     split at a
     · rename_i i hi
       split at a
       · cases a
       · rename_i C
         cases a
         have c:(⟨b,off,none⟩:Addr).add fd.offset=⟨b,off+fd.offset,none⟩:=by unfold vf; split <;> simp_all
         simp [execOp,Instr.fieldAt,dj hu,q,A,n9,fieldPlace,sizeOf,gd hi,C,c]
     · cases a
   · cases a
 · cases a
theorem ld {t b off :Nat} {v:Value} (hu:cR P t=some none) (i:ev N σ x= .pointer (some ⟨b,off,none⟩)) (a:aI w.heap b off =some v):
 (execOp (ev N σ) ⟨dst,.load t x,ty,pos,af,g⟩).run P w= .ok (.value v) w:=by
 have c:w.cell? ⟨b,off,none⟩=some v:=by rw [lQ]; exact a
 unfold cR at hu
 cases hd:P.underlying t with
 | none=>rw [hd] at hu; cases hu
 | some d=>
   rw [hd] at hu
   cases d <;> first
    | (simp only [lL] at hu; obtain ⟨_,_,h⟩:=hu; cases h; done)
    | simp [execOp,FV,i,n9,loadVar,isAgg,dj hd,run_load,c]
theorem kH (b off j:Nat):(⟨b,off,none⟩:Addr).add j=⟨b,off+j,none⟩:=by
 unfold vf; split <;> simp_all
theorem cz {t n b off :Nat} {cs:List Value} (hu:cR P t=some (some n)) (C:ev N σ x= .pointer (some ⟨b,off,none⟩)) (A:cs.length=n)
 (c:∀ j,j < n→aI w.heap b (off+j)=cs[j]?):
 (execOp (ev N σ) ⟨dst,.load t x,ty,pos,af,g⟩).run P w= .ok (.value<|.agg cs.toArray) w:=by
 have q:(loadCells ⟨b,off,none⟩ n).run P w= .ok cs.toArray w:=by
  subst A
  refine run_loadCells_list (P:=P) w ⟨b,off,none⟩ cs fun j v a=> ?_
  rw [kH,lQ]
  exact (c j (List.getElem?_eq_some_iff.1 a).1).trans a
 unfold cR at hu
 cases hd:P.underlying t with
 | none=>rw [hd] at hu; cases hu
 | some d=>
   rw [hd] at hu
   cases hi:P.info? t with
   | none=>simp [Program.underlying,hi] at hd
   | some i=>
     rw [hi] at hu
     cases d <;> first
      | (cases hu; done)
      | (simp only [kE,eZ] at hu; subst hu
         simp [execOp,FV,C,n9,loadVar,isAgg,dj hd,sizeOf,gd hi,q])
theorem ia {t n b off len cap:Nat} {k:IntKind} {i:Int} (he:fY P t=some n) (c:ev N σ x= .slice (some ⟨b,off,none⟩) len cap) (q:ev N σ y= .int k i) (a:0≤i∧i < len):
 (execOp (ev N σ) ⟨dst,.indexAddr t x y,ty,pos,af,g⟩).run P w= .ok (.value<|.pointer<|some ⟨b,off+i.toNat*n,none⟩) w:=by
 unfold fY at he
 cases hd:P.underlying t with
 | none=>rw [hd] at he; cases he
 | some d=>
   rw [hd] at he
   cases d <;> first | (cases he; done) | skip
   rename_i e
   cases hi:P.info? e with
   | none=>simp [hi] at he
   | some j=>
     simp only [hi,kE,eZ] at he
     subst he
     simp [execOp,Instr.indexAt,c,q,asIntOf,dj hd,a.1,a.2,sizeOf,gd hi,kH]
def eM (a:Option Addr) (cap l n:Nat):Option Addr:=if cap=l then a else a.map (·.add (l*n))
theorem yP {t n len cap:Nat} {a:Option Addr} {lo hi:Option Value} {l h:Nat} (he:fY P t=some n) (A:ev N σ x= .slice a len cap)
 (q:(mT true len cap lo hi none).run P w= .ok (l,h,cap) w) (c i:Option Operand) (C:c.map (ev N σ)=lo) (E:i.map (ev N σ)=hi):
 (execOp (ev N σ) ⟨dst,.slice t x c i none,ty,pos,af,g⟩).run P w= .ok (.value<|.slice (eM a cap l n) (h - l)<|cap - l) w:=by
 unfold fY at he
 cases hd:P.underlying t with
 | none=>rw [hd] at he; cases he
 | some d=>
   rw [hd] at he
   cases d <;> first | (cases he; done) | skip
   rename_i e
   cases hi':P.info? e with
   | none=>simp [hi'] at he
   | some j=>
     simp only [hi',kE,eZ] at he
     subst he
     simp [execOp,o8,sH,A,C,E,dj hd,q,sizeOf,gd hi',eM]
theorem uB {t n len cap:Nat} {a:Option Addr} {k:IntKind} {i:Int} (he:fY P t=some n) (q:ev N σ x= .slice a len cap) (A:ev N σ z= .int k i) (c:0≤i∧i≤cap):
 (execOp (ev N σ) ⟨dst,.slice t x none (some z) none,ty,pos,af,g⟩).run P w= .ok (.value<|.slice a i.toNat cap) w:=by
 have :=yP (dst:=dst) (ty:=ty) (pos :=pos) (af:=af) (g:=g) (w:=w) (lo:=none) (hi:=some<|.int k i) (l:=0) (h:=i.toNat) he q
  (by simp [mT,pc,asIntOf,c.1,c.2]) none (some z) rfl (by simp [A])
 rw [this]
 have hs:eM a cap 0 n=a:=by
  unfold eM; split
  · rfl
  · cases a <;> simp [vf]
 rw [hs]; rfl
theorem sh {t n len cap:Nat} {a:Option Addr} {k:IntKind} {i:Int} (he:fY P t=some n) (q:ev N σ x= .slice a len cap) (A:ev N σ y= .int k i) (c:0≤i∧i≤len):
 (execOp (ev N σ) ⟨dst,.slice t x (some y) none none,ty,pos,af,g⟩).run P w= .ok (.value<|.slice (eM a cap i.toNat n) (len - i.toNat)<|cap - i.toNat) w:=
 yP (lo:=some<|.int k i) (hi:=none) he q
  (by simp [mT,pc,asIntOf,c.1,c.2]) (some y) none (by simp [A]) rfl
theorem QE {t n len cap:Nat} {a:Option Addr} {k q:IntKind} {i j:Int} (he:fY P t=some n) (A:ev N σ x= .slice a len cap) (C:ev N σ y= .int k i) (E:ev N σ z= .int q j) (c:0≤i∧i≤j∧j≤cap):
 (execOp (ev N σ) ⟨dst,.slice t x (some y) (some z) none,ty,pos,af,g⟩).run P w= .ok (.value<|.slice (eM a cap i.toNat n) (j.toNat - i.toNat)<|cap - i.toNat) w:=by
 have h1:0≤j:=ab
 have h2:i≤(j.toNat:Int):=ab
 refine yP (lo:=some<|.int k i) (hi:=some<|.int q j) he A ?_ (some y) (some z) (by simp [C])<|by simp [E]
 simp only [mT,pc,asIntOf,pj,qH,ph,zy,c.1,h1,c.2.2,h2,and_self,if_true]
theorem cg {n:Int} (h: -9223372036854775808≤n∧n≤9223372036854775807):vk.wrap n=n:=IntWalk.i64_in n h
theorem y8 {n:Int} (h:0≤n∧n≤255):nA.wrap n=n:=IntWalk.u8_in n h
theorem mQ {n:Int} (h:0≤n∧n≤18446744073709551615):dy.wrap n=n:=IntWalk.u64_in n h
theorem iv {k:IntKind} {a b:Int} (h:a=b):gG k a=gG k b:=by rw [h]
theorem ad {t A:TypeId} {k:IntKind} {a b:Int} (i:ev N σ x= .int k a) (q:ev N σ y= .int k b) (c:k.wrap (a+b)=a+b):
 (execOp (ev N σ) ⟨dst,.binOp .add t x y A,ty,pos,af,g⟩).run P w= .ok (.value<|.int k<|a+b) w:=by
 simp [execOp,i,q,eqGuard,binOp,sJ,c]
theorem bI {t A:TypeId} {k:IntKind} {a b:Int} (v:Int) (i:ev N σ x= .int k a) (q:ev N σ y= .int k b) (c:k.wrap (a+b)=v):
 (execOp (ev N σ) ⟨dst,.binOp .add t x y A,ty,pos,af,g⟩).run P w= .ok (.value<|.int k v) w:=by
 subst c; simp [execOp,i,q,eqGuard,binOp,sJ]
theorem c4 {t A:TypeId} {k:IntKind} {a b:Int} (v:Int) (i:ev N σ x= .int k a) (q:ev N σ y= .int k b) (c:k.wrap (a - b)=v):
 (execOp (ev N σ) ⟨dst,.binOp .sub t x y A,ty,pos,af,g⟩).run P w= .ok (.value<|.int k v) w:=by
 subst c; simp [execOp,i,q,eqGuard,binOp,sJ]
theorem oU {t A:TypeId} {k:IntKind} {a b:Int} (v:Int) (i:ev N σ x= .int k a) (q:ev N σ y= .int k b) (c:k.wrap (a*b)=v):
 (execOp (ev N σ) ⟨dst,.binOp .mul t x y A,ty,pos,af,g⟩).run P w= .ok (.value<|.int k v) w:=by
 subst c; simp [execOp,i,q,eqGuard,binOp,sJ]
theorem bf {a:Int} {n:Nat} (h:a=n) (hn:n≤9223372036854775807):vk.wrap a=(n:Int):=by rw [h]; exact cg ab
theorem bv {p q:Prop} [Decidable p] [Decidable q] (h:p↔q):bQ (decide p)=bQ (decide q):=by rw [decide_eq_decide.2 h]
theorem sb {t A:TypeId} {k:IntKind} {a b:Int} (i:ev N σ x= .int k a) (q:ev N σ y= .int k b) (c:k.wrap (a - b)=a - b):
 (execOp (ev N σ) ⟨dst,.binOp .sub t x y A,ty,pos,af,g⟩).run P w= .ok (.value<|.int k<|a - b) w:=by
 simp [execOp,i,q,eqGuard,binOp,sJ,c]
theorem nZ {t C:TypeId} {k:IntKind} {a b:Int} (v:Int) (q:ev N σ x= .int k a) (A:ev N σ y= .int k b) (c:0≤a∧0 < b) (i:k.wrap (a / b)=v):
 (execOp (ev N σ) ⟨dst,.binOp .quo t x y C,ty,pos,af,g⟩).run P w= .ok (.value<|.int k v) w:=by
 have :a.tdiv b=a / b:=Int.tdiv_eq_ediv_of_nonneg c.1
 subst i; simp [execOp,q,A,eqGuard,binOp,Op.intDiv,show b≠0 from by omega,this]
theorem lt {t q:TypeId} {k:IntKind} {a b:Int} (c:ev N σ x= .int k a) (i:ev N σ y= .int k b):
 (execOp (ev N σ) ⟨dst,.binOp .lss t x y q,ty,pos,af,g⟩).run P w= .ok (.value<|.bool<|decide (a < b)) w:=by
 simp [execOp,c,i,eqGuard,binOp,qG]
theorem le {t q:TypeId} {k:IntKind} {a b:Int} (c:ev N σ x= .int k a) (i:ev N σ y= .int k b):
 (execOp (ev N σ) ⟨dst,.binOp .leq t x y q,ty,pos,af,g⟩).run P w= .ok (.value<|.bool<|decide (a≤b)) w:=by
 simp [execOp,c,i,eqGuard,binOp,qG]
theorem gt {t q:TypeId} {k:IntKind} {a b:Int} (c:ev N σ x= .int k a) (i:ev N σ y= .int k b):
 (execOp (ev N σ) ⟨dst,.binOp .gtr t x y q,ty,pos,af,g⟩).run P w= .ok (.value<|.bool<|decide (b < a)) w:=by
 simp [execOp,c,i,eqGuard,binOp,qG]
theorem ge {t q:TypeId} {k:IntKind} {a b:Int} (c:ev N σ x= .int k a) (i:ev N σ y= .int k b):
 (execOp (ev N σ) ⟨dst,.binOp .geq t x y q,ty,pos,af,g⟩).run P w= .ok (.value<|.bool<|decide (b≤a)) w:=by
 simp [execOp,c,i,eqGuard,binOp,qG]
theorem bR {t q:TypeId} {k:IntKind} {a b:Int} (c:ev N σ x= .int k a) (i:ev N σ y= .int k b):
 (execOp (ev N σ) ⟨dst,.binOp .eql t x y q,ty,pos,af,g⟩).run P w= .ok (.value<|.bool<|decide (a=b)) w:=by
 simp [execOp,c,i,eqGuard,binOp,qG]
 rw [qC]; simp
theorem fR {t q:TypeId} {k:IntKind} {a b:Int} (c:ev N σ x= .int k a) (i:ev N σ y= .int k b):
 (execOp (ev N σ) ⟨dst,.binOp .neq t x y q,ty,pos,af,g⟩).run P w= .ok (.value<|.bool<|decide (a≠b)) w:=by
 simp [execOp,c,i,eqGuard,binOp,qG]
 rw [qC]; simp
theorem no {t:TypeId} {b:Bool} (a:ev N σ x= .bool b):(execOp (ev N σ) ⟨dst,.unOp .not t x,ty,pos,af,g⟩).run P w= .ok (.value<|.bool<|!b) w:=by
 simp [execOp,a,zp]
theorem Aq {t A:TypeId} {k:IntKind} {a b v:Int} (i:ev N σ x= .int k a) (q:ev N σ y= .int k b) (c:k.wrap (eN k.bits a ||| eN k.bits b).toNat=v):
 (execOp (ev N σ) ⟨dst,.binOp .or t x y A,ty,pos,af,g⟩).run P w= .ok (.value<|.int k v) w:=by
 subst c; simp [execOp,i,q,eqGuard,binOp,sK]
theorem eh {t A:TypeId} {k:IntKind} {a b v:Int} (i:ev N σ x= .int k a) (q:ev N σ y= .int k b) (c:k.wrap (eN k.bits a &&& eN k.bits b).toNat=v):
 (execOp (ev N σ) ⟨dst,.binOp .and t x y A,ty,pos,af,g⟩).run P w= .ok (.value<|.int k v) w:=by
 subst c; simp [execOp,i,q,eqGuard,binOp,sK]
theorem shr {t A:TypeId} {k C:IntKind} {a b v:Int} (i:ev N σ x= .int k a) (q:ev N σ y= .int C b) (E:0≤b) (c:a.fdiv (2 ^ min b.toNat k.bits)=v):
 (execOp (ev N σ) ⟨dst,.binOp .shr t x y A,ty,pos,af,g⟩).run P w= .ok (.value<|.int k v) w:=by
 have :¬b < 0:=ab
 simp [execOp,i,q,eqGuard,binOp,Op.shift,this,c]
theorem shl {t A:TypeId} {k C:IntKind} {a b v:Int} (i:ev N σ x= .int k a) (q:ev N σ y= .int C b) (E:0≤b) (c:k.wrap (a*2 ^ min b.toNat k.bits)=v):
 (execOp (ev N σ) ⟨dst,.binOp .shl t x y A,ty,pos,af,g⟩).run P w= .ok (.value<|.int k v) w:=by
 have :¬b < 0:=ab
 simp [execOp,i,q,eqGuard,binOp,Op.shift,this,c]
theorem EY (m:Nat) (h:m < 256):((jd m).toNat:Int)=(m:Int):=by
 simp [Nat.mod_eq_of_lt h]
theorem cv {t u:TypeId} {k a:IntKind} {n:Int} (hu:P.underlying u=some (.int a)) (c:(P.underlying t).isSome=true) (i:ev N σ x= .int k n):
 (execOp (ev N σ) ⟨dst,.convert t u x,ty,pos,af,g⟩).run P w= .ok (.value<|.int a<|a.wrap n) w:=by
 obtain ⟨d,hd⟩:=nI.1 c
 cases d <;> simp [execOp,i,convert,dj hu,dj hd,Conv.intToInt]
theorem mA {t u:TypeId} {k a:IntKind} {n v:Int} (hu:P.underlying u=some (.int a)) (i:(P.underlying t).isSome=true) (q:ev N σ x= .int k n) (c:a.wrap n=v):
 (execOp (ev N σ) ⟨dst,.convert t u x,ty,pos,af,g⟩).run P w= .ok (.value<|.int a v) w:=by
 rw [cv hu i q,c]
theorem xa {t u:TypeId} {k a:IntKind} {n:Int} (hu:P.underlying u=some (.int a)) (i:(P.underlying t).isSome=true) (q:ev N σ x= .int k n) (c:a.wrap n=n):
 (execOp (ev N σ) ⟨dst,.convert t u x,ty,pos,af,g⟩).run P w= .ok (.value<|.int a n) w:=by
 rw [cv hu i q,c]
theorem LO (d:Nat) {t e:TypeId} {a:Option Addr} (hu:P.underlying t=some (.pointer e)):(qF (d+1) t (.pointer a)<|.pointer none).run P w= .ok a.isNone w:=by
 cases a <;> simp [qF,dj hu]
theorem BN {t e:TypeId} {a:Option Addr} (hu:P.underlying t=some (.pointer e)):(zn t (.pointer a)<|.pointer none).run P w= .ok a.isNone w:=LO 9999 hu
theorem lU {t q e:TypeId} {a:Option Addr} (hu:P.underlying t=some (.pointer e)) (c:ev N σ x= .pointer a) (i:ev N σ y= .pointer none):
 (execOp (ev N σ) ⟨dst,.binOp .eql t x y q,ty,pos,af,g⟩).run P w= .ok (.value<|.bool a.isNone) w:=by
 have h:(binOp .eql t (.pointer a)<|.pointer none).run P w= .ok (.bool a.isNone) w:=by
  simp only [binOp]; simp [BN hu]
 simp [execOp,c,i,eqGuard,h]
theorem Dz {t q e:TypeId} {a:Option Addr} (hu:P.underlying t=some (.pointer e)) (c:ev N σ x= .pointer a) (i:ev N σ y= .pointer none):
 (execOp (ev N σ) ⟨dst,.binOp .neq t x y q,ty,pos,af,g⟩).run P w= .ok (.value<|.bool a.isSome) w:=by
 have h:(binOp .neq t (.pointer a)<|.pointer none).run P w= .ok (.bool a.isSome) w:=by
  simp only [binOp]; simp [BN hu]
 simp [execOp,c,i,eqGuard,h]
theorem LM (d:Nat) {t:TypeId} {a b:Bool} (hu:P.underlying t=some .bool):(qF (d+1) t (.bool a)<|.bool b).run P w= .ok (a==b) w:=by
 simp [qF,dj hu]
theorem LN {t:TypeId} {a b:Bool} (hu:P.underlying t=some .bool):(zn t (.bool a)<|.bool b).run P w= .ok (a==b) w:=LM 9999 hu
theorem OQ {t q:TypeId} {a b:Bool} (hu:P.underlying t=some .bool) (c:ev N σ x= .bool a) (i:ev N σ y= .bool b):
 (execOp (ev N σ) ⟨dst,.binOp .neq t x y q,ty,pos,af,g⟩).run P w= .ok (.value<|.bool<|decide (a≠b)) w:=by
 have h:(binOp .neq t (.bool a)<|.bool b).run P w= .ok (.bool<|decide (a≠b)) w:=by
  simp only [binOp]; simp [LN hu]; cases a <;> cases b <;> rfl
 simp [execOp,c,i,eqGuard,h]
def str (l:List UInt8):Value:= .string ⟨⟨l⟩⟩
theorem dv {t:TypeId} {l:List UInt8} {at_:Array TypeId} (c:P.underlying t=some .string) (a:at_= #[t]) (i:ev N σ x=str l):
 (execOp (ev N σ) ⟨dst,.call ⟨.builtin .len,#[x],at_⟩,ty,pos,af,g⟩).run P w= .ok (.value<|.int .i64 l.length) w:=by
 subst a
 simp [execOp,resolve,invoke,builtin,FI,dj c,i,str,goInt]
 rfl
theorem bO {t e:TypeId} {a:Option Addr} {n c:Nat} {at_:Array TypeId} (q:P.underlying t=some (.slice e)) (i:at_= #[t]) (A:ev N σ x= .slice a n c):
 (execOp (ev N σ) ⟨dst,.call ⟨.builtin .len,#[x],at_⟩,ty,pos,af,g⟩).run P w= .ok (.value<|.int .i64 n) w:=by
 subst i
 simp [execOp,resolve,invoke,builtin,FI,dj q,A,goInt]
theorem mn {k:IntKind} {a b:Int} {at_:Array TypeId} (c:ev N σ x= .int k a) (i:ev N σ y= .int k b):
 (execOp (ev N σ) ⟨dst,.call ⟨.builtin .min,#[x,y],at_⟩,ty,pos,af,g⟩).run P w= .ok (.value<|.int k<|min a b) w:=by
 have :(if b < a then b else a)=min a b:=ab
 simp [execOp,resolve,invoke,builtin,Builtin.min_,Builtin.min2,c,i,this]
theorem NO {t:TypeId} {l:List UInt8} {k:IntKind} {i:Int} (A:P.underlying t=some .string) (C:ev N σ x=str l) (E:ev N σ y= .int k i) (c:0≤i∧i < l.length):
 (execOp (ev N σ) ⟨dst,.index t x y,ty,pos,af,g⟩).run P w= .ok (.value<|.int .u8 ((l.getD i.toNat 0).toNat:Int)) w:=by
 have hs:(⟨⟨l⟩⟩:ByteArray)[i.toNat]? =some (l.getD i.toNat 0):=by
  have a:i.toNat < l.length:=ab
  have q:i.toNat < (⟨⟨l⟩⟩:ByteArray).size:=a
  rw [getElem?_pos (⟨⟨l⟩⟩:ByteArray) i.toNat q]
  simp [cX,a,ByteArray.getElem_eq_getElem_data]
 simp [execOp,Instr.index,C,E,asIntOf,str,dj A,c.1,hs]
theorem yO (l:List UInt8) (a b:Nat):Value.string ((⟨⟨l⟩⟩:ByteArray).extract a b)=str ((l.take b).drop a):=by
 unfold str
 congr 1
 apply ByteArray.ext
 simp [ByteArray.data_extract,List.extract_eq_take_drop,vw]
theorem lW (n:Nat) {t:TypeId} {l:List UInt8} {k:IntKind} (a:P.underlying t=some .string) (c:ev N σ x=str l) (i:ev N σ y= .int k (n:Int)) (h:n < l.length):
 (execOp (ev N σ) ⟨dst,.index t x y,ty,pos,af,g⟩).run P w= .ok (.value<|.int .u8 ((l.getD n 0).toNat:Int)) w:=NO a c i ⟨ab,ab⟩
theorem jm {n:Nat} {t:TypeId} {l:List UInt8} {k:IntKind} (a:P.underlying t=some .string) (c:ev N σ x=str l) (i:ev N σ y= .int k (n:Int)) (h:n < l.length):
 (execOp (ev N σ) ⟨dst,.index t x y,ty,pos,af,g⟩).run P w= .ok (.value<|.int .u8 ((l.getD n 0).toNat:Int)) w:=lW n a c i h
theorem si {t:TypeId} {l:List UInt8} {k E:IntKind} {a b:Int} (i:P.underlying t=some .string) (q:ev N σ x=str l) (A:ev N σ y= .int k a) (C:ev N σ z= .int E b) (c:0≤a∧a≤b∧b≤l.length):
 (execOp (ev N σ) ⟨dst,.slice t x (some y) (some z) none,ty,pos,af,g⟩).run P w= .ok (.value<|str<|(l.take b.toNat).drop a.toNat) w:=by
 have h1:b≤((⟨⟨l⟩⟩:ByteArray).size:Nat):=c.2.2
 have h2:0≤b:=ab
 have h3:a≤(b.toNat:Nat):=ab
 simp [execOp,o8,sH,mT,pc,q,A,C,asIntOf,str,dj i,c.1,h1,h2]
 rw [if_pos ab]
 exact congrArg (fun v=>zt (zm v) w)<|yO l a.toNat b.toNat
theorem sj {t:TypeId} {l:List UInt8} {A:IntKind} {b:Int} (c:P.underlying t=some .string) (i:ev N σ x=str l) (q:ev N σ z= .int A b) (a:0≤b∧b≤l.length):
 (execOp (ev N σ) ⟨dst,.slice t x none (some z) none,ty,pos,af,g⟩).run P w= .ok (.value<|str<|l.take b.toNat) w:=by
 have h1:b≤((⟨⟨l⟩⟩:ByteArray).size:Nat):=a.2
 have :=yO l 0 b.toNat
 simp only [sP] at this
 simp [execOp,o8,sH,mT,pc,i,q,asIntOf,str,dj c,a.1,h1]
 exact F9 this
theorem nn {t:TypeId} {l:List UInt8} {k:IntKind} {a:Int} (i:P.underlying t=some .string) (q:ev N σ x=str l) (A:ev N σ y= .int k a) (c:0≤a∧a≤l.length):
 (execOp (ev N σ) ⟨dst,.slice t x (some y) none none,ty,pos,af,g⟩).run P w= .ok (.value<|str<|l.drop a.toNat) w:=by
 have h1:a≤((⟨⟨l⟩⟩:ByteArray).size:Nat):=c.2
 have :=yO l a.toNat l.length
 simp only [List.take_length] at this
 simp [execOp,o8,sH,mT,pc,q,A,asIntOf,str,dj i,c.1,h1]
 exact F9 this
theorem EL (l:List UInt8):(⟨⟨l⟩⟩:ByteArray).toList=l:=Lib.toList_data ⟨⟨l⟩⟩
theorem cc {t i:TypeId} {l m:List UInt8} (a:ev N σ x=str l) (c:ev N σ y=str m) (h:l.length+m.length≤9223372036854775807):
 (execOp (ev N σ) ⟨dst,.binOp .add t x y i,ty,pos,af,g⟩).run P w= .ok (.value<|str<|l++m) w:=by
 have h1:¬(((⟨⟨l⟩⟩:ByteArray).size+(⟨⟨m⟩⟩:ByteArray).size:Nat):Int) > vk.max:=by
  have :vk.max=9223372036854775807:=aw
  rw [this]
  show ¬((l.length+m.length:Nat):Int) > _
  omega
 have h2:(⟨⟨l⟩⟩:ByteArray)++(⟨⟨m⟩⟩:ByteArray)=⟨⟨l++m⟩⟩:=by
  apply ByteArray.ext; simp
 simp only [execOp,a,c,str,eqGuard,binOp,zo]
 rw [if_neg h1,h2]
 rfl
theorem iM {t i:TypeId} {l m:List UInt8} (a:ev N σ x=str l) (c:ev N σ y=str m):
 (execOp (ev N σ) ⟨dst,.binOp .eql t x y i,ty,pos,af,g⟩).run P w= .ok (.value<|.bool<|decide (l=m)) w:=by
 simp only [execOp,a,c,str,eqGuard,binOp,zo,EL]
 show zt (zm<|.bool<|l==m) w=_
 rw [show (l==m)=decide (l=m) from by rw [qC]; simp]
theorem oV {t i:TypeId} {l m:List UInt8} (a:ev N σ x=str l) (c:ev N σ y=str m):
 (execOp (ev N σ) ⟨dst,.binOp .neq t x y i,ty,pos,af,g⟩).run P w= .ok (.value<|.bool<|decide (l≠m)) w:=by
 simp only [execOp,a,c,str,eqGuard,binOp,zo,EL]
 show zt (zm<|.bool<|!(l==m)) w=_
 rw [show (!(l==m))=decide (l≠m) from by rw [qC]; simp]
theorem mf {fn:Fn} {first captured:Array Operand} :(execOp (ev N σ) ⟨dst,.makeFunc fn first captured,ty,pos,af,g⟩).run P w= .ok (.value<|.func fn (first.map<|ev N σ)<|captured.map<|ev N σ) w:=rfl
theorem Ds {fn:Fn} {first captured:Array Operand} :(execOp (ev N σ) ⟨dst,.makeFunc fn first captured,ty,pos,af,g⟩).run P w= .ok (.value<|.func fn (first.toList.map<|ev N σ).toArray (captured.toList.map<|ev N σ).toArray) w:=by
 rw [mf,← kB,← kB]
end
end Go.Hb
namespace Go.Hb
def bw (h:Array Obj) (b:Nat) (L:List Value):Prop := ∃ e,h[b]? =some (.cells L.toArray e (0,0))
theorem bw.aI {h:Array Obj} {b:Nat} {L:List Value} (a:bw h b L) (j:Nat):Hb.aI h b j=L[j]? :=by
 obtain ⟨e,a⟩:=a
 rw [aY a]; simp
theorem bw.bm {h:Array Obj} {b:Nat} {L:List Value} (a:bw h b L) (j:Nat):Hb.aI h b (0 +j)=L[j]? :=by
 rw [fF,a.aI]
theorem Md.B {F:Nat→Prop} {w w':World} (h:Md F w w') {b:Nat} {L:List Value} (a:bw w.heap b L) (c:¬F b):bw w'.heap b L:=
 let ⟨e,a⟩:=a; ⟨e,h.aB a c⟩
theorem Wk.B {w w':World} (h:Wk w w') {b:Nat} {L:List Value} (a:bw w.heap b L):bw w'.heap b L:=Md.B h a id
theorem bw.lt {h:Array Obj} {b:Nat} {L:List Value} (a:bw h b L):b < h.size:=let ⟨_,a⟩:=a; (cy.1 a).1
def bk (a:Option Addr):Nat:=match a with | some ad=>ad.block | none=>0
def fo (a:Option Addr):Nat:=match a with | some ad=>ad.off | none=>0
structure aE (h:Array Obj) (a:Option Addr) (xs:List Value):Prop where
 ok:xs≠[]→a=some ⟨bk a,fo a,none⟩
 aI:∀ j u,xs[j]? =some u→Hb.aI h (bk a) (fo a+j)=some u
theorem aE.nil (h:Array Obj) (a:Option Addr):aE h a []:=⟨fun h=>absurd rfl h,fun _ _ hu=>by simp at hu⟩
theorem aE.md {F:Nat→Prop} {w w':World} {a:Option Addr} {xs:List Value} (c:aE w.heap a xs) (h:Md F w w') (i:xs≠[]→¬F (bk a)):aE w'.heap a xs:=
 ⟨c.ok,fun j u hu=>h.aI (c.aI j u hu)<|i<|by rintro rfl; simp at hu⟩
theorem aE.wk {w w':World} {a:Option Addr} {xs:List Value} (c:aE w.heap a xs) (h:Wk w w'):aE w'.heap a xs:=c.md h fun _ x=>x
theorem aE.take {h:Array Obj} {a:Option Addr} {xs:List Value} (c:aE h a xs) (n:Nat):aE h a (xs.take n):=
 ⟨fun i=>c.ok (by rintro rfl; simp at i),fun j u hu=>c.aI j u<|by rw [mg] at hu; split at hu; exact hu; cases hu⟩
theorem aE.fA {h:Array Obj} {b:Nat} {L:List Value} (a:bw h b L):aE h (some ⟨b,0,none⟩) L:=
 ⟨fun _=>rfl,fun j u hu=>by show Hb.aI h b (0 +j)=_; rw [fF,a.aI]; exact hu⟩
theorem aE.jj {h:Array Obj} {a:Option Addr} {xs:List Value} (c:aE h a xs) {i:Nat} {u:Value} (hu:xs[i]? =some u):Hb.aI h (bk a) (fo a+i*1)=some u:=by
 rw [Nat.mul_one]; exact c.aI i u hu
def da (h:Array Obj) (a:Option Addr) (l:List (List UInt8)):Prop :=aE h a<|l.map str
theorem da.get {h:Array Obj} {a:Option Addr} {l:List (List UInt8)} (hs:da h a l) {i:Nat} (hi:i < l.length):Hb.aI h (bk a) (fo a+i*1)=some (str<|l.getD i []):=
 aE.jj hs (by simp [cX,hi])
theorem da.wk {w w':World} {a:Option Addr} {l:List (List UInt8)} (hs:da w.heap a l) (h:Wk w w'):da w'.heap a l:=aE.wk hs h
theorem cY {α:Type} {f:α→Value} {l:List α} (h:0 < l.length):l.map f≠[]:=by
 cases l with
 | nil=>simp at h
 | cons x l=>simp
def SC (k:IntKind) (h:Array Obj) (a:Option Addr) (l:List Int):Prop :=aE h a<|l.map<|gG k
def fK (P:Program) (t e size bytes:Nat):Bool:=
 match P.underlying t with
 | some (.slice a)=>a==e && match P.info? e with
   | some i=>i.size==size && i.bytes==bytes && e8 0 size && match i.zero with
     | some z=>z.cells.size==size
     | none=>false
   | none=>false
 | _=>false
theorem n3 {P:Program} {t e size bytes:Nat} (h:fK P t e size bytes=true):
 P.underlying t=some (.slice e)∧∃ i z,P.info? e=some i∧i.zero=some z∧i.size=size∧i.bytes=bytes∧z.cells.size=size∧0 < size:=by
 unfold fK at h
 split at h
 · rename_i c hu
   simp only [fE,beq_iff_eq] at h
   obtain ⟨rfl,h⟩:=h
   split at h
   · rename_i i hi
     simp only [fE,beq_iff_eq] at h
     obtain ⟨⟨⟨h1,h2⟩,h3⟩,h4⟩:=h
     split at h4
     · rename_i z a
       exact ⟨hu,i,z,hi,a,h1,h2,by simpa using h4,pw (qS 0)<|ot h3⟩
     · cases h4
   · cases h
 · cases h
def dM (P:Program) (t:TypeId):Option Nat:=(P.info? t).map (·.size)
def zeroOf (P:Program) (t:TypeId):Option (Option<|List Value):=(P.info? t).map fun i=>i.zero.map fun z=>z.cells.toList
def bc (P:Program) (f:FuncId):Prop := ∀ args w,(callFunc f args).run P w= .ok (.enter f args) w
theorem Jg {P:Program} {f:FuncId} {fn:Func} (c:P.funcs[f]? =some fn) (hn:(fn.name== "runtime.NumGoroutine")=false) (a:fn.body.isNone=false):bc P f:=by
 intro args w
 have h1:¬((fn.name== "runtime.NumGoroutine")=true):=by rw [hn]; simp
 have h2:¬(fn.body.isNone=true):=by rw [a]; simp
 simp only [callFunc,pj,run_program,ph,c]
 rw [if_neg h1,if_neg h2]
 rfl
section
variable {P:Program} {N:Fm} {σ:Nat→Value} {w:World} {dst:Option Nat} {ty:TypeId} {pos :String} {af:Array Edge} {g:Option (Nat×Bool)} {x y z:Operand} {K:(Nat→Value)→World→Prop}
theorem Fc {o:Oper} {f:FuncId} {L:List Value} {R:Value→World→Prop} (i:(execOp (ev N σ) o).run P w= .ok (.enter f L.toArray) w) (c:bd P f L.toArray w R)
 (k:∀ v w',R v w'→K (fD σ o.dst v) w'):cE P N o σ w K:=by
 unfold cE iF
 rw [fH,i]
 refine jQ c fun e w' ⟨v,he,a⟩=> ?_
 subst he
 exact ⟨_,il ..,k v w' a⟩
theorem cl {f:FuncId} {args:Array Operand} {a:Array TypeId} {L:List Value} {R:Value→World→Prop} (i:bc P f) (q:bd P f L.toArray w R) (c:args.toList.map (ev N σ)=L)
 (k:∀ v w',R v w'→K (fD σ dst v) w'):cE P N ⟨dst,.call ⟨.value (.func f),args,a⟩,ty,pos,af,g⟩ σ w K:=by
 refine Fc (f:=f) ?_ q k
 have :args.map (ev N σ)=L.toArray:=by rw [← c,← kB]
 simp [execOp,resolve,ev,nz,invoke,this,i L.toArray w]
theorem JY {f:FuncId} {fo:Operand} {first cap:Array Value} {args:Array Operand} {a:Array TypeId} {L:List Value} {R:Value→World→Prop} (i:bc P f) (A:ev N σ fo= .func (.func f) first cap)
 (q:bd P f L.toArray w R) (c:first.toList++args.toList.map (ev N σ)++cap.toList=L)
 (k:∀ v w',R v w'→K (fD σ dst v) w'):cE P N ⟨dst,.call ⟨.value fo,args,a⟩,ty,pos,af,g⟩ σ w K:=by
 refine Fc (f:=f) ?_ q k
 have :first++args.map (ev N σ)++cap=L.toArray:=by rw [← c,← kB,← FB,← FB]
 simp [execOp,resolve,A,nz,invoke,this,i L.toArray w]
theorem l5 {o:Oper} {ob:Obj} {v:Nat→Value} (a:(execOp (ev N σ) o).run P w= .ok (.value<|v w.heap.size) {w with heap:=w.heap.push ob})
 (k:∀ b w',b=w.heap.size→Nw w w'→w'.heap[b]? =some ob→K (fD σ o.dst<|v b) w'):cE P N o σ w K:=
 l6 a (k _ _ rfl (yr w ob) (by simp))
theorem al {e:TypeId} {c:List Value} (a:zeroOf P e=some (some c)) (k:∀ b w',b=w.heap.size→Nw w w'→bw w'.heap b c→K (fD σ dst<|.pointer<|some ⟨b,0,none⟩) w'):
 cE P N ⟨dst,.alloc e,ty,pos,af,g⟩ σ w K:=by
 refine l5 (v:=fun b=> .pointer<|some ⟨b,0,none⟩) (ob:= .cells c.toArray e (0,0)) ?_ fun b w' h1 h2 h3=>k b w' h1 h2 ⟨e,h3⟩
 unfold zeroOf at a
 simp only [lL] at a
 obtain ⟨i,hi,zv,q,rfl⟩:=a
 simp [execOp,FR,zeroValue,gd hi,q,newVar,newRow]
theorem gx {e:TypeId} {c:List Value} (a:zeroOf P e=some (some c)) (k:∀ b w',b=w.heap.size→Nw w w'→w'.heap[b]? =some (.cells c.toArray e (0,0))→K (fD σ dst<|.pointer<|some ⟨b,0,none⟩) w'):
 cE P N ⟨dst,.alloc e,ty,pos,af,g⟩ σ w K:=by
 refine l5 (v:=fun b=> .pointer<|some ⟨b,0,none⟩) (ob:= .cells c.toArray e (0,0)) ?_ k
 unfold zeroOf at a
 simp only [lL] at a
 obtain ⟨i,hi,zv,q,rfl⟩:=a
 simp [execOp,FR,zeroValue,gd hi,q,newVar,newRow]
theorem bx {e:TypeId} {v:Value} {L:List Value} (c:ev N σ x=v) (a:v.cells.toList=L) (k:∀ b w',b=w.heap.size→Nw w w'→bw w'.heap b L→K (fD σ dst<|.pointer<|some ⟨b,0,none⟩) w'):
 cE P N ⟨dst,.box e x,ty,pos,af,g⟩ σ w K:=by
 subst a
 refine l5 (v:=fun b=> .pointer<|some ⟨b,0,none⟩) (ob:= .cells v.cells e (0,0)) ?_ fun b w' h1 h2 h3=>k b w' h1 h2 ⟨e,h3⟩
 simp [execOp,Instr.box,c,newVar,newRow]
theorem rX {t:TypeId} (k:∀ b w',b=w.heap.size→Nw w w'→w'.heap[b]? =some (.map #[] 0)→K (fD σ dst<|.map<|some b) w'):cE P N ⟨dst,.makeMap t none,ty,pos,af,g⟩ σ w K:=by
 refine l5 (v:=fun b=> .map<|some b) ?_ k
 simp [execOp,Instr.makeMap]
theorem pM {t e:TypeId} {size bytes:Nat} (c:fK P t e size bytes=true)
 (k:∀ b w',b=w.heap.size→Nw w w'→(∀ B,B≤b→w'.ownsRow B e size (.slice (some ⟨b,0,none⟩) 0 0) 0 [])→K (fD σ dst<|.slice (some ⟨b,0,none⟩) 0 0) w'):cE P N ⟨dst,.buildSlice t 0 #[],ty,pos,af,g⟩ σ w K:=by
 refine l5 (v:=fun b=> .slice (some ⟨b,0,none⟩) 0 0) (ob:= .cells #[] e (0,0)) ?_ fun b w' h1 h2 h3=>k b w' h1 h2 fun B a=>⟨by simp,.inr ⟨b,0,#[],aa,a,h3,cw _,by simp [maxLen],by simp,by simp⟩⟩
 obtain ⟨hu,i,zv,hi,q,h1,h2,h3,h4⟩:=n3 c
 simp [execOp,zh,dj hu,sizeOf,gd hi,kZ,newRow]
 congr 2
 exact Array.eq_empty_of_size_eq_zero<|by simp
theorem HP {t e:TypeId} {size bytes:Nat} {v:Value} {L:List Value} (G:fK P t e size bytes=true) (hs:lK size 1000=true) (J:ev N σ x=v) (I:v.cells.size=size)
 (A:v.cells.toList=L) (k:∀ b w',b=w.heap.size→Nw w w'→w'.heap[b]? =some (.cells L.toArray e (0,0))→K (fD σ dst<|.slice (some ⟨b,0,none⟩) 1 1) w'):cE P N ⟨dst,.buildSlice t 1 #[(0,x)],ty,pos,af,g⟩ σ w K:=by
 subst A
 refine l5 (v:=fun b=> .slice (some ⟨b,0,none⟩) 1 1) (ob:= .cells v.cells e (0,0)) ?_ fun b w' h1 h2 h3=>k b w' h1 h2<|by simpa using h3
 obtain ⟨hu,i,zv,hi,M,h1,h2,h3,h4⟩:=n3 G
 have U:size≤1000:=by simpa using hs
 have C:kZ (fun i=>some (i*size,size)) ((nw size).map (zv.cells[· % zv.cells.size]!)) [(0,v)]=some v.cells:=by
  have a:((nw size).map (zv.cells[· % zv.cells.size]!)).size=size:=by simp
  generalize (nw size).map (zv.cells[· % zv.cells.size]!)=cs at a
  simp only [kZ,I]
  rw [if_neg (by rw [a]; simp)]
  congr 1
  have key:∀ (l:List Value) (m:Nat) (cs:Array Value),m+l.length≤cs.size→∀ j,((l.zipIdx m).foldl (fun (cs:Array Value) (c,j)=>cs.setIfInBounds (0 *size+j) c) cs)[j]? =if j < m then cs[j]? else if j < m+l.length then l[j - m]? else cs[j]? :=by
   intro l
   induction l with
   | nil=>intro m cs hm j; simp; intro h1 h2; omega
   | cons c l O=>
     intro m cs hm j
     simp only [vE,qN,bV] at hm ⊢
     rw [O (m+1) _ (by simp; omega)]
     simp only [zT,fF,zb]
     by_cases h1:j < m
     · rw [if_pos ab,if_pos h1,if_neg ab]
     · rw [if_neg h1]
       by_cases h2:j=m
       · subst h2
         rw [if_pos ab,if_pos rfl,if_pos ab,if_pos ab]
         simp
       · rw [if_neg ab]
         by_cases h3:j < m+1 +l.length
         · rw [if_pos h3,if_pos ab]
           obtain ⟨q,E⟩:∃ q,j - m=q+1:=⟨j - m - 1,ab⟩
           rw [E,Gn,show j - (m+1)=q from by omega]
         · rw [if_neg h3,if_neg ab,if_neg ab]
  apply Fy
  intro j
  have :=key v.cells.toList 0 cs (by simp; omega) j
  rw [show (v.cells.zipIdx.foldl (fun (cs:Array Value) (c,j)=>cs.setIfInBounds (0 *size+j) c) cs)=((v.cells.toList.zipIdx 0).foldl (fun (cs:Array Value) (c,j)=>cs.setIfInBounds (0 *size+j) c) cs) from by
   rw [← Array.foldl_toList]; simp [Array.toList_zipIdx]]
  rw [this]
  simp only [Nat.not_lt_zero,if_false,fF,Nat.sub_zero,sD,zc]
  split
  · rfl
  · rw [qA ab,qA ab]
 simp only [execOp,zh,pj,dj hu,ph,sizeOf,gd hi,qH,h1,Nat.one_mul,zy,zeroValue,M,List.map_toArray,nD,List.map_nil,J,C]
 rw [if_neg (by rw [show (2:Nat) ^ 24=16777216 from rfl]; omega),if_neg ab]
 simp [newRow]
theorem As {t e:TypeId} {size bytes:Nat} {v:Value} {L:List Value} (c:fK P t e size bytes=true) (hs:lK size 1000=true) (q:ev N σ x=v) (i:v.cells.size=size)
 (a:v.cells.toList=L) (k:∀ b w',b=w.heap.size→Nw w w'→bw w'.heap b L→K (fD σ dst<|.slice (some ⟨b,0,none⟩) 1 1) w'):cE P N ⟨dst,.buildSlice t 1 #[(0,x)],ty,pos,af,g⟩ σ w K:=
 HP c hs q i a fun b w' h1 h2 h3=>k b w' h1 h2 ⟨_,h3⟩
theorem nY {v:Value} (h:v.oneCell'=true):v.cells= #[v]:=by cases v <;> first | rfl | (cases h; done)
theorem BY {loc:Nat→Option (Nat×Nat)} (c:∀ i,loc i=some (i*1,1)):∀ (rest pre a:List Value),a.length=rest.length→rest.all eW=true→
 kZ loc (pre++a).toArray ((rest.zipIdx pre.length).map fun q=>(q.2,q.1))=some (pre++rest).toArray
 | [],pre,a,hl,_=>by
   rw [gr hl]; rfl
 | v::r,pre,a,hl,h1=>by
   cases a with
   | nil=>simp at hl
   | cons z a=>
     rw [vu,fE] at h1
     have C:=nY h1.1
     have A:=BY c r (pre++ [v]) a (by simpa using hl) h1.2
     simp only [vE,nD,kZ,c,C]
     rw [if_neg (by simp)]
     simp only [bJ,iH,dK,List.singleton_append] at A
     rw [← A]
     simp
theorem oE {t e bytes n:Nat} {ps:Array (Nat×Operand)} {L:List Value} (A:fK P t e 1 bytes=true) (hp:ps.toList.map (fun p=>(p.1,ev N σ p.2))=(L.zipIdx 0).map fun q=>(q.2,q.1)) (h1:L.all eW=true) (hn:L.length=n) (hs:(lK n 1000 && e8 0 n)=true)
 (k:∀ b w',b=w.heap.size→Nw w w'→w'.heap[b]? =some (.cells L.toArray e (0,0))→K (fD σ dst<|.slice (some ⟨b,0,none⟩) n n) w'):cE P N ⟨dst,.buildSlice t n ps,ty,pos,af,g⟩ σ w K:=by
 subst hn
 refine l5 (v:=fun b=> .slice (some ⟨b,0,none⟩) L.length L.length) (ob:= .cells L.toArray e (0,0)) ?_ k
 obtain ⟨hu,i,zv,hi,C,a,h2,h3,h4⟩:=n3 A
 simp only [fE] at hs
 have G:L.length≤1000:=by simpa using hs.1
 have I:0 < L.length:=by have :=ot hs.2; omega
 have c:kZ (fun i=>some (i*1,1)) ((nw<|L.length*1).map (zv.cells[· % zv.cells.size]!)) (ps.toList.map fun p=>(p.1,ev N σ p.2))=some L.toArray:=by
  rw [hp]
  have E:((nw<|L.length*1).map (zv.cells[· % zv.cells.size]!)).toList.length=L.length:=by simp
  have :=BY (loc:=fun i=>some (i*1,1)) (fun _=>rfl) L [] ((nw<|L.length*1).map (zv.cells[· % zv.cells.size]!)).toList E h1
  rw [lJ,lJ,u7] at this
  exact this
 simp only [execOp,zh,pj,dj hu,ph,sizeOf,gd hi,qH,a,zy,zeroValue,C,kB,c]
 rw [if_neg (by rw [show (2:Nat) ^ 24=16777216 from rfl]; omega),if_neg ab]
 simp [newRow]
theorem lf {t e:TypeId} {bytes:Nat} {v:Value} (a:fK P t e 1 bytes=true) (c:ev N σ x=v) (h1:v.oneCell'=true)
 (k:∀ b w',b=w.heap.size→Nw w w'→bw w'.heap b [v]→K (fD σ dst<|.slice (some ⟨b,0,none⟩) 1 1) w'):cE P N ⟨dst,.buildSlice t 1 #[(0,x)],ty,pos,af,g⟩ σ w K:=
 As a rfl c (by rw [nY h1]; rfl) (by rw [nY h1]) k
theorem mu {t e:TypeId} {size bytes:Nat} {L:List Value} (c:fK P t e size bytes=true) (hs:lK size 1000=true) (i:ev N σ x= .agg L.toArray) (a:L.length=size)
 (k:∀ b w',b=w.heap.size→Nw w w'→bw w'.heap b L→K (fD σ dst<|.slice (some ⟨b,0,none⟩) 1 1) w'):cE P N ⟨dst,.buildSlice t 1 #[(0,x)],ty,pos,af,g⟩ σ w K:=
 As c hs i (by simpa [qL] using a) (by simp [qL]) k
theorem iV {e:TypeId} {L:List Value} (a:ev N σ x= .agg L.toArray) (k:∀ b w',b=w.heap.size→Nw w w'→bw w'.heap b L→K (fD σ dst<|.pointer<|some ⟨b,0,none⟩) w'):
 cE P N ⟨dst,.box e x,ty,pos,af,g⟩ σ w K:=bx a (by simp [qL]) k
theorem ra {e:TypeId} {L:List Value} (a:ev N σ x= .agg L.toArray) (k:∀ b w',b=w.heap.size→Nw w w'→w'.heap[b]? =some (.cells L.toArray e (0,0))→K (fD σ dst<|.pointer<|some ⟨b,0,none⟩) w'):
 cE P N ⟨dst,.box e x,ty,pos,af,g⟩ σ w K:=by
 refine l5 (v:=fun b=> .pointer<|some ⟨b,0,none⟩) (ob:= .cells L.toArray e (0,0)) ?_ fun b w' h1 h2 h3=>k b w' h1 h2 h3
 simp [execOp,Instr.box,a,newVar,newRow,qL]
theorem q5 {l:List Value} (h:l.all eW=true):∀ u∈l,u.oneCell'=true :=kD.1 h
theorem dF {t b off :Nat} {e:TypeId} {L:List Value} {v:Value} (c:dM P t=some 1) (O:ev N σ x= .pointer (some ⟨b,off,none⟩)) (U:ev N σ y=v) (h1:v.oneCell'=true) (a:w.heap[b]? =some (.cells L.toArray e (0,0))) (I:off < L.length)
 (k:∀ w',Md (fun k=>k=b) w w'→w'.heap[b]? =some (.cells (L.set off v).toArray e (0,0))→K σ w'):cE P N ⟨none,.store t x y,ty,pos,af,g⟩ σ w K:=by
 have A:v.cells= #[v]:=by cases v <;> first | rfl | (cases h1; done)
 have C:w.cell? ⟨b,off,none⟩=some L[off]:=by rw [lQ,aY a]; simp [I]
 have E:w.frozen? ⟨b,off,none⟩=false :=by simp only [World.frozen?,show w.heap[b]? =_ from a]; simp
 unfold dM at c
 simp only [lL] at c
 obtain ⟨i,hi,hs⟩:=c
 have q:(⟨b,off,none⟩:Addr).add 0=⟨b,off,none⟩:=rfl
 have J:(execOp (ev N σ) ⟨none,.store t x y,ty,pos,af,g⟩).run P w= .ok .skip (w.setCell ⟨b,off,none⟩ v):=by
  simp [execOp,zl,O,U,n9,storeVar,A,sizeOf,gd hi,hs,storeCells,q,run_store P w _ v _ h1,C,E]
 unfold cE iF
 rw [fH,J]
 refine ⟨σ,aa,k _ ⟨aa,aa,by simp [vt],fun k _ hk=> ?_⟩ ?_⟩
 · exact Below.heap_setCell w _ v k hk
 · have G:=(cy.1 a).1
   have M:w.heap[b]= .cells L.toArray e (0,0):=(cy.1 a).2
   simp only [vt]
   rw [u6 (by simpa using G),Array.getElem_modify]
   simp [M,List.setIfInBounds_toArray]
theorem st {t b off :Nat} {L:List Value} {v:Value} (A:dM P t=some 1) (i:ev N σ x= .pointer (some ⟨b,off,none⟩)) (q:ev N σ y=v) (h1:v.oneCell'=true) (a:bw w.heap b L) (c:off < L.length)
 (k:∀ w',Md (fun k=>k=b) w w'→bw w'.heap b (L.set off v)→K σ w'):cE P N ⟨none,.store t x y,ty,pos,af,g⟩ σ w K:=
 let ⟨_,a⟩:=a
 dF A i q h1 a c fun w' h1 h2=>k w' h1 ⟨_,h2⟩
theorem gi {t b off n:Nat} {e:TypeId} {L vs:List Value} (a:dM P t=some n) (A:ev N σ x= .pointer (some ⟨b,off,none⟩)) (C:ev N σ y= .agg vs.toArray) (hn:vs.length=n) (h1:vs.all eW=true) (c:w.heap[b]? =some (.cells L.toArray e (0,0))) (E:off+n≤L.length)
 (k:∀ w',Md (fun k=>k=b) w w'→w'.heap[b]? =some (.cells (L.take off++vs++L.drop (off+n)).toArray e (0,0))→K σ w'):cE P N ⟨none,.store t x y,ty,pos,af,g⟩ σ w K:=by
 unfold dM at a
 simp only [lL] at a
 obtain ⟨i,hi,hs⟩:=a
 have bM:=run_storeCells_at P b off e vs 0 L.toArray w c (by simp; omega)<|q5 h1
 have q:(execOp (ev N σ) ⟨none,.store t x y,ty,pos,af,g⟩).run P w= .ok .skip (w.setRow b (L.take off++vs++L.drop (off+n)).toArray):=by
  simp [execOp,zl,A,C,n9,storeVar,qL,sizeOf,gd hi,hs,hn,bM]
 unfold cE iF
 rw [fH,q]
 exact ⟨σ,aa,k _ ⟨aa,aa,by simp,fun k _ hk=>setRow_other w b k _ hk⟩<|setRow_heap w b _ _ e _ c⟩
theorem ca {t b off n:Nat} {L vs:List Value} (c:dM P t=some n) (A:ev N σ x= .pointer (some ⟨b,off,none⟩)) (C:ev N σ y= .agg vs.toArray) (hn:vs.length=n) (h1:vs.all eW=true) (a:bw w.heap b L) (E:off+n≤L.length)
 (k:∀ w',Md (fun k=>k=b) w w'→bw w'.heap b (L.take off++vs++L.drop (off+n))→K σ w'):cE P N ⟨none,.store t x y,ty,pos,af,g⟩ σ w K:=by
 obtain ⟨e,a⟩:=a
 unfold dM at c
 simp only [lL] at c
 obtain ⟨i,hi,hs⟩:=c
 have bM:=run_storeCells_at P b off e vs 0 L.toArray w a (by simp; omega)<|q5 h1
 have q:(execOp (ev N σ) ⟨none,.store t x y,ty,pos,af,g⟩).run P w= .ok .skip (w.setRow b (L.take off++vs++L.drop (off+n)).toArray):=by
  simp [execOp,zl,A,C,n9,storeVar,qL,sizeOf,gd hi,hs,hn,bM]
 unfold cE iF
 rw [fH,q]
 exact ⟨σ,aa,k _ ⟨aa,aa,by simp,fun k _ hk=>setRow_other w b k _ hk⟩ ⟨e,setRow_heap w b _ _ e _ a⟩⟩
theorem Ho {t ty e:TypeId} {i:TypeInfo} {zv:Value} {B n m c:Nat} {v U:Value} {xs news:List Value} {ad:Addr} {w':World} (hu:P.underlying t=some (.slice e)) (hi:P.info? e=some i) (O:i.zero=some zv) (ae:zv.cells.size=i.size) (aa:0 < i.size)
 (C:w.ownsRow B e i.size v n xs) (A:news.length=m*i.size) (E:∀ j u,news[j]? =some u→w.cell? (ad.add j)=some u) (h1:∀ u∈news,u.oneCell'=true) (I:n+m≤maxLen) (G:(n+m)*i.bytes≤140737488355328)
 (a:(vg #[t,t] ty #[v,.slice (some ad) m c]).run P w= .ok U w'):∀ k,U.ownBlock=some k→v.ownBlock=some k∨w.heap.size≤k:=by
 intro k hk
 have ag:n+m≤9223372036854775807:=by unfold maxLen at I; omega
 rcases C.2 with ⟨rfl,rfl⟩ | ⟨q,cap,cur,rfl,ai,Z,ak,aj,V,al⟩
 · have ac:xs= []:=gr<|by simpa using C.1
   subst ac
   obtain ⟨v2,am,J,h2,_,_⟩:=run_append_own (P:=P) w w.heap.size t ty e i zv i.size i.bytes hu hi O rfl rfl ae aa _ 0 [] (dJ w w.heap.size e i.size) ad m c news A E h1 I G (cw _)
   rw [a] at J
   cases J
   exact .inr (by
    rcases h2.2 with ⟨h,_⟩ | ⟨g2,_,_,h,ah,_⟩
    · rw [h] at hk; simp [fT] at hk
    · rw [h] at hk; simp only [fT,eZ] at hk; omega)
 · by_cases M:n+m≤cap
   · have Y:n*i.size+news.length≤cur.size:=by rw [A,V,← Nat.add_mul]; exact qT _ M
     rw [run_append_room (P:=P) w t ty e i hu hi q n cap cur Z ad m c news A E h1 M Y] at a
     cases a
     exact .inl hk
   · have holds:∀ j u,xs[j]? =some u→w.cell? ((⟨q,0,none⟩:Addr).add j)=some u:=C.cells (g:=q) rfl
     rw [run_append_grow (P:=P) w t ty e i zv hu hi O ⟨q,0,none⟩ n cap xs C.1 holds ad m c news A E ab ab (growslice_fits ab G)] at a
     cases a
     simp only [fT,eZ] at hk
     exact .inr ab
theorem ap {t e size bytes B n m c:Nat} {v:Value} {xs news:List Value} {a:Option Addr} (ai:fK P t e size bytes=true) (A:w.ownsRow B e size v n xs) (V:ev N σ x=v) (ab:B≤w.heap.size)
 (Y:ev N σ y= .slice a m c) (I:aE w.heap a news) (C:news.length=m*size) (h1:news.all eW=true) (E:(n+m)*bytes≤140737488355328) (al:n+m≤9223372036854775807)
 (k:∀ q w',w'.ownsRow B e size q (n+m) (xs++news)→Md (fun k=>v.ownBlock=some k) w w'→(q= .slice none 0 0↔v= .slice none 0 0∧m=0)→(∀ k,q.ownBlock=some k→v.ownBlock=some k∨w.heap.size≤k)→K (fD σ dst q) w'):
 cE P N ⟨dst,.call ⟨.builtin .append,#[x,y],#[t,t]⟩,ty,pos,af,g⟩ σ w K:=by
 obtain ⟨hu,i,zv,hi,Z,hs,G,aa,O⟩:=n3 ai
 have J:n+m≤maxLen:=by unfold maxLen; omega
 by_cases hm:news= []
 · subst hm
   have ae:m=0:=by
    rcases Nat.mul_eq_zero.1 (C.symm.trans rfl) with h | h
    · exact h
    · omega
   subst ae
   have ah:(vg #[t,t] ty #[v,.slice a 0 c]).run P w= .ok v w:=by
    rcases A.2 with ⟨rfl,rfl⟩ | ⟨ak,cap,cur,rfl,_,_,hle,_⟩
    · cases a <;> simp [vg,dj hu,sizeOf,gd hi,FH,FG,loadCells,loadCellsFrom]
    · cases a <;> simp [vg,dj hu,sizeOf,gd hi,FH,FG,loadCells,loadCellsFrom,hle,storeCells]
   refine l6 (w':=w) (v:=v) ?_<|k v w (by simpa using A) (Md.refl _ _) (by simp) fun _ h=> .inl h
   simp [execOp,resolve,invoke,builtin,V,Y,ah]
 · have ac:=I.ok hm
   have M:∀ j u,news[j]? =some u→w.cell? ((⟨bk a,fo a,none⟩:Addr).add j)=some u:=fun j u hu=>by rw [kH,lQ]; exact I.aI j u hu
   obtain ⟨q,w',U,h2,h3,h4⟩:=run_append_own (P:=P) w B t ty e i zv size bytes hu hi Z hs G aa O v n xs A ⟨bk a,fo a,none⟩ m c news C M (q5 h1) J E ab
   subst hs G
   have ad:=Ho hu hi Z aa O A C M (q5 h1) J E U
   refine l6 (w':=w') (v:=q) ?_<|k q w' h2 ⟨h3.os,h3.output,h3.size,fun k hk ag=>h3.block k hk fun e=>ag e.symm⟩ h4 ad
   have aj:ev N σ y= .slice (some ⟨bk a,fo a,none⟩) m c:=Y.trans<|congrArg (fun a=>bB a m c) ac
   simp [execOp,resolve,invoke,builtin,V,aj,U]
theorem a6 {t n len cap:Nat} {k:IntKind} {i:Int} {a:Option Addr} (he:fY P t=some n) (q:ev N σ x= .slice a len cap) (A:ev N σ y= .int k i) (c:0≤i∧i < len) (C:a=some ⟨bk a,fo a,none⟩):
 (execOp (ev N σ) ⟨dst,.indexAddr t x y,ty,pos,af,g⟩).run P w= .ok (.value<|.pointer<|some ⟨bk a,fo a+i.toNat*n,none⟩) w:=
 ia he (by rw [q]; congr 1) A c
end
theorem cx {F:Nat→Prop} {w w':World} {B e size n:Nat} {v:Value} {xs:List Value} (h:w.ownsRow B e size v n xs) (hm:Md F w w') (c:∀ k,v.ownBlock=some k→¬F k):w'.ownsRow B e size v n xs:=by
 refine ⟨h.1,?_⟩
 rcases h.2 with hn | ⟨g,cap,cur,rfl,a,i,rest⟩
 · exact .inl hn
 · exact .inr ⟨g,cap,cur,aa,a,hm.aB i (c g aa),rest⟩
section
variable {P:Program} {N:Fm} {σ:Nat→Value} {w:World} {dst:Option Nat} {ty:TypeId} {pos :String} {af:Array Edge} {g:Option (Nat×Bool)} {x y z:Operand} {K:(Nat→Value)→World→Prop}
theorem qk {t B e size n cap off j:Nat} {a:Option Addr} {xs:List Value} {u:Value} (U:w.ownsRow B e size (.slice a n cap) n xs) (ab:dM P t=some 1) (Y:ev N σ x= .pointer (some ⟨bk a,off,none⟩)) (Z:ev N σ y=u) (h1:u.oneCell'=true)
 (J:off =fo a+j) (O:j < n*size)
 (k:∀ w',Md (fun k=>(bB a n cap).ownBlock=some k) w w'→w'.ownsRow B e size (.slice a n cap) n (xs.set j u)→K σ w'):cE P N ⟨none,.store t x y,ty,pos,af,g⟩ σ w K:=by
 obtain ⟨q,h⟩:=U
 rcases h with ⟨h,rfl⟩ | ⟨c,cp,cur,h,A,I,hle,G,i,V⟩
 · simp at O
 · simp only [lF,true_and] at h
   obtain ⟨rfl,rfl⟩:=h
   have M:off =j:=by rw [J]; simp [fo]
   subst M
   have hlen:off < cur.toList.length:=by
    have :=qT size hle
    rw [sD,i]; omega
   refine dF (L:=cur.toList) ab Y Z h1 (show w.heap[c]? =_ by simpa using I) hlen fun w' E C=>k w' (E.mono fun k _ hk=>by subst hk; rfl) ⟨by simpa using q,.inr ⟨c,cap,_,aa,A,C,hle,G,by simpa using i,?_⟩⟩
   rw [← V]
   simp only
   rw [List.take_set]
end
theorem ej {w:World} {B e size n:Nat} {v:Value} {xs:List Value} (h:w.ownsRow B e size v n xs):v.oneCell'=true :=by
 rcases h.2 with ⟨rfl,_⟩ | ⟨g,cap,cur,rfl,_⟩ <;> rfl
theorem cU {w:World} {B e size n:Nat} {v:Value} {xs:List Value} (h:w.ownsRow B e size v n xs):∃ a cap,v= .slice a n cap:=by
 rcases h.2 with ⟨rfl,rfl⟩ | ⟨g,cap,cur,rfl,_⟩
 · exact ⟨_,_,aa⟩
 · exact ⟨_,_,aa⟩
theorem mJ {w:World} {B B' e i size I n G:Nat} {v q:Value} {xs J:List Value} (h:w.ownsRow B e size v n xs) (A:w.ownsRow B' i I q G J) (E:e≠i) {k:Nat} (hk:v.ownBlock=some k):q.ownBlock≠some k:=by
 intro c
 rcases h.2 with ⟨rfl,_⟩ | ⟨g,cap,cur,rfl,_,C,_⟩
 · simp [fT] at hk
 · rcases A.2 with ⟨rfl,_⟩ | ⟨U,M,O,rfl,_,a,_⟩
   · simp [fT] at c
   · simp only [fT,eZ] at hk c
     subst hk c
     rw [C] at a
     simp only [eZ,sI] at a
     exact E a.2.1
theorem aX {w w':World} {B e size n:Nat} {v:Value} {xs:List Value} (h:w.ownsRow B e size v n xs) (hm:Wk w w'):w'.ownsRow B e size v n xs:=cx h hm fun _ _ x=>x
theorem dd {w:World} {B e size n:Nat} {v:Value} {xs:List Value} (h:w.ownsRow B e size v n xs) {k:Nat} (hk:v.ownBlock=some k):B≤k∧k < w.heap.size:=h.lt k hk
theorem Wk.own {a w w':World} {B e size n:Nat} {v:Value} {xs:List Value} (h:Wk a w) (c:w.ownsRow B e size v n xs) (hm:Md (fun k=>v.ownBlock=some k) w w') (q:a.heap.size≤B):Wk a w':=
 Md.trans' h hm (fun k hk i=>by have :=(dd c i).1; omega)
theorem qg {w:World} {B e size n:Nat} {v:Value} {xs:List Value} (h:w.ownsRow B e size v n xs):∃ a cap,v= .slice a n cap∧aE w.heap a xs∧n≤cap∧(∀ k,v.ownBlock=some k→a=some ⟨k,0,none⟩∧B≤k∧k < w.heap.size)∧(v.ownBlock=none→xs= []):=by
 rcases h.2 with ⟨rfl,rfl⟩ | ⟨g,cap,cur,rfl,i,c,hle,_,_,q⟩
 · have :xs= []:=gr<|by simpa using h.1
   subst this
   exact ⟨none,0,aa,aE.nil _ _,cw _,fun k hk=>by simp [fT] at hk,fun _=>rfl⟩
 · refine ⟨_,cap,aa,⟨fun _=>rfl,fun j u hu=> ?_⟩,hle,fun k hk=> ?_,fun hk=>by simp [fT] at hk⟩
   · show aI w.heap g (0 +j)=_
     rw [fF,aY c]
     rw [← q,mg] at hu
     split at hu
     · simpa using hu
     · cases hu
   · simp only [fT,eZ] at hk; subst hk
     exact ⟨aa,i,(cy.1 c).1⟩
theorem aV {w:World} {B e size n cap:Nat} {a:Option Addr} {xs:List Value} (h:w.ownsRow B e size (.slice a n cap) n xs):n≤cap∧aE w.heap a xs:=by
 obtain ⟨q,A,c,i,hle,_⟩:=qg h
 simp only [lF,true_and] at c
 obtain ⟨rfl,rfl⟩:=c
 exact ⟨hle,i⟩
theorem eS {w:World} {B B' e size n:Nat} {v:Value} {xs:List Value} (h:w.ownsRow B e size v n xs) (a:B'≤B):w.ownsRow B' e size v n xs:=by
 refine ⟨h.1,?_⟩
 rcases h.2 with h | ⟨g,cap,cur,h1,h2,r⟩
 · exact .inl h
 · exact .inr ⟨g,cap,cur,h1,e9 a h2,r⟩
theorem aE.drop {h:Array Obj} {a:Option Addr} {xs:List Value} (c:aE h a xs) {cap k size:Nat} (A:xs.length≤cap*size):aE h (eM a cap k size) (xs.drop<|k*size):=by
 unfold eM
 by_cases hk:cap=k
 · rw [if_pos hk,k0 (by rw [← hk]; exact A)]; exact aE.nil _ _
 · rw [if_neg hk]
   by_cases i:xs= []
   · subst i; rw [List.drop_nil]; exact aE.nil _ _
   · have q:=c.ok i
     rw [q]
     simp only [kE,kH]
     refine ⟨fun _=>rfl,fun j u hu=> ?_⟩
     rw [sQ] at hu
     have :=c.aI _ _ hu
     show Hb.aI h (bk a) (fo a+k*size+j)=_
     rw [GH]; exact this
theorem Pf {w:World} {B e size n cap:Nat} {a:Option Addr} {xs:List Value} (h:w.ownsRow B e size (.slice a n cap) n xs) (i:xs≠[]):B≤bk a∧bk a < w.heap.size:=by
 obtain ⟨q,A,c,_,_,h1,h2⟩:=qg h
 simp only [lF,true_and] at c
 obtain ⟨rfl,rfl⟩:=c
 cases hk:(bB a n cap).ownBlock with
 | none=>exact absurd (h2 hk) i
 | some k=>
   obtain ⟨rfl,h3,h4⟩:=h1 k hk
   exact ⟨h3,h4⟩
section
variable {P:Program} {N:Fm} {σ:Nat→Value} {w:World} {dst:Option Nat} {ty:TypeId} {pos :String} {af:Array Edge} {g:Option (Nat×Bool)} {x y z:Operand} {K:(Nat→Value)→World→Prop}
end
end Go.Hb
namespace Go.Hb
section
variable {P:Program} {md:pd} {ops:Array Oper} {Q:Exit→Act→World→Prop} {S:World→Prop} {r:Nat}
def nr (P:Program) (md:pd) (ops:Array Oper) (Q:Exit→Act→World→Prop) (S:World→Prop) (r:Nat):Nat→Array Bool→Act→World→Prop
 | 0,aQ,a,w=>gF md ops aQ= []∧Q .normal a w
 | fuel+1,aQ,a,w=>
   (gF md ops aQ= []→Q .normal a w)∧
   ∀ i∈gF md ops aQ,wpOp P ops Q i (fun c w'=>((aQ.setIfInBounds i true).getD r false =false→S w')∧nr P md ops Q S r fuel (aQ.setIfInBounds i true) c w') a w
theorem E9:∀ (fuel:Nat) (aQ:Array Bool) (a:Act) (w:World),nr P md ops Q S r fuel aQ a w→wpAny P md ops Q fuel aQ a w
 | 0,_,_,_,h=>h
 | fuel+1,_,_,_,h=>⟨h.1,fun i hi=>wpOp_mono (fun c w' q=>E9 fuel _ c w' q.2)<|h.2 i hi⟩
theorem R7 {i:Nat} {E:Oper} {v:Value} (hi:ops[i]? =some E) (ah:∀ (j:Nat) (o:Oper) cs b,ops[j]? =some o→o.op≠.select cs b)
 (ak:∀ c a w,Q (.panic c) (a.put E.dst v) w→Q (.panic c) a w) (au:∀ o,ops[r]? =some o→∃ x∈o.after,iG md x=true∧x.on=i) (an:i≠r):
 ∀ (fuel:Nat) (aQ:Array Bool) (a:Act) (w:World),
   (∀ j A,ops[j]? =some A→j≠i→aQ.getD j true =false→(∀ x∈A.after,iG md x=true→x.on≠i)→E.apart ops A=true)→
   i∈gF md ops aQ→YieldsIf P ops S E v a→S w→aQ.getD r false =false→
   nr P md ops Q S r fuel (aQ.setIfInBounds i true) (a.put E.dst v) w→nr P md ops Q S r (fuel+1) aQ a w:=by
 intro fuel
 induction fuel with
 | zero=>
   intro aQ a w _ C M G _ H
   refine ⟨fun h=>(by rw [h] at C; cases C),fun j I=> ?_⟩
   by_cases q:j=i
   · subst q; exact M.wpOp hi G ⟨fun _=>G,H⟩
   · have :=ready_mono I q
     rw [H.1] at this
     cases this
 | succ fuel av=>
   intro aQ a w Z C M G ad H
   refine ⟨fun h=>(by rw [h] at C; cases C),fun j I=> ?_⟩
   by_cases q:j=i
   · subst q; exact M.wpOp hi G ⟨fun _=>G,H⟩
   · have h1:=H.2 j<|ready_mono I q
     obtain ⟨ac,A,J,al⟩:=mem_ready.1 I
     have ag:∀ x∈A.after,iG md x=true→x.on≠i:=fun x V U heq=>by
      have h1:=al x V U
      have Y:=(mem_ready.1 C).1
      rw [heq] at h1
      rcases gI i aQ.size with O | O
      · simp [O] at Y h1; rw [Y] at h1; cases h1
      · simp [qA O] at h1
     have ab:j≠r:=by
      rintro rfl
      obtain ⟨x,V,U,ar⟩:=au A J
      exact ag x V U ar
     have ap:(aQ.setIfInBounds j true).getD r false =false :=by rw [getD_set_ne false ab]; exact ad
     have ae:((aQ.setIfInBounds i true).setIfInBounds j true).getD r false =false :=by rw [getD_set_ne false ab,getD_set_ne false an]; exact ad
     have h2:=wpOp_putIf J (Z j A J q ac ag) (fun cs b=>ah i E cs b hi) (fun cs b=>ah j A cs b J) ak M h1
     have am:∀ k ok,ops[k]? =some ok→k≠i→(aQ.setIfInBounds j true).getD k true =false→
      (∀ x∈ok.after,iG md x=true→x.on≠i)→E.apart ops ok=true :=fun k ok hk ao ai aq=>by
      refine Z k ok hk ao ?_ aq
      by_cases aa:j=k
      · subst aa; exact ac
      · rw [getD_set_ne true aa] at ai; exact ai
     refine wpOp_mono (fun aj w' h3=>⟨fun _=>h3.2.1 ae,av (aQ.setIfInBounds j true) aj w' am (ready_mono C<|Ne.symm q) h3.1 (h3.2.1 ae) ap ?_⟩) h2
     rw [zd _ _ q]
     exact h3.2.2
end
section
variable {P:Program} {N:Fm} {ops:Array Oper} {Q:Exit→(Nat→Value)→World→Prop} {σ:Nat→Value} {w:World} {S:World→Prop} {r fuel:Nat} {aQ:Array Bool}
 {d':Option Nat} {d:Nat} {op:Op} {ty:TypeId} {pos :String} {af:Array Edge} {v:Value}
def fS (P:Program) (N:Fm) (ops:Array Oper) (Q:Exit→(Nat→Value)→World→Prop) (S:World→Prop) (r fuel:Nat) (aQ:Array Bool) (σ:Nat→Value) (w:World):Prop :=
 nr P .any ops (lift N Q) S r fuel aQ (act N σ) w
theorem eB {id:Nat} {l:List Oper} (S:World→Prop) (r:Nat) (a:qf N.r l=true) (hm:P.follows .mixedOrders=true) (c:S w.drew) (h:fS P N l.toArray Q S r l.length (qB l.length false) σ w.drew):cH P N (.region id l.toArray true) Q σ w:=by
 exact Ak a hm<|E9 _ _ _ _<|by rw [mi]; exact h
def CB (F:List Nat) (ops:Array Oper) (aQ:Array Bool) (r i:Nat):Bool:=
 gS F ops aQ i && !(aQ.getD r false) && i !=r && (match ops[r]? with | some o=>o.after.toList.any (fun x=>iG .any x && x.on==i) | none=>false)
theorem lq (i:Nat) (hi:ops[i]? =some ⟨some d,op,ty,pos,af,none⟩) (A:CB N.F ops aQ r i=true)
 (J:∀ w,S w→(execOp (ev N σ) ⟨some d,op,ty,pos,af,none⟩).run P w= .ok (.value v) w) (q:S w)
 (k:fS P N ops Q S r fuel (aQ.setIfInBounds i true) (cB σ d v) w):fS P N ops Q S r (fuel+1) aQ σ w:=by
 simp only [CB,gS,fE,vd,bne_iff_ne,ne_eq] at A
 obtain ⟨⟨⟨⟨⟨⟨C,E⟩,hf3⟩,hfF⟩,hf4⟩,hf5⟩,hf6⟩:=A
 rw [hi] at hfF
 refine R7 hi (zr C) (fun c a w=>nk hfF c a w) (fun o G=> ?_) hf5 fuel aQ _ w (zq hi E) (by simpa using hf3) (.inl ⟨ij _ rfl _,fun w q=> ?_⟩) q hf4 ?_ (v:=v)
 · rw [G] at hf6
   simp only [Ge,fE,beq_iff_eq] at hf6
   obtain ⟨x,I,h1,h2⟩:=hf6
   exact ⟨x,sE.1 I,h1,h2⟩
 · rw [fH]; exact J w q
 · rw [il]; exact k
theorem C5 (i:Nat) (hi:ops[i]? =some ⟨d',op,ty,pos,af,none⟩) (q:jM ops aQ i=true)
 (h:cE P N ⟨d',op,ty,pos,af,none⟩ σ w (fun σ w=>((aQ.setIfInBounds i true).getD r false =false→S w)∧fS P N ops Q S r fuel (aQ.setIfInBounds i true) σ w)):fS P N ops Q S r (fuel+1) aQ σ w:=by
 have a:gF .any ops aQ= [i]:=by simpa [jM] using q
 refine ⟨fun c=>absurd (a ▸ c) (by simp),fun k hk=> ?_⟩
 rw [a] at hk
 obtain rfl :k=i:=by simpa using hk
 unfold wpOp
 simp only [hi]
 rw [if_pos (ij _ rfl _)]
 exact .inl<|qw h fun _ _ hk=>hk
theorem iY (i:Nat) (hi:ops[i]? =some ⟨d',op,ty,pos,af,none⟩) (a:jM ops aQ i=true)
 (h:cE P N ⟨d',op,ty,pos,af,none⟩ σ w (fun σ w=>S w∧fS P N ops Q S r fuel (aQ.setIfInBounds i true) σ w)):fS P N ops Q S r (fuel+1) aQ σ w:=
 C5 i hi a (Fe h fun _ _ hk=>⟨fun _=>hk.1,hk.2⟩)
theorem c5 (i:Nat) (hi:ops[i]? =some ⟨d',op,ty,pos,af,none⟩) (q:jM ops aQ i=true) (c:(aQ.setIfInBounds i true).getD r false =true)
 (h:cE P N ⟨d',op,ty,pos,af,none⟩ σ w (fun σ w=>fS P N ops Q S r fuel (aQ.setIfInBounds i true) σ w)):fS P N ops Q S r (fuel+1) aQ σ w:=
 C5 i hi q (Fe h fun _ _ hk=>⟨fun a=>absurd (a.symm.trans c) c7,hk⟩)
theorem eA (c:(gF .any ops aQ).isEmpty=true) (h:Q .normal σ w):fS P N ops Q S r fuel aQ σ w:=by
 have a:gF .any ops aQ= []:=by simpa using c
 cases fuel with
 | zero=>exact ⟨a,σ,rfl,h⟩
 | succ fuel=>exact ⟨fun _=>⟨σ,rfl,h⟩,by rw [a]; simp⟩
attribute [irreducible] fS
end
end Go.Hb
namespace Go.Hb
section
variable {P:Program} {md:pd} {ops:Array Oper} {Q:Exit→Act→World→Prop} {S:World→Prop} {r:Nat}
inductive ow (md:pd) (ops:Array Oper) (i:Nat):Nat→Prop
 | one {r o e} :ops[r]? =some o→e∈o.after→iG md e=true→e.on=i→ow md ops i r
 | more {r o e} :ops[r]? =some o→e∈o.after→iG md e=true→ow md ops i e.on→ow md ops i r
def pB (md:pd) (ops:Array Oper) (aQ:Array Bool):Prop := ∀ (j:Nat) (o:Oper),ops[j]? =some o→aQ.getD j false =true→∀ e∈o.after,iG md e=true→aQ.getD e.on false =true
theorem CD {aQ:Array Bool} {j k:Nat} (h:aQ.getD k false =true):(aQ.setIfInBounds j true).getD k false =true :=by
 by_cases e:j=k
 · subst e
   by_cases a:j < aQ.size
   · simp [a]
   · simp [a] at h
 · rw [getD_set_ne false e]; exact h
theorem pB.set {aQ:Array Bool} {j:Nat} (h:pB md ops aQ) (A:j∈gF md ops aQ):pB md ops (aQ.setIfInBounds j true):=by
 intro k o hk i e he c
 obtain ⟨_,E,C,q⟩:=mem_ready.1 A
 by_cases a:j=k
 · subst a
   rw [C] at hk; cases hk
   exact CD<|q e he c
 · rw [getD_set_ne false a] at i
   exact CD<|h k o hk i e he c
theorem ow.aQ {aQ:Array Bool} {i r:Nat} (hd:ow md ops i r) (q:pB md ops aQ) (a:∀ o,ops[r]? =some o→∀ e∈o.after,iG md e=true→aQ.getD e.on false =true):aQ.getD i false =true :=by
 induction hd with
 | one h1 h2 h3 h4=>rw [← h4]; exact a _ h1 _ h2 h3
 | more h1 h2 h3 _ C=>exact C fun o A e he c=>q _ o A (a _ h1 _ h2 h3) e he c
theorem R6 {i:Nat} {C:Oper} {v:Value} (hi:ops[i]? =some C) (ai:∀ (j:Nat) (o:Oper) cs b,ops[j]? =some o→o.op≠.select cs b)
 (al:∀ c a w,Q (.panic c) (a.put C.dst v) w→Q (.panic c) a w) (hd:ow md ops i r) (ao:i≠r):
 ∀ (fuel:Nat) (aQ:Array Bool) (a:Act) (w:World),pB md ops aQ→
   (∀ j E,ops[j]? =some E→j≠i→aQ.getD j true =false→(∀ x∈E.after,iG md x=true→x.on≠i)→C.apart ops E=true)→
   i∈gF md ops aQ→YieldsIf P ops S C v a→S w→aQ.getD r false =false→
   nr P md ops Q S r fuel (aQ.setIfInBounds i true) (a.put C.dst v) w→nr P md ops Q S r (fuel+1) aQ a w:=by
 intro fuel
 induction fuel with
 | zero=>
   intro aQ a w _ _ A M G _ H
   refine ⟨fun h=>(by rw [h] at A; cases A),fun j I=> ?_⟩
   by_cases q:j=i
   · subst q; exact M.wpOp hi G ⟨fun _=>G,H⟩
   · have :=ready_mono I q
     rw [H.1] at this
     cases this
 | succ fuel aw=>
   intro aQ a w Y Z A M G ae H
   refine ⟨fun h=>(by rw [h] at A; cases A),fun j I=> ?_⟩
   by_cases q:j=i
   · subst q; exact M.wpOp hi G ⟨fun _=>G,H⟩
   · have h1:=H.2 j<|ready_mono I q
     obtain ⟨ad,E,J,V⟩:=mem_ready.1 I
     have aa:aQ.getD i false =false :=by
      have U:=(mem_ready.1 A).1
      rcases gI i aQ.size with O | O
      · simpa [O] using U
      · simp [O] at U
     have au:∀ x∈E.after,iG md x=true→x.on≠i:=fun x av am heq=>by
      have h1:=V x av am
      rw [heq,aa] at h1; cases h1
     have ac:j≠r:=by
      rintro rfl
      have :=hd.aQ Y fun o ah=>by rw [J] at ah; cases ah; exact V
      rw [aa] at this; cases this
     have aq:(aQ.setIfInBounds j true).getD r false =false :=by rw [getD_set_ne false ac]; exact ae
     have ag:((aQ.setIfInBounds i true).setIfInBounds j true).getD r false =false :=by rw [getD_set_ne false ac,getD_set_ne false ao]; exact ae
     have h2:=wpOp_putIf J (Z j E J q ad au) (fun cs b=>ai i C cs b hi) (fun cs b=>ai j E cs b J) al M h1
     have an:∀ k ok,ops[k]? =some ok→k≠i→(aQ.setIfInBounds j true).getD k true =false→
      (∀ x∈ok.after,iG md x=true→x.on≠i)→C.apart ops ok=true :=fun k ok hk ap aj ar=>by
      refine Z k ok hk ap ?_ ar
      by_cases ab:j=k
      · subst ab; exact ad
      · rw [getD_set_ne true ab] at aj; exact aj
     refine wpOp_mono (fun ak w' h3=>⟨fun _=>h3.2.1 ag,aw (aQ.setIfInBounds j true) ak w' (Y.set I) an (ready_mono A<|Ne.symm q) h3.1 (h3.2.1 ag) aq ?_⟩) h2
     rw [zd _ _ q]
     exact h3.2.2
theorem R8 {i:Nat} {C:Oper} {v:Value} (hi:ops[i]? =some C) (ad:∀ (j:Nat) (o:Oper) cs b,ops[j]? =some o→o.op≠.select cs b)
 (ah:∀ c a w,Q (.panic c) (a.put C.dst v) w→Q (.panic c) a w) (O:i≠r):
 ∀ (fuel:Nat) (aQ:Array Bool) (a:Act) (w:World),
   (∀ j E,ops[j]? =some E→j≠i→aQ.getD j true =false→(∀ x∈E.after,iG md x=true→x.on≠i)→C.apart ops E=true)→
   i∈gF md ops aQ→YieldsIf P ops (fun _=>True) C v a→(aQ.getD r false =false→S w)→
   nr P md ops Q S r fuel (aQ.setIfInBounds i true) (a.put C.dst v) w→nr P md ops Q S r (fuel+1) aQ a w:=by
 intro fuel
 induction fuel with
 | zero=>
   intro aQ a w _ A I M H
   refine ⟨fun h=>(by rw [h] at A; cases A),fun j G=> ?_⟩
   by_cases q:j=i
   · subst q; exact I.wpOp hi trivial ⟨fun h=>M (by rw [getD_set_ne false O] at h; exact h),H⟩
   · have :=ready_mono G q
     rw [H.1] at this
     cases this
 | succ fuel aq=>
   intro aQ a w Z A I M H
   refine ⟨fun h=>(by rw [h] at A; cases A),fun j G=> ?_⟩
   by_cases q:j=i
   · subst q; exact I.wpOp hi trivial ⟨fun h=>M (by rw [getD_set_ne false O] at h; exact h),H⟩
   · have h1:=H.2 j<|ready_mono G q
     obtain ⟨ac,E,U,ai⟩:=mem_ready.1 G
     have al:aQ.getD i false =false :=by
      have V:=(mem_ready.1 A).1
      rcases gI i aQ.size with J | J
      · simpa [J] using V
      · simp [J] at V
     have ao:∀ x∈E.after,iG md x=true→x.on≠i:=fun x ap aj heq=>by
      have h1:=ai x ap aj
      rw [heq,al] at h1; cases h1
     have h2:=wpOp_putIf U (Z j E U q ac ao) (fun cs b=>ad i C cs b hi) (fun cs b=>ad j E cs b U) ah I h1
     have ak:∀ k ok,ops[k]? =some ok→k≠i→(aQ.setIfInBounds j true).getD k true =false→
      (∀ x∈ok.after,iG md x=true→x.on≠i)→C.apart ops ok=true :=fun k ok hk am ae an=>by
      refine Z k ok hk am ?_ an
      by_cases ab:j=k
      · subst ab; exact ac
      · rw [getD_set_ne true ab] at ae; exact ae
     have Y:(aQ.setIfInBounds i true).setIfInBounds j true =(aQ.setIfInBounds j true).setIfInBounds i true :=zd _ _ fun e=>q e.symm
     have aa:(aQ.setIfInBounds j true).getD r false =false→((aQ.setIfInBounds i true).setIfInBounds j true).getD r false =false :=fun h=>by rw [Y,getD_set_ne false O]; exact h
     refine wpOp_mono (fun ag w' h3=>⟨fun h=>h3.2.1 (aa h),aq (aQ.setIfInBounds j true) ag w' ak (ready_mono A<|Ne.symm q) h3.1 (fun h=>h3.2.1<|aa h) ?_⟩) h2
     rw [← Y]
     exact h3.2.2
end
section
variable {P:Program} {N:Fm} {ops:Array Oper} {Q:Exit→(Nat→Value)→World→Prop} {σ:Nat→Value} {w:World} {S:World→Prop} {r fuel:Nat} {aQ:Array Bool}
 {d:Nat} {op:Op} {ty:TypeId} {pos :String} {af:Array Edge} {v:Value}
def tH (ops:Array Oper) (i:Nat):Nat→Nat→Bool
 | 0,_=>false
 | f+1,r=>match ops[r]? with | some o=>o.after.toList.any (fun e=>iG .any e && (e.on==i || tH ops i f e.on)) | none=>false
theorem KY {i:Nat} :∀ (f r:Nat),tH ops i f r=true→ow .any ops i r:=by
 intro f
 induction f with
 | zero=>intro r h; cases h
 | succ f q=>
   intro r h
   rw [tH] at h
   split at h
   · rename_i o c
     simp only [Ge,fE,zf,beq_iff_eq] at h
     obtain ⟨e,he,a,h⟩:=h
     rcases h with h | h
     · exact .one c (sE.1 he) a h
     · exact .more c (sE.1 he) a<|q _ h
   · cases h
def wV (ops:Array Oper) (aQ:Array Bool):Bool:=(gH ops.size).all fun j=> !aQ.getD j false || match ops[j]? with | some o=>o.after.toList.all (fun e=> !iG .any e || aQ.getD e.on false) | none=>true
theorem JK (h:wV ops aQ=true):pB .any ops aQ:=by
 intro j o a i e he c
 unfold wV at h
 rw [kD] at h
 have h1:=h j<|sV.2 (cy.1 a).1
 rw [i,a] at h1
 simp only [Bool.not_true,Bool.false_or,kD,zf,vd] at h1
 rcases h1 e (sE.2 he) with h2 | h2
 · rw [c] at h2; cases h2
 · exact h2
def xO (F:List Nat) (ops:Array Oper) (aQ:Array Bool) (r i:Nat):Bool:=gS F ops aQ i && !(aQ.getD r false) && i !=r && wV ops aQ && tH ops i ops.size r
def ua (F:List Nat) (ops:Array Oper) (aQ:Array Bool) (r i:Nat):Bool:=gS F ops aQ i && i !=r
theorem iZ (i:Nat) (hi:ops[i]? =some ⟨some d,op,ty,pos,af,none⟩) (A:xO N.F ops aQ r i=true)
 (G:∀ w,S w→(execOp (ev N σ) ⟨some d,op,ty,pos,af,none⟩).run P w= .ok (.value v) w) (q:S w)
 (k:fS P N ops Q S r fuel (aQ.setIfInBounds i true) (cB σ d v) w):fS P N ops Q S r (fuel+1) aQ σ w:=by
 simp only [xO,gS,fE,vd,bne_iff_ne,ne_eq] at A
 obtain ⟨⟨⟨⟨⟨⟨⟨C,E⟩,hf3⟩,hfF⟩,hf4⟩,hf5⟩,hf6⟩,hf7⟩:=A
 rw [hi] at hfF
 unfold fS at*
 refine R6 hi (zr C) (fun c a w=>nk hfF c a w) (KY _ _ hf7) hf5 fuel aQ _ w (JK hf6) (zq hi E) (by simpa using hf3) (.inl ⟨ij _ rfl _,fun w q=> ?_⟩) q hf4 ?_ (v:=v)
 · rw [fH]; exact G w q
 · rw [il]; exact k
theorem bX (i:Nat) (hi:ops[i]? =some ⟨some d,op,ty,pos,af,none⟩) (q:ua N.F ops aQ r i=true)
 (G:∀ w,(execOp (ev N σ) ⟨some d,op,ty,pos,af,none⟩).run P w= .ok (.value v) w) (A:aQ.getD r false =false→S w)
 (k:fS P N ops Q S r fuel (aQ.setIfInBounds i true) (cB σ d v) w):fS P N ops Q S r (fuel+1) aQ σ w:=by
 simp only [ua,gS,fE,bne_iff_ne,ne_eq] at q
 obtain ⟨⟨⟨⟨C,E⟩,hf3⟩,hfF⟩,hf5⟩:=q
 rw [hi] at hfF
 unfold fS at*
 refine R8 hi (zr C) (fun c a w=>nk hfF c a w) hf5 fuel aQ _ w (zq hi E) (by simpa using hf3) (.inl ⟨ij _ rfl _,fun w _=> ?_⟩) A ?_ (v:=v)
 · rw [fH]; exact G w
 · rw [il]; exact k
end
end Go.Hb
namespace Go.Hb
def EZ:Nat→Nat→List UInt8
 | 0,n=> [jd n]
 | f+1,n=>if n < 128 then [jd n] else jd (n % 128 +128)::EZ f (n / 128)
def RH (n:Nat):List UInt8:=EZ n n
def frame:List (List UInt8)→List UInt8
 | []=> []
 | r::l=>RH r.length++(r++frame l)
theorem ky {α:Type} (l:List α) (i:Nat) (d:α) (h:i < l.length):l.take (i+1)=l.take i++ [l.getD i d]:=by
 rw [List.take_succ_eq_append_getElem h]; simp [cX,h]
end Go.Hb
namespace Go.Hb
def U8 (l:List UInt8):List Value:=l.map fun b=>gG .u8 b.toNat
theorem td (l:List UInt8):(U8 l).length=l.length:=by simp [U8]
theorem tc (a b:List UInt8):U8 (a++b)=U8 a++U8 b:=by simp [U8]
theorem GZ (l:List UInt8):(U8 l).all eW=true :=by
 rw [kD]
 intro u hu
 simp only [U8,lH] at hu
 obtain ⟨b,_,rfl⟩:=hu
 rfl
def tv (P:Program) (t e u:TypeId):Bool:=
 fK P t e 1 1 && (match P.underlying e with | some (.int .u8)=>true | _=>false) && (match P.underlying u with | some .string=>true | _=>false) &&
  (match P.info? e with | some i=>(match i.zero with | some (.int .u8 0)=>true | _=>false) | none=>false)
theorem HS {P:Program} {t e u:TypeId} (h:tv P t e u=true):
 fK P t e 1 1=true∧P.underlying e=some (.int .u8)∧P.underlying u=some .string∧∃ i,P.info? e=some i∧i.zero=some (.int .u8 0):=by
 simp only [tv,fE] at h
 obtain ⟨⟨⟨h1,h2⟩,h3⟩,h4⟩:=h
 refine ⟨h1,?_,?_,?_⟩
 · split at h2
   · rename_i h; exact h
   · cases h2
 · split at h3
   · rename_i h; exact h
   · cases h3
 · split at h4
   · rename_i i hi
     split at h4
     · rename_i h; exact ⟨i,hi,h⟩
     · cases h4
   · cases h4
section
variable {P:Program} {N:Fm} {σ:Nat→Value} {w:World} {dst:Option Nat} {ty:TypeId} {pos :String} {af:Array Edge} {g:Option (Nat×Bool)} {x y z:Operand} {K:(Nat→Value)→World→Prop}
theorem foldl_push (l:List UInt8) (r:ByteArray):(l.map fun b=>(b.toNat:Int)).foldl (fun r n=>r.push<|jd n.toNat) r=⟨r.data++l.toArray⟩:=by
 induction l generalizing r with
 | nil=>simp
 | cons b l a=>
   simp only [nD,qN]
   rw [a]
   apply ByteArray.ext
   simp [ByteArray.push]
theorem wY {t e u n c:Nat} {a:Option Addr} {l:List UInt8} (h:tv P t e u=true) (I:ev N σ x= .slice a n c) (i:aE w.heap a (U8 l)) (q:l.length=n):
 (execOp (ev N σ) ⟨dst,.convert t u x,ty,pos,af,g⟩).run P w= .ok (.value<|str l) w:=by
 obtain ⟨h1,h2,h3,_⟩:=HS h
 obtain ⟨hu,_⟩:=n3 h1
 have C:(FL<|.slice a n c).run P w= .ok (str l) w:=by
  by_cases he:l= []
  · subst he
    cases a with
    | none=>simp [FL,str]; rfl
    | some a=>
      subst q
      have :=run_bytesToString (P:=P) w a 0 c []<|by simp [loadCells,loadCellsFrom]
      exact this.trans aa
  · have A:=i.ok<|by simpa [U8] using he
    have G:(loadCells ⟨bk a,fo a,none⟩ n).run P w= .ok ((l.map fun b=>(b.toNat:Int)).map<|gG .u8).toArray w:=by
     subst q
     have :=run_loadCells_list (P:=P) w ⟨bk a,fo a,none⟩ (U8 l) fun j v E=>by
      rw [kH,lQ]
      exact i.aI j v E
     rw [td] at this
     rw [this]
     simp [U8]
    rw [A,run_bytesToString w _ n c _ G,foldl_push]
    simp [str,ByteArray.empty,ByteArray.emptyWithCapacity]
    rfl
 simp [execOp,I,run_convert_bytes_string w t u e a n c hu h2 h3,C]
theorem RL {at_:Array TypeId} {v:Value} {a:Option Addr} {n c:Nat} (i:ev N σ x= .slice a n c) (h:a=none∨c≠0):
 (execOp (ev N σ) ⟨dst,.call ⟨.builtin .unsafeSliceData,#[x],at_⟩,ty,pos,af,g⟩).run P w= .ok (.value<|.pointer a) w:=by
 have _:=v
 have :(Builtin.unsafeSliceData_ at_ ty #[.slice a n c]).run P w= .ok (.pointer a) w:=by
  cases a with
  | none=>exact Lib.run_unsafeSliceData_nil w at_ ty n c
  | some a=>exact Lib.run_unsafeSliceData_row w at_ ty a n c<|h.resolve_left<|by simp
 simp [execOp,resolve,invoke,builtin,i,this]
def ptrTo (P:Program) (c e:TypeId):Bool:=match P.underlying c with | some (.pointer a)=>a==e && P.cellsOf e==1 | _=>false
theorem RM {C it e B n c:Nat} {a:Option Addr} {l:List UInt8} {xs:List Value} (hp:ptrTo P C e=true) (I:ev N σ x= .pointer a) (J:ev N σ y= .int .i64 n) (A:w.ownsRow B e 1 (.slice a n c) n xs)
 (ah:xs=U8 l) (ai:n≤9223372036854775807)
 (k:∀ w',Md (fun k=>(bB a n c).ownBlock=some k) w w'→w'.heap.size=w.heap.size→K (fD σ dst<|str l) w'):
 cE P N ⟨dst,.call ⟨.builtin .unsafeString,#[x,y],#[C,it]⟩,ty,pos,af,g⟩ σ w K:=by
 subst ah
 have i:l.length=n:=by have :=A.1; simpa [U8] using this
 unfold ptrTo at hp
 split at hp
 case h_2=>cases hp
 rename_i E hu
 simp only [fE,beq_iff_eq] at hp
 obtain ⟨rfl,O⟩:=hp
 by_cases he:l= []
 · subst he
   obtain rfl :n=0:=i.symm
   refine l6 (w':=w) (v:=str []) ?_<|k w (Md.refl _ _) aa
   simp [execOp,resolve,invoke,builtin,I,J,Lib.run_unsafeString_none]
   rfl
 · rcases A.2 with ⟨h,M⟩ | ⟨q,cap,cur,h,_,V,hle,_,ag,aj⟩
   · subst M; simp only [List.length_eq_zero_iff] at i; exact absurd i he
   · simp only [lF,true_and] at h
     obtain ⟨rfl,rfl⟩:=h
     have ae:w.shape? q=some (E,cur.size):=by simp [zE,V]
     have ac:=Lib.run_unsafeString_row (P:=P) w C it ty E hu O q cur.size ae l he (by rw [i,ag]; omega) ab (fun j u hu=>by
      obtain ⟨ad,cp,G,U,_,hk,_⟩:=qg A
      simp only [lF,true_and] at G
      obtain ⟨rfl,rfl⟩:=G
      rw [kH,lQ]
      exact U.aI j _ (by simp [U8,hu]))
     refine l6 (w':=w.freeze ⟨q,0,none⟩ l.length) (v:=str l) ?_ (k _ ⟨?_,?_,?_,?_⟩ ?_)
     · simp [execOp,resolve,invoke,builtin,I,J,← i,ac,str]
     · unfold sN; split <;> rfl
     · unfold sN; split <;> rfl
     · unfold sN; split <;> simp
     · intro k hk Y
       have Z:k≠q:=fun e=>Y<|by simp [fT,e]
       unfold sN
       split
       · rfl
       · simp only [Array.getElem?_modify]; rw [if_neg (fun e=>Z e.symm)]
     · unfold sN; split <;> simp
def sy (P:Program) (c up e n:Nat):Bool:=
 (match P.underlying c with | some (.pointer a)=>a==e | _=>false) && (match P.underlying up with | some .unsafePointer=>true | _=>false) && P.cellsOf e==n && e8 0 n && (match P.info? e with | some i=>i.size==n | _=>false)
theorem E1 {P:Program} {a up e n:Nat} (h:sy P a up e n=true):P.underlying a=some (.pointer e)∧P.underlying up=some .unsafePointer∧P.cellsOf e=n∧0 < n∧∃ i,P.info? e=some i∧i.size=n:=by
 simp only [sy,fE] at h
 obtain ⟨⟨⟨⟨h1,h2⟩,h3⟩,h4⟩,h5⟩:=h
 refine ⟨?_,?_,by simpa using h3,pw (qS 0) (ot h4),?_⟩
 · split at h1
   · rename_i h; simp only [beq_iff_eq] at h1; rw [h,h1]
   · cases h1
 · split at h2
   · rename_i h; exact h
   · cases h2
 · split at h5
   · rename_i i hi; exact ⟨i,hi,by simpa using h5⟩
   · cases h5
theorem Rr {a up e n b:Nat} {L:List Value} (h:sy P a up e n=true) (E:ev N σ x= .pointer (some ⟨b,0,none⟩)) (c:w.heap[b]? =some (.cells L.toArray e (0,0))) (q:L.length=n):
 (execOp (ev N σ) ⟨dst,.convert a up x,ty,pos,af,g⟩).run P w= .ok (.value<|.pointer<|some ⟨b,0,none⟩) w:=by
 obtain ⟨h1,h2,h3,h4,i,hi,hs⟩:=E1 h
 have C:w.shape? b=some (e,L.length):=by simp [zE,c]
 have A:¬n=0:=ab
 simp [execOp,E,convert,dj h1,dj h2,FN,FM,viewAt,C,cellsIn,q,sizeOf,gd hi,hs,A]
theorem MM {c up e n b:Nat} {L:List Value} (h:sy P c up e n=true) (G:ev N σ x= .pointer (some ⟨b,0,none⟩)) (q:w.heap[b]? =some (.cells L.toArray e (0,0))) (A:L.length=n):
 (execOp (ev N σ) ⟨dst,.convert up c x,ty,pos,af,g⟩).run P w= .ok (.value<|.pointer<|some ⟨b,0,none⟩) w:=by
 obtain ⟨h1,h2,h3,h4,i,hi,hs⟩:=E1 h
 have E:w.shape? b=some (e,L.length):=by simp [zE,q]
 have a:¬n=0:=ab
 have C:liesAt P P.depth e (L.length / P.cellsOf e) 0 e 1=true :=by
  have hd:P.depth=(2 *(P.types.size+Made.depth)+1)+1:=rfl
  rw [hd]
  simp only [liesAt,zf]
  left
  rw [hd]
  simp [rowAt,h3,a,A,sameLayout,Nat.div_self h4]
 simp [execOp,G,convert,dj h1,dj h2,FN,FM,viewAt,E,variablesAt,sizeOf,gd hi,hs,a,C]
theorem OR {t A e:TypeId} {a:Addr} (hu:P.underlying t=some (.pointer e)) (hs:(P.info? e).isSome=true) (c:ev N σ x= .pointer (some a)) (q:ev N σ y= .pointer (some a)):
 (execOp (ev N σ) ⟨dst,.binOp .neq t x y A,ty,pos,af,g⟩).run P w= .ok (.value<|.bool false) w:=by
 obtain ⟨i,hi⟩:=nI.1 hs
 have he:∀ d,(qF (d+1) t (.pointer<|some a)<|.pointer<|some a).run P w= .ok true w:=by
  intro d
  simp [qF,dj hu,sizeOf,gd hi,sameAddr]
 have h:(binOp .neq t (.pointer<|some a)<|.pointer<|some a).run P w= .ok (.bool false) w:=by
  have :=he 9999
  simp only [binOp]
  have h2:(zn t (.pointer<|some a)<|.pointer<|some a).run P w= .ok true w:=this
  simp [h2]
 simp [execOp,c,q,eqGuard,h]
theorem JZ {f:FuncId} {args:Array Operand} {a:Array TypeId} {v:Value} (i:∀ v w,(callFunc f #[v]).run P w= .ok (.value v) w) (c:args.toList.map (ev N σ)= [v]):
 (execOp (ev N σ) ⟨dst,.call ⟨.value (.func f),args,a⟩,ty,pos,af,g⟩).run P w= .ok (.value v) w:=by
 have :args.map (ev N σ)= #[v]:=by rw [← vb,kB,c]
 simp [execOp,resolve,ev,nz,invoke,this,i]
structure Bd (T e:TypeId) (w:World) (b:Nat) (buf:Value) (l:List UInt8):Prop where
 aB:∃ pa,w.heap[b]? =some (.cells [vo pa,buf].toArray T (0,0))∧(pa=none∨pa=some ⟨b,0,none⟩)
 own:w.ownsRow (b+1) e 1 buf l.length (U8 l)
 nil:buf= .slice none 0 0↔l= []
def BF (b:Nat) (a:Value) (k:Nat):Prop :=k=b∨a.ownBlock=some k
end
theorem Bd.lt {T e b:Nat} {w:World} {a:Value} {l:List UInt8} (h:Bd T e w b a l):b < w.heap.size:=let ⟨_,h,_⟩:=h.aB; (cy.1 h).1
theorem Bd.gB {T e b:Nat} {w:World} {a:Value} {l:List UInt8} (h:Bd T e w b a l) {k:Nat} (hk:BF b a k):b≤k∧k < w.heap.size:=by
 rcases hk with rfl | hk
 · exact ⟨cw _,h.lt⟩
 · have :=h.own.lt k hk; omega
theorem Bd.md {T e b:Nat} {F:Nat→Prop} {w w':World} {a:Value} {l:List UInt8} (h:Bd T e w b a l) (hm:Md F w w') (c:∀ k,BF b a k→¬F k):Bd T e w' b a l:=by
 obtain ⟨⟨i,h1,h2⟩,h3,h4⟩:=h
 exact ⟨⟨i,hm.aB h1 (c b<|.inl aa),h2⟩,cx h3 hm (fun k hk=>c k<|.inr hk),h4⟩
end Go.Hb
namespace Go.Hb
def jt (P:Program) (t:TypeId):Option (List (Nat×Nat)×List Value):=
 match P.info? t,P.underlying t with
 | some it,some (.struct fields)=>
   match it.zero,fields.toList.mapM (fun f=>(P.info? f.type).map fun i=>(f.offset,i.size)) with
   | some z,some pl=>some (pl,z.cells.toList)
   | _,_=>none
 | _,_=>none
def r6 (pl:List (Nat×Nat)):List Value→List (Nat×Value)→Option (List Value)
 | a,[]=>some a
 | a,(i,v)::r=>match pl[i]? with
   | some (off,s)=>if (s==1 && v.oneCell' && e8 off a.length)=true then r6 pl (a.set off v) r else none
   | none=>none
theorem PJ {pl:List (Nat×Nat)} {a L:List Value} {ps:List (Nat×Value)} (h:r6 pl a ps=some L):kZ (pl.toArray[·]?) a.toArray ps=some L.toArray:=by
 induction ps generalizing a with
 | nil=>simp only [r6,eZ] at h; subst h; rfl
 | cons p ps C=>
   obtain ⟨i,v⟩:=p
   simp only [r6] at h
   split at h
   · rename_i off s hs
     split at h
     · rename_i c
       simp only [fE,beq_iff_eq] at c
       obtain ⟨⟨rfl,h1⟩,ho⟩:=c
       have E:off < a.length:=ot ho
       have A:v.cells= #[v]:=nY h1
       have q:pl.toArray[i]? =some (off,1):=by simpa using hs
       simp only [kZ,q,A]
       rw [if_neg (by simp; omega),← C h]
       simp
     · cases h
   · cases h
theorem nR {α:Type} {f:α→List Value} {m:Nat} (c:∀ a,(f a).length=m) (l:List α):(l.flatMap f).length=l.length*m:=by
 induction l with
 | nil=>simp
 | cons x l i=>simp [i,c,nH,Nat.add_comm]
theorem xA {α:Type} {f:α→List Value} {m:Nat} (i:∀ a,(f a).length=m) {l:List α} {j c:Nat} {a:α} (h:l[j]? =some a) (q:c < m):(l.flatMap f)[j*m+c]? =(f a)[c]? :=by
 induction l generalizing j with
 | nil=>simp at h
 | cons x l A=>
   cases j with
   | zero=>
     simp only [List.getElem?_cons_zero,eZ] at h; subst h
     rw [zT,fF,jw,lG (by rw [i]; exact q)]
   | succ j=>
     simp only [Gn] at h
     rw [jw,me (by rw [i,nH]; omega),i,show (j+1)*m+c - m=j*m+c from by rw [nH]; omega]
     exact A h
theorem gn {α:Type} {f:α→List Value} {m:Nat} (c:∀ a,(f a).length=m) {h:Array Obj} {a:Option Addr} {l:List α} {i:Nat} {e:α} (A:aE h a (l.flatMap f)) (C:l[i]? =some e):∀ j,j < m→Hb.aI h (bk a) (fo a+i*m+j)=(f e)[j]? :=by
 intro j q
 have h1:=xA c C q
 have h2:j < (f e).length:=by rw [c]; exact q
 rw [cj h2] at h1 ⊢
 rw [GH]; exact A.aI _ _ h1
theorem xB {α:Type} {f:α→List Value} {m:Nat} (c:∀ a,(f a).length=m) (hm:0 < m) {l:List α} (h:0 < l.length):l.flatMap f≠[]:=by
 intro e
 have :=nR c l
 rw [e] at this
 have :0 < l.length*m:=Nat.mul_pos h hm
 simp at*; omega
theorem Ci {α:Type} {f:α→List Value} {m:Nat} (c:∀ a,(f a).length=m) {l:List α} {j:Nat} (x:α) (h:j < l.length):(l.set j x).flatMap f=(l.flatMap f).take (j*m)++f x++(l.flatMap f).drop (j*m+m):=by
 induction l generalizing j with
 | nil=>simp at h
 | cons y l i=>
   cases j with
   | zero=>
     simp only [List.set_cons_zero,jw,zT,nG,lJ,fF]
     rw [Gf,Gg (by rw [c]; exact cw _),c]; simp
   | succ j=>
     simp only [bV] at h
     rw [List.set_cons_succ,jw,i ab,jw,sY,Gf,c,fq (l:=f y) (by rw [c,nH]; omega),Gg (l:=f y) (by rw [c,nH]; omega),
      show (j+1)*m - m=j*m from by rw [nH]; omega,show (j+1)*m+m - m=j*m+m from by rw [nH]; omega]
     simp
theorem Ch {α:Type} {f:α→List Value} (c:∀ a,(f a).all eW=true) (l:List α):(l.flatMap f).all eW=true :=by
 simp only [List.all_flatMap,kD]; intro x _; exact kD.1<|c x
section
variable {P:Program} {N:Fm} {σ:Nat→Value} {w:World} {dst:Option Nat} {ty:TypeId} {pos :String} {af:Array Edge} {g:Option (Nat×Bool)} {x y z:Operand} {K:(Nat→Value)→World→Prop}
theorem cT {t:TypeId} {parts:Array (Nat×Operand)} {pl:List (Nat×Nat)} {a L:List Value} {ps:List (Nat×Value)} (h:jt P t=some (pl,a)) (hp:parts.toList.map (fun p=>(p.1,ev N σ p.2))=ps) (c:r6 pl a ps=some L):
 (execOp (ev N σ) ⟨dst,.build t parts,ty,pos,af,g⟩).run P w= .ok (.value<|.agg L.toArray) w:=by
 unfold jt at h
 split at h
 · rename_i it fields hi hu
   split at h
   · rename_i z A q hm
     simp only [eZ,s5] at h
     obtain ⟨rfl,rfl⟩:=h
     have i:P.built t (parts.map fun p=>(p.1,ev N σ p.2)).toList=some L.toArray:=by
      have :=PJ c
      simp only [u7] at this
      simp only [Program.built,hi,hu,q,hm,kB,hp]; exact this
     simp [execOp,run_build w t _ _ i]
   · cases h
 · cases h
end
end Go.Hb
namespace Go.Hb
section
variable {P:Program} {N:Fm} {σ:Nat→Value} {w:World} {dst:Option Nat} {ty:TypeId} {pos :String} {af:Array Edge} {g:Option (Nat×Bool)} {x y z:Operand} {K:(Nat→Value)→World→Prop}
theorem Ot {zv:Value} (h1:zv.oneCell'=true) (n:Nat):madeCells zv.cells n=(iK n zv).toArray:=by
 rw [nY h1]
 apply Array.ext
 · simp [madeCells]
 · intro i h2 h3
   simp [madeCells,Nat.mod_one]
theorem OO {t e bytes n:Nat} {E C:IntKind} {zv:Value} (M:fK P t e 1 bytes=true) (a:zeroOf P e=some (some [zv])) (h1:zv.oneCell'=true) (O:ev N σ x= .int E n) (U:ev N σ y= .int C n) (Y:bytes*n≤281474976710656) (c:n≤maxLen)
 (k:∀ b w',b=w.heap.size→Nw w w'→(∀ B,B≤b→w'.ownsRow B e 1 (.slice (some ⟨b,0,none⟩) n n) n (iK n zv))→K (fD σ dst<|.slice (some ⟨b,0,none⟩) n n) w'):cE P N ⟨dst,.makeSlice t x y,ty,pos,af,g⟩ σ w K:=by
 obtain ⟨hu,i,G,hi,A,hs,J,ac,Z⟩:=n3 M
 have V:G.cells= #[zv]:=by
  unfold zeroOf at a
  simp only [hi,A,kE,eZ] at a
  exact vb.1<|by simpa using a
 refine l5 (v:=fun b=> .slice (some ⟨b,0,none⟩) n n) (ob:= .cells (iK n zv).toArray e (0,0)) ?_ fun b w' h2 h3 h4=>k b w' h2 h3 fun B I=>⟨by simp,.inr ⟨b,n,_,aa,I,h4,cw _,c,by simp,by simp⟩⟩
 have q:=run_make (P:=P) w t e i G hu hi A E C n n ab (Int.le_refl _) (by rw [J,← Int.natCast_mul]; omega)<|by unfold maxLen at c; omega
 rw [V,hs,Nat.mul_one,jv,show madeCells #[zv] n=(iK n zv).toArray by rw [← Ot h1,nY h1]] at q
 simp [execOp,O,U,q]
end
end Go.Hb
namespace Go.Hb
section
variable {P:Program} {N:Fm} {σ:Nat→Value} {w:World} {dst:Option Nat} {ty:TypeId} {pos :String} {af:Array Edge} {g:Option (Nat×Bool)} {x y z:Operand}
theorem Jz {t n len cap i:Nat} {a:Option Addr} {k G:IntKind} (he:fY P t=some n) (A:ev N σ x= .slice a len cap) (C:ev N σ y= .int k (i:Nat)) (E:ev N σ z= .int G (i:Nat)) (h:i≤cap):
 (execOp (ev N σ) ⟨dst,.slice t x none (some y) (some z),ty,pos,af,g⟩).run P w= .ok (.value<|.slice a i i) w:=by
 have c:(0:Int)≤(i:Int):=ab
 unfold fY at he
 cases hd:P.underlying t with
 | none=>rw [hd] at he; cases he
 | some d=>
   rw [hd] at he
   cases d <;> first | (cases he; done) | skip
   rename_i e
   cases hi':P.info? e with
   | none=>simp [hi'] at he
   | some j=>
     have q:(if i=0 then a else a.map (·.add 0))=a:=by
      split
      · rfl
      · cases a <;> simp [vf]
     simp only [execOp,o8,sH,A,C,E,kE,Option.map_none,mT,pc,asIntOf]
     simp [dj hd,gd hi',sizeOf,c,q]
     intro I; omega
end
end Go.Hb
namespace Go.Hb
def ox (h:Array Obj) (b:Nat) (kvs:List (Value×Value)):Prop := ∃ es clock,h[b]? =some (.map es clock)∧es.toList.map (fun e=>(e.key,e.val))=kvs
theorem ox.md {F:Nat→Prop} {w w':World} {b:Nat} {kvs:List (Value×Value)} (h:ox w.heap b kvs) (hm:Md F w w') (a:¬F b):ox w'.heap b kvs:=
 let ⟨es,c,h1,h2⟩:=h; ⟨es,c,hm.aB h1 a,h2⟩
structure s8 (P:Program) (k:TypeId) (isK:Value→Prop):Prop where
 check:∀ em w v,isK v→(qE em 10000 k v).run P w= .ok () w
 find:∀ w x es,isK x→(∀ e∈es,isK e.key)→
  ((vj k x es).run P w= .ok none w∧∀ e∈es,e.key≠x)∨∃ j e,(vj k x es).run P w= .ok (some (j,e.val)) w∧es[j]? =some e∧e.key=x
theorem Jm {P:Program} {k:TypeId} {em:Bool} {n:Nat} {a:List UInt8} (hk:P.underlying k=some .string) (w:World):(qE em (n+1) k<|str a).run P w= .ok () w:=by
 simp only [str,qE,pj,dj hk,ph,qH]
def zeroV (P:Program) (e:TypeId):Option Value:=(P.info? e).bind (·.zero)
theorem uX {P:Program} {e:TypeId} {z:Value} (h:zeroV P e=some z) (w:World):(zeroValue e).run P w= .ok z w:=by
 unfold zeroV at h
 simp only [Option.bind_eq_some_iff] at h
 obtain ⟨i,hi,a⟩:=h
 simp [zeroValue,gd hi,a]
section
variable {P:Program} {N:Fm} {σ:Nat→Value} {w:World} {dst:Option Nat} {ty:TypeId} {pos :String} {af:Array Edge} {g:Option (Nat×Bool)} {x y z:Operand} {K:(Nat→Value)→World→Prop}
variable {t k e:TypeId} {isK:Value→Prop} {b:Nat} {kvs:List (Value×Value)} {kx v:Value}
theorem xo {es:Array MapEntry} (h:es.toList.map (fun e=>(e.key,e.val))=kvs) (hk:∀ p∈kvs,isK p.1):∀ e∈es.toList,isK e.key:=fun e he=>hk (e.key,e.val)<|by rw [← h]; exact sU he
theorem run_getObj_map {es:Array MapEntry} {c:Nat} (a:w.heap[b]? =some (.map es c)):(getObj b).run P w= .ok (.map es c) w:=by
 simp [getObj,Sem.run,a]
theorem O0 {kvs:List (Value×Value)} (hn:(kvs.map gW).Nodup) {kx v a:Value} (h1:(kx,v)∈kvs) (h2:(kx,a)∈kvs):v=a:=by
 induction kvs with
 | nil=>simp at h1
 | cons p kvs c=>
   simp only [nD,Gx] at hn
   rcases eY.1 h1 with h1 | h1
   · rcases eY.1 h2 with h2 | h2
     · rw [← h1] at h2; cases h2; rfl
     · rw [← h1] at hn; exact absurd (sU (f:=gW) h2) hn.1
   · rcases eY.1 h2 with h2 | h2
     · rw [← h2] at hn; exact absurd (sU (f:=gW) h1) hn.1
     · exact c hn.2 h1 h2
theorem Oe {ok:Bool} (G:P.underlying t=some (.map k e)) (i:s8 P k isK) (hm:ox w.heap b kvs) (hk:∀ p∈kvs,isK p.1) (J:ev N σ x= .map (some b)) (M:ev N σ y=kx) (hi:isK kx) (hn:(kvs.map gW).Nodup) (a:(kx,v)∈kvs):
 (execOp (ev N σ) ⟨dst,.lookup t x y ok,ty,pos,af,g⟩).run P w= .ok (.value (if ok then .tuple #[v,.bool true] else v)) w:=by
 obtain ⟨es,c,E,he⟩:=hm
 rcases i.find w kx es.toList hi (xo he hk) with ⟨_,h2⟩ | ⟨j,q,h1,h2,h3⟩
 · rw [← he] at a
   obtain ⟨A,C,h4⟩:=lH.1 a
   cases h4
   exact absurd aa<|h2 A C
 · have I:(kx,q.val)∈kvs:=by rw [← he,← h3]; exact sU (f:=fun e:MapEntry=>(e.key,e.val))<|gV h2
   have :=O0 hn a I
   subst this
   cases ok <;> simp [execOp,FW,dj G,J,M,run_getObj_map E,i.check _ w kx hi,h1]
theorem Of {ok:Bool} {zv:Value} (A:P.underlying t=some (.map k e)) (G:zeroV P e=some zv) (a:s8 P k isK) (hm:ox w.heap b kvs) (hk:∀ p∈kvs,isK p.1) (C:ev N σ x= .map (some b)) (E:ev N σ y=kx) (hi:isK kx) (hn:∀ v,(kx,v)∉kvs):
 (execOp (ev N σ) ⟨dst,.lookup t x y ok,ty,pos,af,g⟩).run P w= .ok (.value (if ok then .tuple #[zv,.bool false] else zv)) w:=by
 obtain ⟨es,c,q,he⟩:=hm
 rcases a.find w kx es.toList hi (xo he hk) with ⟨h1,_⟩ | ⟨j,i,h1,h2,h3⟩
 · cases ok <;> simp [execOp,FW,dj A,C,E,run_getObj_map q,a.check _ w kx hi,h1,uX G]
 · exact absurd (by rw [← he,← h3]; exact sU (f:=fun e:MapEntry=>(e.key,e.val))<|gV h2)<|hn i.val
end
end Go.Hb
namespace Go.Hb
def tag (w:World) (k:Nat):Nat:=match w.heap[k]? with | some (.cells _ t _)=>t+2 | some (.map _ _)=>1 | _=>0
theorem dt {w:World} {k t:Nat} {cs:Array Value} {z:Nat×Nat} (h:w.heap[k]? =some (.cells cs t z)):tag w k=t+2:=by unfold tag; rw [h]
theorem Ri {w:World} {k:Nat} {kvs:List (Value×Value)} (h:ox w.heap k kvs):tag w k=1:=by
 obtain ⟨es,c,h,_⟩:=h
 unfold tag; rw [h]
theorem EC {w:World} {B e size n k:Nat} {v:Value} {xs:List Value} (h:w.ownsRow B e size v n xs) (hk:v.ownBlock=some k):tag w k=e+2:=by
 rcases h.2 with ⟨rfl,_⟩ | ⟨g,cap,cur,rfl,_,a,_⟩
 · simp [fT] at hk
 · simp only [fT,eZ] at hk; subst hk
   exact dt a
def TF (w:World) (L:List Nat) (F:Nat→Prop):Prop := ∀ k,F k→L.contains (tag w k)=true
theorem TF.no {w:World} {L:List Nat} {F:Nat→Prop} (h:TF w L F) {k t:Nat} (c:tag w k=t) (a:L.contains t=false):¬F k:=fun hk=>by
 have :=h k hk
 rw [c,a] at this; cases this
theorem TF.or {w:World} {L:List Nat} {F G:Nat→Prop} (h:TF w L F) (a:TF w L G):TF w L (fun k=>F k∨G k):=fun k hk=>by
 rcases hk with hk | hk
 · exact h k hk
 · exact a k hk
theorem TF.eq {w:World} {L:List Nat} {b t:Nat} (c:tag w b=t) (a:L.contains t=true):TF w L (fun k=>k=b):=fun k hk=>by
 subst hk; rw [c]; exact a
theorem TF.own {w:World} {L:List Nat} {B e size n:Nat} {v:Value} {xs:List Value} (h:w.ownsRow B e size v n xs) (a:L.contains (e+2)=true):TF w L (fun k=>v.ownBlock=some k):=fun k hk=>by
 rw [EC h hk]; exact a
theorem Md.im {F:Nat→Prop} {w w':World} {L:List Nat} {k t:Nat} {cs:Array Value} {z:Nat×Nat} (hm:Md F w w') (a:TF w L F) (h:w.heap[k]? =some (.cells cs t z)) (c:L.contains (t+2)=false):w'.heap[k]? =some (.cells cs t z):=hm.aB h<|a.no (dt h) c
theorem cW {F:Nat→Prop} {w w':World} {L:List Nat} {B e size n:Nat} {v:Value} {xs:List Value} (h:w.ownsRow B e size v n xs) (hm:Md F w w') (a:TF w L F) (c:L.contains (e+2)=false):w'.ownsRow B e size v n xs:=cx h hm fun _ hk=>a.no (EC h hk) c
theorem Md.tag {F:Nat→Prop} {w w':World} (hm:Md F w w') {k:Nat} (hk:k < w.heap.size) (a:¬F k):Hb.tag w' k=Hb.tag w k:=by
 unfold Hb.tag; rw [hm.dO k hk a]
end Go.Hb
end
section
namespace Go.Hb
open Go.ChangeShapes Go.WideShapes Go.ChangeAt
theorem Wk.frame {w w':World} (h:Wk w w') (may:MemPlace→Prop):w.keptBut w' may:=by
 refine ⟨h.os,h.output,fun i hi=> ?_⟩
 rw [h.dO i hi id]
 split <;> simp_all
theorem Wk.same {w w':World} (h:Wk w w') {p:MemPlace} (hp:p.block < w.heap.size):w.sameAt w' p:=by
 cases p with
 | cell b o=>exact World.cell?_of_block (w:=w)<|h.dO b hp id
 | map b=>exact h.dO b hp id
section
variable {H:Type} {enc:TypeId×Value→H} {P:Program} {W W':World}
theorem EN (A:laidOutB P=true) (hk:Wk W W'):∀ (c:List TypeId) (vs:List Value) (i:List (DataW H)) (ps:List MemPlace),c.all (fun t=>P.readableRec t && decide (t < P.types.size))=true→(∀ x∈ps,x.block < W.heap.size)→
 FO enc P W 0 (fun _=>true) true c vs i ps→FO enc P W' 0 (fun b=>decide (b < W.heap.size)) true c vs i ps
 | [],[],[],_,_,_,h=>h
 | t::c,v::vs,d::i,_,hp,hlt,⟨p,q,h1,h2,he⟩=>by
   subst he
   rw [vu,fE,fE] at hp
   exact ⟨p,q,WideElems.Trod_stays A hp.1.1 (of_decide_eq_true hp.1.2) h1 (fun x a=>hk.same<|hlt x<|Gt _ a) (fun x a=>decide_eq_true<|hlt x<|Gt _ a),
    EN A hk c vs i q hp.2 (fun x a=>hlt x<|List.mem_append_right _ a) h2,rfl⟩
 | [],_::_,_,_,_,_,h=>h.elim
 | [],[],_::_,_,_,_,h=>h.elim
 | _::_,[],_,_,_,_,h=>h.elim
 | _::_,_::_,[],_,_,_,h=>h.elim
theorem P5 {f:FuncId} {fn:Func} {s:ChangeSpec} {args:Array Value} {a gs:List (DataW H)} {before:List MemPlace} {tb:TypeId} (i:DataW.Whole enc P fn.params.toList s.vars false W args.toList a gs before) (C:s.vars= [])
 (hs:s.fn H (a++gs)= {results:= [.lit (.bool true)],args:=a}) (M:fn.resultTypes= #[tb]) (G:P.underlying tb=some .bool) (I:laidOutB P=true) (hp:fn.params.toList.all (fun t=>P.readableRec t && decide (t < P.types.size))=true)
 (h:bd P f args W (fun v w'=>v= .bool true∧Wk W w')):Calls P f args W fun e W'=> ∃ v,e= .returned v∧s.post enc P fn false true false false W args v W':=by
 refine jQ h fun e W' ⟨v,he,O,hk⟩=>⟨v,he,?_⟩
 subst O
 have A:=i
 obtain ⟨p,q,E,c,rfl,_,_⟩:=i
 rw [C] at c
 obtain ⟨rfl,rfl⟩:=trodVars_none c
 have J:∀ x∈p,x.block < W.heap.size:=fun x U=>A.lt x<|by simpa using U
 refine ⟨_,_,_,[],p,[],A,?_,?_,?_,hk.frame _,fun h=>by cases h⟩
 · rw [hs,M]
   exact trodAll_cons_mk (shut_bool G _) trodAll_mk0
 · rw [hs]
   exact EN I hk _ _ _ _ hp J E
 · rw [hs,C]; rfl
end
end Go.Hb
namespace Go.Hb
open Go.Proofs.YtffmhpaepdkabaaGreatDoor
theorem HR {H:Type} {l:List (DataW H)} (hk:Rows.uptoSmall H l=true):Rows.uptoBulkAll l≤1048576:=of_decide_eq_true hk
end Go.Hb
namespace Go.Hb
open Go.Proofs.YtffmhpaepdkabaaGreatDoor Go.ChangeShapes Go.WideShapes Go.ChangeAt
structure zY (P:Program) (t:TypeId) (m:Nat) {X:Type} (R:World→List Value→X→Prop) (B:X→Nat):Prop where
 cells:P.cellsOf t=m
 op:∀ {H:Type} (enc:TypeId×Value→H) (W:World) (fuel:Nat) (cs:List Value) (d:DataW H) (p:List MemPlace),DataW.trod enc P W 0 (fun _=>true) true fuel t cs=some (d,p)→cs.length=m∧∃ x,R W cs x∧B x≤Rows.uptoBulk d
section
variable {P:Program} {t t0 t1 e:TypeId} {m m0 m1:Nat} {X X0 X1:Type} {R:World→List Value→X→Prop} {B:X→Nat} {R0:World→List Value→X0→Prop} {B0:X0→Nat} {R1:World→List Value→X1→Prop} {B1:X1→Nat}
theorem Pb {k:IntKind} (c:P.underlying t=some (.int k)) (a:P.cellsOf t=1):zY P t 1 (fun _ cs (x:Int)=>cs= [.int k x]∧(Lit.int k x).wf=true) (fun _=>1) where
 cells:=a
 op enc W fuel cs d p h:=by
  obtain ⟨n,rfl,i,hw⟩:=DataW.trod_int c h
  cases i
  exact ⟨aa,n,⟨aa,hw⟩,by simp [Rows.uptoBulk]⟩
theorem DN (c:P.underlying t=some .string) (a:P.cellsOf t=1):zY P t 1 (fun _ cs (x:List UInt8)=>cs= [str x]) (fun x=>x.length+1) where
 cells:=a
 op enc W fuel cs d p h:=by
  obtain ⟨s,rfl,i,hw⟩:=DataW.trod_string c h
  cases i
  exact ⟨aa,s.data.toList,aa,by simp [Rows.uptoBulk]⟩
end
end Go.Hb
end
namespace Go.Hb
theorem drop_cons {α:Type} {l:List α} {i:Nat} (d:α) (h:i < l.length):l.drop i=l.getD i d::l.drop (i+1):=by
 rw [List.drop_eq_getElem_cons h]; simp [cX,h]
theorem yN {α:Type} {l:List α} {k i:Nat} (d:α) (hk:k≤i) (hi:i < l.length):(l.take<|i+1).drop k=(l.take i).drop k++ [l.getD i d]:=by
 rw [ky l i d hi,List.drop_append_of_le_length (by rw [ec]; omega)]
def oN (b:UInt8):Bool:=b==32 || b==9
theorem CC (b:UInt8):oN b=decide (b.toNat=32∨b.toNat=9):=by
 unfold oN
 have h:∀ x:UInt8,(b==x)=decide (b.toNat=x.toNat):=fun x=>by
  by_cases a:b=x
  · subst a; simp
  · have :b.toNat≠x.toNat:=fun h=>a<|pA.1 h
    simp [a,this]
 rw [h,h]
 simp [Bool.decide_or]
def du:List UInt8→List UInt8→List (List UInt8)
 | cur,[]=>if cur= [] then [] else [cur]
 | cur,b::r=>if oN b then (if cur= [] then du [] r else cur::du [] r) else du (cur++ [b]) r
theorem My:du [] []= []:=by simp [du]
theorem Mx {cur:List UInt8} (h:cur≠[]):du cur []= [cur]:=by simp [du,h]
theorem Mu {b:UInt8} {r:List UInt8} (h:oN b=true):du [] (b::r)=du [] r:=by simp [du,h]
theorem Mv {cur:List UInt8} {b:UInt8} {r:List UInt8} (h:oN b=true) (a:cur≠[]):du cur (b::r)=cur::du [] r:=by simp [du,h,a]
theorem Ck {cur:List UInt8} {b:UInt8} {r:List UInt8} (h:oN b=false):du cur (b::r)=du (cur++ [b]) r:=by simp [du,h]
theorem Cj:∀ (l cur x:List UInt8),x∈du cur l→x≠[]∧x.length≤cur.length+l.length:=by
 intro l
 induction l with
 | nil=>
   intro cur x h
   unfold du at h
   split at h
   · cases h
   · simp only [lI] at h; subst h; exact ⟨by assumption,by simp⟩
 | cons b r a=>
   intro cur x h
   unfold du at h
   split at h
   · split at h
     · have :=a [] x h; simp only [bV,fV] at*; exact ⟨this.1,ab⟩
     · rcases eY.1 h with rfl | h
       · exact ⟨by assumption,by simp⟩
       · have :=a [] x h; simp only [bV,fV] at*; exact ⟨this.1,ab⟩
   · have :=a _ x h; simp only [bV,bJ,fV] at*; exact ⟨this.1,ab⟩
theorem xD:∀ (l cur:List UInt8),(du cur l).length≤l.length+1:=by
 intro l
 induction l with
 | nil=>intro cur; unfold du; split <;> simp
 | cons b r a=>
   intro cur
   unfold du
   split
   · split
     · have :=a []; simp only [bV]; omega
     · have :=a []; simp only [bV]; omega
   · have :=a (cur++ [b]); simp only [bV]; omega
def jx (l:List UInt8) (i:Nat) (a:Int) (cur:List UInt8):Prop :=(a= -1∧cur= [])∨(∃ k:Nat,a=k∧k < i∧i≤l.length∧cur=(l.take i).drop k)
theorem jx.no {l:List UInt8} {i:Nat} :jx l i (-1) []:= .inl ⟨rfl,rfl⟩
theorem jx.neg {l cur:List UInt8} {i:Nat} {a:Int} (h:jx l i a cur) (c:a < 0):a= -1∧cur= []:=by
 rcases h with h | ⟨k,rfl,_⟩
 · exact h
 · omega
theorem jx.pos {l cur:List UInt8} {i:Nat} {a:Int} (h:jx l i a cur) (c:¬a < 0):(0≤a∧a < i)∧cur=(l.take i).drop a.toNat∧cur≠[]:=by
 rcases h with ⟨rfl,_⟩ | ⟨k,rfl,h1,h2,rfl⟩
 · omega
 · refine ⟨ab,by simp,fun e=> ?_⟩
   have :=congrArg k3 e
   simp only [fU,ec,fV] at this
   omega
theorem jx.begin {l:List UInt8} {i:Nat} (hi:i < l.length):jx l (i+1) i [l.getD i 0]:=by
 refine .inr ⟨i,aa,ab,ab,?_⟩
 rw [yN 0 (cw i) hi,k0 (by rw [ec]; omega),lJ]
theorem jx.more {l cur:List UInt8} {i:Nat} {a:Int} (h:jx l i a cur) (c:¬a < 0) (hi:i < l.length):jx l (i+1) a (cur++ [l.getD i 0]):=by
 rcases h with ⟨rfl,_⟩ | ⟨k,rfl,h1,h2,rfl⟩
 · omega
 · exact .inr ⟨k,aa,ab,ab,(yN 0 ab hi).symm⟩
def iW (l:List UInt8):List UInt8:=if 0 < l.length∧l.getD (l.length - 1) 0=13 then l.take (l.length - 1) else l
theorem BJ (l:List UInt8):(iW l).length≤l.length:=by unfold iW; split <;> simp
theorem Lr {l:List UInt8} (h:0 < l.length) (h1:l.getD (l.length - 1) 0=13):iW l=l.take (l.length - 1):=if_pos ⟨h,h1⟩
theorem Lq {l:List UInt8} (h:¬(0 < l.length∧l.getD (l.length - 1) 0=13)):iW l=l:=if_neg h
theorem C6 {l:List UInt8} (h:0 < l.length):l.drop (l.length - 1)= [l.getD (l.length - 1) 0]:=by
 rw [drop_cons 0 ab,k0 ab]
def eL:List UInt8→List UInt8→List (List UInt8)
 | cur,[]=>if cur= [] then [] else [iW cur]
 | cur,b::r=>if b=10 then iW cur::eL [] r else eL (cur++ [b]) r
theorem Dk:eL [] []= []:=by simp [eL]
theorem Oh {cur:List UInt8} (h:cur≠[]):eL cur []= [iW cur]:=by simp [eL,h]
theorem Ol (cur r:List UInt8):eL cur (10::r)=iW cur::eL [] r:=by simp [eL]
theorem Dj {cur:List UInt8} {b:UInt8} {r:List UInt8} (h:b≠10):eL cur (b::r)=eL (cur++ [b]) r:=by simp [eL,h]
theorem yc:∀ (l cur:List UInt8),(eL cur l).length≤l.length+1:=by
 intro l
 induction l with
 | nil=>intro cur; unfold eL; split <;> simp
 | cons b r a=>
   intro cur
   unfold eL
   split
   · have :=a []; simp only [bV]; omega
   · have :=a (cur++ [b]); simp only [bV]; omega
theorem Oi (l:List UInt8):(eL [] l).length≤l.length:=by
 cases l with
 | nil=>simp [eL]
 | cons b r=>
   unfold eL
   split
   · have :=yc r []
     have h2:∀ m:List UInt8,(eL [] m).length≤m.length:=by
      intro m
      induction m with
      | nil=>simp [eL]
      | cons c m a=>
        unfold eL
        split
        · simp only [bV]; omega
        · have :=yc m ([]++ [c]); simp only [bV]; omega
     have :=h2 r
     simp only [bV]; omega
   · have :=yc r ([]++ [b]); simp only [bV]; omega
theorem Oj:∀ (l cur x:List UInt8),x∈eL cur l→x.length≤cur.length+l.length:=by
 intro l
 induction l with
 | nil=>
   intro cur x h
   unfold eL at h
   split at h
   · cases h
   · simp only [lI] at h; subst h; have :=BJ cur; simp only [fV]; omega
 | cons b r a=>
   intro cur x h
   unfold eL at h
   split at h
   · rcases eY.1 h with rfl | h
     · have :=BJ cur; omega
     · have :=a [] x h; simp only [bV,fV] at*; omega
   · have :=a _ x h; simp only [bV,bJ,fV] at*; omega
def dT (c:UInt8) (l:List UInt8):Int:=if l.idxOf c < l.length then (l.idxOf c:Int) else -1
theorem C1 {c:UInt8} {l:List UInt8} (h:dT c l < 0):¬l.idxOf c < l.length:=fun h1=>by unfold dT at h; rw [if_pos h1] at h; omega
theorem qa {c:UInt8} {l:List UInt8} (h:¬dT c l < 0):dT c l=l.idxOf c∧l.idxOf c < l.length:=by
 unfold dT at*
 by_cases h1:l.idxOf c < l.length
 · exact ⟨if_pos h1,h1⟩
 · rw [if_neg h1] at h; omega
def kK (c:UInt8) (l:List UInt8):List UInt8:=if dT c l < 0 then l else l.take (l.idxOf c)
def lS (c:UInt8) (l:List UInt8):List UInt8:=if dT c l < 0 then [] else l.drop (l.idxOf c+1)
theorem Kx (c:UInt8) (l:List UInt8):(kK c l).length≤l.length:=by unfold kK; split <;> simp; omega
theorem KB {c:UInt8} {l:List UInt8} (h:l≠[]):(lS c l).length < l.length:=by
 have :=mW.2 h
 unfold lS; split <;> simp <;> omega
theorem Og:∀ (l cur:List UInt8),l.idxOf 10 < l.length→eL cur l=iW (cur++l.take (l.idxOf 10))::eL [] (l.drop<|l.idxOf 10 +1):=by
 intro l
 induction l with
 | nil=>intro cur h; simp at h
 | cons b r i=>
   intro cur h
   by_cases a:b=10
   · subst a
     rw [zN,Ol,nG,eb,fF,List.drop_one,List.tail_cons]
   · have c:(b::r).idxOf 10=r.idxOf 10 +1:=by rw [sR,beq_eq_false_iff_ne.2 a]; rfl
     rw [c] at h ⊢
     simp only [bV] at h
     rw [Dj a,i _ ab,qQ,sO,dK]
     rfl
theorem Om:∀ (l cur:List UInt8),¬l.idxOf 10 < l.length→cur++l≠[]→eL cur l= [iW (cur++l)]:=by
 intro l
 induction l with
 | nil=>intro cur _ h; rw [eb] at h ⊢; exact Oh h
 | cons b r i=>
   intro cur h h1
   by_cases a:b=10
   · subst a; rw [zN] at h; simp at h
   · have c:(b::r).idxOf 10=r.idxOf 10 +1:=by rw [sR,beq_eq_false_iff_ne.2 a]; rfl
     rw [c] at h
     simp only [bV] at h
     rw [Dj a,i _ ab (by simp),dK]
     rfl
theorem On {l:List UInt8} (h:l≠[]):eL [] l=iW (kK 10 l)::eL [] (lS 10 l):=by
 by_cases h1:dT 10 l < 0
 · rw [Om l [] (C1 h1) (by simpa using h)]
   unfold kK lS
   rw [if_pos h1,if_pos h1,Dk,lJ]
 · rw [Og l [] (qa h1).2]
   unfold kK lS
   rw [if_neg h1,if_neg h1,lJ]
def eV (s p:List UInt8):List UInt8:=if s.take p.length=p then s.drop p.length else s
def Dm:List UInt8:= [239,187,191]
def uS (s:List UInt8):List UInt8:=eV s Dm
theorem y2 (s:List UInt8):(uS s).length≤s.length:=by unfold uS eV; split <;> simp
def cV (t:List UInt8):List (List UInt8):=eL []<|uS t
theorem oQ (t:List UInt8):(cV t).length≤t.length:=e9 (Oi _)<|y2 t
theorem Df {t x:List UInt8} (h:x∈cV t):x.length≤t.length:=by
 have :=Oj _ _ _ h
 have :=y2 t
 simp only [fV] at*; omega
def uq (f:List UInt8):Bool:=decide ((f.getD 0 0).toNat=35)
def nj (f:List (List UInt8)):List (List UInt8):=f.takeWhile fun x=> !uq x
def nV (l:List UInt8) (n:Nat):List (Nat×List (List UInt8)):=if nj (du [] l)= [] then [] else [(n,nj (du [] l))]
def kt (n:Nat):List (List UInt8)→List (Nat×List (List UInt8))
 | []=> []
 | l::r=>nV l n++kt (n+1) r
def et (t:List UInt8):List (Nat×List (List UInt8)):=kt 1<|cV t
theorem ur (l:List UInt8):∀ (c:List (List UInt8)) (n:Nat),kt n (c++ [l])=kt n c++nV l (n+c.length):=by
 intro c
 induction c with
 | nil=>intro n; simp [kt]
 | cons a c i=>intro n; rw [zH,kt,i,kt,bV,dK,show n+1 +c.length=n+(c.length+1) from by omega]
theorem Ea:∀ (c:List (List UInt8)) (n:Nat),(kt n c).length≤c.length:=by
 intro c
 induction c with
 | nil=>intro n; simp [kt]
 | cons a c i=>
   intro n
   have :=i<|n+1
   unfold kt nV
   rw [bJ]
   split <;> simp only [fV,bV] <;> omega
theorem Eb (t:List UInt8):(et t).length≤t.length:=e9 (Ea _ _)<|oQ t
theorem C2 {f:List (List UInt8)} :∀ {j:Nat},j≤f.length→(∀ i,i < j→uq (f.getD i [])=false)→(j=f.length∨uq (f.getD j [])=true)→nj f=f.take j:=by
 induction f with
 | nil=>intro j q _ _; rw [GF]; rfl
 | cons a f A=>
   intro j q h1 h2
   cases j with
   | zero=>
     rcases h2 with h2 | h2
     · simp at h2
     · simp only [ma] at h2
       simp [nj,h2]
   | succ j=>
     have c:=h1 0 ab
     simp only [ma] at c
     have :=A (j:=j) (by simpa using q) (fun i hi=>by simpa using h1 (i+1) ab)<|by simpa using h2
     unfold nj at*
     rw [List.takeWhile_cons,c]
     simp only [Bool.not_false,if_true,qQ]
     rw [this]
theorem NV {f:List (List UInt8)} {x:List UInt8} (h:x∈nj f):x∈f:=(GD _).subset h
theorem NU (f:List (List UInt8)):(nj f).length≤f.length:=(GD _).length_le
theorem Qd:∀ (c:List (List UInt8)) (n:Nat) (r:Nat×List (List UInt8)),r∈kt n c→n≤r.1∧r.1 < n+c.length∧r.2≠[]∧∃ l∈c,r.2=nj (du [] l):=by
 intro c
 induction c with
 | nil=>intro n r h; cases h
 | cons a c q=>
   intro n r h
   rw [kt] at h
   rcases List.mem_append.1 h with h | h
   · unfold nV at h
     split at h
     · cases h
     · simp only [lI] at h; subst h
       exact ⟨by simp,by simp,by assumption,a,by simp,aa⟩
   · obtain ⟨h1,h2,h3,l,i,h4⟩:=q _ _ h
     exact ⟨ab,by simp only [bV]; omega,h3,l,by simp [i],h4⟩
theorem Ec {t:List UInt8} {r:Nat×List (List UInt8)} (h:r∈et t):1≤r.1∧r.1≤t.length∧r.2≠[]∧r.2.length≤t.length+1∧∀ x∈r.2,x≠[]∧x.length≤t.length:=by
 obtain ⟨h1,h2,h3,l,c,h4⟩:=Qd _ _ _ h
 have q:=oQ t
 have i:=Df c
 refine ⟨h1,ab,h3,?_,fun x a=> ?_⟩
 · rw [h4]; have :=NU (du [] l); have :=xD l []; omega
 · rw [h4] at a
   have :=Cj _ _ _<|NV a
   simp only [fV] at this
   exact ⟨this.1,ab⟩
def rr (b:UInt8):Bool:=decide (48≤b.toNat∧b.toNat≤57)
def fi (s:List UInt8):Nat:=s.foldl (fun n b=>n*10 +(b.toNat - 48)) 0
theorem rp {s:List UInt8} {i:Nat} (h:i < s.length):fi (s.take<|i+1)=fi (s.take i)*10 +((s.getD i 0).toNat - 48):=by
 rw [ky s i 0 h]; unfold fi; rw [zL]; rfl
theorem MG:∀ (s:List UInt8) (n:Nat),n≤s.foldl (fun n b=>n*10 +(b.toNat - 48)) n:=by
 intro s
 induction s with
 | nil=>intro n; exact cw _
 | cons b s a=>intro n; refine e9 ?_ (a _); show n≤n*10 +(b.toNat - 48); omega
theorem KO (s:List UInt8) (i:Nat):fi (s.take i)≤fi s:=by
 have :fi s=(s.drop i).foldl (fun n b=>n*10 +(b.toNat - 48)) (fi<|s.take i):=by
  unfold fi; rw [← zL,List.take_append_drop]
 rw [this]; exact MG _ _
def oO (s:List UInt8):Prop :=s= []∨(1 < s.length∧(s.getD 0 0).toNat=48)
def xe (s:List UInt8):Prop := ∀ i,i < s.length→rr (s.getD i 0)=true
open Classical in
noncomputable def eR (s:List UInt8) (most:Int):Nat×Int:=if oO s∨¬xe s∨most < fi s then (0,13) else (fi s,0)
theorem DG {s:List UInt8} {most:Int} (h:oO s):eR s most=(0,13):=if_pos<|.inl h
theorem DF {s:List UInt8} {most:Int} {i:Nat} (h:i < s.length) (h1:rr (s.getD i 0)=false):eR s most=(0,13):=if_pos<|.inr<|.inl fun hd=>by rw [hd i h] at h1; cases h1
theorem O2 {s:List UInt8} {most:Int} (h:most < fi s):eR s most=(0,13):=if_pos<|.inr<|.inr h
theorem DD {s:List UInt8} {most:Int} (i:Nat) (h:most < fi (s.take i)):eR s most=(0,13):=O2<|by have :=KO s i; omega
theorem DH {s:List UInt8} {most:Int} (h:¬oO s) (h1:xe s) (h2:¬most < fi s):eR s most=(fi s,0):=if_neg<|by rintro (a | a | a) <;> first | exact h a | exact a h1 | exact h2 a
theorem DE (s:List UInt8) (most:Int):(eR s most=(0,13))∨(eR s most=(fi s,0)∧(fi s:Int)≤most):=by
 unfold eR
 split
 · exact .inl aa
 · rename_i h; exact .inr ⟨rfl,by have :¬most < fi s:=fun a=>h (.inr<|.inr a); omega⟩
theorem uh (s:List UInt8) (most:Int):(eR s most).2=0→((eR s most).1:Int)≤most:=by
 rcases DE s most with h | ⟨h,h1⟩ <;> rw [h]
 · intro h; cases h
 · intro _; exact h1
theorem BI {b:UInt8} (h:¬(48≤b.toNat∧b.toNat≤57)):rr b=false :=decide_eq_false h
theorem NL {x:UInt8} :∀ {l:List UInt8} {i:Nat},i < l.length→(∀ j,j < i→l.getD j 0≠x)→l.getD i 0=x→dT x l=(i:Nat):=by
 have key:∀ (l:List UInt8) (i:Nat),i < l.length→(∀ j,j < i→l.getD j 0≠x)→l.getD i 0=x→l.idxOf x=i:=by
  intro l
  induction l with
  | nil=>intro i h; simp at h
  | cons b l c=>
    intro i h h1 h2
    cases i with
    | zero=>have a:b=x:=h2
            subst a; simp
    | succ i=>
      have a:b≠x:=h1 0<|Nat.succ_pos _
      rw [sR,show (b==x)=false from by simpa using a]
      have :=c i (by simpa using h) (fun j q=>h1 (j+1) ab) h2
      rw [this]; rfl
 intro l i h h1 h2
 unfold dT
 rw [key l i h h1 h2,if_pos h]
theorem NM {x:UInt8} {l:List UInt8} (h:∀ j,j < l.length→l.getD j 0≠x):dT x l= -1:=by
 unfold dT
 rw [if_neg]
 intro h1
 have hm:=List.idxOf_lt_length_iff.1 h1
 obtain ⟨j,a,e⟩:=Gv.1 hm
 exact h j a<|by rw [cX,cj a]; exact e
end Go.Hb
section
namespace Go.Hb
theorem yZ {h:Array Obj} {a:Option Addr} {l:List UInt8} {i:Nat} (c:aE h a (U8 l)) (hi:i < l.length):Hb.aI h (bk a) (fo a+i*1)=some (.int .u8 (l.getD i 0).toNat):=by
 refine c.jj ?_
 unfold U8
 rw [gu,cj hi,cX,cj hi]; rfl
theorem y1 {l:List UInt8} (h:0 < l.length):U8 l≠[]:=by
 intro e
 have :=congrArg k3 e
 rw [td,fV] at this
 omega
theorem Ph {w:World} {B e:Nat} {v:Value} {l:List UInt8} {x:UInt8} (h:w.ownsRow B e 1 v (l.length+1) (U8 l++ [.int .u8 x.toNat])):w.ownsRow B e 1 v (l++ [x]).length (U8<|l++ [x]):=by
 rw [bJ,tc]; exact h
theorem yC {w:World} {B e:Nat} {v:Value} {l:List (List UInt8)} {x:List UInt8} (h:w.ownsRow B e 1 v (l.length+1) (l.map str++ [str x])):w.ownsRow B e 1 v (l++ [x]).length ((l++ [x]).map str):=by
 rw [bJ,iJ]; exact h
abbrev Rw:Type :=Nat×List (List UInt8)
def uy (q:Nat×Value):List Value:= [.int .i64 q.1,q.2]
def kU (l:List (Nat×Value)):List Value:=l.flatMap uy
theorem Qo (a b:List (Nat×Value)):kU (a++b)=kU a++kU b:=by simp [kU]
theorem Ef (l:List (Nat×Value)):(kU l).length=l.length*2:=nR (f:=uy) (m:=2) (fun _=>rfl) l
theorem uw {l:List (Nat×Value)} (h:0 < l.length):kU l≠[]:=xB (f:=uy) (m:=2) (fun _=>rfl) aw h
theorem ux {h:Array Obj} {ad:Option Addr} {vs:List (Nat×Value)} {i:Nat} {q:Nat×Value} (a:aE h ad (kU vs)) (c:vs[i]? =some q):∀ j,j < 2→Hb.aI h (bk ad) (fo ad+i*2 +j)= [gG .i64 q.1,q.2][j]? :=
 gn (f:=uy) (m:=2) (fun _=>rfl) a c
def Tg (w:World) (B e n:Nat) (v:Value) (xs:List Value):Prop :=
 ∃ a cp,v= .slice a n cp∧n≤cp∧(xs= []∨∃ b cur z,a=some ⟨b,0,none⟩∧B≤b∧w.heap[b]? =some (.cells cur e z)∧∀ (j:Nat) u,xs[j]? =some u→cur[j]? =some u)
theorem Tg.j8 {w:World} {B e size n:Nat} {v:Value} {xs:List Value} (h:w.ownsRow B e size v n xs):Tg w B e n v xs:=by
 have a:=h
 rcases h.2 with ⟨rfl,rfl⟩ | ⟨g,cap,cur,rfl,c,i,_,_,_,q⟩
 · exact ⟨none,0,aa,cw _,.inl<|gr<|by simpa using h.1⟩
 · refine ⟨_,cap,aa,(aV a).1,.inr ⟨g,cur,_,aa,c,i,fun j u hu=> ?_⟩⟩
   rw [← q,mg] at hu
   split at hu
   · simpa using hu
   · cases hu
theorem Tg.cells {w:World} {B e n:Nat} {v:Value} {xs:List Value} (h:Tg w B e n v xs):∃ a cp,v= .slice a n cp∧aE w.heap a xs:=by
 obtain ⟨a,cp,rfl,_,h | ⟨b,cur,z,rfl,_,c,i⟩⟩:=h
 · subst h; exact ⟨a,cp,rfl,aE.nil _ _⟩
 · refine ⟨_,cp,aa,fun _=>rfl,fun j u hu=> ?_⟩
   show Hb.aI w.heap b (0 +j)=_
   rw [fF,aY c]; exact i j u hu
theorem Tg.dq {w:World} {B e n cp:Nat} {a:Option Addr} {xs:List Value} (h:Tg w B e n (.slice a n cp) xs):n≤cp∧aE w.heap a xs:=by
 obtain ⟨C,E,i,c,G⟩:=id h
 obtain ⟨a2,c2,q,A⟩:=h.cells
 cases i; cases q
 exact ⟨c,A⟩
theorem Tg.slice {w:World} {B e n:Nat} {v:Value} {xs:List Value} (h:Tg w B e n v xs):∃ a cp,v= .slice a n cp:=let ⟨a,cp,hv,_⟩:=h; ⟨a,cp,hv⟩
theorem Tg.md {F:Nat→Prop} {w w':World} {B e n:Nat} {v:Value} {xs:List Value} (h:Tg w B e n v xs) (hm:Md F w w') (q:∀ k,F k→∀ cur z,w.heap[k]?≠some (.cells cur e z)):Tg w' B e n v xs:=by
 obtain ⟨a,cp,rfl,i,h | ⟨b,cur,z,rfl,A,c,C⟩⟩:=h
 · exact ⟨a,cp,aa,i,.inl h⟩
 · exact ⟨_,cp,aa,i,.inr ⟨b,cur,z,aa,A,by rw [hm.dO b (cy.1 c).1 (fun hk=>q b hk cur z c)]; exact c,C⟩⟩
theorem Tg.wk {w w':World} {B e n:Nat} {v:Value} {xs:List Value} (h:Tg w B e n v xs) (hm:Wk w w'):Tg w' B e n v xs:=h.md hm fun _ hk=>hk.elim
theorem Tg.clip {w:World} {B e n k cp c:Nat} {a:Option Addr} {xs:List Value} (h:Tg w B e n (.slice a n cp) xs) (hk:k≤c):Tg w B e k (.slice a k c) (xs.take k):=by
 obtain ⟨G,I,q,_,i⟩:=h
 simp only [lF,true_and] at q
 obtain ⟨rfl,rfl⟩:=q
 refine ⟨a,c,aa,hk,?_⟩
 rcases i with rfl | ⟨b,cur,z,A,C,E,i⟩
 · exact .inl GF
 · exact .inr ⟨b,cur,z,A,C,E,fun j u hu=>i j u<|by rw [mg] at hu; split at hu; exact hu; cases hu⟩
theorem iQ {w:World} {B e c size n:Nat} {v:Value} {xs:List Value} (h:w.ownsRow B e size v n xs) (q:e≠c):∀ k,v.ownBlock=some k→∀ cur z,w.heap[k]?≠some (.cells cur c z):=by
 intro k hk cur z a
 rcases h.2 with ⟨rfl,_⟩ | ⟨g,cap,A,rfl,_,i,_⟩
 · simp [fT] at hk
 · simp only [fT,eZ] at hk
   subst hk
   rw [i] at a
   simp only [eZ,sI] at a
   exact q a.2.1
theorem gz {w:World} {b e c:Nat} {cs:Array Value} {y:Nat×Nat} (h:w.heap[b]? =some (.cells cs e y)) (i:e≠c):∀ k,k=b→∀ cur z,w.heap[k]?≠some (.cells cur c z):=by
 rintro k rfl cur z a
 rw [h] at a
 simp only [eZ,sI] at a
 exact i a.2.1
def gv (w:World) (B e:Nat) (vs:List (Nat×Value)) (rs:List Rw):Prop :=vs.length=rs.length∧∀ (i:Nat) q r,vs[i]? =some q→rs[i]? =some r→q.1=r.1∧Tg w B e r.2.length q.2 (r.2.map str)
theorem gv.nil (w:World) (B e:Nat):gv w B e [] []:=⟨rfl,fun i q r a=>by simp at a⟩
theorem gv.md {F:Nat→Prop} {w w':World} {B e:Nat} {vs:List (Nat×Value)} {rs:List Rw} (h:gv w B e vs rs) (hm:Md F w w') (a:∀ k,F k→∀ cur z,w.heap[k]?≠some (.cells cur e z)):gv w' B e vs rs:=
 ⟨h.1,fun i q r h1 h2=>⟨(h.2 i q r h1 h2).1,(h.2 i q r h1 h2).2.md hm a⟩⟩
theorem gv.wk {w w':World} {B e:Nat} {vs:List (Nat×Value)} {rs:List Rw} (h:gv w B e vs rs) (hm:Wk w w'):gv w' B e vs rs:=h.md hm fun _ hk=>hk.elim
theorem gv.snoc {w:World} {B e n:Nat} {vs:List (Nat×Value)} {rs:List Rw} {v:Value} {r:List (List UInt8)} (a:gv w B e vs rs) (q:Tg w B e r.length v (r.map str)):gv w B e (vs++ [(n,v)]) (rs++ [(n,r)]):=by
 refine ⟨by rw [bJ,bJ,a.1]; rfl,fun i A C h1 h2=> ?_⟩
 have c:=a.1
 by_cases hi:i < vs.length
 · rw [lG hi] at h1
   rw [lG ab] at h2
   exact a.2 i A C h1 h2
 · rw [me ab] at h1
   rw [me ab,← c] at h2
   cases hj:i - vs.length with
   | zero=>rw [hj] at h1 h2; cases h1; cases h2; exact ⟨rfl,q⟩
   | succ j=>rw [hj] at h1; simp at h1
theorem Tg.mono {w:World} {B B' e n:Nat} {v:Value} {xs:List Value} (h:Tg w B e n v xs) (c:B'≤B):Tg w B' e n v xs:=by
 obtain ⟨a,cp,q,i,A⟩:=h
 exact ⟨a,cp,q,i,A.imp id fun ⟨b,cur,z,h1,h2,h3⟩=>⟨b,cur,z,h1,e9 c h2,h3⟩⟩
theorem gv.mono {w:World} {B B' e:Nat} {vs:List (Nat×Value)} {rs:List Rw} (h:gv w B e vs rs) (a:B'≤B):gv w B' e vs rs:=⟨h.1,fun i q r h1 h2=>⟨(h.2 i q r h1 h2).1,(h.2 i q r h1 h2).2.mono a⟩⟩
end Go.Hb
end
section
set_option linter.unusedSectionVars false
namespace Go.Hb
open Go.Sort (swp insInner insOuter insertionSort siftDown heapBuild heapPop heapSort scanUp scanDown partLoop partEqLoop partition partitionEqual scanSorted shiftDown shiftUp partialIns partialInsertionSort reverseLoop reverseRange choosePivot breakPatterns breakStep pdq Hint)
def LE {α:Type} (f:α→Value) (d:Array α):List Value:=d.toList.map f
section
variable {α:Type} [Inhabited α] {f:α→Value}
theorem rT (d:Array α):(LE f d).length=d.size:=by simp [LE]
theorem bG {d:Array α} (h:0 < d.size):LE f d≠[]:=by
 intro e; have :=congrArg k3 e; rw [rT,fV] at this; omega
theorem C8 {d:Array α} {i:Nat} (h:i < d.size):(LE f d)[i]? =some (f d[i]!):=by
 unfold LE
 rw [gu,zc,u6 h,getElem!_pos d i h]; rfl
theorem cA {h:Array Obj} {a:Option Addr} {d:Array α} {i:Nat} (c:aE h a (LE f d)) (hi:i < d.size):Hb.aI h (bk a) (fo a+i*1)=some (f d[i]!):=c.jj<|C8 hi
theorem N5 (d:Array α) (i:Nat) (v:α):(LE f d).set i (f v)=LE f (d.setIfInBounds i v):=by
 unfold LE; rw [ze,List.map_set]
theorem ep {w:World} {B e n:Nat} {v:Value} {d:Array α} (h:w.ownsRow B e 1 v n (LE f d)):d.size=n:=by
 have :=h.1; rw [rT] at this; omega
end
section
variable {P:Program} {N:Fm} {σ:Nat→Value} {w:World} {ty:TypeId} {pos :String} {af:Array Edge} {g:Option (Nat×Bool)} {x y:Operand} {K:(Nat→Value)→World→Prop}
theorem eT {α:Type} [Inhabited α] {f:α→Value} {t B e n cap:Nat} {a:Option Addr} {d:Array α} {u:α} (i:Nat) (c:w.ownsRow B e 1 (.slice a n cap) n (LE f d)) (C:dM P t=some 1) (q:ev N σ x= .pointer (some ⟨bk a,fo a+i*1,none⟩)) (A:ev N σ y=f u) (h1:(f u).oneCell'=true)
 (E:i < n) (k:∀ w',Md (fun k=>(bB a n cap).ownBlock=some k) w w'→w'.ownsRow B e 1 (.slice a n cap) n (LE f<|d.setIfInBounds i u)→K σ w'):cE P N ⟨none,.store t x y,ty,pos,af,g⟩ σ w K:=
 qk c C q A h1 (j:=i) ab ab fun w' h1 h2=>k w' h1<|by rw [← N5]; exact h2
end
section
variable {α:Type} [Inhabited α] {lt:α→α→Bool} {d:Array α}
theorem NC {a j:Nat} (h:a < j) (h1:lt d[j]! d[j - 1]! =true):insInner lt a j d=insInner lt a (j - 1) (swp d j<|j - 1):=by
 cases j with
 | zero=>omega
 | succ j=>simp only [qR] at*; rw [insInner,if_pos (by simp [h1]; omega)]
theorem NF {a j:Nat} (h:¬a < j):insInner lt a j d=d:=by
 cases j with
 | zero=>rfl
 | succ j=>rw [insInner,if_neg (by simp; omega)]
theorem ND {a j:Nat} (h1:lt d[j]! d[j - 1]! =false):insInner lt a j d=d:=by
 cases j with
 | zero=>rfl
 | succ j=>simp only [qR] at*; rw [insInner,if_neg (by simp [h1])]
theorem CY {a b i:Nat} (h:i < b):insOuter lt a b i d=insOuter lt a b (i+1) (insInner lt a i d):=by rw [insOuter,if_pos h]
theorem NB {a b i:Nat} (h:¬i < b):insOuter lt a b i d=d:=by rw [insOuter,if_neg h]
theorem QA {hi first r:Nat} (h:¬2 *r+1 < hi):siftDown lt hi first r d=d:=by rw [siftDown,dif_pos ab]
theorem QB {hi first r:Nat} (h:2 *r+1 +1 < hi) (h1:lt d[first+(2 *r+1)]! d[first+(2 *r+1)+1]! =true):
 siftDown lt hi first r d=if (!lt d[first+r]! d[first+(2 *r+2)]!)=true then d else siftDown lt hi first (2 *r+2) (swp d (first+r)<|first+(2 *r+2)):=by
 rw [siftDown,dif_neg ab,if_pos (by simp [h1]; omega),dif_pos ab]
theorem Eo {hi first r:Nat} (a:2 *r+1 < hi) (h:¬2 *r+1 +1 < hi∨lt d[first+(2 *r+1)]! d[first+(2 *r+1)+1]! =false):
 siftDown lt hi first r d=if (!lt d[first+r]! d[first+(2 *r+1)]!)=true then d else siftDown lt hi first (2 *r+1) (swp d (first+r)<|first+(2 *r+1)):=by
 rw [siftDown,dif_neg ab,if_neg (by rcases h with h | h <;> simp [h] <;> omega)]
theorem MX {hi first k:Nat} (h:0 < k):heapBuild lt hi first k d=heapBuild lt hi first (k - 1) (siftDown lt hi first (k - 1) d):=by
 cases k with
 | zero=>omega
 | succ k=>rfl
theorem MY {hi first :Nat} :heapBuild lt hi first 0 d=d:=rfl
theorem Nk {first k:Nat} (h:0 < k):heapPop lt first k d=heapPop lt first (k - 1) (siftDown lt (k - 1) first 0 (swp d first (first+(k - 1)))):=by
 cases k with
 | zero=>omega
 | succ k=>rfl
theorem y3 {p:α→Bool} {i j:Nat} (h:i≤j) (h1:p d[i]! =true):scanUp p d j i=scanUp p d j (i+1):=by
 rw [scanUp]; simp [h,h1]
theorem qq {p:α→Bool} {i j:Nat} (h:¬i≤j∨p d[i]! =false):scanUp p d j i=i:=by
 rw [scanUp]; rcases h with h | h <;> simp [h]
theorem xf {p:α→Bool} {i j:Nat} (a:0 < j) (h:i≤j) (h1:p d[j]! =true):scanDown p d i j=scanDown p d i (j - 1):=by
 cases j with
 | zero=>omega
 | succ j=>rw [scanDown]; simp [h,h1]
theorem pS {p:α→Bool} {i j:Nat} (h:¬i≤j∨p d[j]! =false):scanDown p d i j=j:=by
 cases j with
 | zero=>rfl
 | succ j=>rw [scanDown]; rcases h with h | h <;> simp [h]
theorem QU {b i:Nat} (h:i < b) (h1:lt d[i]! d[i - 1]! =false):scanSorted lt d b i=scanSorted lt d b (i+1):=by
 rw [scanSorted]; simp [h,h1]
theorem Ev {b i:Nat} (h:¬i < b∨lt d[i]! d[i - 1]! =true):scanSorted lt d b i=i:=by
 rw [scanSorted]; rcases h with h | h <;> simp [h]
theorem Qp {j:Nat} (h:0 < j) (h1:lt d[j]! d[j - 1]! =true):shiftDown lt j d=shiftDown lt (j - 1) (swp d j<|j - 1):=by
 cases j with
 | zero=>omega
 | succ j=>simp only [qR] at*; rw [shiftDown]; simp [h1]
theorem Eg {j:Nat} (h:¬0 < j∨lt d[j]! d[j - 1]! =false):shiftDown lt j d=d:=by
 cases j with
 | zero=>rfl
 | succ j=>simp only [qR] at*; rw [shiftDown]; rcases h with h | h <;> first | omega | simp [h]
theorem Ra {b j:Nat} (h:j < b) (h1:lt d[j]! d[j - 1]! =true):shiftUp lt b j d=shiftUp lt b (j+1) (swp d j<|j - 1):=by
 rw [shiftUp]; simp [h,h1]
theorem Ez {b j:Nat} (h:¬j < b∨lt d[j]! d[j - 1]! =false):shiftUp lt b j d=d:=by
 rw [shiftUp]; rcases h with h | h <;> simp [h]
theorem P6 {i j:Nat} (h:i < j):reverseLoop i j d=reverseLoop (i+1) (j - 1) (swp d i j):=by rw [reverseLoop,if_pos h]
theorem P7 {i j:Nat} (h:¬i < j):reverseLoop i j d=d:=by rw [reverseLoop,if_neg h]
theorem DV {a i j i2 c:Nat} (h1:scanUp (fun x=>lt x d[a]!) d j i=i2) (h2:scanDown (fun x=> !lt x d[a]!) d i2 j=c) (hi:i≤i2) (q:c≤j):
 partLoop lt a i j d=if i2 > c then (c,d) else if (c - 1)+1 - (i2+1) < j+1 - i then partLoop lt a (i2+1) (c - 1) (swp d i2 c) else (c,d):=by
 rw [partLoop]; simp only [h1,h2]; split <;> first | rfl | (split <;> rfl)
theorem DR {a i j i2 c:Nat} (h1:scanUp (fun x=> !lt d[a]! x) d j i=i2) (h2:scanDown (fun x=>lt d[a]! x) d i2 j=c):
 partEqLoop lt a i j d=if i2 > c then (i2,d) else if (c - 1)+1 - (i2+1) < j+1 - i then partEqLoop lt a (i2+1) (c - 1) (swp d i2 c) else (i2,d):=by
 rw [partEqLoop]; simp only [h1,h2]; split <;> first | rfl | (split <;> rfl)
end
def bF (x y:Nat):Bool:=decide (x < y)
theorem rU:Go.Sort.SWO bF:=⟨fun x=>by simp [bF],fun x y z=>by simp only [bF,decide_eq_true_eq]; omega,fun x y z=>by simp only [bF,decide_eq_false_iff_not]; omega⟩
def aR (n:Nat):Value:= .int .u16 n
section
variable {P:Program} {N:Fm} {σ:Nat→Value} {w:World} {dst:Option Nat} {ty:TypeId} {pos :String} {af:Array Edge} {g:Option (Nat×Bool)} {x y:Operand}
theorem vS {t A:TypeId} {k:IntKind} {a b v:Int} (i:ev N σ x= .int k a) (q:ev N σ y= .int k b) (c:k.wrap (eN k.bits a ^^^ eN k.bits b).toNat=v):
 (execOp (ev N σ) ⟨dst,.binOp .xor t x y A,ty,pos,af,g⟩).run P w= .ok (.value<|.int k v) w:=by
 subst c; simp [execOp,i,q,eqGuard,binOp,sK]
end
theorem EX (x:Int):0≤dy.wrap x∧dy.wrap x < 18446744073709551616:=by
 have h:dy.wrap x=x % 18446744073709551616:=by
  simp [IntKind.wrap,IntKind.bits,IntKind.signed]
 rw [h]; omega
theorem Hn (r:Int) (m:Nat) (hm:0 < m∧m≤1099511627776):∃ o:Nat,o≤m - 1∧dy.wrap (eN dy.bits r &&& eN dy.bits ((m:Int) - 1)).toNat=(o:Int):=by
 refine ⟨(eN dy.bits r &&& eN dy.bits ((m:Int) - 1)).toNat,?_,?_⟩
 · rw [FD]
   refine e9 Nat.and_le_right ?_
   have h1:(m:Int) - 1=((m - 1:Nat):Int):=ab
   rw [h1,ny]
   have h2:(dy.bits:Nat)=64:=rfl
   rw [h2]
   omega
 · exact mQ (by have :=(eN dy.bits r &&& eN dy.bits ((m:Int) - 1)).isLt; have h2:(dy.bits:Nat)=64:=aa; rw [h2] at this ⊢; omega)
def jo (n:Nat):Nat:=if n=0 then 0 else Nat.log2 n+1
theorem Dc:∀ n:Fin 256,n.val≠0→n.val < 2 ^ jo n.val∧2 ^ jo n.val≤2 *n.val∧jo n.val≤8:=by decide+kernel
theorem uc {n:Nat} (h:n < 256):jo n≤8:=by
 rcases Nat.eq_zero_or_pos n with rfl | a
 · decide
 · exact (Dc ⟨n,h⟩<|by simp; omega).2.2
theorem N8 {n:Nat} (h:n < 256) (a:0 < n):n < 2 ^ jo n∧2 ^ jo n≤2 *n:=by
 have :=Dc ⟨n,h⟩<|by simp; omega
 exact ⟨this.1,this.2.1⟩
end Go.Hb
end
namespace Go.Hb
def fN:List Nat→List Nat
 | []=> []
 | [x]=> [x]
 | x::y::l=>if x=y then fN (y::l) else x::fN (y::l)
theorem KN (x y:Nat):∀ l:List Nat,fN (l++ [x,y])=if x=y then fN (l++ [x]) else fN (l++ [x])++ [y]:=by
 intro l
 induction l with
 | nil=>by_cases h:x=y <;> simp [fN,h]
 | cons a l c=>
   cases l with
   | nil=>by_cases h:a=x <;> by_cases h2:x=y <;> simp_all [fN]
   | cons b l=>
     simp only [zH] at c ⊢
     rw [fN,c,fN]
     by_cases h:a=b <;> by_cases h2:x=y <;> simp [h,h2]
theorem BA (x:Nat):∀ l:List Nat,x∈fN l↔x∈l:=by
 intro l
 induction l with
 | nil=>simp [fN]
 | cons a l c=>
   cases l with
   | nil=>simp [fN]
   | cons b l=>
     rw [fN]
     by_cases h:a=b
     · subst h; rw [if_pos rfl,c]; simp
     · rw [if_neg h,eY,c,eY (a:=x) (b:=a)]
theorem KM:∀ l:List Nat,l.Pairwise (·≤·)→(fN l).Pairwise (· < ·):=by
 intro l
 induction l with
 | nil=>intro _; exact List.Pairwise.nil
 | cons a l i=>
   intro h
   cases l with
   | nil=>simp [fN]
   | cons b l=>
     rw [nE] at h
     rw [fN]
     by_cases h1:a=b
     · rw [if_pos h1]; exact i h.2
     · rw [if_neg h1,nE]
       refine ⟨fun y c=> ?_,i h.2⟩
       have c:=(BA y _).1 c
       have h2:=h.1 b<|by simp
       rcases eY.1 c with rfl | c
       · omega
       · have :=(nE.1 h.2).1 y c; omega
theorem Qa:∀ l m:List Nat,l.Pairwise (· < ·)→m.Pairwise (· < ·)→(∀ x,x∈l↔x∈m)→l=m:=by
 intro l
 induction l with
 | nil=>
   intro m _ _ h
   cases m with
   | nil=>rfl
   | cons y m=>have :=(h y).2 (by simp); cases this
 | cons a l q=>
   intro m i hm h
   cases m with
   | nil=>have :=(h a).1 (by simp); cases this
   | cons y m=>
     rw [nE] at i hm
     have e:a=y:=by
      have h1:=(h a).1<|by simp
      have h2:=(h y).2<|by simp
      rcases eY.1 h1 with h1 | h1
      · exact h1
      · rcases eY.1 h2 with h2 | h2
        · exact h2.symm
        · have :=i.1 y h2; have :=hm.1 a h1; omega
     subst e
     congr 1
     refine q m i.2 hm.2 fun x=> ?_
     constructor
     · intro c
       have :=i.1 x c
       rcases eY.1 ((h x).1<|oq _ c) with h1 | h1
       · omega
       · exact h1
     · intro c
       have :=hm.1 x c
       rcases eY.1 ((h x).2<|oq _ c) with h1 | h1
       · omega
       · exact h1
def kN (x:Nat):List Nat→List Nat
 | []=> [x]
 | y::l=>if x < y then x::y::l else if x=y then y::l else y::kN x l
def j7 (l:List Nat):List Nat:=l.foldr kN []
theorem CX (x y:Nat):∀ l:List Nat,y∈kN x l↔y=x∨y∈l:=by
 intro l
 induction l with
 | nil=>simp [kN]
 | cons a l c=>
   rw [kN]
   split
   · simp
   · split
     · rename_i h; subst h; simp
     · rw [eY,c,eY]
       constructor <;> (rintro (h | h | h) <;> simp [h])
theorem NA (x:Nat):∀ l:List Nat,l.Pairwise (· < ·)→(kN x l).Pairwise (· < ·):=by
 intro l
 induction l with
 | nil=>intro _; simp [kN]
 | cons a l q=>
   intro h
   rw [kN]
   rw [nE] at h
   split
   · rename_i i
     rw [nE,nE]
     exact ⟨fun y c=>by rcases eY.1 c with rfl | c; exact i; have :=h.1 y c; omega,h⟩
   · split
     · rw [nE]; exact h
     · rw [nE]
       exact ⟨fun y c=>by rcases (CX x y l).1 c with rfl | c; omega; exact h.1 y c,q h.2⟩
theorem yt (x:Nat):∀ l:List Nat,x∈j7 l↔x∈l:=by
 intro l
 induction l with
 | nil=>simp [j7]
 | cons a l c=>show x∈kN a (j7 l)↔_; rw [CX,c,eY]
theorem yu:∀ l:List Nat,(j7 l).Pairwise (· < ·):=by
 intro l
 induction l with
 | nil=>exact List.Pairwise.nil
 | cons a l c=>exact NA a _ c
theorem DL {l m:List Nat} (hm:m.Pairwise (· < ·)) (h:∀ x,x∈m↔x∈l):m=j7 l:=Qa _ _ hm (yu l) fun x=>by rw [h,yt]
theorem O6 {l:List Nat} (h:l.Pairwise (· < ·)):j7 l=l:=(DL h fun _=>Iff.rfl).symm
theorem Nz (x:Nat):∀ l:List Nat,(kN x l).length≤l.length+1:=by
 intro l
 induction l with
 | nil=>simp [kN]
 | cons a l c=>rw [kN]; split <;> (try split) <;> simp only [bV] <;> omega
theorem O5:∀ l:List Nat,(j7 l).length≤l.length:=by
 intro l
 induction l with
 | nil=>simp [j7]
 | cons a l c=>have :=Nz a (j7 l); show (kN a<|j7 l).length≤_; simp only [bV]; omega
theorem qn (d:Array Nat):d.toList.length=d.size:=by simp
theorem su (d:Array Nat) (i:Nat):d.toList.getD i 0=d[i]! :=by
 rw [cX,zc]
 by_cases h:i < d.size
 · rw [u6 h,getElem!_pos d i h]; rfl
 · rw [qA ab,getElem!_neg d i h]; rfl
theorem uN {d:Array Nat} {i:Nat} (h:i < d.size):d.toList.take (i+1)=d.toList.take i++ [d[i]!]:=by
 rw [ky d.toList i 0 (by simpa using h),su]
theorem tG {d:Array Nat} {q:Nat} (h1:1≤q) (h:q < d.size):fN (d.toList.take<|q+1)=if d[q - 1]! =d[q]! then fN (d.toList.take q) else fN (d.toList.take q)++ [d[q]!]:=by
 obtain ⟨q,rfl⟩:∃ k,q=k+1:=⟨q - 1,ab⟩
 rw [uN h,uN ab,dK,qR]
 exact KN _ _ _
theorem QK {d:Array Nat} (h:qI bF 0 d.size d):d.toList.Pairwise (·≤·):=by
 rw [List.pairwise_iff_getElem]
 intro i j hi a c
 have :=h i j (Nat.zero_le _) c<|by simpa using a
 rw [← su,← su,cX,cX,cj hi,cj a] at this
 simp only [bF,decide_eq_false_iff_not,Option.getD_some] at this
 omega
theorem QI {l:List Nat} {d:Array Nat} (hp:Go.Sort.PermIn 0 l.length l.toArray d) (hs:qI bF 0 l.length d):fN d.toList=j7 l:=by
 have a:d.size=l.length:=by rw [hp.1]; simp
 have c:d.toList.Perm l:=by
  have :=hp.2.2
  rw [show (d.extract 0 l.length).toList=d.toList from by rw [Array.toList_extract]; simp [fq (show d.toList.length≤l.length by simp [a])]] at this
  simpa using this
 exact DL (KM _<|QK<|by rw [a]; exact hs) fun x=>by rw [BA]; exact c.mem_iff
theorem tI {d d2:Array Nat} {k j:Nat} (h:d.toList.drop k=d2.toList.drop k) (hk:k≤j):d[j]! =d2[j]! :=by
 have :=congrArg (fun l=>l.getD (j - k) 0) h
 simp only [cX,sQ,show k+(j - k)=j from by omega] at this
 rw [← su,← su]; simpa [cX] using this
theorem set_drop {d:Array Nat} {k m v:Nat} (h:k < m):(d.setIfInBounds k v).toList.drop m=d.toList.drop m:=by
 rw [ze,List.drop_set,if_pos h]
theorem yL {d:Array Nat} {k v:Nat} (h:k < d.size):(d.setIfInBounds k v).toList.take (k+1)=d.toList.take k++ [v]:=by
 rw [ze,List.set_eq_take_append_cons_drop,if_pos (by simpa using h),sY,ec,sD,mY ab,GJ,fq (by rw [ec]; omega)]
 rfl
theorem x9 {h:Array Obj} {a:Option Addr} {d:Array Nat} {i j:Nat} {f:Nat→Value} (c:aE h a ((LE f d).drop i)) (hi:i+j < d.size):Hb.aI h (bk a) (fo a+j*1)=some (f d[i+j]!):=by
 refine c.jj ?_
 rw [sQ]; exact C8 hi
theorem ya {d:Array Nat} {i:Nat} {f:Nat→Value} (h:i < d.size):(LE f d).drop i≠[]:=by
 intro e; have :=congrArg k3 e; rw [fU,rT,fV] at this; omega
def gE (b:UInt8):Bool:=decide (33≤b.toNat∧b.toNat≤126∧b.toNat≠47∧b.toNat≠44∧b.toNat≠35)
noncomputable def ei (kind:Nat) (s:List UInt8):Nat:=
 if kind=1 then (if s.length=1∧gE (s.getD 0 0)=true then (s.getD 0 0).toNat else 0)
 else if kind=2 then (if s.length=2∧gE (s.getD 0 0)=true∧gE (s.getD 1 0)=true then 256 *(s.getD 0 0).toNat+(s.getD 1 0).toNat else 0)
 else (eR s 65535).1
def gh (c:UInt8):List UInt8→List UInt8→List (List UInt8)
 | acc,[]=> [acc]
 | acc,b::l=>if b=c then acc::gh c [] l else gh c (acc++ [b]) l
theorem QR (c:UInt8):∀ (l acc:List UInt8),(gh c acc l).length≤l.length+1:=by
 intro l
 induction l with
 | nil=>intro acc; simp [gh]
 | cons b l a=>
   intro acc; rw [gh]; split
   · have :=a []; simp only [bV]; omega
   · have :=a (acc++ [b]); simp only [bV]; omega
theorem QS (c:UInt8):∀ (l acc x:List UInt8),x∈gh c acc l→x.length≤acc.length+l.length:=by
 intro l
 induction l with
 | nil=>intro acc x h; simp only [gh,lI] at h; subst h; simp
 | cons b l a=>
   intro acc x h
   rw [gh] at h
   split at h
   · rcases eY.1 h with rfl | h
     · simp
     · have :=a [] x h; simp only [fV,bV] at*; omega
   · have :=a _ x h; rw [bJ,iH] at this; simp only [bV]; omega
def na (k:Nat):Nat→List UInt8→List (List UInt8)
 | 0,_=> []
 | f+1,s=>if s= [] then [] else s.take k::na k f (s.drop k)
def chunks (k:Nat) (s:List UInt8):List (List UInt8):=na k s.length s
theorem Jo {k:Nat} (hk:0 < k):∀ (f g:Nat) (s:List UInt8),s.length≤f→s.length≤g→na k f s=na k g s:=by
 intro f
 induction f with
 | zero=>intro g s h _; obtain rfl :=gr (by omega :s.length=0); cases g <;> simp [na]
 | succ f a=>
   intro g s h1 h2
   cases g with
   | zero=>obtain rfl :=gr (by omega :s.length=0); simp [na]
   | succ g=>
     rw [na,na]
     by_cases hs:s= []
     · simp [hs]
     · have c:=mW.2 hs
       rw [if_neg hs,if_neg hs,a g (s.drop k) (by rw [fU]; omega) (by rw [fU]; omega)]
theorem wT (k:Nat):chunks k []= []:=rfl
theorem wS {k:Nat} {s:List UInt8} (hk:0 < k) (hs:s≠[]):chunks k s=s.take k::chunks k (s.drop k):=by
 have a:=mW.2 hs
 unfold chunks
 obtain ⟨m,hm⟩:∃ m,s.length=m+1:=⟨s.length - 1,ab⟩
 rw [hm,na,if_neg hs,Jo hk m (s.drop k).length (s.drop k) (by rw [fU]; omega) (cw _)]
theorem Jr {k:Nat} (hk:0 < k):∀ (n:Nat) (s:List UInt8),s.length≤n→(chunks k s).length≤s.length:=by
 intro n
 induction n with
 | zero=>intro s h; obtain rfl :=gr (by omega :s.length=0); simp [wT]
 | succ n a=>
   intro s h
   by_cases hs:s= []
   · subst hs; simp [wT]
   · have c:=mW.2 hs
     rw [wS hk hs,bV]
     have :=a (s.drop k)<|by rw [fU]; omega
     rw [fU] at this; omega
theorem Js {k:Nat} (hk:0 < k):∀ (n:Nat) (s x:List UInt8),s.length≤n→x∈chunks k s→x.length≤s.length:=by
 intro n
 induction n with
 | zero=>intro s x h a; obtain rfl :=gr (by omega :s.length=0); cases a
 | succ n c=>
   intro s x h a
   by_cases hs:s= []
   · subst hs; cases a
   · have i:=mW.2 hs
     rw [wS hk hs] at a
     rcases eY.1 a with rfl | a
     · rw [ec]; omega
     · have :=c (s.drop k) x (by rw [fU]; omega) a
       rw [fU] at this; omega
def dW (kind:Nat) (s:List UInt8):List (List UInt8):=if kind=3 then gh 44 [] s else chunks kind s
theorem PB {kind:Nat} {s:List UInt8} (hk:0 < kind):(dW kind s).length≤s.length+1:=by
 unfold dW; split
 · exact QR _ _ _
 · have :=Jr hk s.length s (cw _); omega
theorem PC {kind:Nat} {s x:List UInt8} (hk:0 < kind) (h:x∈dW kind s):x.length≤s.length:=by
 unfold dW at h; split at h
 · have :=QS _ _ _ _ h; simpa using this
 · exact Js hk _ _ _ (cw _) h
noncomputable def ez (kind:Nat) (s:List UInt8):List Nat×Nat:=
 if s= [] then ([],31) else if ∃ x∈dW kind s,ei kind x=0 then ([],31) else if 64 < (dW kind s).length then ([],32) else (j7 ((dW kind s).map<|ei kind),0)
noncomputable def gR (kind:Nat) (s:List UInt8):Nat×Nat:=if ei kind s=0 then (0,31) else (ei kind s,0)
theorem Mj (kind:Nat) (s:List UInt8):ei kind s < 65536:=by
 unfold ei
 have a:=iS<|s.getD 0 0
 have h1:=iS<|s.getD 1 0
 split
 · split <;> omega
 · split
   · split <;> omega
   · unfold eR; split
     · exact Nat.zero_lt_succ _
     · rename_i h; simp only; omega
theorem qy {n:Int} (h:0≤n∧n≤65535):mU.wrap n=n:=IntWalk.u16_in n h
theorem Qv {x:Nat} (h:x < 256):mU.wrap ((x:Int)*2 ^ min (8:Int).toNat mU.bits)=((256 *x:Nat):Int):=by
 have h2:((x:Int)*2 ^ min (8:Int).toNat mU.bits)=((256 *x:Nat):Int):=by
  show (x:Int)*256=_
  omega
 rw [h2]; exact qy ab
theorem Pe {x y:Nat} (h:x < 256) (q:y < 256):mU.wrap (eN mU.bits ((256 *x:Nat):Int) ||| eN mU.bits ((y:Nat):Int)).toNat=((256 *x+y:Nat):Int):=by
 have h1:(eN mU.bits ((256 *x:Nat):Int) ||| eN mU.bits ((y:Nat):Int)).toNat=256 *x+y:=by
  have i:(mU.bits:Nat)=16:=rfl
  rw [FE,ny,ny,i]
  have a:(((256 *x:Nat):Int) % ((2 ^ 16:Nat):Int)).toNat=2 ^ 8 *x:=ab
  have c:(((y:Nat):Int) % ((2 ^ 16:Nat):Int)).toNat=y:=ab
  rw [a,c,← Nat.two_pow_add_eq_or_of_lt (show y < 2 ^ 8 by omega)]
 rw [h1]; exact qy ab
theorem O1 (s:List UInt8):(eR s 65535).1≤65535:=by
 unfold eR; split
 · exact Nat.zero_le _
 · simp only; omega
theorem Jq (s:List UInt8) (i k:Nat):(s.take (min ((i+k:Nat):Int) (s.length:Int)).toNat).drop (i:Int).toNat=(s.drop i).take k:=by
 rw [jv,show (min ((i+k:Nat):Int) (s.length:Int)).toNat=min (i+k) s.length from by omega,vw]
 by_cases h:i+k≤s.length
 · rw [mY h,GJ]
 · rw [Nat.min_eq_right ab,fq (by rw [fU]; omega),fq (by rw [fU]; omega)]
theorem Et (c:UInt8):∀ (l acc:List UInt8),l.idxOf c < l.length→gh c acc l=(acc++l.take (l.idxOf c))::gh c [] (l.drop<|l.idxOf c+1):=by
 intro l
 induction l with
 | nil=>intro acc h; simp at h
 | cons b l i=>
   intro acc h
   rw [gh]
   by_cases a:b=c
   · subst a; rw [if_pos rfl]; simp
   · rw [if_neg a]
     have hi:(b::l).idxOf c=l.idxOf c+1:=by rw [sR,show (b==c)=false from by simpa using a]; rfl
     rw [hi] at h ⊢
     simp only [bV] at h
     rw [i _ ab]
     simp [dK]
theorem QT (c:UInt8):∀ (l acc:List UInt8),¬c∈l→gh c acc l= [acc++l]:=by
 intro l
 induction l with
 | nil=>intro acc _; simp [gh]
 | cons b l a=>
   intro acc h
   rw [eY,not_or] at h
   rw [gh,if_neg (fun e=>h.1 e.symm),a _ h.2]; simp
theorem yQ (c:UInt8):∀ (l acc:List UInt8),(gh c acc l).length=l.count c+1:=by
 intro l
 induction l with
 | nil=>intro acc; simp [gh]
 | cons b l i=>
   intro acc
   rw [gh]
   by_cases a:b=c
   · subst a; rw [if_pos rfl,bV,i]; simp
   · rw [if_neg a,i,List.count_cons_of_ne a]
theorem KD {c:UInt8} {l:List UInt8} (h:l.idxOf c < l.length):(l.drop<|l.idxOf c+1).count c+1=l.count c:=by
 have h1:=yQ c l []
 rw [Et c l [] h,bV,yQ] at h1
 omega
def gN (n:Nat):Value:= .int .i64 n
end Go.Hb
section
namespace Go.Hb
def gQ (b:UInt8):Bool:=decide (33≤b.toNat∧b.toNat≠127)
def gk (w:List UInt8):Bool:=w.all gQ
def np (w:List UInt8):Bool:=decide (1≤w.length∧w.length≤64∧gk w=true)
theorem e6 {α:Type} {l:List α} {i:Nat} {d:α} (h:i < l.length):l.getD i d∈l:=by
 rw [cX,cj h]; exact List.getElem_mem h
theorem oR {α:Type} {l:List α} {x:α} (d:α) (h:x∈l):∃ i,i < l.length∧l.getD i d=x:=by
 obtain ⟨i,hi,rfl⟩:=Gv.1 h
 exact ⟨i,hi,by rw [cX,cj hi]; rfl⟩
theorem Af {α:Type} {f:α→Bool} {l:List α} {i:Nat} (d:α) (h:i < l.length) (h1:f (l.getD i d)=false):l.all f=false :=by
 rw [List.all_eq_false]; exact ⟨_,e6 h,by rw [h1]; exact c7⟩
theorem Ag {α:Type} {f:α→Bool} {l:List α} (d:α) (h:∀ i,i < l.length→f (l.getD i d)=true):l.all f=true :=by
 rw [kD]; intro x a; obtain ⟨i,hi,rfl⟩:=oR d a; exact h i hi
theorem tw {w:List UInt8} {i:Nat} (h:i < w.length) (h1:gQ (w.getD i 0)=false):gk w=false :=Af 0 h h1
theorem tx {w:List UInt8} (h:∀ i,i < w.length→gQ (w.getD i 0)=true):gk w=true :=Ag 0 h
theorem HU (b:UInt8):gk [b]=gQ b:=by unfold gk; simp
def oL (b:UInt8):Bool:=decide (b.toNat=92∨b.toNat=47∨b.toNat=35)
abbrev kF:Type :=List UInt8×List UInt8×Bool×Nat
def PM (r:kF):Value:= .tuple #[str r.1,str r.2.1,.bool r.2.2.1,.int .i64 r.2.2.2]
def ik:List UInt8→List UInt8→kF
 | acc,[]=>(acc,[],false,0)
 | acc,[b]=>if b.toNat=47 then (acc,[],true,0) else if b.toNat=92 then ([],[],false,20) else (acc++ [b],[],false,0)
 | acc,b::c::l=>if b.toNat=47 then (acc,c::l,true,0) else if b.toNat=92 then (if oL c=true then ik (acc++ [c]) l else ([],[],false,20)) else ik (acc++ [b]) (c::l)
theorem y6 (acc:List UInt8):ik acc []=(acc,[],false,0):=by simp [ik]
theorem Fk {acc l:List UInt8} {b:UInt8} (h:b.toNat=47):ik acc (b::l)=(acc,l,true,0):=by
 cases l <;> simp [ik,h]
theorem Fh {acc:List UInt8} {b:UInt8} (h:b.toNat=92):ik acc [b]=([],[],false,20):=by simp [ik,h]
theorem Fi {acc l:List UInt8} {b c:UInt8} (h:b.toNat=92) (a:oL c=false):ik acc (b::c::l)=([],[],false,20):=by simp [ik,h,a]
theorem Fg {acc l:List UInt8} {b c:UInt8} (h:b.toNat=92) (a:oL c=true):ik acc (b::c::l)=ik (acc++ [c]) l:=by simp [ik,h,a]
theorem Fj {acc l:List UInt8} {b:UInt8} (h:¬b.toNat=47) (h1:¬b.toNat=92):ik acc (b::l)=ik (acc++ [b]) l:=by
 cases l <;> simp [ik,h,h1]
theorem Sc (n:Nat):∀ (l acc:List UInt8),l.length≤n→(ik acc l).1.length≤acc.length+l.length∧(ik acc l).2.1.length≤l.length:=by
 induction n with
 | zero=>intro l acc h; obtain rfl :=gr (by omega :l.length=0); rw [y6]; exact ⟨by simp,by simp⟩
 | succ n a=>
   intro l acc h
   cases l with
   | nil=>rw [y6]; exact ⟨by simp,by simp⟩
   | cons b l=>
     simp only [bV] at h ⊢
     by_cases h1:b.toNat=47
     · rw [Fk h1]; exact ⟨by simp only; omega,by simp only; omega⟩
     · by_cases h2:b.toNat=92
       · cases l with
         | nil=>rw [Fh h2]; exact ⟨by simp,by simp⟩
         | cons c l=>
           simp only [bV] at h ⊢
           cases hc:oL c
           · rw [Fi h2 hc]; exact ⟨by simp,by simp⟩
           · rw [Fg h2 hc]
             have :=a l (acc++ [c]) ab
             rw [bJ,iH] at this
             omega
       · rw [Fj h1 h2]
         have :=a l (acc++ [b]) ab
         rw [bJ,iH] at this
         omega
def bA (f:List UInt8):kF:=ik [] f
theorem uW (f:List UInt8):(bA f).1.length≤f.length∧(bA f).2.1.length≤f.length:=by
 have :=Sc f.length f []<|cw _
 simpa [bA] using this
def lets (s:List UInt8):List UInt8:=s.foldl (fun a b=>if b∈a then a else a++ [b]) []
def letE (s:List UInt8):List UInt8×Nat:=if s= []∨gk s=false then ([],21) else (lets s,0)
theorem ud {s:List UInt8} {i:Nat} (h:i < s.length):lets (s.take<|i+1)=if s.getD i 0∈lets (s.take i) then lets (s.take i) else lets (s.take i)++ [s.getD i 0]:=by
 unfold lets
 rw [ky s i 0 h,zL]; rfl
theorem De (s:List UInt8):(lets s).length≤s.length:=by
 have key:∀ (s a:List UInt8),(s.foldl (fun a b=>if b∈a then a else a++ [b]) a).length≤a.length+s.length:=by
  intro s
  induction s with
  | nil=>intro a; simp
  | cons b s c=>
    intro a
    rw [qN,bV]
    split
    · have :=c a; omega
    · have :=c (a++ [b]); rw [bJ,iH] at this; omega
 have :=key s []
 simpa [lets] using this
def marksOf (a:List UInt8):List Value:=(gH 256).map fun k=> .bool<|decide (jd k∈a)
theorem Dn (a:List UInt8):(marksOf a).length=256:=by simp [marksOf]
theorem Oz (a:List UInt8) (b:UInt8):(marksOf a)[b.toNat]? =some (.bool<|decide (b∈a)):=by
 have :=iS b
 unfold marksOf
 rw [gu,vA ab]
 simp
theorem OB (a:List UInt8) (b:UInt8):(marksOf a).set b.toNat (.bool true)=marksOf (a++ [b]):=by
 apply nB
 intro k
 rw [jR,Dn]
 unfold marksOf
 rw [gu,gu]
 by_cases hk:k < 256
 · rw [vA hk]
   simp only [kE]
   have he:(jd k=b)↔b.toNat=k:=by
    constructor
    · rintro rfl; simp; omega
    · rintro rfl; simp
   by_cases h:b.toNat=k
   · have h2:=he.2 h
     simp [h,hk,h2]
   · have h2:¬jd k=b:=fun e=>h<|he.1 e
     simp [h,h2]
 · have :(gH 256)[k]? =none:=qO<|by simp; omega
   have c:=iS b
   rw [this]
   simp; omega
theorem OA:marksOf []=iK 256 (.bool false):=by
 unfold marksOf
 apply nB
 intro k
 rw [gu,List.getElem?_replicate]
 by_cases hk:k < 256
 · rw [vA hk]; simp [hk]
 · rw [qO (by simp; omega)]; simp [hk]
theorem Bd.new {T e b:Nat} {w:World} (h:w.heap[b]? =some (.cells [vo none,.slice none 0 0].toArray T (0,0))):Bd T e w b (.slice none 0 0) []:=
 ⟨⟨none,h,.inl rfl⟩,dJ _ _ _ _,by simp⟩
theorem Bd.step {T e b:Nat} {a w w':World} {c:Value} {l:List UInt8} (h:Bd T e w b c l) (i:Wk a w) (q:Md (BF b c) w w') (C:a.heap.size≤b):Wk a w':=
 Md.trans' i q fun k hk A=>by have :=h.gB A; omega
theorem Bd.yU {T e b:Nat} {a w w':World} {c:Value} {l:List UInt8} (h:Bd T e w b c l) (i:Wk a w) (q:Md (fun k=>c.ownBlock=some k) w w') (C:a.heap.size≤b):Wk a w':=
 Md.trans' i q fun k hk A=>by have :=h.gB (.inr A); omega
end Go.Hb
end
section
set_option linter.unusedSimpArgs false
namespace Go.Hb
def nM (g:Nat→Bool):Nat→Nat
 | 0=>0
 | n+1=>nM g n ||| (if g n=true then 2 ^ n else 0)
theorem HH (g:Nat→Bool):∀ n,nM g n < 2 ^ n:=by
 intro n
 induction n with
 | zero=>exact Nat.zero_lt_one
 | succ n a=>
   rw [nM]
   refine zS (Nat.lt_trans a<|vF aw<|qS n) ?_
   split
   · exact vF aw<|qS n
   · exact Nat.two_pow_pos _
theorem q8 (g:Nat→Bool) (j:Nat):∀ n,(nM g n).testBit j=(decide (j < n) && g j):=by
 intro n
 induction n with
 | zero=>simp [nM]
 | succ n i=>
   rw [nM,GL,i]
   by_cases c:j=n
   · subst c
     cases h:g j <;> simp [Nat.testBit_two_pow_self]
   · have a:(if g n=true then 2 ^ n else 0).testBit j=false :=by
      split
      · rw [GM]; simp; omega
      · simp
     rw [a,FF]
     congr 1
     exact decide_eq_decide.2 ab
theorem tu {g:Nat→Bool} {x:Nat} (c:x < 2 ^ 64) (h:∀ j,j < 64→x.testBit j=g j):x=nM g 64:=by
 refine Nat.eq_of_testBit_eq fun j=> ?_
 rw [q8]
 by_cases a:j < 64
 · rw [h j a,decide_eq_true a,sF]
 · rw [decide_eq_false a,Bool.false_and]
   exact Nat.testBit_lt_two_pow<|pw c<|Nat.pow_le_pow_right aw ab
def dP (f:UInt8→Bool) (k:Nat):Nat:=nM (fun j=>f<|jd<|64 *k+j) 64
def dA (f:UInt8→Bool):List Value:= [.int .u64 (dP f 0),.int .u64 (dP f 1),.int .u64 (dP f 2),.int .u64 (dP f 3)]
theorem qv (f:UInt8→Bool) (k:Nat):dP f k < 18446744073709551616:=HH _ 64
theorem tC (f:UInt8→Bool):(dA f).length=4:=rfl
theorem Bi (f:UInt8→Bool):(dA f).all eW=true :=rfl
theorem wW (f:UInt8→Bool) {k:Nat} (h:k < 4):(dA f)[k]? =some (.int .u64<|dP f k):=by
 match k,h with
 | 0,_=>rfl
 | 1,_=>rfl
 | 2,_=>rfl
 | 3,_=>rfl
theorem wX:dA (fun _=>false)= [.int .u64 0,.int .u64 0,.int .u64 0,.int .u64 0]:=by
 have :∀ k,dP (fun _=>false) k=0:=fun k=>(tu (x:=0) aw fun j _=>by simp).symm
 unfold dA; simp only [this]; rfl
theorem vU (b:UInt8) {k j:Nat} (hk:k < 4) (c:j < 64):jd (64 *k+j)=b↔k=b.toNat / 64∧j=b.toNat % 64:=by
 have a:=iS b
 constructor
 · rintro rfl
   simp only [zV]
   omega
 · rintro ⟨h1,h2⟩
   refine pA.1 ?_
   simp only [zV]
   omega
theorem R5 (f:UInt8→Bool) (b:UInt8) {k:Nat} (hk:k < 4):dP (fun x=>f x || decide (x=b)) k=if k=b.toNat / 64 then dP f k ||| 2 ^ (b.toNat % 64) else dP f k:=by
 split
 · rename_i h
   refine (tu (zS (qv f k)<|vF aw ab) fun j a=> ?_).symm
   rw [GL,GM]
   have h1:(dP f k).testBit j=f (jd<|64 *k+j):=by unfold dP; rw [q8,decide_eq_true a,sF]
   rw [h1]
   congr 1
   exact decide_eq_decide.2<|by rw [vU b hk a]; omega
 · rename_i h
   refine (tu (qv f k) fun j a=> ?_).symm
   have h1:(dP f k).testBit j=f (jd<|64 *k+j):=by unfold dP; rw [q8,decide_eq_true a,sF]
   show _=(f (jd<|64 *k+j) || decide (jd (64 *k+j)=b))
   rw [h1,decide_eq_false (by rw [vU b hk a]; omega),FF]
theorem JP (f:UInt8→Bool) (b:UInt8):(dA f).set (b.toNat / 64) (.int .u64 ((dP f (b.toNat / 64) ||| 2 ^ (b.toNat % 64):Nat):Int))=dA (fun x=>f x || decide (x=b)):=by
 have a:=iS b
 apply nB
 intro k
 rw [jR,tC]
 by_cases hk:k < 4
 · rw [wW _ hk,wW _ hk,R5 f b hk]
   by_cases h:b.toNat / 64=k
   · subst h; simp [show b.toNat / 64 < 4 by omega]
   · rw [if_neg h,if_neg (fun e=>h e.symm)]
 · rw [qO (by rw [tC]; omega),qO (by rw [tC]; omega)]
   simp; omega
theorem RZ (f:UInt8→Bool) (b:UInt8):decide ((((dP f (b.toNat / 64) / 2 ^ (b.toNat % 64)) % 2:Nat):Int)=1)=f b:=by
 have a:=iS b
 have h1:(dP f<|b.toNat / 64).testBit (b.toNat % 64)=f b:=by
  unfold dP
  rw [q8,decide_eq_true (Nat.mod_lt _ aw),sF,(vU b (k:=b.toNat / 64) (j:=b.toNat % 64) ab<|Nat.mod_lt _ aw).2 ⟨rfl,rfl⟩]
 rw [← h1,Nat.testBit_eq_decide_div_mod_eq]
 exact decide_eq_decide.2 ab
theorem Aj (b:UInt8):nA.wrap (eN nA.bits (b.toNat:Int) &&& eN nA.bits 63).toNat=((b.toNat % 64:Nat):Int):=by
 have h:∀ r:Fin 256,nA.wrap (eN nA.bits ((r.val:Nat):Int) &&& eN nA.bits 63).toNat=((r.val % 64:Nat):Int):=by decide+kernel
 exact h ⟨b.toNat,iS b⟩
theorem En (b:UInt8):(b.toNat:Int).fdiv (2 ^ min (6:Int).toNat nA.bits)=((b.toNat / 64:Nat):Int):=by
 have h:∀ r:Fin 256,((r.val:Nat):Int).fdiv (2 ^ min (6:Int).toNat nA.bits)=((r.val / 64:Nat):Int):=by decide+kernel
 exact h ⟨b.toNat,iS b⟩
theorem Qu {m:Nat} (h:m < 64):dy.wrap ((1:Int)*2 ^ min ((m:Nat):Int).toNat dy.bits)=((2 ^ m:Nat):Int):=by
 have h2:(dy.bits:Nat)=64:=rfl
 rw [jv,h2,mY ab,Int.one_mul]
 have h3:(2:Nat) ^ m < 2 ^ 64:=vF aw h
 have h4:((2:Int) ^ m)=((2 ^ m:Nat):Int):=by simp
 rw [h4]
 obtain ⟨x,a⟩:∃ x:Nat,2 ^ m=x:=⟨_,rfl⟩
 rw [a] at h3 ⊢; exact mQ ab
theorem Pd {x y:Nat} (c:x < 2 ^ 64) (i:y < 2 ^ 64):dy.wrap (eN dy.bits (x:Int) ||| eN dy.bits (y:Int)).toNat=((x ||| y:Nat):Int):=by
 have a:(dy.bits:Nat)=64:=rfl
 have h1:(eN dy.bits (x:Int) ||| eN dy.bits (y:Int)).toNat=x ||| y:=by
  rw [FE,ny,ny,a]
  congr 1 <;> omega
 rw [h1]
 have :=zS c i
 obtain ⟨z,q⟩:∃ z:Nat,x ||| y=z:=⟨_,rfl⟩
 rw [q] at this ⊢; exact mQ ab
theorem Qz (x:Nat) {m:Nat} (h:m < 64):(x:Int).fdiv (2 ^ min ((m:Nat):Int).toNat dy.bits)=((x / 2 ^ m:Nat):Int):=by
 have h2:(dy.bits:Nat)=64:=rfl
 rw [jv,h2,mY ab]
 rw [show ((2:Int) ^ m)=((2 ^ m:Nat):Int) by simp,Int.fdiv_eq_ediv_of_nonneg _ (Int.natCast_nonneg _)]; rfl
theorem Hm {x:Nat} (c:x < 2 ^ 64):dy.wrap (eN dy.bits (x:Int) &&& eN dy.bits 1).toNat=((x % 2:Nat):Int):=by
 have a:(dy.bits:Nat)=64:=rfl
 have h1:(eN dy.bits (x:Int) &&& eN dy.bits 1).toNat=x % 2:=by
  rw [FD,ny,ny,a,show ((x:Int) % ((2 ^ 64:Nat):Int)).toNat=x by omega]
  exact Nat.and_one_is_mod x
 rw [h1]; exact mQ ab
section
variable {P:Program} {N:Fm} {σ:Nat→Value} {w:World} {dst:Option Nat} {ty:TypeId} {pos :String} {af:Array Edge} {g:Option (Nat×Bool)} {x:Operand}
theorem tD {t:TypeId} {k:Nat} {f:UInt8→Bool} (q:ev N σ x= .int .u64 (dP f k)):(execOp (ev N σ) ⟨dst,.unOp .xor t x,ty,pos,af,g⟩).run P w= .ok (.value<|.int .u64<|dP (fun y=> !f y) k) w:=by
 have i:=qv f k
 have h1:dy.wrap (eN dy.bits dy.max ^^^ eN dy.bits (dP f k:Int)).toNat=(dP (fun y=> !f y) k:Int):=by
  have c:(dy.bits:Nat)=64:=rfl
  have h2:(eN dy.bits dy.max ^^^ eN dy.bits (dP f k:Int)).toNat=dP (fun y=> !f y) k:=by
   rw [BitVec.toNat_xor,ny,ny,c,show (dy.max % ((2 ^ 64:Nat):Int)).toNat=2 ^ 64 - 1 from by decide,show ((dP f k:Int) % ((2 ^ 64:Nat):Int)).toNat=dP f k by omega]
   refine tu (Nat.xor_lt_two_pow aw i) fun j a=> ?_
   rw [Nat.testBit_xor,Nat.testBit_two_pow_sub_one,decide_eq_true a,Bool.true_xor]
   congr 1
   unfold dP; rw [q8,decide_eq_true a,sF]
  rw [h2]; have :=qv (fun y=> !f y) k; exact mQ ab
 have h3:(sK .xor dy dy.max (dP f k:Int)).run P w= .ok (.int .u64<|dP (fun y=> !f y) k) w:=by
  simp only [sK]
  rw [← h1]; rfl
 have h4:(zp .xor<|.int dy (dP f k:Int)).run P w= .ok (.int .u64<|dP (fun y=> !f y) k) w:=by
  simp only [zp]
  exact h3
 simp [execOp,q,h4]
end
def eI (t:List UInt8) (b:UInt8):Bool:=
 if t.length=1 then decide (t.getD 0 0=46∨t.getD 0 0=b)
 else if t.getD 1 0=94 then !decide (b∈(t.take<|t.length - 1).drop 2)
 else decide (b∈(t.take<|t.length - 1).drop 1)
def jk:List UInt8→Option (List UInt8×List UInt8)
 | []=>none
 | b::l=>if b=91 then (if l.idxOf 93 < l.length∧l.idxOf 93≠0∧¬(l.idxOf 93=1∧l.getD 0 0=94) then some (b::l.take (l.idxOf 93 +1),l.drop (l.idxOf 93 +1)) else none) else some ([b],l)
theorem Ba {s t r:List UInt8} (h:jk s=some (t,r)):r.length < s.length:=by
 cases s with
 | nil=>cases h
 | cons b l=>
   simp only [jk] at h
   split at h
   · split at h
     · simp only [eZ,s5] at h
       obtain ⟨_,rfl⟩:=h
       rw [fU,bV]; omega
     · cases h
   · simp only [eZ,s5] at h
     obtain ⟨_,rfl⟩:=h
     simp
def mz:Nat→List UInt8→Option (List<|List UInt8)
 | 0,s=>if s= [] then some [] else none
 | f+1,s=>if s= [] then some [] else match jk s with
   | none=>none
   | some (t,r)=>(mz f r).map (t:: ·)
theorem Kt:∀ (f g:Nat) (s:List UInt8),s.length≤f→s.length≤g→mz f s=mz g s:=by
 intro f
 induction f with
 | zero=>intro g s h _; obtain rfl :=gr (by omega :s.length=0); cases g <;> simp [mz]
 | succ f a=>
   intro g s h1 h2
   cases g with
   | zero=>obtain rfl :=gr (by omega :s.length=0); simp [mz]
   | succ g=>
     rw [mz,mz]
     split
     · rfl
     · cases hc:jk s with
       | none=>rfl
       | some q=>
         obtain ⟨t,r⟩:=q
         have :=Ba hc
         simp only
         rw [a g r ab ab]
def kJ (s:List UInt8):Option (List<|List UInt8):=mz s.length s
theorem Kq:kJ []=some []:=rfl
theorem Ks {s t r:List UInt8} (h:jk s=some (t,r)):kJ s=(kJ r).map (t:: ·):=by
 have a:=Ba h
 unfold kJ
 obtain ⟨m,hm⟩:∃ m,s.length=m+1:=⟨s.length - 1,ab⟩
 have hs:s≠[]:=fun e=>by rw [e] at hm; simp at hm
 rw [hm,mz,if_neg hs,h]
 simp only
 rw [Kt m r.length r ab (cw _)]
theorem Kr {s:List UInt8} (hs:s≠[]) (h:jk s=none):kJ s=none:=by
 unfold kJ
 have a:=mW.2 hs
 obtain ⟨m,hm⟩:∃ m,s.length=m+1:=⟨s.length - 1,ab⟩
 rw [hm,mz,if_neg hs,h]
def dH (s:List UInt8):List (List UInt8)×Nat:=
 if s= []∨512 < s.length then ([],40) else if s= [46] then ([],0) else match kJ s with
  | none=>([],41)
  | some xs=>if 16 < xs.length then ([],42) else (xs,0)
def jS (s:List UInt8) (i:Nat) (a:List (List UInt8)):Prop :=kJ s=(kJ<|s.drop i).map (a++ ·)
theorem jS.start (s:List UInt8):jS s 0 []:=by
 unfold jS; rw [sP]; cases kJ s <;> simp
theorem jS.step {s t r:List UInt8} {i j:Nat} {a:List (List UInt8)} (h:jS s i a) (c:jk (s.drop i)=some (t,r)) (q:r=s.drop j):jS s j (a++ [t]):=by
 subst q
 unfold jS at*
 rw [h,Ks c]
 cases kJ (s.drop j) <;> simp
theorem jS.bad {s:List UInt8} {i:Nat} {a:List (List UInt8)} (h:jS s i a) (hi:i < s.length) (c:jk (s.drop i)=none):kJ s=none:=by
 unfold jS at h
 rw [h,Kr (fun e=>by have :=congrArg k3 e; rw [fU,fV] at this; omega) c]; rfl
theorem jS.done {s:List UInt8} {i:Nat} {a:List (List UInt8)} (h:jS s i a) (hi:s.length≤i):kJ s=some a:=by
 unfold jS at h
 rw [h,k0 hi,Kq]; simp
theorem Ju {b:UInt8} {l:List UInt8} (h:b≠91):jk (b::l)=some ([b],l):=by simp [jk,h]
theorem Jv {b:UInt8} {l:List UInt8} (a:b=91) (h:l.idxOf 93 < l.length) (h1:l.idxOf 93≠0) (h2:¬(l.idxOf 93=1∧l.getD 0 0=94)):jk (b::l)=some (b::l.take (l.idxOf 93 +1),l.drop (l.idxOf 93 +1)):=by
 simp only [jk]; rw [if_pos a,if_pos ⟨h,h1,h2⟩]
theorem Jt {b:UInt8} {l:List UInt8} (a:b=91) (h:¬(l.idxOf 93 < l.length∧l.idxOf 93≠0∧¬(l.idxOf 93=1∧l.getD 0 0=94))):jk (b::l)=none:=by
 simp only [jk]; rw [if_pos a,if_neg h]
def m9 (f:UInt8→Bool) (i:Nat):List UInt8:=((gH i).map jd).filter f
def bytesOf (f:UInt8→Bool):List UInt8:=m9 f 256
theorem Av (f:UInt8→Bool) (i:Nat):m9 f (i+1)=m9 f i++(if f (jd i)=true then [jd i] else []):=by
 unfold m9
 rw [List.range_succ,iJ,List.filter_append]
 congr 1
 cases h:f (jd i) <;> simp [h]
theorem rh (f:UInt8→Bool) (i:Nat):(m9 f i).length≤i:=by
 unfold m9
 refine e9 (vC _ _) ?_
 simp
theorem HT (f:UInt8→Bool):(bytesOf f).Nodup:=by
 unfold bytesOf m9
 refine List.Nodup.sublist List.filter_sublist ?_
 rw [Gy,List.pairwise_map]
 refine SB ?_<|Gy.1 List.nodup_range
 intro a b c i q e
 have h1:=sV.1 c
 have h2:=sV.1 i
 have :=congrArg UInt8.toNat e
 simp only [zV] at this
 omega
def kv (f:UInt8→Bool):List UInt8:=
 if (bytesOf f).length=256 then [46]
 else if (bytesOf f).length=1∧(bytesOf f).getD 0 0≠46∧(bytesOf f).getD 0 0≠91 then bytesOf f
 else if f 93=true then [91,94]++bytesOf (fun b=> !f b)++ [93]
 else [91]++((bytesOf f).filter (fun b=>decide (b≠94))++(if 94∈bytesOf f then [94] else []))++ [93]
def n2 (ps:List (List UInt8)):List UInt8:=if ps= [] then [46] else ps.flatMap fun t=>kv<|eI t
theorem Em (f:UInt8→Bool):(kv f).length≤300:=by
 have h1:=rh f 256
 have h2:=rh (fun b=> !f b) 256
 unfold kv
 split
 · simp
 · split
   · unfold bytesOf; omega
   · split
     · simp only [bJ,bV,fV]; unfold bytesOf; omega
     · have h3:=vC (fun b=>decide (b≠94))<|bytesOf f
       have h4:(if 94∈bytesOf f then [(94:UInt8)] else []).length≤1:=by split <;> simp
       simp only [bJ,bV,fV]
       have h5:(bytesOf f).length≤256:=h1
       omega
theorem Nn {l:List UInt8} (hn:l.Nodup) {c:UInt8} (h:l.idxOf c < l.length):l.take (l.idxOf c)++l.drop (l.idxOf c+1)=l.filter (fun b=>decide (b≠c)):=by
 induction l with
 | nil=>simp at h
 | cons b l q=>
   rw [Gx] at hn
   by_cases a:b=c
   · subst a
     simp only [zN,nG,lJ,fF,sO,sP]
     rw [List.filter_cons_of_neg (by simp)]
     exact (Gh.2 fun x i=>by simp; rintro rfl; exact hn.1 i).symm
   · have e:(b::l).idxOf c=l.idxOf c+1:=by rw [sR,show (b==c)=false from by simpa using a]; rfl
     rw [e] at h ⊢
     simp only [bV] at h
     rw [qQ,sO,zH,q hn.2 ab,List.filter_cons_of_pos (by simpa using a)]
theorem DC {l:List UInt8} {c:UInt8} (h:¬c∈l):l.filter (fun b=>decide (b≠c))=l:=
 Gh.2 fun x a=>by simp; rintro rfl; exact h a
def jH (ps:List (List UInt8)):List Value:=ps.flatMap fun t=>dA<|eI t
theorem JO (a b:List (List UInt8)):jH (a++b)=jH a++jH b:=by simp [jH]
end Go.Hb
end
section
namespace Go.Hb
abbrev Tx:Type :=List UInt8
structure dz where
 flag:Nat
 kind:Nat
 fI:Bool
 first :Nat
 count:Nat
structure cG where
 kind:Nat
 flag:Nat
 fI:Bool
 strip:Tx
 add:Tx
 cond:Tx
 next :List Nat
 line:Nat
structure aG where
 kind:Nat
 rk:Tx
 tr:Tx
 sp:List Nat
 least:Nat
 c6:List (Tx×Tx)
 aliases:List (List Nat)
 bu:List dz
 rules:List cG
def ib:Tx:= [70,76,65,71]
def iu:Tx:= [83,69,84]
def iP:Tx:= [84,82,89]
def iX:Tx:= [78,69,69,68,65,70,70,73,88]
def jn:Tx:= [70,79,82,66,73,68,68,69,78,87,79,82,68]
def jK:Tx:= [75,69,69,80,67,65,83,69]
def j0:Tx:= [67,79,77,80,79,85,78,68,70,76,65,71]
def kr:Tx:= [78,79,83,85,71,71,69,83,84]
def kP:Tx:= [67,79,77,80,79,85,78,68,77,73,78]
def iO:Tx:= [82,69,80]
def hZ:Tx:= [65,70]
def ic:Tx:= [80,70,88]
def db:Tx:= [83,70,88]
def x7:Tx:= [115,104,111,114,116]
def x5:Tx:= [108,111,110,103]
def x6:Tx:= [110,117,109]
def fC:List Tx:= [iX,jn,jK,j0,kr]
def width (k:Tx):Nat:=if k∈fC∨k=ib∨k=iu∨k=iP∨k=kP∨k=iO∨k=hZ then 2 else if k=ic∨k=db then 4 else 0
def gl (w:Tx):Nat:=if w= []∨gk w=false then 21 else if 32 < w.length then 22 else 0
def fk (none:Bool) (fd:Tx):Except Nat Tx:=
 if none=true∧fd= [48] then .ok []
 else if (bA fd).2.2.2≠0 then .error (bA fd).2.2.2
 else if (bA fd).2.2.1=true then .error 114
 else if gl (bA fd).1≠0 then .error (gl (bA fd).1)
 else .ok (bA fd).1
def dx (cs:List dz) (x:Nat):Option dz:=cs.find? fun c=>decide (c.flag=x)
def dS (f:aG) (x:Nat):Bool:=decide (x∈f.sp) || (dx f.bu x).isSome
noncomputable def gT (f:aG) (s:Tx):Except Nat Nat:=
 if (gR f.kind s).2≠0 then .error (gR f.kind s).2 else if dS f (gR f.kind s).1=true then .error 115 else .ok (gR f.kind s).1
noncomputable def jZ (kind:Nat) (s:Tx):Except Nat (List Nat):=if (ez kind s).2≠0 then .error (ez kind s).2 else .ok (ez kind s).1
noncomputable def dZ (s:Tx) (most:Int):Except Nat Nat:=if (eR s most).2≠0 then .error 13 else .ok (eR s most).1
noncomputable def fy (kind:Nat) (al:List (List Nat)) (s:Tx):Except Nat (List Nat):=
 if al= [] then jZ kind s
 else match dZ s al.length with
  | .error _=> .error 13
  | .ok n=>if n=0 then .error 13 else .ok (al.getD (n - 1) [])
noncomputable def lY (kind:Nat) (al:List (List Nat)) (a:Nat) (r:kF):Except Nat (List Nat):=
 if r.2.2.1=true then (if a=1 then .error 118 else fy kind al r.2.1) else .ok []
def lh (row:List Tx):Except Nat Tx:=
 if row.length=5 then (if gk (row.getD 4 [])=false then .error 21 else if (dH<|row.getD 4 []).2≠0 then .error (dH<|row.getD 4 []).2 else .ok (n2 (dH<|row.getD 4 []).1)) else .ok [46]
def kg (r:kF):Except Nat Tx:=if r.2.2.2≠0 then .error r.2.2.2 else if r.1= [48] then .ok [] else if gl r.1≠0 then .error (gl r.1) else .ok r.1
noncomputable def iz (kind:Nat) (al:List (List Nat)) (c:dz) (ln:Nat) (row:List Tx):Except Nat cG:=
 if row.length≠4∧row.length≠5 then .error 111
 else match fk true (row.getD 2 []) with
  | .error e=> .error e
  | .ok st=>match kg (bA<|row.getD 3 []) with
    | .error e=> .error e
    | .ok ad=>match lY kind al c.kind (bA<|row.getD 3 []) with
      | .error e=> .error e
      | .ok nx=>match lh row with
        | .error e=> .error e
        | .ok cd=> .ok ⟨c.kind,c.flag,c.fI,st,ad,cd,nx,ln⟩
def lr (ln:Nat) (row:List Tx):Except Nat (Tx×Tx):=
 if row.length≠3 then .error 111
 else match fk false (row.getD 1 []) with
  | .error e=> .error e
  | .ok a=>match fk true (row.getD 2 []) with
    | .error e=> .error e
    | .ok b=> .ok (a,b)
noncomputable def k9 (kind:Nat) (ln:Nat) (row:List Tx):Except Nat (List Nat):=if row.length≠2 then .error 111 else jZ kind (row.getD 1 [])
def group {α:Type} (hd:List Tx) (rd:Nat→List Tx→Except Nat α) (eof:Nat):Nat→List Rw→Except (Nat×Nat) (List α×List Rw)
 | 0,rows=> .ok ([],rows)
 | _+1,[]=> .error (eof,116)
 | n+1,(ln,row)::rows=>if row.take hd.length≠hd then .error (ln,116) else match rd ln row with
   | .error e=> .error (ln,e)
   | .ok x=>match group hd rd eof n rows with
     | .error e=> .error e
     | .ok r=> .ok (x::r.1,r.2)
def j4 (s:Tx):Nat:=if s=x7 then 1 else if s=x5 then 2 else if s=x6 then 3 else 0
def ordered (hs:List Tx):Bool:= !hs.any fun h=>decide (h∈fC∨h=hZ∨h=ic∨h=db)
noncomputable def gA (eof:Nat) (f:aG) (rows:List Rw) (ln:Nat) (row:List Tx):Except (Nat×Nat) (aG×List Rw):=
 match gT f (row.getD 1 []) with
 | .error e=> .error (ln,e)
 | .ok x=>if row.getD 2 []≠[89]∧row.getD 2 []≠[78] then .error (ln,114)
   else match dZ (row.getD 3 []) 1024 with
    | .error e=> .error (ln,e)
    | .ok n=>if 1024 < f.rules.length+n then .error (ln,117)
      else match group [row.getD 0 [],row.getD 1 []] (iz f.kind f.aliases ⟨x,if row.getD 0 []=db then 2 else 1,decide (row.getD 2 []= [89]),f.rules.length,n⟩) eof n rows with
       | .error e=> .error e
       | .ok r=> .ok ({f with bu:=f.bu++ [⟨x,if row.getD 0 []=db then 2 else 1,decide (row.getD 2 []= [89]),f.rules.length,n⟩],rules:=f.rules++r.1},r.2)
noncomputable def js (f:aG) (rows:List Rw) (ln:Nat) (row:List Tx):Except (Nat×Nat) (aG×List Rw):=
 match gT f (row.getD 1 []) with
 | .error e=> .error (ln,e)
 | .ok x=> .ok ({f with sp:=f.sp.set (fC.idxOf<|row.getD 0 []) x},rows)
def j5 (f:aG) (hs:List Tx) (rows:List Rw) (ln:Nat) (row:List Tx):Except (Nat×Nat) (aG×List Rw):=
 if ordered hs=false then .error (ln,113) else if j4 (row.getD 1 [])=0 then .error (ln,114) else .ok ({f with kind:=j4<|row.getD 1 []},rows)
def l0 (f:aG) (rows:List Rw) (ln:Nat) (row:List Tx):Except (Nat×Nat) (aG×List Rw):=
 if gk (row.getD 1 [])=false then .error (ln,21) else .ok ({f with rk:=row.getD 1 []},rows)
def l1 (f:aG) (rows:List Rw) (ln:Nat) (row:List Tx):Except (Nat×Nat) (aG×List Rw):=
 if (letE<|row.getD 1 []).2≠0 then .error (ln,(letE<|row.getD 1 []).2) else .ok ({f with tr:=(letE<|row.getD 1 []).1},rows)
noncomputable def j6 (f:aG) (rows:List Rw) (ln:Nat) (row:List Tx):Except (Nat×Nat) (aG×List Rw):=
 match dZ (row.getD 1 []) 64 with
 | .error e=> .error (ln,e)
 | .ok n=>if n=0 then .error (ln,13) else .ok ({f with least:=n},rows)
noncomputable def j9 (eof:Nat) (f:aG) (rows:List Rw) (ln:Nat) (row:List Tx):Except (Nat×Nat) (aG×List Rw):=
 match dZ (row.getD 1 []) 256 with
 | .error e=> .error (ln,e)
 | .ok n=>match group [iO] lr eof n rows with
   | .error e=> .error e
   | .ok r=> .ok ({f with c6:=f.c6++r.1},r.2)
noncomputable def jG (eof:Nat) (f:aG) (hs:List Tx) (rows:List Rw) (ln:Nat) (row:List Tx):Except (Nat×Nat) (aG×List Rw):=
 if ic∈hs∨db∈hs then .error (ln,113)
 else match dZ (row.getD 1 []) 1024 with
  | .error e=> .error (ln,e)
  | .ok n=>match group [hZ] (k9 f.kind) eof n rows with
    | .error e=> .error e
    | .ok r=> .ok ({f with aliases:=f.aliases++r.1},r.2)
noncomputable def bS (eof:Nat) (f:aG) (hs:List Tx) (rows:List Rw) (ln:Nat) (row:List Tx):Except (Nat×Nat) (aG×List Rw):=
 if row.getD 0 []∈fC then js f rows ln row
 else if row.getD 0 []=ib then j5 f hs rows ln row
 else if row.getD 0 []=iu then l0 f rows ln row
 else if row.getD 0 []=iP then l1 f rows ln row
 else if row.getD 0 []=kP then j6 f rows ln row
 else if row.getD 0 []=iO then j9 eof f rows ln row
 else if row.getD 0 []=hZ then jG eof f hs rows ln row
 else gA eof f rows ln row
noncomputable def ga (eof:Nat):Nat→aG→List Tx→List Rw→Except (Nat×Nat) aG
 | 0,f,_,rows=>if rows= [] then .ok f else .error (0,0)
 | _+1,f,_,[]=> .ok f
 | k+1,f,hs,(ln,row)::rows=>
   if width (row.getD 0 [])=0 then .error (ln,110)
   else if row.length≠width (row.getD 0 []) then .error (ln,111)
   else if width (row.getD 0 [])=2∧row.getD 0 []∈hs then .error (ln,112)
   else match bS eof f hs rows ln row with
    | .error e=> .error e
    | .ok r=>ga eof k r.1 (hs++ [row.getD 0 []]) r.2
def ll (f:aG) (x:Nat):Bool:=decide (x=f.sp.getD 0 0) || (match dx f.bu x with | some c=>decide (c.kind=2) | none=>false)
def mq (f:aG) (r:cG):Bool:=r.next.any fun x=> !ll f x
def gO:aG:=⟨1,[],[],[0,0,0,0,0],3,[],[],[],[]⟩
noncomputable def fu (t:Tx):Except (Nat×Nat) aG:=
 if 65536 < t.length then .error (0,10)
 else match ga ((cV t).length+1) (et t).length gO [] (et t) with
  | .error e=> .error e
  | .ok f=>match f.rules.find? (mq f) with
    | some r=> .error (r.line,118)
    | none=> .ok f
theorem ub {α:Type} {hd:List Tx} {rd:Nat→List Tx→Except Nat α} {eof:Nat} :∀ (n:Nat) (rows:List Rw) (r:List α×List Rw),group hd rd eof n rows= .ok r→r.2.length≤rows.length∧r.1.length=n∧∀ q∈r.2,q∈rows:=by
 intro n
 induction n with
 | zero=>intro rows r h; simp only [group,o6] at h; subst h; exact ⟨cw _,rfl,fun q a=>a⟩
 | succ n c=>
   intro rows r h
   cases rows with
   | nil=>simp [group] at h
   | cons q rows=>
     obtain ⟨ln,row⟩:=q
     simp only [group] at h
     split at h
     · cases h
     · cases hr:rd ln row with
       | error e=>rw [hr] at h; cases h
       | ok x=>
         rw [hr] at h
         simp only at h
         cases hg:group hd rd eof n rows with
         | error e=>rw [hg] at h; cases h
         | ok i=>
           rw [hg] at h
           simp only [o6] at h
           subst h
           have :=c rows i hg
           refine ⟨by simp only [bV]; omega,by simp only [bV]; omega,fun q a=>oq _<|this.2.2 q a⟩
def gj {α:Type} (hd:List Tx) (rd:Nat→List Tx→Except Nat α) (eof:Nat) (T:Except (Nat×Nat) (List α×List Rw)) (xs:List α) (n:Nat) (rows:List Rw):Prop :=
 T=match group hd rd eof n rows with
  | .error e=> .error e
  | .ok r=> .ok (xs++r.1,r.2)
theorem gj.start {α:Type} {hd:List Tx} {rd:Nat→List Tx→Except Nat α} {eof n:Nat} {rows:List Rw} :gj hd rd eof (group hd rd eof n rows) [] n rows:=by
 unfold gj; cases group hd rd eof n rows <;> rfl
section
variable {α:Type} {hd:List Tx} {rd:Nat→List Tx→Except Nat α} {eof n:Nat} {T:Except (Nat×Nat) (List α×List Rw)} {xs:List α} {rows:List Rw} {ln:Nat} {row:List Tx}
theorem gj.ends (h:gj hd rd eof T xs n []) (hn:0 < n):T= .error (eof,116):=by
 obtain ⟨m,rfl⟩:∃ m,n=m+1:=⟨n - 1,ab⟩
 exact h
theorem gj.other (h:gj hd rd eof T xs n ((ln,row)::rows)) (hn:0 < n) (a:row.take hd.length≠hd):T= .error (ln,116):=by
 obtain ⟨m,rfl⟩:∃ m,n=m+1:=⟨n - 1,ab⟩
 unfold gj at h; simp only [group] at h; rw [if_pos a] at h; exact h
theorem gj.bad {e:Nat} (h:gj hd rd eof T xs n ((ln,row)::rows)) (hn:0 < n) (a:row.take hd.length=hd) (he:rd ln row= .error e):T= .error (ln,e):=by
 obtain ⟨m,rfl⟩:∃ m,n=m+1:=⟨n - 1,ab⟩
 unfold gj at h; simp only [group] at h; rw [if_neg (fun h2=>h2 a),he] at h; exact h
theorem gj.step {x:α} (h:gj hd rd eof T xs n ((ln,row)::rows)) (hn:0 < n) (a:row.take hd.length=hd) (he:rd ln row= .ok x):gj hd rd eof T (xs++ [x]) (n - 1) rows:=by
 obtain ⟨m,rfl⟩:∃ m,n=m+1:=⟨n - 1,ab⟩
 unfold gj at h ⊢; simp only [group] at h; rw [if_neg (fun h2=>h2 a),he] at h
 simp only [qR] at h ⊢
 rw [h]
 cases group hd rd eof m rows with
 | error e=>rfl
 | ok r=>simp only [dK]; rfl
theorem gj.done (h:gj hd rd eof T xs 0 rows):T= .ok (xs,rows):=by
 unfold gj at h; simpa [group] using h
end
end Go.Hb
end
