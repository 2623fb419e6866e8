/-
  Walks and plain laws that the law rests on, laid together. No conditions but those that each theorem names.
-/
import Derived.WalkKit
import Derived.OrdersHeld
import Derived.TacticsIn
import Derived.Lib.Strings
import Derived.Lib.UnsafeStr
import Derived.Laws.MakeOwn
import Derived.Laws.StructEq
import Derived.SliceStrings
import Derived.Carry
import Derived.JoinedCond
import Derived.ProofKit
import Derived.OpenShut
import Derived.Test.YtffmhpaepdkabaaGreatDoorRows
import Derived.Sort.AssemblyPlain
import Derived.RangeFuncFrom
import Derived.RangeFuncLeaves
import Derived.Recover
import Derived.Laws.OwnMore
import Derived.Lib.Bytealg
import Derived.Lib.SliceRun
import Derived.OrdersIn
import Derived.Test.YtffmhpaepdkabaaGreatDoorChecked
import Derived.Shelf.Slices.In.SortAlone
import Derived.Shelf.Slices.In.SortNone
import Derived.Sort.OwnSortedInts
import Derived.Sort.EveryDepth
set_option linter.unusedVariables false
open Array renaming ext_getElem?→E8,getD_eq_getD_getElem?→yX,getElem?_eq_getElem→uJ,getElem?_eq_none→qk,getElem?_eq_some_iff→cg,getElem?_setIfInBounds→yY,getElem?_toList→yZ,length_toList→r8,mem_toList_iff→r9,range→m9,replicate→ql,setIfInBounds_comm→y0,toArray_toList→uK,toList_inj→uL,toList_map→kJ,toList_setIfInBounds→y1
open BitVec renaming ofInt→eA,toNat_and→Fc,toNat_ofInt→na,toNat_or→Fe
open Bool renaming and_eq_true→fi,eq_iff_iff→qm,noConfusion→c8,not_eq_true'→uN,or_eq_true→y2,or_false→Ff,true_and→sc
open Except.ok renaming injEq→oR
open Go.Addr renaming add→uP
open Go.Builtin renaming append_→uQ,firstCells→Fg,lenOf→Fh,len_→Fi
open Go.Calls renaming mono→kf
open Go.Conv renaming bytesToString→Fl,seenAt→Fo,unsafePointer→Fp
open Go.DataW renaming TrodAll→Fq
open Go.Deferred renaming ofValue→nX
open Go.Fence renaming wide→gd
open Go.Instr renaming alloc→Fu,buildSlice→y4,checkKey→qn,fill→kK,findKey→uR,loadAt→Fy,lookup→Fz,slice→se,sliceAt→oT,sliceBound→oU,sliceBounds→my,storeAt→y8,sureAddr→nY
open Go.IntKind renaming i64→uS,u16→mz,u64→dq,u8→nb
open Go.Next renaming value→y9
open Go.Obj.cells renaming injEq→sg
open Go.Op renaming equalIn→uT,intArith→sh,intBits→si,intCmp→qo,stringOp→za,unary→zb
open Go.Oper renaming upon→jh,uponIn→nZ,wp→il
open Go.Region renaming Mode→oV,binds→im,free_spec→zc,noSelect_spec→zd,ready→gz,wanted→n0
open Go.Result renaming andThen_ok→nd,ok→ze
open Go.Sem renaming run_bind→ng,run_ite→zi,run_pure→n2
open Go.Sort renaming SortedIn→qp
open Go.Value renaming bool→bL,cells→qt,int→gA,oneCell'→eH,ownBlock→gh,pointer→uW,slice→bz
open Go.Value.slice renaming injEq→lg
open Go.Value.string renaming inj→FL
open Go.World renaming freeze→sr,ownsRow_nil→dI,setCell→uZ,shape?→zo
open Int renaming toNat_natCast→ji
open List.Pairwise renaming imp_of_mem→Sh
open List renaming all_cons→u4,all_eq_true→kg,any_eq_true→FQ,append_assoc→dx,append_nil→dS,cons_append→ss,drop_append→FR,drop_eq_nil_of_le→kL,drop_of_length_le→FT,drop_succ_cons→su,drop_take→u7,drop_zero→sv,eq_nil_of_length_eq_zero→gi,ext_getElem?→ni,filter_eq_self→FU,flatMap_cons→iH,foldl_append→zt,foldl_cons→qv,getD_cons_zero→lR,getD_eq_getElem?_getD→cO,getElem?_append_left→lh,getElem?_append_right→lS,getElem?_cons_succ→F1,getElem?_drop→sw,getElem?_eq_getElem→cx,getElem?_eq_none→qw,getElem?_map→fU,getElem?_range→vd,getElem?_set→jx,getElem?_take→lT,idxOf_cons→sx,idxOf_cons_self→zw,length→kM,length_append→bF,length_cons→bT,length_drop→fI,length_filter_le→vg,length_nil→gj,length_pos_iff→mB,length_singleton→iq,length_take→dT,mapM_toArray→sA,map_append→iK,map_cons→nk,mem_append_left→F6,mem_cons→eK,mem_cons_of_mem→n7,mem_iff_getElem→F8,mem_map→mD,mem_map_of_mem→sB,mem_of_getElem?→iL,mem_range→sD,mem_singleton→lj,nil_append→kN,nodup_cons→F9,nodup_iff_pairwise_ne→Ga,pairwise_cons→nm,range→gB,replicate→ir,size_toArray→lV,takeWhile_sublist→Gf,take_append→sG,take_nil→Gg,take_of_length_le→eL,take_succ_cons→qy,take_zero→nn,zipIdx_cons→vm
open Nat renaming add_assoc→Gi,add_sub_cancel→qz,add_sub_cancel_left→Gk,beq→sH,ble→lk,blt→eU,eq_of_beq_eq_true→Gl,le_of_ble_eq_true→n8,le_refl→bX,le_trans→eV,lt_of_lt_of_le→o0,lt_or_ge→gC,lt_succ_self→qA,min_eq_left→mE,mul_le_mul_right→qB,or_lt_two_pow→zz,pow_lt_pow_right→vo,succ_mul→np,testBit_or→Gm,testBit_two_pow→Gn,zero_add→fj,zero_mul→zA
open Option renaming bind_some→nq,isSome_iff_exists→nr,map_eq_some_iff→nu,map_some→kh
open Option.some renaming injEq→eM
open Prod renaming fst→kO
open Prod.mk renaming injEq→sI
open UInt8 renaming ofNat→iU,toNat_inj→o4,toNat_lt→iM,toNat_ofNat'→zC
open Go.Proofs.Tryz
open Go.RowKit

namespace Go.Hb
theorem ab {p:Prop} (h:p:=by omega):p:=h
theorem ag {p:Prop} (h:p:=by kernel_rfl):p:=h
theorem aw {p:Prop} (h:p:=by decide):p:=h
theorem aa {α:Sort _} {a:α} :a=a:=rfl
end Go.Hb
section
namespace Go.Hb
structure Fm where
 n:Nat
 D:List Deferred
 F:List Nat
 r:Option Nat
def cz (σ:Nat→Value) (d:Nat) (v:Value):Nat→Value:=fun i=>cond (sH i d) v<|σ i
def fA (σ:Nat→Value):Option Nat→Value→Nat→Value
 | some d,v=>cz σ d v
 | none,_=>σ
def act (N:Fm) (σ:Nat→Value):Act:=⟨((gB N.n).map σ).toArray,N.D⟩
def ev (N:Fm) (σ:Nat→Value):Operand→Value
 | .tmp t=>cond (eU t N.n) (σ t) undef
 | .const v=>v
 | .global g=> .pointer<|some ⟨g,0,none⟩
 | .func f=> .func (.func f) #[] #[]
theorem mK (N:Fm) (σ:Nat→Value) (t:Nat):(act N σ).tmps[t]? =if t < N.n then some (σ t) else none:=by
 simp only [act,List.getElem?_toArray,fU]
 split
 · rename_i h; rw [vd h]; rfl
 · rename_i h; rw [qw (by simpa using h)]; rfl
theorem fq (N:Fm) (σ:Nat→Value):(act N σ).eval=ev N σ:=by
 funext x
 cases x with
 | tmp t=>
   simp only [Act.eval,ev,yX,mK]
   by_cases h:t < N.n
   · rw [if_pos h,show eU t N.n=true from by simpa using h]; rfl
   · rw [if_neg h,show eU t N.n=false from by cases hx:eU t N.n <;> simp_all [eU,Nat.ble_eq] <;> omega]; rfl
 | _=>rfl
theorem sP {a b:Act} (hd:a.defers=b.defers) (c:∀ i:Nat,a.tmps[i]? =b.tmps[i]?):a=b:=by
 cases a; cases b
 simp only at hd c
 subst hd
 congr 1
 exact E8 c
theorem hZ (N:Fm) (σ:Nat→Value) (dst:Option Nat) (v:Value):(act N σ).put dst v=act N (fA σ dst v):=by
 cases dst with
 | none=>rfl
 | some d=>
   refine sP aa fun i=> ?_
   have q:((act N σ).put (some d) v).tmps=(act N σ).tmps.setIfInBounds d v:=rfl
   rw [q,yY,mK,mK]
   have hs:(act N σ).tmps.size=N.n:=by simp [act]
   simp only [fA,cz]
   by_cases c:i=d
   · subst c
     rw [hs]
     have a:sH i i=true :=by simp
     by_cases h:i < N.n
     · rw [if_pos rfl,if_pos h,if_pos h,a]; rfl
     · rw [if_pos rfl,if_neg h,if_neg h]
   · rw [if_neg (fun e=>c e.symm)]
     have a:sH i d=false :=by
      cases hx:sH i d
      · rfl
      · exact absurd (Gl hx) c
     rw [a]; rfl
theorem m3 {σ:Nat→Value} {i:Nat} {v:Value} (h:σ i=v):cz σ i v=σ:=by
 funext j
 unfold cz
 cases hx:sH j i
 · rfl
 · have :=Gl hx; subst this; exact h.symm
def lift (N:Fm) (Q:Exit→(Nat→Value)→World→Prop):Exit→Act→World→Prop
 | .panic c,a,w=> ∃ σ,a=act N σ∧∀ q,(∀ i∈N.F,q i=σ i)→Q (.panic c) q w
 | .outgrown,_,_=>False
 | e,a,w=> ∃ σ,a=act N σ∧Q e σ w
def fe:Option Nat→Fence
 | none=>gd
 | some l=>gd.inRound l
theorem xc (r:Option Nat):(fe r).round=r:=by cases r <;> rfl
theorem tB (r:Option Nat) (f:FuncId):(fe r).fn f:=by cases r <;> trivial
theorem q9 (r:Option Nat):(fe r).depth=none:=by cases r <;> rfl
theorem BC {r:Option Nat} {n:Nat} {P:Program} {f:FuncId} {args:Array Value} {w:World} {R:Ending→World→Prop} (h:Calls P f args w R):CallsIn (fe r) n P f args w R:=by
 cases r
 · exact callsIn_wide.2 h
 · exact (callsIn_wide (n:=n)).2 h
theorem xd {r:Option Nat} {n:Nat} {P:Program} {row:String} {args:Array Value} {w:World} {R:Value→World→Prop} (h:Rows P row args w R):RowsIn (fe r) n P row args w R:=fun c cs _=>by
 obtain ⟨v,w',a,hs⟩:=h c cs
 refine ⟨v,w',a,?_⟩
 cases r
 · exact stepsIn_wide.2 hs
 · exact stepsIn_wide.2 hs
def Dg (ops:List Oper):Bool:=ops.all fun o=>match o.op with | .defer _=>false | _=>true
def pX (r:Option Nat) (ops:List Oper):Bool:=match r with | none=>true | some _=>Dg ops
theorem Ox {l:List Oper} (h:Dg l=true):∀ o∈l,∀ c,o.op≠.defer c:=fun o a c e=>by
 have :=kg.1 h o a
 rw [e] at this
 cases this
theorem xM {r:Option Nat} {P:Program} {ops:Array Oper} {Q:Exit→Act→World→Prop} (A:¬LetsOut Q) (C:pX r ops.toList=true):∀ (l:List Nat) (a:Act) (w:World),wpOps P ops Q l a w→wpOpsIn (fe r) 0 P ops Q l a w:=by
 intro l
 induction l with
 | nil=>exact fun _ _ h=>h
 | cons i l q=>
   intro a w h
   simp only [wpOps] at h
   simp only [wpOpsIn]
   cases ho:ops[i]? with
   | none=>simp only [ho] at h ⊢; exact q a w h
   | some o=>
     simp only [ho] at h ⊢
     by_cases hw:n0 o (yielded ops a.tmps)=true
     · rw [if_pos hw] at h ⊢
       rcases h with h | h
       · refine ⟨fun f _=>tB r f,?_⟩
         rw [xc]
         have E:o.semAt r a.eval=execOp a.eval o:=by
          cases r with
          | none=>rfl
          | some k=>exact Oper.semAt_eq _ _ _<|Ox C o<|r9.2<|Array.mem_of_getElem? ho
         rw [E]
         unfold il at h
         generalize (execOp a.eval o).run P w=x at h
         cases x with
         | ok n w'=>
           cases n <;> simp only [jh,nZ] at h ⊢ <;>
            first
             | exact q _ _ h
             | (refine ⟨fun c=>(by rw [q9] at c; cases c),CallsIn.mono (BC h) fun e w'' he=> ?_⟩
                cases e <;> first | exact q _ _ he | exact he)
             | exact ⟨fun c=>(by rw [q9] at c; cases c),RowsIn.mono (xd h) fun v w'' he=>q _ _ he⟩
         | halt x w'=>cases x <;> simp only [jh,nZ] at h ⊢ <;> exact h
       · exact absurd h.2 A
     · rw [if_neg hw] at h ⊢
       exact ⟨fun f _=>tB r f,q _ _ h⟩
def cB (P:Program) (N:Fm) (c:Code) (Q:Exit→(Nat→Value)→World→Prop) (σ:Nat→Value) (w:World):Prop :=
 c.wpIn (fe N.r) 0 P (lift N Q) (act N σ) w
def dw (P:Program) (N:Fm) (ops:Array Oper) (Q:Exit→(Nat→Value)→World→Prop) (l:List Oper) (σ:Nat→Value) (w:World):Prop :=
 wpList P ops (lift N Q) l (act N σ) w
def jT (K:(Nat→Value)→World→Prop) (Q:Exit→(Nat→Value)→World→Prop):Exit→(Nat→Value)→World→Prop
 | .normal,σ,w=>K σ w
 | e,σ,w=>Q e σ w
def nH (id:Nat) (Q:Exit→(Nat→Value)→World→Prop):Exit→(Nat→Value)→World→Prop
 | .exit a,σ,w=>if a=id then Q .normal σ w else Q (.exit a) σ w
 | e,σ,w=>Q e σ w
section
variable {P:Program} {N:Fm} {Q:Exit→(Nat→Value)→World→Prop} {σ:Nat→Value} {w:World} {K:(Nat→Value)→World→Prop}
theorem NL {Q q:Exit→(Nat→Value)→World→Prop} (h:∀ e σ w,Q e σ w→q e σ w) (e:Exit) (a:Act) (w:World):lift N Q e a w→lift N q e a w:=by
 cases e <;> first | exact fun h=>h.elim | exact fun ⟨σ,c,i⟩=>⟨σ,c,h _ _ _ i⟩ | exact fun ⟨σ,c,i⟩=>⟨σ,c,fun C A=>h _ _ _<|i C A⟩
theorem RL {a:Exit→(Nat→Value)→World→Prop} {c:Code} (h:∀ e σ w,Q e σ w→a e σ w) (i:cB P N c Q σ w):cB P N c a σ w:=
 wpIn_mono i (NL h)
theorem tn (h:K σ w):jT K Q .normal σ w:=h
theorem te (id:Nat) (h:Q (.exit id) σ w):jT K Q (.exit id) σ w:=h
theorem tr (h:Q .ret σ w):jT K Q .ret σ w:=h
theorem bn {id:Nat} (h:Q .normal σ w):nH id Q .normal σ w:=h
theorem be {id:Nat} (h:Q .normal σ w):nH id Q (.exit id) σ w:=by simpa only [nH,if_true] using h
theorem lz {id a:Nat} (c:a≠id) (h:Q (.exit a) σ w):nH id Q (.exit a) σ w:=by simpa only [nH,if_neg c] using h
theorem br {id:Nat} (h:Q .ret σ w):nH id Q .ret σ w:=h
theorem sq {x y:Code} (h:∀ K:(Nat→Value)→World→Prop,(∀ σ w,cB P N y Q σ w→K σ w)→cB P N x (jT K Q) σ w):cB P N (.seq x y) Q σ w:=by
 refine wpIn_seq<|wpIn_mono (h (fun σ w=>cB P N y Q σ w) fun _ _ h=>h) ?_
 intro e a w i
 cases e with
 | normal=>obtain ⟨σ,rfl,q⟩:=i; exact q
 | panic c=>exact i
 | outgrown=>exact i
 | _=>obtain ⟨σ,rfl,q⟩:=i; exact ⟨σ,rfl,q⟩
theorem ep {x y:Code} (a:(Nat→Value)→World→Prop) (h:cB P N x (jT a Q) σ w) (hk:∀ σ w,a σ w→cB P N y Q σ w):cB P N (.seq x y) Q σ w:=
 sq fun _ i=>RL (fun e _ _ c=>by cases e <;> first | exact i _ _ (hk _ _ c) | exact c) h
theorem ct {c:Operand} {x y:Code} (a:ev N σ c= .bool true) (h:cB P N x Q σ w):cB P N (.cond c x y) Q σ w:=
 wpIn_cond_true (by rw [fq]; exact a) h
theorem cf {c:Operand} {x y:Code} (a:ev N σ c= .bool false) (h:cB P N y Q σ w):cB P N (.cond c x y) Q σ w:=
 wpIn_cond_false (by rw [fq]; exact a) h
theorem cb {c:Operand} {x y:Code} {b:Bool} (a:ev N σ c= .bool b) (q:b=true→cB P N x Q σ w) (i:b=false→cB P N y Q σ w):cB P N (.cond c x y) Q σ w:=by
 cases b
 · exact cf a<|i aa
 · exact ct a<|q aa
theorem cd {c:Operand} {x y:Code} {p:Prop} [Decidable p] (a:ev N σ c= .bool (decide p)) (q:p→cB P N x Q σ w) (i:¬p→cB P N y Q σ w):cB P N (.cond c x y) Q σ w:=
 cb a (fun h=>q<|of_decide_eq_true h) (fun h=>i<|of_decide_eq_false h)
theorem aB {id:Nat} {c:Code} (h:cB P N c (nH id Q) σ w):cB P N (.block id c) Q σ w:=by
 refine wpIn_block<|wpIn_mono h ?_
 intro e a w q
 cases e with
 | panic c=>exact q
 | outgrown=>exact q
 | exit A=>
   obtain ⟨σ,rfl,i⟩:=q
   simp only [nH,Exit.inBlock] at i ⊢
   split
   · rename_i e; rw [if_pos e] at i; exact ⟨σ,rfl,i⟩
   · rename_i e; rw [if_neg e] at i; exact ⟨σ,rfl,i⟩
 | _=>obtain ⟨σ,rfl,i⟩:=q; exact ⟨σ,rfl,i⟩
theorem ext {id:Nat} (h:Q (.exit id) σ w):cB P N (.exit id) Q σ w:=wpIn_exit ⟨σ,rfl,h⟩
theorem aM (h:Q .normal σ w):cB P N .skip Q σ w:=wpIn_skip ⟨σ,rfl,h⟩
theorem rt (h:Q .ret σ w):cB P N .ret Q σ w:=wpIn_ret ⟨σ,rfl,h⟩
theorem fx {c:Code} {v:Value} (i:Nat) (h:σ i=v) (a:cB P N c Q (cz σ i v) w):cB P N c Q σ w:=by rw [m3 h] at a; exact a
theorem lp {c:Code} (E:Nat→(Nat→Value)→World→Prop) (n:Nat) (Y:E n σ w)
 (h:∀ n σ w,E n σ w→cB P N c (jT (fun ai w'=> ∃ m,m < n∧E m ai w') Q) σ w):cB P N (.loop c) Q σ w:=by
 intro b k cs ae I J
 have key:∀ n σ w,E n σ w→
  ∃ e G w',lift N Q e G w'∧ArrivesIn (Machine.fenced P<|fe N.r) P (lone (b.atR (act N σ) (.code c:: .inLoop c::k)) cs w) b k cs e G w':=by
  intro n
  induction n using Nat.strongRecOn with
  | _ n ag=>
    intro σ w Z
    obtain ⟨e,M,C,A,i⟩:=h n σ w Z b (.inLoop c::k) cs ae I J
    cases e with
    | normal=>
      obtain ⟨a,rfl,m,hm,ab⟩:=A
      obtain ⟨V,O,ah,ad,ac⟩:=ag m hm a C ab
      exact ⟨V,O,ah,ad,.of_steps (StepsIn.trans i<|.one (fenced_calm I J aa) stepR_inLoop) ac⟩
    | exit id=>obtain ⟨a,rfl,q⟩:=A; exact ⟨.exit id,act N a,C,⟨a,rfl,q⟩,.pass (x:= .inLoop c) rfl (fun _ _=> .inl<|by simp) i⟩
    | goto l=>obtain ⟨a,rfl,q⟩:=A; exact ⟨.goto l,act N a,C,⟨a,rfl,q⟩,.pass (x:= .inLoop c) rfl (fun _ _=> .inl<|by simp) i⟩
    | ret=>obtain ⟨a,rfl,q⟩:=A; exact ⟨.ret,act N a,C,⟨a,rfl,q⟩,.pass (x:= .inLoop c) rfl (fun _ _=> .inl<|by simp) i⟩
    | panic U=>exact ⟨.panic U,M,C,A,.pass (x:= .inLoop c) rfl (fun _ _=> .inl<|by simp) i⟩
    | outgrown=>exact A.elim
 obtain ⟨e,G,w',q,i⟩:=key _ σ w Y
 exact ⟨e,G,w',q,.of_steps (.one (fenced_calm I J aa) stepR_loop) i⟩
def cA (P:Program) (N:Fm) (o:Oper) (σ:Nat→Value) (w:World) (K:(Nat→Value)→World→Prop):Prop :=
 il P o (act N σ) w (fun a w=> ∃ σ,a=act N σ∧K σ w) (fun _ _ _=>False)
theorem Re {o:Oper} {a:Act} {K q:Act→World→Prop} {Q:Exit→Act→World→Prop} (h:∀ a w,K a w→q a w)
 (r:Result Next) (i:o.upon P a K (fun _ _ _=>False) r):o.upon P a q Q r:=by
 cases r with
 | ok n w'=>
   cases n <;> simp only [jh] at i ⊢ <;>
    first
     | exact h _ _ i
     | exact kf i (fun e w'' he=>by
      cases e with
      | returned v=>exact h _ _ he
      | panicked c=>exact he.elim
      | outgrown=>obtain ⟨_,_,A⟩:=he; exact A.elim)
     | exact Rows.mono i fun _ _ he=>h _ _ he
 | halt x w'=>cases x <;> simp only [jh] at i ⊢
theorem qh {K:(Nat→Value)→World→Prop} {c:Act→World→Prop} {Q:Exit→Act→World→Prop} {o:Oper} (h:cA P N o σ w K) (hk:∀ σ w,K σ w→c (act N σ) w):o.wp P (act N σ) w c Q:=by
 unfold cA at h
 unfold il at*
 exact Re (fun a w ⟨σ,q,i⟩=>by subst q; exact hk _ _ i) _ h
theorem ES {K a:(Nat→Value)→World→Prop} {o:Oper} (h:cA P N o σ w K) (hk:∀ σ w,K σ w→a σ w):cA P N o σ w a:=
 qh h (fun σ w c=>⟨σ,rfl,hk σ w c⟩)
variable {ops:Array Oper} {rest:List Oper} {d:Nat} {op:Op} {ty:TypeId} {pos :String} {af:Array Edge} {d':Option Nat} {v:Value} {o:Oper}
theorem uE (a:n0 o (yielded ops (act N σ).tmps)=true) (h:cA P N o σ w (fun σ w=>dw P N ops Q rest σ w)):dw P N ops Q (o::rest) σ w:=by
 unfold dw wpList
 rw [if_pos a]
 exact .inl<|qh h fun _ _ hk=>hk
theorem lN {K:(Nat→Value)→World→Prop} {w':World} (a:(execOp (ev N σ) o).run P w= .ok (.value v) w') (hk:K (fA σ o.dst v) w'):cA P N o σ w K:=by
 unfold cA il
 rw [fq,a]
 exact ⟨_,hZ ..,hk⟩
theorem gZ (o:Oper) (a:o.guard=none) (y:Nat→Option Bool):n0 o y=true :=by simp [n0,a]
def iz (ops:Array Oper) (j:Nat):Option Nat:=(ops[j]?).bind (·.dst)
theorem m5 {j t:Nat} {want b:Bool} (c:o.guard=some (j,want)) (a:iz ops j=some t) (i:eU t N.n=true) (q:σ t= .bool b):
 n0 o (yielded ops (act N σ).tmps)=(b==want):=by
 have h1:yielded ops (act N σ).tmps j=some b:=by
  unfold yielded
  unfold iz at a
  rw [a]
  simp only [nq,mK]
  rw [if_pos (o0 (qA t)<|n8 i),q]
 simp only [n0,c,h1]
 cases b <;> cases want <;> rfl
theorem Rr {j t:Nat} {want:Bool} (c:o.guard=some (j,want)) (a:iz ops j=some t) (i:eU t N.n=true) (q:σ t=undef):
 n0 o (yielded ops (act N σ).tmps)=false :=by
 have h1:yielded ops (act N σ).tmps j=none:=by
  unfold yielded
  unfold iz at a
  rw [a]
  simp only [nq,mK]
  rw [if_pos (o0 (qA t)<|n8 i),q]; rfl
 simp only [n0,c,h1]
 rfl
theorem p (h:(execOp (ev N σ) ⟨some d,op,ty,pos,af,none⟩).run P w= .ok (.value v) w) (k:dw P N ops Q rest (cz σ d v) w):
 dw P N ops Q (⟨some d,op,ty,pos,af,none⟩::rest) σ w:=
 uE (gZ _ rfl _) (lN h k)
theorem pg {j t:Nat} {want:Bool} (a:iz ops j=some t) (c:eU t N.n=true) (i:σ t= .bool want)
 (h:(execOp (ev N σ) ⟨some d,op,ty,pos,af,some (j,want)⟩).run P w= .ok (.value v) w) (k:dw P N ops Q rest (cz σ d v) w):
 dw P N ops Q (⟨some d,op,ty,pos,af,some (j,want)⟩::rest) σ w:=
 uE (by rw [m5 rfl a c i]; cases want <;> rfl) (lN h k)
theorem sk {j t:Nat} {want b:Bool} (c:iz ops j=some t) (i:eU t N.n=true) (q:σ t= .bool b) (a:(b==want)=false)
 (k:dw P N ops Q rest (cz σ d undef) w):dw P N ops Q (⟨some d,op,ty,pos,af,some (j,want)⟩::rest) σ w:=by
 unfold dw wpList
 rw [if_neg (by rw [m5 rfl c i q,a]; simp),hZ]
 exact k
theorem ue {j t:Nat} {want:Bool} (a:iz ops j=some t) (c:eU t N.n=true) (i:σ t=undef)
 (k:dw P N ops Q rest (cz σ d undef) w):dw P N ops Q (⟨some d,op,ty,pos,af,some (j,want)⟩::rest) σ w:=by
 unfold dw wpList
 rw [if_neg (by rw [Rr rfl a c i]; simp),hZ]
 exact k
theorem e (h:cA P N ⟨d',op,ty,pos,af,none⟩ σ w (fun σ w=>dw P N ops Q rest σ w)):dw P N ops Q (⟨d',op,ty,pos,af,none⟩::rest) σ w:=
 uE (gZ _ rfl _) h
theorem eg {j t:Nat} {want:Bool} (a:iz ops j=some t) (c:eU t N.n=true) (i:σ t= .bool want)
 (h:cA P N ⟨d',op,ty,pos,af,some (j,want)⟩ σ w (fun σ w=>dw P N ops Q rest σ w)):dw P N ops Q (⟨d',op,ty,pos,af,some (j,want)⟩::rest) σ w:=
 uE (by rw [m5 rfl a c i]; cases want <;> rfl) h
theorem nl (h:Q .normal σ w):dw P N ops Q [] σ w:=⟨σ,rfl,h⟩
theorem xV:¬LetsOut (lift N Q):=fun ⟨_,_,h⟩=>h
theorem rg {id:Nat} {l:List Oper} (a:pX N.r l=true) (h:dw P N l.toArray Q l σ w):cB P N (.region id l.toArray false) Q σ w:=by
 refine wpIn_region<|xM xV a _ _ _ ?_
 have h1:=wpOps_eq_wpList (P:=P) (ops:=l.toArray) (Q:=lift N Q) l 0 fun j=>by simp
 rw [List.range_eq_range',lV,h1]
 exact h
theorem gs {l:List Oper} {t:Nat} {q:Prop} [Decidable q] (h:σ t= .bool (decide q)) (i:q→dw P N ops Q l (cz σ t<|.bool true) w) (c:¬q→dw P N ops Q l (cz σ t<|.bool false) w):dw P N ops Q l σ w:=by
 by_cases a:q
 · have :=i a; rwa [m3 (by rw [h,decide_eq_true a])] at this
 · have :=c a; rwa [m3 (by rw [h,decide_eq_false a])] at this
theorem gb {l:List Oper} {t:Nat} {b:Bool} (h:σ t= .bool b) (c:b=true→dw P N ops Q l (cz σ t<|.bool true) w) (a:b=false→dw P N ops Q l (cz σ t<|.bool false) w):dw P N ops Q l σ w:=by
 cases b
 · have :=a rfl; rwa [m3 h] at this
 · have :=c rfl; rwa [m3 h] at this
def eG (P:Program) (N:Fm) (ops:Array Oper) (Q:Exit→(Nat→Value)→World→Prop) (S:World→Prop) (fuel:Nat) (aK:Array Bool) (σ:Nat→Value) (w:World):Prop :=
 wpAnyH P .any ops (lift N Q) S fuel aK (act N σ) w
variable {S:World→Prop} {fuel:Nat} {aK:Array Bool}
theorem zY {id:Nat} {l:List Oper} (a:pX N.r l=true) (hm:P.follows .mixedOrders=true) (h:wpAny P .any l.toArray (lift N Q) l.toArray.size (ql l.toArray.size false) (act N σ) w.drew):cB P N (.region id l.toArray true) Q σ w:=by
 refine wpIn_region_draw fun t=>xM xV a _ _ _ ?_
 simp only [Region.schedule,hm,Bool.true_or,if_true]
 exact wpAny_sound _ t _ _ _ h
theorem bK {id:Nat} {l:List Oper} (S:World→Prop) (a:pX N.r l=true) (hm:P.follows .mixedOrders=true) (c:S w.drew) (h:eG P N l.toArray Q S l.length (ql l.length false) σ w.drew):cB P N (.region id l.toArray true) Q σ w:=
 zY a hm (wpAny_of_held _ _ _ _<|by rw [lV]; exact h)
def yg (F:List Nat) (d:Option Nat):Bool:=match d with | some d=> !(F.contains d) | none=>true
def gM (F:List Nat) (ops:Array Oper) (aK:Array Bool) (i:Nat):Bool:=
 Region.noSelect ops && Region.free .any ops aK i && (gz .any ops aK).contains i && yg F ((ops[i]?).bind (·.dst))
theorem mV {d:Option Nat} {v:Value} (hd:yg N.F d=true) (c:List PanicEntry) (a:Act) (w:World):lift N Q (.panic c) (a.put d v) w→lift N Q (.panic c) a w:=by
 rintro ⟨σ,q,h⟩
 cases d with
 | none=>exact ⟨σ,q,h⟩
 | some d=>
   have J:a.tmps.size=N.n:=by
    have :=congrArg (fun x:Act=>x.tmps.size) q
    simpa [Act.put,act] using this
   have C:a.defers=N.D:=congrArg (fun x:Act=>x.defers) q
   have E:∀ i:Nat,i≠d→a.tmps[i]? =if i < N.n then some (σ i) else none:=fun i hi=>by
    have h1:(a.put (some d) v).tmps[i]? =a.tmps[i]? :=by
     show (a.tmps.setIfInBounds d v)[i]? =_
     rw [yY,if_neg (fun e=>hi e.symm)]
    rw [← h1,q,mK]
   refine ⟨fun i=>if i < N.n then a.tmps.getD i undef else σ i,sP C fun i=> ?_,fun I A=>h I fun i hi=> ?_⟩
   · rw [mK]
     by_cases h1:i < N.n
     · rw [if_pos h1,if_pos h1,yX,uJ ab]; rfl
     · rw [if_neg h1,qk ab]
   · have G:i≠d:=by
      rintro rfl
      simp only [yg,uN,List.contains_eq_mem,decide_eq_false_iff_not] at hd
      exact hd hi
     rw [A i hi]
     by_cases h1:i < N.n
     · simp only [if_pos h1]
       rw [yX,E i G,if_pos h1]; rfl
     · simp only [if_neg h1]
theorem hp (i:Nat) (hi:ops[i]? =some ⟨some d,op,ty,pos,af,none⟩) (q:gM N.F ops aK i=true)
 (C:∀ w,S w→(execOp (ev N σ) ⟨some d,op,ty,pos,af,none⟩).run P w= .ok (.value v) w) (A:S w)
 (k:eG P N ops Q S fuel (aK.setIfInBounds i true) (cz σ d v) w):eG P N ops Q S (fuel+1) aK σ w:=by
 simp only [gM,fi] at q
 refine wpAnyH_take hi q.1.1.1 q.1.1.2 q.1.2 (fun c a w=>mV (by have :=q.2; rwa [hi] at this) c a w) (.inl ⟨gZ _ rfl _,fun w A=> ?_⟩) A ?_ (v:=v)
 · rw [fq]; exact C w A
 · rw [hZ]; exact k
theorem l9 (i:Nat) {j t:Nat} {want:Bool} (hi:ops[i]? =some ⟨some d,op,ty,pos,af,some (j,want)⟩) (q:gM N.F ops aK i=true)
 (C:iz ops j=some t) (E:eU t N.n=true) (G:σ t= .bool want)
 (I:∀ w,S w→(execOp (ev N σ) ⟨some d,op,ty,pos,af,some (j,want)⟩).run P w= .ok (.value v) w) (A:S w)
 (k:eG P N ops Q S fuel (aK.setIfInBounds i true) (cz σ d v) w):eG P N ops Q S (fuel+1) aK σ w:=by
 simp only [gM,fi] at q
 refine wpAnyH_take hi q.1.1.1 q.1.1.2 q.1.2 (fun c a w=>mV (by have :=q.2; rwa [hi] at this) c a w) (.inl ⟨by rw [m5 aa C E G]; cases want <;> rfl,fun w A=> ?_⟩) A ?_ (v:=v)
 · rw [fq]; exact I w A
 · rw [hZ]; exact k
theorem ma (i:Nat) {j t:Nat} {want b:Bool} (hi:ops[i]? =some ⟨some d,op,ty,pos,af,some (j,want)⟩) (q:gM N.F ops aK i=true)
 (E:iz ops j=some t) (G:eU t N.n=true) (I:σ t= .bool b) (C:(b==want)=false) (A:S w)
 (k:eG P N ops Q S fuel (aK.setIfInBounds i true) (cz σ d undef) w):eG P N ops Q S (fuel+1) aK σ w:=by
 simp only [gM,fi] at q
 refine wpAnyH_take hi q.1.1.1 q.1.1.2 q.1.2 (fun c a w=>mV (by have :=q.2; rwa [hi] at this) c a w) (.inr ⟨by rw [m5 aa E G I,C],aa⟩) A ?_ (v:=undef)
 rw [hZ]; exact k
def ju (ops:Array Oper) (aK:Array Bool) (i:Nat):Bool:=(gz .any ops aK)== [i]
theorem he (i:Nat) (hi:ops[i]? =some ⟨d',op,ty,pos,af,none⟩) (a:ju ops aK i=true)
 (h:cA P N ⟨d',op,ty,pos,af,none⟩ σ w (fun σ w=>S w∧eG P N ops Q S fuel (aK.setIfInBounds i true) σ w)):eG P N ops Q S (fuel+1) aK σ w:=by
 refine wpAnyH_all (rs:= [i]) (by simpa [ju] using a) (by simp) ?_
 intro k hk
 obtain rfl :k=i:=by simpa using hk
 unfold wpOp
 simp only [hi]
 rw [if_pos (gZ _ rfl _)]
 exact .inl<|qh h fun _ _ hk=>hk
theorem ku (i:Nat) {j t:Nat} {want:Bool} (hi:ops[i]? =some ⟨d',op,ty,pos,af,some (j,want)⟩) (c:ju ops aK i=true)
 (a:iz ops j=some t) (q:eU t N.n=true) (A:σ t= .bool want)
 (h:cA P N ⟨d',op,ty,pos,af,some (j,want)⟩ σ w (fun σ w=>S w∧eG P N ops Q S fuel (aK.setIfInBounds i true) σ w)):eG P N ops Q S (fuel+1) aK σ w:=by
 refine wpAnyH_all (rs:= [i]) (by simpa [ju] using c) (by simp) ?_
 intro k hk
 obtain rfl :k=i:=by simpa using hk
 unfold wpOp
 simp only [hi]
 rw [if_pos (by rw [m5 rfl a q A]; cases want <;> rfl)]
 exact .inl<|qh h fun _ _ hk=>hk
theorem hn (a:(gz .any ops aK).isEmpty=true) (h:Q .normal σ w):eG P N ops Q S fuel aK σ w:=
 wpAnyH_done (by simpa using a) ⟨σ,rfl,h⟩ fuel
theorem js {t:Nat} {q:Prop} [Decidable q] (h:σ t= .bool (decide q)) (i:q→eG P N ops Q S fuel aK (cz σ t<|.bool true) w) (c:¬q→eG P N ops Q S fuel aK (cz σ t<|.bool false) w):eG P N ops Q S fuel aK σ w:=by
 by_cases a:q
 · have :=i a; rwa [m3 (by rw [h,decide_eq_true a])] at this
 · have :=c a; rwa [m3 (by rw [h,decide_eq_false a])] at this
end
def ba (P:Program) (f:FuncId) (args:Array Value) (w:World) (R:Value→World→Prop):Prop :=
 Calls P f args w fun e w'=> ∃ v,e= .returned v∧R v w'
theorem ba.mono {P:Program} {f:FuncId} {args:Array Value} {w:World} {R R':Value→World→Prop} (h:ba P f args w R) (c:∀ v w',R v w'→R' v w'):ba P f args w R':=
 kf h fun _ _ ⟨v,he,a⟩=>⟨v,he,c _ _ a⟩
def kG (args:List Value):Nat→Value:=fun i=>args.getD i undef
def fin (P:Program) (fn:Func) (N:Fm) (R:Value→World→Prop):Exit→(Nat→Value)→World→Prop
 | .normal,σ,w=> ∃ v,(results fn (act N σ).tmps).run P w= .ok v w∧R v w
 | .ret,σ,w=> ∃ v,(results fn (act N σ).tmps).run P w= .ok v w∧R v w
 | _,_,_=>False
theorem enter {P:Program} {f:FuncId} {N:Nat} {fn:Func} {c:Code} {args:List Value} {w:World} {R:Value→World→Prop} (M:P.funcs[f]? =some fn) (J:fn.body=some c)
 (G:fn.ntmps=N) (hn:lk args.length N=true) (h:cB P ⟨N,[],[],none⟩ c (fin P fn ⟨N,[],[],none⟩ R) (kG args) w):ba P f args.toArray w R:=by
 subst G
 refine calls_of_wp M J ?_
 have I:({tmps:=args.toArray++ql (fn.ntmps - args.toArray.size) undef,defers:= []} :Act)=act ⟨fn.ntmps,[],[],none⟩ (kG args):=by
  have O:args.length≤fn.ntmps:=by simpa using hn
  refine sP aa fun i=> ?_
  rw [mK]
  simp only [kG,cO,lV]
  by_cases h1:i < args.length
  · rw [Array.getElem?_append_left (by simpa using h1),if_pos ab]
    simp [h1]
  · rw [Array.getElem?_append_right (by simpa using h1)]
    simp only [lV,Array.getElem?_replicate]
    by_cases h2:i < fn.ntmps
    · rw [if_pos ab,if_pos h2,qw ab]; rfl
    · rw [if_neg ab,if_neg h2]
 rw [I]
 refine Code.wp_mono ?_<|wpIn_wide.1 h
 intro e a w q
 cases e with
 | normal=>obtain ⟨σ,rfl,v,E,C⟩:=q; exact ⟨rfl,v,E,v,rfl,C⟩
 | ret=>obtain ⟨σ,rfl,v,E,C⟩:=q; exact ⟨rfl,v,E,v,rfl,C⟩
 | exit id=>obtain ⟨σ,rfl,A⟩:=q; exact A.elim
 | goto l=>obtain ⟨σ,rfl,A⟩:=q; exact A.elim
 | panic c=>obtain ⟨σ,rfl,A⟩:=q; exact (A σ fun _ _=>rfl).elim
 | outgrown=>exact q.elim
section
variable {P:Program} {N:Fm} {σ:Nat→Value} {w:World} {fn:Func} {R:Value→World→Prop}
theorem kI (t:Nat):(act N σ).tmps.getD t undef=ev N σ (.tmp t):=by
 rw [← fq]; rfl
theorem f0 (h:fn.results= #[]) (a:R (.tuple #[]) w):fin P fn N R .normal σ w:=⟨_,results_none h _ _ _,a⟩
theorem tz (h:fn.results= #[]) (a:R (.tuple #[]) w):fin P fn N R .ret σ w:=⟨_,results_none h _ _ _,a⟩
theorem f1 {t:Nat} {v:Value} (h:fn.results= #[.tmp t]) (c:ev N σ (.tmp t)=v) (a:R v w):fin P fn N R .ret σ w:=
 ⟨v,by rw [results_tmp h,kI,c],a⟩
theorem f2 {t u:Nat} {v a:Value} (h:fn.results= #[.tmp t,.tmp u]) (i:ev N σ (.tmp t)=v) (hu:ev N σ (.tmp u)=a) (c:R (.tuple #[v,a]) w):fin P fn N R .ret σ w:=
 ⟨_,by rw [results_tmp2 h,kI,kI,i,hu],c⟩
theorem f3 {t u s:Nat} {v a c:Value} (h:fn.results= #[.tmp t,.tmp u,.tmp s]) (q:ev N σ (.tmp t)=v) (hu:ev N σ (.tmp u)=a) (hs:ev N σ (.tmp s)=c) (i:R (.tuple #[v,a,c]) w):fin P fn N R .ret σ w:=by
 refine ⟨_,?_,i⟩
 simp only [results,h]
 subst q hu hs
 simp only [← kI]
 simp [sA]
theorem f4 {t u s r:Nat} {v a c v3:Value} (h:fn.results= #[.tmp t,.tmp u,.tmp s,.tmp r]) (A:ev N σ (.tmp t)=v) (hu:ev N σ (.tmp u)=a) (hs:ev N σ (.tmp s)=c) (q:ev N σ (.tmp r)=v3) (i:R (.tuple #[v,a,c,v3]) w):fin P fn N R .ret σ w:=by
 refine ⟨_,?_,i⟩
 simp only [results,h]
 subst A hu hs q
 simp only [← kI]
 simp [sA]
end
attribute [irreducible] dw cB eG cA
end Go.Hb
namespace Go.Hb
def aH (h:Array Obj) (b off :Nat):Option Value:=
 match h[b]? with
 | some (.cells c _ _)=>c[off]?
 | _=>none
theorem lA (w:World) (b off :Nat):w.cell? ⟨b,off,none⟩=aH w.heap b off :=by
 unfold World.cell? aH
 simp only
 split <;> simp_all
theorem aX {h:Array Obj} {b off :Nat} {c:Array Value} {t:TypeId} {f:Nat×Nat} (a:h[b]? =some (.cells c t f)):aH h b off =c[off]? :=by
 simp only [aH,a]
theorem IU {h:Array Obj} {b off :Nat} {v:Value} (a:aH h b off =some v):b < h.size:=by
 unfold aH at a
 rcases gC b h.size with i | c
 · exact i
 · simp [qk c] at a
structure Md (F:Nat→Prop) (w w':World):Prop where
 os:w'.os=w.os
 output:w'.output=w.output
 size:w.heap.size≤w'.heap.size
 dE:∀ k,k < w.heap.size→¬F k→w'.heap[k]? =w.heap[k]?
abbrev Wk (w w':World):Prop :=Md (fun _=>False) w w'
theorem Md.refl (F:Nat→Prop) (w:World):Md F w w:=⟨rfl,rfl,bX _,fun _ _ _=>rfl⟩
theorem Md.drew {F:Nat→Prop} {w w':World} (h:Md F w w'):Md F w w'.drew:=⟨h.os,h.output,h.size,h.dE⟩
theorem Md.mono {F G:Nat→Prop} {w w':World} (h:Md F w w') (c:∀ k,k < w.heap.size→F k→G k):Md G w w':=
 ⟨h.os,h.output,h.size,fun k hk i=>h.dE k hk fun a=>i<|c k hk a⟩
theorem Md.trans {F:Nat→Prop} {a b c:World} (h:Md F a b) (i:Md F b c):Md F a c:=
 ⟨i.os.trans h.os,i.output.trans h.output,eV h.size i.size,fun k hk q=>(i.dE k (o0 hk h.size) q).trans<|h.dE k hk q⟩
theorem Md.trans' {F G:Nat→Prop} {a b c:World} (h:Md F a b) (i:Md G b c) (A:∀ k,k < a.heap.size→G k→F k):Md F a c:=
 ⟨i.os.trans h.os,i.output.trans h.output,eV h.size i.size,
  fun k hk q=>(i.dE k (o0 hk h.size) fun x=>q<|A k hk x).trans (h.dE k hk q)⟩
theorem Md.aB {F:Nat→Prop} {w w':World} (h:Md F w w') {k:Nat} {o:Obj} (hk:w.heap[k]? =some o) (a:¬F k):w'.heap[k]? =some o:=
 (h.dE k (cg.1 hk).1 a).trans hk
theorem Md.aH {F:Nat→Prop} {w w':World} (h:Md F w w') {b off :Nat} {v:Value} (a:Hb.aH w.heap b off =some v) (c:¬F b):Hb.aH w'.heap b off =some v:=by
 have :=h.dE b (IU a) c
 unfold Hb.aH at*
 rw [this]; exact a
theorem Wk.aH {w w':World} (h:Wk w w') {b off :Nat} {v:Value} (a:Hb.aH w.heap b off =some v):Hb.aH w'.heap b off =some v:=Md.aH h a id
theorem Wk.aB {w w':World} (h:Wk w w') {k:Nat} {o:Obj} (hk:w.heap[k]? =some o):w'.heap[k]? =some o:=Md.aB h hk id
structure Nw (w w':World):Prop where
 md:Wk w w'
 size:w'.heap.size=w.heap.size+1
theorem ya (w:World) (o:Obj):Nw w {w with heap:=w.heap.push o} :=
 ⟨⟨rfl,rfl,by simp,fun k hk _=>by show (w.heap.push o)[k]? =_; rw [Array.getElem?_push,if_neg ab]⟩,by simp⟩
def cH (P:Program) (t:TypeId):Option (Option Nat):=
 match P.underlying t with
 | some (.struct _) | some (.array _ _)=>((P.info? t).map (·.size)).map some
 | some _=>some none
 | none=>none
def cj (P:Program) (s f:Nat):Option Nat:=
 match P.underlying s with
 | some (.struct fs)=>match fs[f]? with
   | some fd=>match P.info? fd.type with
     | some i=>if i.size=0 then none else some fd.offset
     | none=>none
   | none=>none
 | _=>none
def fM (P:Program) (t:TypeId):Option Nat:=
 match P.underlying t with
 | some (.slice e)=>(P.info? e).map (·.size)
 | _=>none
section
variable {P:Program} {N:Fm} {σ:Nat→Value} {w:World} {dst:Option Nat} {ty:TypeId} {pos :String} {af:Array Edge} {g:Option (Nat×Bool)} {x y z:Operand}
theorem c7 {t:TypeId} {d:TypeDesc} (h:P.underlying t=some d) (w:World):(underlying t).run P w= .ok d w:=by
 simp [underlying,h]
theorem fR {t:TypeId} {i:TypeInfo} (h:P.info? t=some i) (w:World):(typeInfo t).run P w= .ok i w:=by
 simp [typeInfo,h]
theorem mv:(execOp (ev N σ) ⟨dst,.move x,ty,pos,af,g⟩).run P w= .ok (.value<|ev N σ x) w:=rfl
theorem aA:(execOp (ev N σ) ⟨dst,.assign x,ty,pos,af,g⟩).run P w= .ok (.value<|ev N σ x) w:=rfl
theorem aG (v:Value) (h:ev N σ x=v):(execOp (ev N σ) ⟨dst,.move x,ty,pos,af,g⟩).run P w= .ok (.value v) w:=by rw [← h]; rfl
theorem bY (v:Value) (h:ev N σ x=v):(execOp (ev N σ) ⟨dst,.assign x,ty,pos,af,g⟩).run P w= .ok (.value v) w:=by rw [← h]; rfl
theorem bI {c:Operand} (a:ev N σ c= .bool true):(execOp (ev N σ) ⟨dst,.pick c x y,ty,pos,af,g⟩).run P w= .ok (.value<|ev N σ x) w:=by
 simp [execOp,a,asBool]
theorem bD {c:Operand} (a:ev N σ c= .bool false):(execOp (ev N σ) ⟨dst,.pick c x y,ty,pos,af,g⟩).run P w= .ok (.value<|ev N σ y) w:=by
 simp [execOp,a,asBool]
theorem nc {a:Addr} (c:ev N σ x= .pointer (some a)):(execOp (ev N σ) ⟨dst,.nilCheck x,ty,pos,af,g⟩).run P w= .ok (.value<|.pointer<|some a) w:=by
 simp [execOp,c]
theorem xt {i:Nat} {vs:Array Value} {v:Value} (c:ev N σ x= .tuple vs) (a:vs[i]? =some v):(execOp (ev N σ) ⟨dst,.extract x i,ty,pos,af,g⟩).run P w= .ok (.value v) w:=by
 simp [execOp,c,Instr.extract,a]
theorem fa {s f n b off :Nat} (a:cj P s f=some n) (A:ev N σ x= .pointer (some ⟨b,off,none⟩)):
 (execOp (ev N σ) ⟨dst,.fieldAddr s x f,ty,pos,af,g⟩).run P w= .ok (.value<|.pointer<|some ⟨b,off+n,none⟩) w:=by
 unfold cj at a
 split at a
 · rename_i fs hu
   split at a
   · rename_i fd q
     split at a
     · rename_i i hi
       split at a
       · cases a
       · rename_i C
         cases a
         have c:(⟨b,off,none⟩:Addr).add fd.offset=⟨b,off+fd.offset,none⟩:=by unfold uP; split <;> simp_all
         simp [execOp,Instr.fieldAt,c7 hu,q,A,nY,fieldPlace,sizeOf,fR hi,C,c]
     · cases a
   · cases a
 · cases a
theorem ld {t b off :Nat} {v:Value} (hu:cH P t=some none) (i:ev N σ x= .pointer (some ⟨b,off,none⟩)) (a:aH w.heap b off =some v):
 (execOp (ev N σ) ⟨dst,.load t x,ty,pos,af,g⟩).run P w= .ok (.value v) w:=by
 have c:w.cell? ⟨b,off,none⟩=some v:=by rw [lA]; exact a
 unfold cH at hu
 cases hd:P.underlying t with
 | none=>rw [hd] at hu; cases hu
 | some d=>
   rw [hd] at hu
   cases d <;> first
    | (simp only [nu] at hu; obtain ⟨_,_,h⟩:=hu; cases h; done)
    | simp [execOp,Fy,i,nY,loadVar,isAgg,c7 hd,run_load,c]
theorem kn (b off j:Nat):(⟨b,off,none⟩:Addr).add j=⟨b,off+j,none⟩:=by
 unfold uP; split <;> simp_all
theorem cI {t n b off :Nat} {cs:List Value} (hu:cH P t=some (some n)) (C:ev N σ x= .pointer (some ⟨b,off,none⟩)) (A:cs.length=n)
 (c:∀ j,j < n→aH w.heap b (off+j)=cs[j]?):
 (execOp (ev N σ) ⟨dst,.load t x,ty,pos,af,g⟩).run P w= .ok (.value<|.agg cs.toArray) w:=by
 have q:(loadCells ⟨b,off,none⟩ n).run P w= .ok cs.toArray w:=by
  subst A
  refine run_loadCells_list (P:=P) w ⟨b,off,none⟩ cs fun j v a=> ?_
  rw [kn,lA]
  exact (c j (List.getElem?_eq_some_iff.1 a).1).trans a
 unfold cH at hu
 cases hd:P.underlying t with
 | none=>rw [hd] at hu; cases hu
 | some d=>
   rw [hd] at hu
   cases hi:P.info? t with
   | none=>simp [Program.underlying,hi] at hd
   | some i=>
     rw [hi] at hu
     cases d <;> first
      | (cases hu; done)
      | (simp only [kh,eM] at hu; subst hu
         simp [execOp,Fy,C,nY,loadVar,isAgg,c7 hd,sizeOf,fR hi,q])
theorem ia {t n b off len cap:Nat} {k:IntKind} {i:Int} (he:fM P t=some n) (c:ev N σ x= .slice (some ⟨b,off,none⟩) len cap) (q:ev N σ y= .int k i) (a:0≤i∧i < len):
 (execOp (ev N σ) ⟨dst,.indexAddr t x y,ty,pos,af,g⟩).run P w= .ok (.value<|.pointer<|some ⟨b,off+i.toNat*n,none⟩) w:=by
 unfold fM at he
 cases hd:P.underlying t with
 | none=>rw [hd] at he; cases he
 | some d=>
   rw [hd] at he
   cases d <;> first | (cases he; done) | skip
   rename_i e
   cases hi:P.info? e with
   | none=>simp [hi] at he
   | some j=>
     simp only [hi,kh,eM] at he
     subst he
     simp [execOp,Instr.indexAt,c,q,asIntOf,c7 hd,a.1,a.2,sizeOf,fR hi,kn]
def ez (a:Option Addr) (cap l n:Nat):Option Addr:=if cap=l then a else a.map (·.add (l*n))
theorem yD {t n len cap:Nat} {a:Option Addr} {lo hi:Option Value} {l h:Nat} (he:fM P t=some n) (A:ev N σ x= .slice a len cap)
 (q:(my true len cap lo hi none).run P w= .ok (l,h,cap) w) (c i:Option Operand) (C:c.map (ev N σ)=lo) (E:i.map (ev N σ)=hi):
 (execOp (ev N σ) ⟨dst,.slice t x c i none,ty,pos,af,g⟩).run P w= .ok (.value<|.slice (ez a cap l n) (h - l)<|cap - l) w:=by
 unfold fM at he
 cases hd:P.underlying t with
 | none=>rw [hd] at he; cases he
 | some d=>
   rw [hd] at he
   cases d <;> first | (cases he; done) | skip
   rename_i e
   cases hi':P.info? e with
   | none=>simp [hi'] at he
   | some j=>
     simp only [hi',kh,eM] at he
     subst he
     simp [execOp,oT,se,A,C,E,c7 hd,q,sizeOf,fR hi',ez]
theorem uf {t n len cap:Nat} {a:Option Addr} {k:IntKind} {i:Int} (he:fM P t=some n) (q:ev N σ x= .slice a len cap) (A:ev N σ z= .int k i) (c:0≤i∧i≤cap):
 (execOp (ev N σ) ⟨dst,.slice t x none (some z) none,ty,pos,af,g⟩).run P w= .ok (.value<|.slice a i.toNat cap) w:=by
 have :=yD (dst:=dst) (ty:=ty) (pos :=pos) (af:=af) (g:=g) (w:=w) (lo:=none) (hi:=some<|.int k i) (l:=0) (h:=i.toNat) he q
  (by simp [my,oU,asIntOf,c.1,c.2]) none (some z) rfl (by simp [A])
 rw [this]
 have hs:ez a cap 0 n=a:=by
  unfold ez; split
  · rfl
  · cases a <;> simp [uP]
 rw [hs]; rfl
theorem rS {t n len cap:Nat} {a:Option Addr} {k:IntKind} {i:Int} (he:fM P t=some n) (q:ev N σ x= .slice a len cap) (A:ev N σ y= .int k i) (c:0≤i∧i≤len):
 (execOp (ev N σ) ⟨dst,.slice t x (some y) none none,ty,pos,af,g⟩).run P w= .ok (.value<|.slice (ez a cap i.toNat n) (len - i.toNat)<|cap - i.toNat) w:=
 yD (lo:=some<|.int k i) (hi:=none) he q
  (by simp [my,oU,asIntOf,c.1,c.2]) (some y) none (by simp [A]) rfl
theorem Qd {t n len cap:Nat} {a:Option Addr} {k q:IntKind} {i j:Int} (he:fM P t=some n) (A:ev N σ x= .slice a len cap) (C:ev N σ y= .int k i) (E:ev N σ z= .int q j) (c:0≤i∧i≤j∧j≤cap):
 (execOp (ev N σ) ⟨dst,.slice t x (some y) (some z) none,ty,pos,af,g⟩).run P w= .ok (.value<|.slice (ez a cap i.toNat n) (j.toNat - i.toNat)<|cap - i.toNat) w:=by
 have h1:0≤j:=ab
 have h2:i≤(j.toNat:Int):=ab
 refine yD (lo:=some<|.int k i) (hi:=some<|.int q j) he A ?_ (some y) (some z) (by simp [C])<|by simp [E]
 simp only [my,oU,asIntOf,ng,n2,nd,zi,c.1,h1,c.2.2,h2,and_self,if_true]
theorem bR {n:Int} (h: -9223372036854775808≤n∧n≤9223372036854775807):uS.wrap n=n:=IntWalk.i64_in n h
theorem yV {n:Int} (h:0≤n∧n≤255):nb.wrap n=n:=IntWalk.u8_in n h
theorem mr {n:Int} (h:0≤n∧n≤18446744073709551615):dq.wrap n=n:=IntWalk.u64_in n h
theorem iv {k:IntKind} {a b:Int} (h:a=b):gA k a=gA k b:=by rw [h]
theorem ad {t A:TypeId} {k:IntKind} {a b:Int} (i:ev N σ x= .int k a) (q:ev N σ y= .int k b) (c:k.wrap (a+b)=a+b):
 (execOp (ev N σ) ⟨dst,.binOp .add t x y A,ty,pos,af,g⟩).run P w= .ok (.value<|.int k<|a+b) w:=by
 simp [execOp,i,q,eqGuard,binOp,sh,c]
theorem bG {t A:TypeId} {k:IntKind} {a b:Int} (v:Int) (i:ev N σ x= .int k a) (q:ev N σ y= .int k b) (c:k.wrap (a+b)=v):
 (execOp (ev N σ) ⟨dst,.binOp .add t x y A,ty,pos,af,g⟩).run P w= .ok (.value<|.int k v) w:=by
 subst c; simp [execOp,i,q,eqGuard,binOp,sh]
theorem cU {t A:TypeId} {k:IntKind} {a b:Int} (v:Int) (i:ev N σ x= .int k a) (q:ev N σ y= .int k b) (c:k.wrap (a - b)=v):
 (execOp (ev N σ) ⟨dst,.binOp .sub t x y A,ty,pos,af,g⟩).run P w= .ok (.value<|.int k v) w:=by
 subst c; simp [execOp,i,q,eqGuard,binOp,sh]
theorem oI {t A:TypeId} {k:IntKind} {a b:Int} (v:Int) (i:ev N σ x= .int k a) (q:ev N σ y= .int k b) (c:k.wrap (a*b)=v):
 (execOp (ev N σ) ⟨dst,.binOp .mul t x y A,ty,pos,af,g⟩).run P w= .ok (.value<|.int k v) w:=by
 subst c; simp [execOp,i,q,eqGuard,binOp,sh]
theorem bd {a:Int} {n:Nat} (h:a=n) (hn:n≤9223372036854775807):uS.wrap a=(n:Int):=by rw [h]; exact bR ab
theorem bv {p q:Prop} [Decidable p] [Decidable q] (h:p↔q):bL (decide p)=bL (decide q):=by rw [decide_eq_decide.2 h]
theorem sb {t A:TypeId} {k:IntKind} {a b:Int} (i:ev N σ x= .int k a) (q:ev N σ y= .int k b) (c:k.wrap (a - b)=a - b):
 (execOp (ev N σ) ⟨dst,.binOp .sub t x y A,ty,pos,af,g⟩).run P w= .ok (.value<|.int k<|a - b) w:=by
 simp [execOp,i,q,eqGuard,binOp,sh,c]
theorem nM {t C:TypeId} {k:IntKind} {a b:Int} (v:Int) (q:ev N σ x= .int k a) (A:ev N σ y= .int k b) (c:0≤a∧0 < b) (i:k.wrap (a / b)=v):
 (execOp (ev N σ) ⟨dst,.binOp .quo t x y C,ty,pos,af,g⟩).run P w= .ok (.value<|.int k v) w:=by
 have :a.tdiv b=a / b:=Int.tdiv_eq_ediv_of_nonneg c.1
 subst i; simp [execOp,q,A,eqGuard,binOp,Op.intDiv,show b≠0 from by omega,this]
theorem lt {t q:TypeId} {k:IntKind} {a b:Int} (c:ev N σ x= .int k a) (i:ev N σ y= .int k b):
 (execOp (ev N σ) ⟨dst,.binOp .lss t x y q,ty,pos,af,g⟩).run P w= .ok (.value<|.bool<|decide (a < b)) w:=by
 simp [execOp,c,i,eqGuard,binOp,qo]
theorem le {t q:TypeId} {k:IntKind} {a b:Int} (c:ev N σ x= .int k a) (i:ev N σ y= .int k b):
 (execOp (ev N σ) ⟨dst,.binOp .leq t x y q,ty,pos,af,g⟩).run P w= .ok (.value<|.bool<|decide (a≤b)) w:=by
 simp [execOp,c,i,eqGuard,binOp,qo]
theorem gt {t q:TypeId} {k:IntKind} {a b:Int} (c:ev N σ x= .int k a) (i:ev N σ y= .int k b):
 (execOp (ev N σ) ⟨dst,.binOp .gtr t x y q,ty,pos,af,g⟩).run P w= .ok (.value<|.bool<|decide (b < a)) w:=by
 simp [execOp,c,i,eqGuard,binOp,qo]
theorem ge {t q:TypeId} {k:IntKind} {a b:Int} (c:ev N σ x= .int k a) (i:ev N σ y= .int k b):
 (execOp (ev N σ) ⟨dst,.binOp .geq t x y q,ty,pos,af,g⟩).run P w= .ok (.value<|.bool<|decide (b≤a)) w:=by
 simp [execOp,c,i,eqGuard,binOp,qo]
theorem bS {t q:TypeId} {k:IntKind} {a b:Int} (c:ev N σ x= .int k a) (i:ev N σ y= .int k b):
 (execOp (ev N σ) ⟨dst,.binOp .eql t x y q,ty,pos,af,g⟩).run P w= .ok (.value<|.bool<|decide (a=b)) w:=by
 simp [execOp,c,i,eqGuard,binOp,qo]
 rw [qm]; simp
theorem gO {t q:TypeId} {k:IntKind} {a b:Int} (c:ev N σ x= .int k a) (i:ev N σ y= .int k b):
 (execOp (ev N σ) ⟨dst,.binOp .neq t x y q,ty,pos,af,g⟩).run P w= .ok (.value<|.bool<|decide (a≠b)) w:=by
 simp [execOp,c,i,eqGuard,binOp,qo]
 rw [qm]; simp
theorem no {t:TypeId} {b:Bool} (a:ev N σ x= .bool b):(execOp (ev N σ) ⟨dst,.unOp .not t x,ty,pos,af,g⟩).run P w= .ok (.value<|.bool<|!b) w:=by
 simp [execOp,a,zb]
theorem z8 {t A:TypeId} {k:IntKind} {a b v:Int} (i:ev N σ x= .int k a) (q:ev N σ y= .int k b) (c:k.wrap (eA k.bits a ||| eA k.bits b).toNat=v):
 (execOp (ev N σ) ⟨dst,.binOp .or t x y A,ty,pos,af,g⟩).run P w= .ok (.value<|.int k v) w:=by
 subst c; simp [execOp,i,q,eqGuard,binOp,si]
theorem dW {t A:TypeId} {k:IntKind} {a b v:Int} (i:ev N σ x= .int k a) (q:ev N σ y= .int k b) (c:k.wrap (eA k.bits a &&& eA k.bits b).toNat=v):
 (execOp (ev N σ) ⟨dst,.binOp .and t x y A,ty,pos,af,g⟩).run P w= .ok (.value<|.int k v) w:=by
 subst c; simp [execOp,i,q,eqGuard,binOp,si]
theorem shr {t A:TypeId} {k C:IntKind} {a b v:Int} (i:ev N σ x= .int k a) (q:ev N σ y= .int C b) (E:0≤b) (c:a.fdiv (2 ^ min b.toNat k.bits)=v):
 (execOp (ev N σ) ⟨dst,.binOp .shr t x y A,ty,pos,af,g⟩).run P w= .ok (.value<|.int k v) w:=by
 have :¬b < 0:=ab
 simp [execOp,i,q,eqGuard,binOp,Op.shift,this,c]
theorem shl {t A:TypeId} {k C:IntKind} {a b v:Int} (i:ev N σ x= .int k a) (q:ev N σ y= .int C b) (E:0≤b) (c:k.wrap (a*2 ^ min b.toNat k.bits)=v):
 (execOp (ev N σ) ⟨dst,.binOp .shl t x y A,ty,pos,af,g⟩).run P w= .ok (.value<|.int k v) w:=by
 have :¬b < 0:=ab
 simp [execOp,i,q,eqGuard,binOp,Op.shift,this,c]
theorem ED (m:Nat) (h:m < 256):((iU m).toNat:Int)=(m:Int):=by
 simp [Nat.mod_eq_of_lt h]
theorem cv {t u:TypeId} {k a:IntKind} {n:Int} (hu:P.underlying u=some (.int a)) (c:(P.underlying t).isSome=true) (i:ev N σ x= .int k n):
 (execOp (ev N σ) ⟨dst,.convert t u x,ty,pos,af,g⟩).run P w= .ok (.value<|.int a<|a.wrap n) w:=by
 obtain ⟨d,hd⟩:=nr.1 c
 cases d <;> simp [execOp,i,convert,c7 hu,c7 hd,Conv.intToInt]
theorem l5 {t u:TypeId} {k a:IntKind} {n v:Int} (hu:P.underlying u=some (.int a)) (i:(P.underlying t).isSome=true) (q:ev N σ x= .int k n) (c:a.wrap n=v):
 (execOp (ev N σ) ⟨dst,.convert t u x,ty,pos,af,g⟩).run P w= .ok (.value<|.int a v) w:=by
 rw [cv hu i q,c]
theorem wo {t u:TypeId} {k a:IntKind} {n:Int} (hu:P.underlying u=some (.int a)) (i:(P.underlying t).isSome=true) (q:ev N σ x= .int k n) (c:a.wrap n=n):
 (execOp (ev N σ) ⟨dst,.convert t u x,ty,pos,af,g⟩).run P w= .ok (.value<|.int a n) w:=by
 rw [cv hu i q,c]
theorem Lm (d:Nat) {t e:TypeId} {a:Option Addr} (hu:P.underlying t=some (.pointer e)):(uT (d+1) t (.pointer a)<|.pointer none).run P w= .ok a.isNone w:=by
 cases a <;> simp [uT,c7 hu]
theorem Bv {t e:TypeId} {a:Option Addr} (hu:P.underlying t=some (.pointer e)):(Op.equal t (.pointer a)<|.pointer none).run P w= .ok a.isNone w:=Lm 9999 hu
theorem kY {t q e:TypeId} {a:Option Addr} (hu:P.underlying t=some (.pointer e)) (c:ev N σ x= .pointer a) (i:ev N σ y= .pointer none):
 (execOp (ev N σ) ⟨dst,.binOp .eql t x y q,ty,pos,af,g⟩).run P w= .ok (.value<|.bool a.isNone) w:=by
 have h:(binOp .eql t (.pointer a)<|.pointer none).run P w= .ok (.bool a.isNone) w:=by
  simp only [binOp]; simp [Bv hu]
 simp [execOp,c,i,eqGuard,h]
theorem Om {t q e:TypeId} {a:Option Addr} (hu:P.underlying t=some (.pointer e)) (c:ev N σ x= .pointer a) (i:ev N σ y= .pointer none):
 (execOp (ev N σ) ⟨dst,.binOp .neq t x y q,ty,pos,af,g⟩).run P w= .ok (.value<|.bool a.isSome) w:=by
 have h:(binOp .neq t (.pointer a)<|.pointer none).run P w= .ok (.bool a.isSome) w:=by
  simp only [binOp]; simp [Bv hu]
 simp [execOp,c,i,eqGuard,h]
def str (l:List UInt8):Value:= .string ⟨⟨l⟩⟩
theorem db {t:TypeId} {l:List UInt8} {at_:Array TypeId} (c:P.underlying t=some .string) (a:at_= #[t]) (i:ev N σ x=str l):
 (execOp (ev N σ) ⟨dst,.call ⟨.builtin .len,#[x],at_⟩,ty,pos,af,g⟩).run P w= .ok (.value<|.int .i64 l.length) w:=by
 subst a
 simp [execOp,resolve,invoke,builtin,Fi,c7 c,i,str,goInt]
 rfl
theorem bO {t e:TypeId} {a:Option Addr} {n c:Nat} {at_:Array TypeId} (q:P.underlying t=some (.slice e)) (i:at_= #[t]) (A:ev N σ x= .slice a n c):
 (execOp (ev N σ) ⟨dst,.call ⟨.builtin .len,#[x],at_⟩,ty,pos,af,g⟩).run P w= .ok (.value<|.int .i64 n) w:=by
 subst i
 simp [execOp,resolve,invoke,builtin,Fi,c7 q,A,goInt]
theorem mn {k:IntKind} {a b:Int} {at_:Array TypeId} (c:ev N σ x= .int k a) (i:ev N σ y= .int k b):
 (execOp (ev N σ) ⟨dst,.call ⟨.builtin .min,#[x,y],at_⟩,ty,pos,af,g⟩).run P w= .ok (.value<|.int k<|min a b) w:=by
 have :(if b < a then b else a)=min a b:=ab
 simp [execOp,resolve,invoke,builtin,Builtin.min_,Builtin.min2,c,i,this]
theorem Nj {t:TypeId} {l:List UInt8} {k:IntKind} {i:Int} (A:P.underlying t=some .string) (C:ev N σ x=str l) (E:ev N σ y= .int k i) (c:0≤i∧i < l.length):
 (execOp (ev N σ) ⟨dst,.index t x y,ty,pos,af,g⟩).run P w= .ok (.value<|.int .u8 ((l.getD i.toNat 0).toNat:Int)) w:=by
 have hs:(⟨⟨l⟩⟩:ByteArray)[i.toNat]? =some (l.getD i.toNat 0):=by
  have a:i.toNat < l.length:=ab
  have q:i.toNat < (⟨⟨l⟩⟩:ByteArray).size:=a
  rw [getElem?_pos (⟨⟨l⟩⟩:ByteArray) i.toNat q]
  simp [cO,a,ByteArray.getElem_eq_getElem_data]
 simp [execOp,Instr.index,C,E,asIntOf,str,c7 A,c.1,hs]
theorem yC (l:List UInt8) (a b:Nat):Value.string ((⟨⟨l⟩⟩:ByteArray).extract a b)=str ((l.take b).drop a):=by
 unfold str
 congr 1
 apply ByteArray.ext
 simp [ByteArray.data_extract,List.extract_eq_take_drop,u7]
theorem lE (n:Nat) {t:TypeId} {l:List UInt8} {k:IntKind} (a:P.underlying t=some .string) (c:ev N σ x=str l) (i:ev N σ y= .int k (n:Int)) (h:n < l.length):
 (execOp (ev N σ) ⟨dst,.index t x y,ty,pos,af,g⟩).run P w= .ok (.value<|.int .u8 ((l.getD n 0).toNat:Int)) w:=Nj a c i ⟨ab,ab⟩
theorem ja {n:Nat} {t:TypeId} {l:List UInt8} {k:IntKind} (a:P.underlying t=some .string) (c:ev N σ x=str l) (i:ev N σ y= .int k (n:Int)) (h:n < l.length):
 (execOp (ev N σ) ⟨dst,.index t x y,ty,pos,af,g⟩).run P w= .ok (.value<|.int .u8 ((l.getD n 0).toNat:Int)) w:=lE n a c i h
theorem rT {t:TypeId} {l:List UInt8} {k E:IntKind} {a b:Int} (i:P.underlying t=some .string) (q:ev N σ x=str l) (A:ev N σ y= .int k a) (C:ev N σ z= .int E b) (c:0≤a∧a≤b∧b≤l.length):
 (execOp (ev N σ) ⟨dst,.slice t x (some y) (some z) none,ty,pos,af,g⟩).run P w= .ok (.value<|str<|(l.take b.toNat).drop a.toNat) w:=by
 have h1:b≤((⟨⟨l⟩⟩:ByteArray).size:Nat):=c.2.2
 have h2:0≤b:=ab
 have h3:a≤(b.toNat:Nat):=ab
 simp [execOp,oT,se,my,oU,q,A,C,asIntOf,str,c7 i,c.1,h1,h2]
 rw [if_pos ab]
 exact congrArg (fun v=>ze (y9 v) w)<|yC l a.toNat b.toNat
theorem rU {t:TypeId} {l:List UInt8} {A:IntKind} {b:Int} (c:P.underlying t=some .string) (i:ev N σ x=str l) (q:ev N σ z= .int A b) (a:0≤b∧b≤l.length):
 (execOp (ev N σ) ⟨dst,.slice t x none (some z) none,ty,pos,af,g⟩).run P w= .ok (.value<|str<|l.take b.toNat) w:=by
 have h1:b≤((⟨⟨l⟩⟩:ByteArray).size:Nat):=a.2
 have :=yC l 0 b.toNat
 simp only [sv] at this
 simp [execOp,oT,se,my,oU,i,q,asIntOf,str,c7 c,a.1,h1]
 exact FL this
theorem mZ {t:TypeId} {l:List UInt8} {k:IntKind} {a:Int} (i:P.underlying t=some .string) (q:ev N σ x=str l) (A:ev N σ y= .int k a) (c:0≤a∧a≤l.length):
 (execOp (ev N σ) ⟨dst,.slice t x (some y) none none,ty,pos,af,g⟩).run P w= .ok (.value<|str<|l.drop a.toNat) w:=by
 have h1:a≤((⟨⟨l⟩⟩:ByteArray).size:Nat):=c.2
 have :=yC l a.toNat l.length
 simp only [List.take_length] at this
 simp [execOp,oT,se,my,oU,q,A,asIntOf,str,c7 i,c.1,h1]
 exact FL this
theorem Er (l:List UInt8):(⟨⟨l⟩⟩:ByteArray).toList=l:=Lib.toList_data ⟨⟨l⟩⟩
theorem cc {t i:TypeId} {l m:List UInt8} (a:ev N σ x=str l) (c:ev N σ y=str m) (h:l.length+m.length≤9223372036854775807):
 (execOp (ev N σ) ⟨dst,.binOp .add t x y i,ty,pos,af,g⟩).run P w= .ok (.value<|str<|l++m) w:=by
 have h1:¬(((⟨⟨l⟩⟩:ByteArray).size+(⟨⟨m⟩⟩:ByteArray).size:Nat):Int) > uS.max:=by
  have :uS.max=9223372036854775807:=aw
  rw [this]
  show ¬((l.length+m.length:Nat):Int) > _
  omega
 have h2:(⟨⟨l⟩⟩:ByteArray)++(⟨⟨m⟩⟩:ByteArray)=⟨⟨l++m⟩⟩:=by
  apply ByteArray.ext; simp
 simp only [execOp,a,c,str,eqGuard,binOp,za]
 rw [if_neg h1,h2]
 rfl
theorem iy {t i:TypeId} {l m:List UInt8} (a:ev N σ x=str l) (c:ev N σ y=str m):
 (execOp (ev N σ) ⟨dst,.binOp .eql t x y i,ty,pos,af,g⟩).run P w= .ok (.value<|.bool<|decide (l=m)) w:=by
 simp only [execOp,a,c,str,eqGuard,binOp,za,Er]
 show ze (y9<|.bool<|l==m) w=_
 rw [show (l==m)=decide (l=m) from by rw [qm]; simp]
theorem rJ {t i:TypeId} {l m:List UInt8} (a:ev N σ x=str l) (c:ev N σ y=str m):
 (execOp (ev N σ) ⟨dst,.binOp .neq t x y i,ty,pos,af,g⟩).run P w= .ok (.value<|.bool<|decide (l≠m)) w:=by
 simp only [execOp,a,c,str,eqGuard,binOp,za,Er]
 show ze (y9<|.bool<|!(l==m)) w=_
 rw [show (!(l==m))=decide (l≠m) from by rw [qm]; simp]
theorem mf {fn:Fn} {first captured:Array Operand} :(execOp (ev N σ) ⟨dst,.makeFunc fn first captured,ty,pos,af,g⟩).run P w= .ok (.value<|.func fn (first.map<|ev N σ)<|captured.map<|ev N σ) w:=rfl
theorem C9 {fn:Fn} {first captured:Array Operand} :(execOp (ev N σ) ⟨dst,.makeFunc fn first captured,ty,pos,af,g⟩).run P w= .ok (.value<|.func fn (first.toList.map<|ev N σ).toArray (captured.toList.map<|ev N σ).toArray) w:=by
 rw [mf,← kJ,← kJ]
end
end Go.Hb
namespace Go.Hb
def bA (h:Array Obj) (b:Nat) (L:List Value):Prop := ∃ e,h[b]? =some (.cells L.toArray e (0,0))
theorem bA.aH {h:Array Obj} {b:Nat} {L:List Value} (a:bA h b L) (j:Nat):Hb.aH h b j=L[j]? :=by
 obtain ⟨e,a⟩:=a
 rw [aX a]; simp
theorem bA.bu {h:Array Obj} {b:Nat} {L:List Value} (a:bA h b L) (j:Nat):Hb.aH h b (0 +j)=L[j]? :=by
 rw [fj,a.aH]
theorem Md.B {F:Nat→Prop} {w w':World} (h:Md F w w') {b:Nat} {L:List Value} (a:bA w.heap b L) (c:¬F b):bA w'.heap b L:=
 let ⟨e,a⟩:=a; ⟨e,h.aB a c⟩
theorem Wk.B {w w':World} (h:Wk w w') {b:Nat} {L:List Value} (a:bA w.heap b L):bA w'.heap b L:=Md.B h a id
theorem bA.lt {h:Array Obj} {b:Nat} {L:List Value} (a:bA h b L):b < h.size:=let ⟨_,a⟩:=a; (cg.1 a).1
def bk (a:Option Addr):Nat:=match a with | some ad=>ad.block | none=>0
def fo (a:Option Addr):Nat:=match a with | some ad=>ad.off | none=>0
structure aC (h:Array Obj) (a:Option Addr) (xs:List Value):Prop where
 ok:xs≠[]→a=some ⟨bk a,fo a,none⟩
 aH:∀ j u,xs[j]? =some u→Hb.aH h (bk a) (fo a+j)=some u
theorem aC.nil (h:Array Obj) (a:Option Addr):aC h a []:=⟨fun h=>absurd rfl h,fun _ _ hu=>by simp at hu⟩
theorem aC.md {F:Nat→Prop} {w w':World} {a:Option Addr} {xs:List Value} (c:aC w.heap a xs) (h:Md F w w') (i:xs≠[]→¬F (bk a)):aC w'.heap a xs:=
 ⟨c.ok,fun j u hu=>h.aH (c.aH j u hu)<|i<|by rintro rfl; simp at hu⟩
theorem aC.wk {w w':World} {a:Option Addr} {xs:List Value} (c:aC w.heap a xs) (h:Wk w w'):aC w'.heap a xs:=c.md h fun _ x=>x
theorem aC.take {h:Array Obj} {a:Option Addr} {xs:List Value} (c:aC h a xs) (n:Nat):aC h a (xs.take n):=
 ⟨fun i=>c.ok (by rintro rfl; simp at i),fun j u hu=>c.aH j u<|by rw [lT] at hu; split at hu; exact hu; cases hu⟩
theorem aC.fO {h:Array Obj} {b:Nat} {L:List Value} (a:bA h b L):aC h (some ⟨b,0,none⟩) L:=
 ⟨fun _=>rfl,fun j u hu=>by show Hb.aH h b (0 +j)=_; rw [fj,a.aH]; exact hu⟩
theorem aC.jo {h:Array Obj} {a:Option Addr} {xs:List Value} (c:aC h a xs) {i:Nat} {u:Value} (hu:xs[i]? =some u):Hb.aH h (bk a) (fo a+i*1)=some u:=by
 rw [Nat.mul_one]; exact c.aH i u hu
def cX (h:Array Obj) (a:Option Addr) (l:List (List UInt8)):Prop :=aC h a<|l.map str
theorem cX.get {h:Array Obj} {a:Option Addr} {l:List (List UInt8)} (hs:cX h a l) {i:Nat} (hi:i < l.length):Hb.aH h (bk a) (fo a+i*1)=some (str<|l.getD i []):=
 aC.jo hs (by simp [cO,hi])
theorem cX.wk {w w':World} {a:Option Addr} {l:List (List UInt8)} (hs:cX w.heap a l) (h:Wk w w'):cX w'.heap a l:=aC.wk hs h
theorem cK {α:Type} {f:α→Value} {l:List α} (h:0 < l.length):l.map f≠[]:=by
 cases l with
 | nil=>simp at h
 | cons x l=>simp
def Si (k:IntKind) (h:Array Obj) (a:Option Addr) (l:List Int):Prop :=aC h a<|l.map<|gA k
def fz (P:Program) (t e size bytes:Nat):Bool:=
 match P.underlying t with
 | some (.slice a)=>a==e && match P.info? e with
   | some i=>i.size==size && i.bytes==bytes && eU 0 size && match i.zero with
     | some z=>z.cells.size==size
     | none=>false
   | none=>false
 | _=>false
theorem nP {P:Program} {t e size bytes:Nat} (h:fz P t e size bytes=true):
 P.underlying t=some (.slice e)∧∃ i z,P.info? e=some i∧i.zero=some z∧i.size=size∧i.bytes=bytes∧z.cells.size=size∧0 < size:=by
 unfold fz at h
 split at h
 · rename_i c hu
   simp only [fi,beq_iff_eq] at h
   obtain ⟨rfl,h⟩:=h
   split at h
   · rename_i i hi
     simp only [fi,beq_iff_eq] at h
     obtain ⟨⟨⟨h1,h2⟩,h3⟩,h4⟩:=h
     split at h4
     · rename_i z a
       exact ⟨hu,i,z,hi,a,h1,h2,by simpa using h4,o0 (qA 0)<|n8 h3⟩
     · cases h4
   · cases h
 · cases h
def dC (P:Program) (t:TypeId):Option Nat:=(P.info? t).map (·.size)
def zeroOf (P:Program) (t:TypeId):Option (Option<|List Value):=(P.info? t).map fun i=>i.zero.map fun z=>z.cells.toList
def a8 (P:Program) (f:FuncId):Prop := ∀ args w,(callFunc f args).run P w= .ok (.enter f args) w
theorem IT {P:Program} {f:FuncId} {fn:Func} (c:P.funcs[f]? =some fn) (hn:(fn.name== "runtime.NumGoroutine")=false) (a:fn.body.isNone=false):a8 P f:=by
 intro args w
 have h1:¬((fn.name== "runtime.NumGoroutine")=true):=by rw [hn]; simp
 have h2:¬(fn.body.isNone=true):=by rw [a]; simp
 simp only [callFunc,ng,run_program,nd,c]
 rw [if_neg h1,if_neg h2]
 rfl
section
variable {P:Program} {N:Fm} {σ:Nat→Value} {w:World} {dst:Option Nat} {ty:TypeId} {pos :String} {af:Array Edge} {g:Option (Nat×Bool)} {x y z:Operand} {K:(Nat→Value)→World→Prop}
theorem RM {o:Oper} {f:FuncId} {L:List Value} {R:Value→World→Prop} (i:(execOp (ev N σ) o).run P w= .ok (.enter f L.toArray) w) (c:ba P f L.toArray w R)
 (k:∀ v w',R v w'→K (fA σ o.dst v) w'):cA P N o σ w K:=by
 unfold cA il
 rw [fq,i]
 refine kf c fun e w' ⟨v,he,a⟩=> ?_
 subst he
 exact ⟨_,hZ ..,k v w' a⟩
theorem cl {f:FuncId} {args:Array Operand} {a:Array TypeId} {L:List Value} {R:Value→World→Prop} (i:a8 P f) (q:ba P f L.toArray w R) (c:args.toList.map (ev N σ)=L)
 (k:∀ v w',R v w'→K (fA σ dst v) w'):cA P N ⟨dst,.call ⟨.value (.func f),args,a⟩,ty,pos,af,g⟩ σ w K:=by
 refine RM (f:=f) ?_ q k
 have :args.map (ev N σ)=L.toArray:=by rw [← c,← kJ]
 simp [execOp,resolve,ev,nX,invoke,this,i L.toArray w]
theorem lM {o:Oper} {ob:Obj} {v:Nat→Value} (a:(execOp (ev N σ) o).run P w= .ok (.value<|v w.heap.size) {w with heap:=w.heap.push ob})
 (k:∀ b w',b=w.heap.size→Nw w w'→w'.heap[b]? =some ob→K (fA σ o.dst<|v b) w'):cA P N o σ w K:=
 lN a (k _ _ rfl (ya w ob) (by simp))
theorem al {e:TypeId} {c:List Value} (a:zeroOf P e=some (some c)) (k:∀ b w',b=w.heap.size→Nw w w'→bA w'.heap b c→K (fA σ dst<|.pointer<|some ⟨b,0,none⟩) w'):
 cA P N ⟨dst,.alloc e,ty,pos,af,g⟩ σ w K:=by
 refine lM (v:=fun b=> .pointer<|some ⟨b,0,none⟩) (ob:= .cells c.toArray e (0,0)) ?_ fun b w' h1 h2 h3=>k b w' h1 h2 ⟨e,h3⟩
 unfold zeroOf at a
 simp only [nu] at a
 obtain ⟨i,hi,zv,q,rfl⟩:=a
 simp [execOp,Fu,zeroValue,fR hi,q,newVar,newRow]
theorem gR {e:TypeId} {c:List Value} (a:zeroOf P e=some (some c)) (k:∀ b w',b=w.heap.size→Nw w w'→w'.heap[b]? =some (.cells c.toArray e (0,0))→K (fA σ dst<|.pointer<|some ⟨b,0,none⟩) w'):
 cA P N ⟨dst,.alloc e,ty,pos,af,g⟩ σ w K:=by
 refine lM (v:=fun b=> .pointer<|some ⟨b,0,none⟩) (ob:= .cells c.toArray e (0,0)) ?_ k
 unfold zeroOf at a
 simp only [nu] at a
 obtain ⟨i,hi,zv,q,rfl⟩:=a
 simp [execOp,Fu,zeroValue,fR hi,q,newVar,newRow]
theorem bx {e:TypeId} {v:Value} {L:List Value} (c:ev N σ x=v) (a:v.cells.toList=L) (k:∀ b w',b=w.heap.size→Nw w w'→bA w'.heap b L→K (fA σ dst<|.pointer<|some ⟨b,0,none⟩) w'):
 cA P N ⟨dst,.box e x,ty,pos,af,g⟩ σ w K:=by
 subst a
 refine lM (v:=fun b=> .pointer<|some ⟨b,0,none⟩) (ob:= .cells v.cells e (0,0)) ?_ fun b w' h1 h2 h3=>k b w' h1 h2 ⟨e,h3⟩
 simp [execOp,Instr.box,c,newVar,newRow]
theorem rF {t:TypeId} (k:∀ b w',b=w.heap.size→Nw w w'→w'.heap[b]? =some (.map #[] 0)→K (fA σ dst<|.map<|some b) w'):cA P N ⟨dst,.makeMap t none,ty,pos,af,g⟩ σ w K:=by
 refine lM (v:=fun b=> .map<|some b) ?_ k
 simp [execOp,Instr.makeMap]
theorem po {t e:TypeId} {size bytes:Nat} (c:fz P t e size bytes=true)
 (k:∀ b w',b=w.heap.size→Nw w w'→(∀ B,B≤b→w'.ownsRow B e size (.slice (some ⟨b,0,none⟩) 0 0) 0 [])→K (fA σ dst<|.slice (some ⟨b,0,none⟩) 0 0) w'):cA P N ⟨dst,.buildSlice t 0 #[],ty,pos,af,g⟩ σ w K:=by
 refine lM (v:=fun b=> .slice (some ⟨b,0,none⟩) 0 0) (ob:= .cells #[] e (0,0)) ?_ fun b w' h1 h2 h3=>k b w' h1 h2 fun B a=>⟨by simp,.inr ⟨b,0,#[],aa,a,h3,bX _,by simp [maxLen],by simp,by simp⟩⟩
 obtain ⟨hu,i,zv,hi,q,h1,h2,h3,h4⟩:=nP c
 simp [execOp,y4,c7 hu,sizeOf,fR hi,kK,newRow]
 congr 2
 exact Array.eq_empty_of_size_eq_zero<|by simp
theorem Ht {t e:TypeId} {size bytes:Nat} {v:Value} {L:List Value} (G:fz P t e size bytes=true) (hs:lk size 1000=true) (J:ev N σ x=v) (I:v.cells.size=size)
 (A:v.cells.toList=L) (k:∀ b w',b=w.heap.size→Nw w w'→w'.heap[b]? =some (.cells L.toArray e (0,0))→K (fA σ dst<|.slice (some ⟨b,0,none⟩) 1 1) w'):cA P N ⟨dst,.buildSlice t 1 #[(0,x)],ty,pos,af,g⟩ σ w K:=by
 subst A
 refine lM (v:=fun b=> .slice (some ⟨b,0,none⟩) 1 1) (ob:= .cells v.cells e (0,0)) ?_ fun b w' h1 h2 h3=>k b w' h1 h2<|by simpa using h3
 obtain ⟨hu,i,zv,hi,M,h1,h2,h3,h4⟩:=nP G
 have U:size≤1000:=by simpa using hs
 have C:kK (fun i=>some (i*size,size)) ((m9 size).map (zv.cells[· % zv.cells.size]!)) [(0,v)]=some v.cells:=by
  have a:((m9 size).map (zv.cells[· % zv.cells.size]!)).size=size:=by simp
  generalize (m9 size).map (zv.cells[· % zv.cells.size]!)=cs at a
  simp only [kK,I]
  rw [if_neg (by rw [a]; simp)]
  congr 1
  have key:∀ (l:List Value) (m:Nat) (cs:Array Value),m+l.length≤cs.size→∀ j,((l.zipIdx m).foldl (fun (cs:Array Value) (c,j)=>cs.setIfInBounds (0 *size+j) c) cs)[j]? =if j < m then cs[j]? else if j < m+l.length then l[j - m]? else cs[j]? :=by
   intro l
   induction l with
   | nil=>intro m cs hm j; simp; intro h1 h2; omega
   | cons c l O=>
     intro m cs hm j
     simp only [vm,qv,bT] at hm ⊢
     rw [O (m+1) _ (by simp; omega)]
     simp only [zA,fj,yY]
     by_cases h1:j < m
     · rw [if_pos ab,if_pos h1,if_neg ab]
     · rw [if_neg h1]
       by_cases h2:j=m
       · subst h2
         rw [if_pos ab,if_pos rfl,if_pos ab,if_pos ab]
         simp
       · rw [if_neg ab]
         by_cases h3:j < m+1 +l.length
         · rw [if_pos h3,if_pos ab]
           obtain ⟨q,E⟩:∃ q,j - m=q+1:=⟨j - m - 1,ab⟩
           rw [E,F1,show j - (m+1)=q from by omega]
         · rw [if_neg h3,if_neg ab,if_neg ab]
  apply E8
  intro j
  have :=key v.cells.toList 0 cs (by simp; omega) j
  rw [show (v.cells.zipIdx.foldl (fun (cs:Array Value) (c,j)=>cs.setIfInBounds (0 *size+j) c) cs)=((v.cells.toList.zipIdx 0).foldl (fun (cs:Array Value) (c,j)=>cs.setIfInBounds (0 *size+j) c) cs) from by
   rw [← Array.foldl_toList]; simp [Array.toList_zipIdx]]
  rw [this]
  simp only [Nat.not_lt_zero,if_false,fj,Nat.sub_zero,r8,yZ]
  split
  · rfl
  · rw [qk ab,qk ab]
 simp only [execOp,y4,ng,c7 hu,nd,sizeOf,fR hi,n2,h1,Nat.one_mul,zi,zeroValue,M,List.map_toArray,nk,List.map_nil,J,C]
 rw [if_neg (by rw [show (2:Nat) ^ 24=16777216 from rfl]; omega),if_neg ab]
 simp [newRow]
theorem Ab {t e:TypeId} {size bytes:Nat} {v:Value} {L:List Value} (c:fz P t e size bytes=true) (hs:lk size 1000=true) (q:ev N σ x=v) (i:v.cells.size=size)
 (a:v.cells.toList=L) (k:∀ b w',b=w.heap.size→Nw w w'→bA w'.heap b L→K (fA σ dst<|.slice (some ⟨b,0,none⟩) 1 1) w'):cA P N ⟨dst,.buildSlice t 1 #[(0,x)],ty,pos,af,g⟩ σ w K:=
 Ht c hs q i a fun b w' h1 h2 h3=>k b w' h1 h2 ⟨_,h3⟩
theorem nK {v:Value} (h:v.oneCell'=true):v.cells= #[v]:=by cases v <;> first | rfl | (cases h; done)
theorem BE {loc:Nat→Option (Nat×Nat)} (c:∀ i,loc i=some (i*1,1)):∀ (rest pre a:List Value),a.length=rest.length→rest.all eH=true→
 kK loc (pre++a).toArray ((rest.zipIdx pre.length).map fun q=>(q.2,q.1))=some (pre++rest).toArray
 | [],pre,a,hl,_=>by
   rw [gi hl]; rfl
 | v::r,pre,a,hl,h1=>by
   cases a with
   | nil=>simp at hl
   | cons z a=>
     rw [u4,fi] at h1
     have C:=nK h1.1
     have A:=BE c r (pre++ [v]) a (by simpa using hl) h1.2
     simp only [vm,nk,kK,c,C]
     rw [if_neg (by simp)]
     simp only [bF,iq,dx,List.singleton_append] at A
     rw [← A]
     simp
theorem pw {t e bytes n:Nat} {ps:Array (Nat×Operand)} {L:List Value} (A:fz P t e 1 bytes=true) (hp:ps.toList.map (fun p=>(p.1,ev N σ p.2))=(L.zipIdx 0).map fun q=>(q.2,q.1)) (h1:L.all eH=true) (hn:L.length=n) (hs:(lk n 1000 && eU 0 n)=true)
 (k:∀ b w',b=w.heap.size→Nw w w'→w'.heap[b]? =some (.cells L.toArray e (0,0))→K (fA σ dst<|.slice (some ⟨b,0,none⟩) n n) w'):cA P N ⟨dst,.buildSlice t n ps,ty,pos,af,g⟩ σ w K:=by
 subst hn
 refine lM (v:=fun b=> .slice (some ⟨b,0,none⟩) L.length L.length) (ob:= .cells L.toArray e (0,0)) ?_ k
 obtain ⟨hu,i,zv,hi,C,a,h2,h3,h4⟩:=nP A
 simp only [fi] at hs
 have G:L.length≤1000:=by simpa using hs.1
 have I:0 < L.length:=by have :=n8 hs.2; omega
 have c:kK (fun i=>some (i*1,1)) ((m9<|L.length*1).map (zv.cells[· % zv.cells.size]!)) (ps.toList.map fun p=>(p.1,ev N σ p.2))=some L.toArray:=by
  rw [hp]
  have E:((m9<|L.length*1).map (zv.cells[· % zv.cells.size]!)).toList.length=L.length:=by simp
  have :=BE (loc:=fun i=>some (i*1,1)) (fun _=>rfl) L [] ((m9<|L.length*1).map (zv.cells[· % zv.cells.size]!)).toList E h1
  rw [kN,kN,uK] at this
  exact this
 simp only [execOp,y4,ng,c7 hu,nd,sizeOf,fR hi,n2,a,zi,zeroValue,C,kJ,c]
 rw [if_neg (by rw [show (2:Nat) ^ 24=16777216 from rfl]; omega),if_neg ab]
 simp [newRow]
theorem kT {t e:TypeId} {bytes:Nat} {v:Value} (a:fz P t e 1 bytes=true) (c:ev N σ x=v) (h1:v.oneCell'=true)
 (k:∀ b w',b=w.heap.size→Nw w w'→bA w'.heap b [v]→K (fA σ dst<|.slice (some ⟨b,0,none⟩) 1 1) w'):cA P N ⟨dst,.buildSlice t 1 #[(0,x)],ty,pos,af,g⟩ σ w K:=
 Ab a rfl c (by rw [nK h1]; rfl) (by rw [nK h1]) k
theorem nB {t e:TypeId} {size bytes:Nat} {L:List Value} (c:fz P t e size bytes=true) (hs:lk size 1000=true) (i:ev N σ x= .agg L.toArray) (a:L.length=size)
 (k:∀ b w',b=w.heap.size→Nw w w'→bA w'.heap b L→K (fA σ dst<|.slice (some ⟨b,0,none⟩) 1 1) w'):cA P N ⟨dst,.buildSlice t 1 #[(0,x)],ty,pos,af,g⟩ σ w K:=
 Ab c hs i (by simpa [qt] using a) (by simp [qt]) k
theorem jq {e:TypeId} {L:List Value} (a:ev N σ x= .agg L.toArray) (k:∀ b w',b=w.heap.size→Nw w w'→bA w'.heap b L→K (fA σ dst<|.pointer<|some ⟨b,0,none⟩) w'):
 cA P N ⟨dst,.box e x,ty,pos,af,g⟩ σ w K:=bx a (by simp [qt]) k
theorem qO {e:TypeId} {L:List Value} (a:ev N σ x= .agg L.toArray) (k:∀ b w',b=w.heap.size→Nw w w'→w'.heap[b]? =some (.cells L.toArray e (0,0))→K (fA σ dst<|.pointer<|some ⟨b,0,none⟩) w'):
 cA P N ⟨dst,.box e x,ty,pos,af,g⟩ σ w K:=by
 refine lM (v:=fun b=> .pointer<|some ⟨b,0,none⟩) (ob:= .cells L.toArray e (0,0)) ?_ fun b w' h1 h2 h3=>k b w' h1 h2 h3
 simp [execOp,Instr.box,a,newVar,newRow,qt]
theorem qK {l:List Value} (h:l.all eH=true):∀ u∈l,u.oneCell'=true :=kg.1 h
theorem dA {t b off :Nat} {e:TypeId} {L:List Value} {v:Value} (c:dC P t=some 1) (O:ev N σ x= .pointer (some ⟨b,off,none⟩)) (U:ev N σ y=v) (h1:v.oneCell'=true) (a:w.heap[b]? =some (.cells L.toArray e (0,0))) (I:off < L.length)
 (k:∀ w',Md (fun k=>k=b) w w'→w'.heap[b]? =some (.cells (L.set off v).toArray e (0,0))→K σ w'):cA P N ⟨none,.store t x y,ty,pos,af,g⟩ σ w K:=by
 have A:v.cells= #[v]:=by cases v <;> first | rfl | (cases h1; done)
 have C:w.cell? ⟨b,off,none⟩=some L[off]:=by rw [lA,aX a]; simp [I]
 have E:w.frozen? ⟨b,off,none⟩=false :=by simp only [World.frozen?,show w.heap[b]? =_ from a]; simp
 unfold dC at c
 simp only [nu] at c
 obtain ⟨i,hi,hs⟩:=c
 have q:(⟨b,off,none⟩:Addr).add 0=⟨b,off,none⟩:=rfl
 have J:(execOp (ev N σ) ⟨none,.store t x y,ty,pos,af,g⟩).run P w= .ok .skip (w.setCell ⟨b,off,none⟩ v):=by
  simp [execOp,y8,O,U,nY,storeVar,A,sizeOf,fR hi,hs,storeCells,q,run_store P w _ v _ h1,C,E]
 unfold cA il
 rw [fq,J]
 refine ⟨σ,aa,k _ ⟨aa,aa,by simp [uZ],fun k _ hk=> ?_⟩ ?_⟩
 · exact Below.heap_setCell w _ v k hk
 · have G:=(cg.1 a).1
   have M:w.heap[b]= .cells L.toArray e (0,0):=(cg.1 a).2
   simp only [uZ]
   rw [uJ (by simpa using G),Array.getElem_modify]
   simp [M,List.setIfInBounds_toArray]
theorem st {t b off :Nat} {L:List Value} {v:Value} (A:dC P t=some 1) (i:ev N σ x= .pointer (some ⟨b,off,none⟩)) (q:ev N σ y=v) (h1:v.oneCell'=true) (a:bA w.heap b L) (c:off < L.length)
 (k:∀ w',Md (fun k=>k=b) w w'→bA w'.heap b (L.set off v)→K σ w'):cA P N ⟨none,.store t x y,ty,pos,af,g⟩ σ w K:=
 let ⟨_,a⟩:=a
 dA A i q h1 a c fun w' h1 h2=>k w' h1 ⟨_,h2⟩
theorem ga {t b off n:Nat} {e:TypeId} {L vs:List Value} (a:dC P t=some n) (A:ev N σ x= .pointer (some ⟨b,off,none⟩)) (C:ev N σ y= .agg vs.toArray) (hn:vs.length=n) (h1:vs.all eH=true) (c:w.heap[b]? =some (.cells L.toArray e (0,0))) (E:off+n≤L.length)
 (k:∀ w',Md (fun k=>k=b) w w'→w'.heap[b]? =some (.cells (L.take off++vs++L.drop (off+n)).toArray e (0,0))→K σ w'):cA P N ⟨none,.store t x y,ty,pos,af,g⟩ σ w K:=by
 unfold dC at a
 simp only [nu] at a
 obtain ⟨i,hi,hs⟩:=a
 have bK:=run_storeCells_at P b off e vs 0 L.toArray w c (by simp; omega)<|qK h1
 have q:(execOp (ev N σ) ⟨none,.store t x y,ty,pos,af,g⟩).run P w= .ok .skip (w.setRow b (L.take off++vs++L.drop (off+n)).toArray):=by
  simp [execOp,y8,A,C,nY,storeVar,qt,sizeOf,fR hi,hs,hn,bK]
 unfold cA il
 rw [fq,q]
 exact ⟨σ,aa,k _ ⟨aa,aa,by simp,fun k _ hk=>setRow_other w b k _ hk⟩<|setRow_heap w b _ _ e _ c⟩
theorem cw {t b off n:Nat} {L vs:List Value} (c:dC P t=some n) (A:ev N σ x= .pointer (some ⟨b,off,none⟩)) (C:ev N σ y= .agg vs.toArray) (hn:vs.length=n) (h1:vs.all eH=true) (a:bA w.heap b L) (E:off+n≤L.length)
 (k:∀ w',Md (fun k=>k=b) w w'→bA w'.heap b (L.take off++vs++L.drop (off+n))→K σ w'):cA P N ⟨none,.store t x y,ty,pos,af,g⟩ σ w K:=by
 obtain ⟨e,a⟩:=a
 unfold dC at c
 simp only [nu] at c
 obtain ⟨i,hi,hs⟩:=c
 have bK:=run_storeCells_at P b off e vs 0 L.toArray w a (by simp; omega)<|qK h1
 have q:(execOp (ev N σ) ⟨none,.store t x y,ty,pos,af,g⟩).run P w= .ok .skip (w.setRow b (L.take off++vs++L.drop (off+n)).toArray):=by
  simp [execOp,y8,A,C,nY,storeVar,qt,sizeOf,fR hi,hs,hn,bK]
 unfold cA il
 rw [fq,q]
 exact ⟨σ,aa,k _ ⟨aa,aa,by simp,fun k _ hk=>setRow_other w b k _ hk⟩ ⟨e,setRow_heap w b _ _ e _ a⟩⟩
theorem G2 {t ty e:TypeId} {i:TypeInfo} {zv:Value} {B n m c:Nat} {v U:Value} {xs news:List Value} {ad:Addr} {w':World} (hu:P.underlying t=some (.slice e)) (hi:P.info? e=some i) (O:i.zero=some zv) (ae:zv.cells.size=i.size) (aa:0 < i.size)
 (C:w.ownsRow B e i.size v n xs) (A:news.length=m*i.size) (E:∀ j u,news[j]? =some u→w.cell? (ad.add j)=some u) (h1:∀ u∈news,u.oneCell'=true) (I:n+m≤maxLen) (G:(n+m)*i.bytes≤140737488355328)
 (a:(uQ #[t,t] ty #[v,.slice (some ad) m c]).run P w= .ok U w'):∀ k,U.ownBlock=some k→v.ownBlock=some k∨w.heap.size≤k:=by
 intro k hk
 have ag:n+m≤9223372036854775807:=by unfold maxLen at I; omega
 rcases C.2 with ⟨rfl,rfl⟩ | ⟨q,cap,cur,rfl,ai,Z,ak,aj,V,al⟩
 · have ac:xs= []:=gi<|by simpa using C.1
   subst ac
   obtain ⟨v2,am,J,h2,_,_⟩:=run_append_own (P:=P) w w.heap.size t ty e i zv i.size i.bytes hu hi O rfl rfl ae aa _ 0 [] (dI w w.heap.size e i.size) ad m c news A E h1 I G (bX _)
   rw [a] at J
   cases J
   exact .inr (by
    rcases h2.2 with ⟨h,_⟩ | ⟨g2,_,_,h,ah,_⟩
    · rw [h] at hk; simp [gh] at hk
    · rw [h] at hk; simp only [gh,eM] at hk; omega)
 · by_cases M:n+m≤cap
   · have Y:n*i.size+news.length≤cur.size:=by rw [A,V,← Nat.add_mul]; exact qB _ M
     rw [run_append_room (P:=P) w t ty e i hu hi q n cap cur Z ad m c news A E h1 M Y] at a
     cases a
     exact .inl hk
   · have holds:∀ j u,xs[j]? =some u→w.cell? ((⟨q,0,none⟩:Addr).add j)=some u:=C.cells (g:=q) rfl
     rw [run_append_grow (P:=P) w t ty e i zv hu hi O ⟨q,0,none⟩ n cap xs C.1 holds ad m c news A E ab ab (growslice_fits ab G)] at a
     cases a
     simp only [gh,eM] at hk
     exact .inr ab
theorem ap {t e size bytes B n m c:Nat} {v:Value} {xs news:List Value} {a:Option Addr} (ai:fz P t e size bytes=true) (A:w.ownsRow B e size v n xs) (V:ev N σ x=v) (ab:B≤w.heap.size)
 (Y:ev N σ y= .slice a m c) (I:aC w.heap a news) (C:news.length=m*size) (h1:news.all eH=true) (E:(n+m)*bytes≤140737488355328) (al:n+m≤9223372036854775807)
 (k:∀ q w',w'.ownsRow B e size q (n+m) (xs++news)→Md (fun k=>v.ownBlock=some k) w w'→(q= .slice none 0 0↔v= .slice none 0 0∧m=0)→(∀ k,q.ownBlock=some k→v.ownBlock=some k∨w.heap.size≤k)→K (fA σ dst q) w'):
 cA P N ⟨dst,.call ⟨.builtin .append,#[x,y],#[t,t]⟩,ty,pos,af,g⟩ σ w K:=by
 obtain ⟨hu,i,zv,hi,Z,hs,G,aa,O⟩:=nP ai
 have J:n+m≤maxLen:=by unfold maxLen; omega
 by_cases hm:news= []
 · subst hm
   have ae:m=0:=by
    rcases Nat.mul_eq_zero.1 (C.symm.trans rfl) with h | h
    · exact h
    · omega
   subst ae
   have ah:(uQ #[t,t] ty #[v,.slice a 0 c]).run P w= .ok v w:=by
    rcases A.2 with ⟨rfl,rfl⟩ | ⟨ak,cap,cur,rfl,_,_,hle,_⟩
    · cases a <;> simp [uQ,c7 hu,sizeOf,fR hi,Fh,Fg,loadCells,loadCellsFrom]
    · cases a <;> simp [uQ,c7 hu,sizeOf,fR hi,Fh,Fg,loadCells,loadCellsFrom,hle,storeCells]
   refine lN (w':=w) (v:=v) ?_<|k v w (by simpa using A) (Md.refl _ _) (by simp) fun _ h=> .inl h
   simp [execOp,resolve,invoke,builtin,V,Y,ah]
 · have ac:=I.ok hm
   have M:∀ j u,news[j]? =some u→w.cell? ((⟨bk a,fo a,none⟩:Addr).add j)=some u:=fun j u hu=>by rw [kn,lA]; exact I.aH j u hu
   obtain ⟨q,w',U,h2,h3,h4⟩:=run_append_own (P:=P) w B t ty e i zv size bytes hu hi Z hs G aa O v n xs A ⟨bk a,fo a,none⟩ m c news C M (qK h1) J E ab
   subst hs G
   have ad:=G2 hu hi Z aa O A C M (qK h1) J E U
   refine lN (w':=w') (v:=q) ?_<|k q w' h2 ⟨h3.os,h3.output,h3.size,fun k hk ag=>h3.block k hk fun e=>ag e.symm⟩ h4 ad
   have aj:ev N σ y= .slice (some ⟨bk a,fo a,none⟩) m c:=Y.trans<|congrArg (fun a=>bz a m c) ac
   simp [execOp,resolve,invoke,builtin,V,aj,U]
theorem aW {t n len cap:Nat} {k:IntKind} {i:Int} {a:Option Addr} (he:fM P t=some n) (q:ev N σ x= .slice a len cap) (A:ev N σ y= .int k i) (c:0≤i∧i < len) (C:a=some ⟨bk a,fo a,none⟩):
 (execOp (ev N σ) ⟨dst,.indexAddr t x y,ty,pos,af,g⟩).run P w= .ok (.value<|.pointer<|some ⟨bk a,fo a+i.toNat*n,none⟩) w:=
 ia he (by rw [q]; congr 1) A c
end
theorem bZ {F:Nat→Prop} {w w':World} {B e size n:Nat} {v:Value} {xs:List Value} (h:w.ownsRow B e size v n xs) (hm:Md F w w') (c:∀ k,v.ownBlock=some k→¬F k):w'.ownsRow B e size v n xs:=by
 refine ⟨h.1,?_⟩
 rcases h.2 with hn | ⟨g,cap,cur,rfl,a,i,rest⟩
 · exact .inl hn
 · exact .inr ⟨g,cap,cur,aa,a,hm.aB i (c g aa),rest⟩
section
variable {P:Program} {N:Fm} {σ:Nat→Value} {w:World} {dst:Option Nat} {ty:TypeId} {pos :String} {af:Array Edge} {g:Option (Nat×Bool)} {x y z:Operand} {K:(Nat→Value)→World→Prop}
theorem p6 {t B e size n cap off j:Nat} {a:Option Addr} {xs:List Value} {u:Value} (U:w.ownsRow B e size (.slice a n cap) n xs) (ab:dC P t=some 1) (Y:ev N σ x= .pointer (some ⟨bk a,off,none⟩)) (Z:ev N σ y=u) (h1:u.oneCell'=true)
 (J:off =fo a+j) (O:j < n*size)
 (k:∀ w',Md (fun k=>(bz a n cap).ownBlock=some k) w w'→w'.ownsRow B e size (.slice a n cap) n (xs.set j u)→K σ w'):cA P N ⟨none,.store t x y,ty,pos,af,g⟩ σ w K:=by
 obtain ⟨q,h⟩:=U
 rcases h with ⟨h,rfl⟩ | ⟨c,cp,cur,h,A,I,hle,G,i,V⟩
 · simp at O
 · simp only [lg,true_and] at h
   obtain ⟨rfl,rfl⟩:=h
   have M:off =j:=by rw [J]; simp [fo]
   subst M
   have hlen:off < cur.toList.length:=by
    have :=qB size hle
    rw [r8,i]; omega
   refine dA (L:=cur.toList) ab Y Z h1 (show w.heap[c]? =_ by simpa using I) hlen fun w' E C=>k w' (E.mono fun k _ hk=>by subst hk; rfl) ⟨by simpa using q,.inr ⟨c,cap,_,aa,A,C,hle,G,by simpa using i,?_⟩⟩
   rw [← V]
   simp only
   rw [List.take_set]
end
theorem eb {w:World} {B e size n:Nat} {v:Value} {xs:List Value} (h:w.ownsRow B e size v n xs):v.oneCell'=true :=by
 rcases h.2 with ⟨rfl,_⟩ | ⟨g,cap,cur,rfl,_⟩ <;> rfl
theorem cR {w:World} {B e size n:Nat} {v:Value} {xs:List Value} (h:w.ownsRow B e size v n xs):∃ a cap,v= .slice a n cap:=by
 rcases h.2 with ⟨rfl,rfl⟩ | ⟨g,cap,cur,rfl,_⟩
 · exact ⟨_,_,aa⟩
 · exact ⟨_,_,aa⟩
theorem mi {w:World} {B B' e i size I n G:Nat} {v q:Value} {xs J:List Value} (h:w.ownsRow B e size v n xs) (A:w.ownsRow B' i I q G J) (E:e≠i) {k:Nat} (hk:v.ownBlock=some k):q.ownBlock≠some k:=by
 intro c
 rcases h.2 with ⟨rfl,_⟩ | ⟨g,cap,cur,rfl,_,C,_⟩
 · simp [gh] at hk
 · rcases A.2 with ⟨rfl,_⟩ | ⟨U,M,O,rfl,_,a,_⟩
   · simp [gh] at c
   · simp only [gh,eM] at hk c
     subst hk c
     rw [C] at a
     simp only [eM,sg] at a
     exact E a.2.1
theorem aV {w w':World} {B e size n:Nat} {v:Value} {xs:List Value} (h:w.ownsRow B e size v n xs) (hm:Wk w w'):w'.ownsRow B e size v n xs:=bZ h hm fun _ _ x=>x
theorem dd {w:World} {B e size n:Nat} {v:Value} {xs:List Value} (h:w.ownsRow B e size v n xs) {k:Nat} (hk:v.ownBlock=some k):B≤k∧k < w.heap.size:=h.lt k hk
theorem Wk.own {a w w':World} {B e size n:Nat} {v:Value} {xs:List Value} (h:Wk a w) (c:w.ownsRow B e size v n xs) (hm:Md (fun k=>v.ownBlock=some k) w w') (q:a.heap.size≤B):Wk a w':=
 Md.trans' h hm (fun k hk i=>by have :=(dd c i).1; omega)
theorem pY {w:World} {B e size n:Nat} {v:Value} {xs:List Value} (h:w.ownsRow B e size v n xs):∃ a cap,v= .slice a n cap∧aC w.heap a xs∧n≤cap∧(∀ k,v.ownBlock=some k→a=some ⟨k,0,none⟩∧B≤k∧k < w.heap.size)∧(v.ownBlock=none→xs= []):=by
 rcases h.2 with ⟨rfl,rfl⟩ | ⟨g,cap,cur,rfl,i,c,hle,_,_,q⟩
 · have :xs= []:=gi<|by simpa using h.1
   subst this
   exact ⟨none,0,aa,aC.nil _ _,bX _,fun k hk=>by simp [gh] at hk,fun _=>rfl⟩
 · refine ⟨_,cap,aa,⟨fun _=>rfl,fun j u hu=> ?_⟩,hle,fun k hk=> ?_,fun hk=>by simp [gh] at hk⟩
   · show aH w.heap g (0 +j)=_
     rw [fj,aX c]
     rw [← q,lT] at hu
     split at hu
     · simpa using hu
     · cases hu
   · simp only [gh,eM] at hk; subst hk
     exact ⟨aa,i,(cg.1 c).1⟩
theorem aT {w:World} {B e size n cap:Nat} {a:Option Addr} {xs:List Value} (h:w.ownsRow B e size (.slice a n cap) n xs):n≤cap∧aC w.heap a xs:=by
 obtain ⟨q,A,c,i,hle,_⟩:=pY h
 simp only [lg,true_and] at c
 obtain ⟨rfl,rfl⟩:=c
 exact ⟨hle,i⟩
theorem eD {w:World} {B B' e size n:Nat} {v:Value} {xs:List Value} (h:w.ownsRow B e size v n xs) (a:B'≤B):w.ownsRow B' e size v n xs:=by
 refine ⟨h.1,?_⟩
 rcases h.2 with h | ⟨g,cap,cur,h1,h2,r⟩
 · exact .inl h
 · exact .inr ⟨g,cap,cur,h1,eV a h2,r⟩
theorem aC.drop {h:Array Obj} {a:Option Addr} {xs:List Value} (c:aC h a xs) {cap k size:Nat} (A:xs.length≤cap*size):aC h (ez a cap k size) (xs.drop<|k*size):=by
 unfold ez
 by_cases hk:cap=k
 · rw [if_pos hk,kL (by rw [← hk]; exact A)]; exact aC.nil _ _
 · rw [if_neg hk]
   by_cases i:xs= []
   · subst i; rw [List.drop_nil]; exact aC.nil _ _
   · have q:=c.ok i
     rw [q]
     simp only [kh,kn]
     refine ⟨fun _=>rfl,fun j u hu=> ?_⟩
     rw [sw] at hu
     have :=c.aH _ _ hu
     show Hb.aH h (bk a) (fo a+k*size+j)=_
     rw [Gi]; exact this
theorem OO {w:World} {B e size n cap:Nat} {a:Option Addr} {xs:List Value} (h:w.ownsRow B e size (.slice a n cap) n xs) (i:xs≠[]):B≤bk a∧bk a < w.heap.size:=by
 obtain ⟨q,A,c,_,_,h1,h2⟩:=pY h
 simp only [lg,true_and] at c
 obtain ⟨rfl,rfl⟩:=c
 cases hk:(bz a n cap).ownBlock with
 | none=>exact absurd (h2 hk) i
 | some k=>
   obtain ⟨rfl,h3,h4⟩:=h1 k hk
   exact ⟨h3,h4⟩
section
variable {P:Program} {N:Fm} {σ:Nat→Value} {w:World} {dst:Option Nat} {ty:TypeId} {pos :String} {af:Array Edge} {g:Option (Nat×Bool)} {x y z:Operand} {K:(Nat→Value)→World→Prop}
end
end Go.Hb
namespace Go.Hb
section
variable {P:Program} {md:oV} {ops:Array Oper} {Q:Exit→Act→World→Prop} {S:World→Prop} {r:Nat}
def m6 (P:Program) (md:oV) (ops:Array Oper) (Q:Exit→Act→World→Prop) (S:World→Prop) (r:Nat):Nat→Array Bool→Act→World→Prop
 | 0,aK,a,w=>gz md ops aK= []∧Q .normal a w
 | fuel+1,aK,a,w=>
   (gz md ops aK= []→Q .normal a w)∧
   ∀ i∈gz md ops aK,wpOp P ops Q i (fun c w'=>((aK.setIfInBounds i true).getD r false =false→S w')∧m6 P md ops Q S r fuel (aK.setIfInBounds i true) c w') a w
theorem EO:∀ (fuel:Nat) (aK:Array Bool) (a:Act) (w:World),m6 P md ops Q S r fuel aK a w→wpAny P md ops Q fuel aK a w
 | 0,_,_,_,h=>h
 | fuel+1,_,_,_,h=>⟨h.1,fun i hi=>wpOp_mono (fun c w' q=>EO fuel _ c w' q.2)<|h.2 i hi⟩
theorem RI {i:Nat} {E:Oper} {v:Value} (hi:ops[i]? =some E) (ah:∀ (j:Nat) (o:Oper) cs b,ops[j]? =some o→o.op≠.select cs b)
 (ak:∀ c a w,Q (.panic c) (a.put E.dst v) w→Q (.panic c) a w) (au:∀ o,ops[r]? =some o→∃ x∈o.after,im md x=true∧x.on=i) (an:i≠r):
 ∀ (fuel:Nat) (aK:Array Bool) (a:Act) (w:World),
   (∀ j A,ops[j]? =some A→j≠i→aK.getD j true =false→(∀ x∈A.after,im md x=true→x.on≠i)→E.apart ops A=true)→
   i∈gz md ops aK→YieldsIf P ops S E v a→S w→aK.getD r false =false→
   m6 P md ops Q S r fuel (aK.setIfInBounds i true) (a.put E.dst v) w→m6 P md ops Q S r (fuel+1) aK a w:=by
 intro fuel
 induction fuel with
 | zero=>
   intro aK a w _ C M G _ H
   refine ⟨fun h=>(by rw [h] at C; cases C),fun j I=> ?_⟩
   by_cases q:j=i
   · subst q; exact M.wpOp hi G ⟨fun _=>G,H⟩
   · have :=ready_mono I q
     rw [H.1] at this
     cases this
 | succ fuel av=>
   intro aK a w Z C M G ad H
   refine ⟨fun h=>(by rw [h] at C; cases C),fun j I=> ?_⟩
   by_cases q:j=i
   · subst q; exact M.wpOp hi G ⟨fun _=>G,H⟩
   · have h1:=H.2 j<|ready_mono I q
     obtain ⟨ac,A,J,al⟩:=mem_ready.1 I
     have ag:∀ x∈A.after,im md x=true→x.on≠i:=fun x V U heq=>by
      have h1:=al x V U
      have Y:=(mem_ready.1 C).1
      rw [heq] at h1
      rcases gC i aK.size with O | O
      · simp [O] at Y h1; rw [Y] at h1; cases h1
      · simp [qk O] at h1
     have ab:j≠r:=by
      rintro rfl
      obtain ⟨x,V,U,ar⟩:=au A J
      exact ag x V U ar
     have ap:(aK.setIfInBounds j true).getD r false =false :=by rw [getD_set_ne false ab]; exact ad
     have ae:((aK.setIfInBounds i true).setIfInBounds j true).getD r false =false :=by rw [getD_set_ne false ab,getD_set_ne false an]; exact ad
     have h2:=wpOp_putIf J (Z j A J q ac ag) (fun cs b=>ah i E cs b hi) (fun cs b=>ah j A cs b J) ak M h1
     have am:∀ k ok,ops[k]? =some ok→k≠i→(aK.setIfInBounds j true).getD k true =false→
      (∀ x∈ok.after,im md x=true→x.on≠i)→E.apart ops ok=true :=fun k ok hk ao ai aq=>by
      refine Z k ok hk ao ?_ aq
      by_cases aa:j=k
      · subst aa; exact ac
      · rw [getD_set_ne true aa] at ai; exact ai
     refine wpOp_mono (fun aj w' h3=>⟨fun _=>h3.2.1 ae,av (aK.setIfInBounds j true) aj w' am (ready_mono C<|Ne.symm q) h3.1 (h3.2.1 ae) ap ?_⟩) h2
     rw [y0 _ _ q]
     exact h3.2.2
end
section
variable {P:Program} {N:Fm} {ops:Array Oper} {Q:Exit→(Nat→Value)→World→Prop} {σ:Nat→Value} {w:World} {S:World→Prop} {r fuel:Nat} {aK:Array Bool}
 {d':Option Nat} {d:Nat} {op:Op} {ty:TypeId} {pos :String} {af:Array Edge} {v:Value}
def fH (P:Program) (N:Fm) (ops:Array Oper) (Q:Exit→(Nat→Value)→World→Prop) (S:World→Prop) (r fuel:Nat) (aK:Array Bool) (σ:Nat→Value) (w:World):Prop :=
 m6 P .any ops (lift N Q) S r fuel aK (act N σ) w
theorem ei {id:Nat} {l:List Oper} (S:World→Prop) (r:Nat) (a:pX N.r l=true) (hm:P.follows .mixedOrders=true) (c:S w.drew) (h:fH P N l.toArray Q S r l.length (ql l.length false) σ w.drew):cB P N (.region id l.toArray true) Q σ w:=by
 exact zY a hm<|EO _ _ _ _<|by rw [lV]; exact h
def Ck (F:List Nat) (ops:Array Oper) (aK:Array Bool) (r i:Nat):Bool:=
 gM F ops aK i && !(aK.getD r false) && i !=r && (match ops[r]? with | some o=>o.after.toList.any (fun x=>im .any x && x.on==i) | none=>false)
theorem lq (i:Nat) (hi:ops[i]? =some ⟨some d,op,ty,pos,af,none⟩) (A:Ck N.F ops aK r i=true)
 (J:∀ w,S w→(execOp (ev N σ) ⟨some d,op,ty,pos,af,none⟩).run P w= .ok (.value v) w) (q:S w)
 (k:fH P N ops Q S r fuel (aK.setIfInBounds i true) (cz σ d v) w):fH P N ops Q S r (fuel+1) aK σ w:=by
 simp only [Ck,gM,fi,uN,bne_iff_ne,ne_eq] at A
 obtain ⟨⟨⟨⟨⟨⟨C,E⟩,hf3⟩,hfF⟩,hf4⟩,hf5⟩,hf6⟩:=A
 rw [hi] at hfF
 refine RI hi (zd C) (fun c a w=>mV hfF c a w) (fun o G=> ?_) hf5 fuel aK _ w (zc hi E) (by simpa using hf3) (.inl ⟨gZ _ rfl _,fun w q=> ?_⟩) q hf4 ?_ (v:=v)
 · rw [G] at hf6
   simp only [FQ,fi,beq_iff_eq] at hf6
   obtain ⟨x,I,h1,h2⟩:=hf6
   exact ⟨x,r9.1 I,h1,h2⟩
 · rw [fq]; exact J w q
 · rw [hZ]; exact k
theorem CN (i:Nat) (hi:ops[i]? =some ⟨d',op,ty,pos,af,none⟩) (q:ju ops aK i=true)
 (h:cA P N ⟨d',op,ty,pos,af,none⟩ σ w (fun σ w=>((aK.setIfInBounds i true).getD r false =false→S w)∧fH P N ops Q S r fuel (aK.setIfInBounds i true) σ w)):fH P N ops Q S r (fuel+1) aK σ w:=by
 have a:gz .any ops aK= [i]:=by simpa [ju] using q
 refine ⟨fun c=>absurd (a ▸ c) (by simp),fun k hk=> ?_⟩
 rw [a] at hk
 obtain rfl :k=i:=by simpa using hk
 unfold wpOp
 simp only [hi]
 rw [if_pos (gZ _ rfl _)]
 exact .inl<|qh h fun _ _ hk=>hk
theorem iQ (i:Nat) (hi:ops[i]? =some ⟨d',op,ty,pos,af,none⟩) (a:ju ops aK i=true)
 (h:cA P N ⟨d',op,ty,pos,af,none⟩ σ w (fun σ w=>S w∧fH P N ops Q S r fuel (aK.setIfInBounds i true) σ w)):fH P N ops Q S r (fuel+1) aK σ w:=
 CN i hi a (ES h fun _ _ hk=>⟨fun _=>hk.1,hk.2⟩)
theorem cQ (i:Nat) (hi:ops[i]? =some ⟨d',op,ty,pos,af,none⟩) (q:ju ops aK i=true) (c:(aK.setIfInBounds i true).getD r false =true)
 (h:cA P N ⟨d',op,ty,pos,af,none⟩ σ w (fun σ w=>fH P N ops Q S r fuel (aK.setIfInBounds i true) σ w)):fH P N ops Q S r (fuel+1) aK σ w:=
 CN i hi q (ES h fun _ _ hk=>⟨fun a=>absurd (a.symm.trans c) c8,hk⟩)
theorem eh (c:(gz .any ops aK).isEmpty=true) (h:Q .normal σ w):fH P N ops Q S r fuel aK σ w:=by
 have a:gz .any ops aK= []:=by simpa using c
 cases fuel with
 | zero=>exact ⟨a,σ,rfl,h⟩
 | succ fuel=>exact ⟨fun _=>⟨σ,rfl,h⟩,by rw [a]; simp⟩
attribute [irreducible] fH
end
end Go.Hb
namespace Go.Hb
section
variable {P:Program} {md:oV} {ops:Array Oper} {Q:Exit→Act→World→Prop} {S:World→Prop} {r:Nat}
inductive oc (md:oV) (ops:Array Oper) (i:Nat):Nat→Prop
 | one {r o e} :ops[r]? =some o→e∈o.after→im md e=true→e.on=i→oc md ops i r
 | more {r o e} :ops[r]? =some o→e∈o.after→im md e=true→oc md ops i e.on→oc md ops i r
def o5 (md:oV) (ops:Array Oper) (aK:Array Bool):Prop := ∀ (j:Nat) (o:Oper),ops[j]? =some o→aK.getD j false =true→∀ e∈o.after,im md e=true→aK.getD e.on false =true
theorem Cm {aK:Array Bool} {j k:Nat} (h:aK.getD k false =true):(aK.setIfInBounds j true).getD k false =true :=by
 by_cases e:j=k
 · subst e
   by_cases a:j < aK.size
   · simp [a]
   · simp [a] at h
 · rw [getD_set_ne false e]; exact h
theorem o5.set {aK:Array Bool} {j:Nat} (h:o5 md ops aK) (A:j∈gz md ops aK):o5 md ops (aK.setIfInBounds j true):=by
 intro k o hk i e he c
 obtain ⟨_,E,C,q⟩:=mem_ready.1 A
 by_cases a:j=k
 · subst a
   rw [C] at hk; cases hk
   exact Cm<|q e he c
 · rw [getD_set_ne false a] at i
   exact Cm<|h k o hk i e he c
theorem oc.aK {aK:Array Bool} {i r:Nat} (hd:oc md ops i r) (q:o5 md ops aK) (a:∀ o,ops[r]? =some o→∀ e∈o.after,im md e=true→aK.getD e.on false =true):aK.getD i false =true :=by
 induction hd with
 | one h1 h2 h3 h4=>rw [← h4]; exact a _ h1 _ h2 h3
 | more h1 h2 h3 _ C=>exact C fun o A e he c=>q _ o A (a _ h1 _ h2 h3) e he c
theorem RH {i:Nat} {C:Oper} {v:Value} (hi:ops[i]? =some C) (ai:∀ (j:Nat) (o:Oper) cs b,ops[j]? =some o→o.op≠.select cs b)
 (al:∀ c a w,Q (.panic c) (a.put C.dst v) w→Q (.panic c) a w) (hd:oc md ops i r) (ao:i≠r):
 ∀ (fuel:Nat) (aK:Array Bool) (a:Act) (w:World),o5 md ops aK→
   (∀ j E,ops[j]? =some E→j≠i→aK.getD j true =false→(∀ x∈E.after,im md x=true→x.on≠i)→C.apart ops E=true)→
   i∈gz md ops aK→YieldsIf P ops S C v a→S w→aK.getD r false =false→
   m6 P md ops Q S r fuel (aK.setIfInBounds i true) (a.put C.dst v) w→m6 P md ops Q S r (fuel+1) aK a w:=by
 intro fuel
 induction fuel with
 | zero=>
   intro aK a w _ _ A M G _ H
   refine ⟨fun h=>(by rw [h] at A; cases A),fun j I=> ?_⟩
   by_cases q:j=i
   · subst q; exact M.wpOp hi G ⟨fun _=>G,H⟩
   · have :=ready_mono I q
     rw [H.1] at this
     cases this
 | succ fuel aw=>
   intro aK a w Y Z A M G ae H
   refine ⟨fun h=>(by rw [h] at A; cases A),fun j I=> ?_⟩
   by_cases q:j=i
   · subst q; exact M.wpOp hi G ⟨fun _=>G,H⟩
   · have h1:=H.2 j<|ready_mono I q
     obtain ⟨ad,E,J,V⟩:=mem_ready.1 I
     have aa:aK.getD i false =false :=by
      have U:=(mem_ready.1 A).1
      rcases gC i aK.size with O | O
      · simpa [O] using U
      · simp [O] at U
     have au:∀ x∈E.after,im md x=true→x.on≠i:=fun x av am heq=>by
      have h1:=V x av am
      rw [heq,aa] at h1; cases h1
     have ac:j≠r:=by
      rintro rfl
      have :=hd.aK Y fun o ah=>by rw [J] at ah; cases ah; exact V
      rw [aa] at this; cases this
     have aq:(aK.setIfInBounds j true).getD r false =false :=by rw [getD_set_ne false ac]; exact ae
     have ag:((aK.setIfInBounds i true).setIfInBounds j true).getD r false =false :=by rw [getD_set_ne false ac,getD_set_ne false ao]; exact ae
     have h2:=wpOp_putIf J (Z j E J q ad au) (fun cs b=>ai i C cs b hi) (fun cs b=>ai j E cs b J) al M h1
     have an:∀ k ok,ops[k]? =some ok→k≠i→(aK.setIfInBounds j true).getD k true =false→
      (∀ x∈ok.after,im md x=true→x.on≠i)→C.apart ops ok=true :=fun k ok hk ap aj ar=>by
      refine Z k ok hk ap ?_ ar
      by_cases ab:j=k
      · subst ab; exact ad
      · rw [getD_set_ne true ab] at aj; exact aj
     refine wpOp_mono (fun ak w' h3=>⟨fun _=>h3.2.1 ag,aw (aK.setIfInBounds j true) ak w' (Y.set I) an (ready_mono A<|Ne.symm q) h3.1 (h3.2.1 ag) aq ?_⟩) h2
     rw [y0 _ _ q]
     exact h3.2.2
theorem RJ {i:Nat} {C:Oper} {v:Value} (hi:ops[i]? =some C) (ad:∀ (j:Nat) (o:Oper) cs b,ops[j]? =some o→o.op≠.select cs b)
 (ah:∀ c a w,Q (.panic c) (a.put C.dst v) w→Q (.panic c) a w) (O:i≠r):
 ∀ (fuel:Nat) (aK:Array Bool) (a:Act) (w:World),
   (∀ j E,ops[j]? =some E→j≠i→aK.getD j true =false→(∀ x∈E.after,im md x=true→x.on≠i)→C.apart ops E=true)→
   i∈gz md ops aK→YieldsIf P ops (fun _=>True) C v a→(aK.getD r false =false→S w)→
   m6 P md ops Q S r fuel (aK.setIfInBounds i true) (a.put C.dst v) w→m6 P md ops Q S r (fuel+1) aK a w:=by
 intro fuel
 induction fuel with
 | zero=>
   intro aK a w _ A I M H
   refine ⟨fun h=>(by rw [h] at A; cases A),fun j G=> ?_⟩
   by_cases q:j=i
   · subst q; exact I.wpOp hi trivial ⟨fun h=>M (by rw [getD_set_ne false O] at h; exact h),H⟩
   · have :=ready_mono G q
     rw [H.1] at this
     cases this
 | succ fuel aq=>
   intro aK a w Z A I M H
   refine ⟨fun h=>(by rw [h] at A; cases A),fun j G=> ?_⟩
   by_cases q:j=i
   · subst q; exact I.wpOp hi trivial ⟨fun h=>M (by rw [getD_set_ne false O] at h; exact h),H⟩
   · have h1:=H.2 j<|ready_mono G q
     obtain ⟨ac,E,U,ai⟩:=mem_ready.1 G
     have al:aK.getD i false =false :=by
      have V:=(mem_ready.1 A).1
      rcases gC i aK.size with J | J
      · simpa [J] using V
      · simp [J] at V
     have ao:∀ x∈E.after,im md x=true→x.on≠i:=fun x ap aj heq=>by
      have h1:=ai x ap aj
      rw [heq,al] at h1; cases h1
     have h2:=wpOp_putIf U (Z j E U q ac ao) (fun cs b=>ad i C cs b hi) (fun cs b=>ad j E cs b U) ah I h1
     have ak:∀ k ok,ops[k]? =some ok→k≠i→(aK.setIfInBounds j true).getD k true =false→
      (∀ x∈ok.after,im md x=true→x.on≠i)→C.apart ops ok=true :=fun k ok hk am ae an=>by
      refine Z k ok hk am ?_ an
      by_cases ab:j=k
      · subst ab; exact ac
      · rw [getD_set_ne true ab] at ae; exact ae
     have Y:(aK.setIfInBounds i true).setIfInBounds j true =(aK.setIfInBounds j true).setIfInBounds i true :=y0 _ _ fun e=>q e.symm
     have aa:(aK.setIfInBounds j true).getD r false =false→((aK.setIfInBounds i true).setIfInBounds j true).getD r false =false :=fun h=>by rw [Y,getD_set_ne false O]; exact h
     refine wpOp_mono (fun ag w' h3=>⟨fun h=>h3.2.1 (aa h),aq (aK.setIfInBounds j true) ag w' ak (ready_mono A<|Ne.symm q) h3.1 (fun h=>h3.2.1<|aa h) ?_⟩) h2
     rw [← Y]
     exact h3.2.2
end
section
variable {P:Program} {N:Fm} {ops:Array Oper} {Q:Exit→(Nat→Value)→World→Prop} {σ:Nat→Value} {w:World} {S:World→Prop} {r fuel:Nat} {aK:Array Bool}
 {d:Nat} {op:Op} {ty:TypeId} {pos :String} {af:Array Edge} {v:Value}
def th (ops:Array Oper) (i:Nat):Nat→Nat→Bool
 | 0,_=>false
 | f+1,r=>match ops[r]? with | some o=>o.after.toList.any (fun e=>im .any e && (e.on==i || th ops i f e.on)) | none=>false
theorem KA {i:Nat} :∀ (f r:Nat),th ops i f r=true→oc .any ops i r:=by
 intro f
 induction f with
 | zero=>intro r h; cases h
 | succ f q=>
   intro r h
   rw [th] at h
   split at h
   · rename_i o c
     simp only [FQ,fi,y2,beq_iff_eq] at h
     obtain ⟨e,he,a,h⟩:=h
     rcases h with h | h
     · exact .one c (r9.1 he) a h
     · exact .more c (r9.1 he) a<|q _ h
   · cases h
def wh (ops:Array Oper) (aK:Array Bool):Bool:=(gB ops.size).all fun j=> !aK.getD j false || match ops[j]? with | some o=>o.after.toList.all (fun e=> !im .any e || aK.getD e.on false) | none=>true
theorem Jn (h:wh ops aK=true):o5 .any ops aK:=by
 intro j o a i e he c
 unfold wh at h
 rw [kg] at h
 have h1:=h j<|sD.2 (cg.1 a).1
 rw [i,a] at h1
 simp only [Bool.not_true,Bool.false_or,kg,y2,uN] at h1
 rcases h1 e (r9.2 he) with h2 | h2
 · rw [c] at h2; cases h2
 · exact h2
def xB (F:List Nat) (ops:Array Oper) (aK:Array Bool) (r i:Nat):Bool:=gM F ops aK i && !(aK.getD r false) && i !=r && wh ops aK && th ops i ops.size r
def tL (F:List Nat) (ops:Array Oper) (aK:Array Bool) (r i:Nat):Bool:=gM F ops aK i && i !=r
theorem iR (i:Nat) (hi:ops[i]? =some ⟨some d,op,ty,pos,af,none⟩) (A:xB N.F ops aK r i=true)
 (G:∀ w,S w→(execOp (ev N σ) ⟨some d,op,ty,pos,af,none⟩).run P w= .ok (.value v) w) (q:S w)
 (k:fH P N ops Q S r fuel (aK.setIfInBounds i true) (cz σ d v) w):fH P N ops Q S r (fuel+1) aK σ w:=by
 simp only [xB,gM,fi,uN,bne_iff_ne,ne_eq] at A
 obtain ⟨⟨⟨⟨⟨⟨⟨C,E⟩,hf3⟩,hfF⟩,hf4⟩,hf5⟩,hf6⟩,hf7⟩:=A
 rw [hi] at hfF
 unfold fH at*
 refine RH hi (zd C) (fun c a w=>mV hfF c a w) (KA _ _ hf7) hf5 fuel aK _ w (Jn hf6) (zc hi E) (by simpa using hf3) (.inl ⟨gZ _ rfl _,fun w q=> ?_⟩) q hf4 ?_ (v:=v)
 · rw [fq]; exact G w q
 · rw [hZ]; exact k
theorem bV (i:Nat) (hi:ops[i]? =some ⟨some d,op,ty,pos,af,none⟩) (q:tL N.F ops aK r i=true)
 (G:∀ w,(execOp (ev N σ) ⟨some d,op,ty,pos,af,none⟩).run P w= .ok (.value v) w) (A:aK.getD r false =false→S w)
 (k:fH P N ops Q S r fuel (aK.setIfInBounds i true) (cz σ d v) w):fH P N ops Q S r (fuel+1) aK σ w:=by
 simp only [tL,gM,fi,bne_iff_ne,ne_eq] at q
 obtain ⟨⟨⟨⟨C,E⟩,hf3⟩,hfF⟩,hf5⟩:=q
 rw [hi] at hfF
 unfold fH at*
 refine RJ hi (zd C) (fun c a w=>mV hfF c a w) hf5 fuel aK _ w (zc hi E) (by simpa using hf3) (.inl ⟨gZ _ rfl _,fun w _=> ?_⟩) A ?_ (v:=v)
 · rw [fq]; exact G w
 · rw [hZ]; exact k
end
end Go.Hb
namespace Go.Hb
def EE:Nat→Nat→List UInt8
 | 0,n=> [iU n]
 | f+1,n=>if n < 128 then [iU n] else iU (n % 128 +128)::EE f (n / 128)
def Rc (n:Nat):List UInt8:=EE n n
def frame:List (List UInt8)→List UInt8
 | []=> []
 | r::l=>Rc r.length++(r++frame l)
theorem ka {α:Type} (l:List α) (i:Nat) (d:α) (h:i < l.length):l.take (i+1)=l.take i++ [l.getD i d]:=by
 rw [List.take_succ_eq_append_getElem h]; simp [cO,h]
end Go.Hb
namespace Go.Hb
def U8 (l:List UInt8):List Value:=l.map fun b=>gA .u8 b.toNat
theorem sO (l:List UInt8):(U8 l).length=l.length:=by simp [U8]
theorem sN (a b:List UInt8):U8 (a++b)=U8 a++U8 b:=by simp [U8]
theorem GD (l:List UInt8):(U8 l).all eH=true :=by
 rw [kg]
 intro u hu
 simp only [U8,mD] at hu
 obtain ⟨b,_,rfl⟩:=hu
 rfl
def sZ (P:Program) (t e u:TypeId):Bool:=
 fz P t e 1 1 && (match P.underlying e with | some (.int .u8)=>true | _=>false) && (match P.underlying u with | some .string=>true | _=>false) &&
  (match P.info? e with | some i=>(match i.zero with | some (.int .u8 0)=>true | _=>false) | none=>false)
theorem Hw {P:Program} {t e u:TypeId} (h:sZ P t e u=true):
 fz P t e 1 1=true∧P.underlying e=some (.int .u8)∧P.underlying u=some .string∧∃ i,P.info? e=some i∧i.zero=some (.int .u8 0):=by
 simp only [sZ,fi] at h
 obtain ⟨⟨⟨h1,h2⟩,h3⟩,h4⟩:=h
 refine ⟨h1,?_,?_,?_⟩
 · split at h2
   · rename_i h; exact h
   · cases h2
 · split at h3
   · rename_i h; exact h
   · cases h3
 · split at h4
   · rename_i i hi
     split at h4
     · rename_i h; exact ⟨i,hi,h⟩
     · cases h4
   · cases h4
section
variable {P:Program} {N:Fm} {σ:Nat→Value} {w:World} {dst:Option Nat} {ty:TypeId} {pos :String} {af:Array Edge} {g:Option (Nat×Bool)} {x y z:Operand} {K:(Nat→Value)→World→Prop}
theorem foldl_push (l:List UInt8) (r:ByteArray):(l.map fun b=>(b.toNat:Int)).foldl (fun r n=>r.push<|iU n.toNat) r=⟨r.data++l.toArray⟩:=by
 induction l generalizing r with
 | nil=>simp
 | cons b l a=>
   simp only [nk,qv]
   rw [a]
   apply ByteArray.ext
   simp [ByteArray.push]
theorem wm {t e u n c:Nat} {a:Option Addr} {l:List UInt8} (h:sZ P t e u=true) (I:ev N σ x= .slice a n c) (i:aC w.heap a (U8 l)) (q:l.length=n):
 (execOp (ev N σ) ⟨dst,.convert t u x,ty,pos,af,g⟩).run P w= .ok (.value<|str l) w:=by
 obtain ⟨h1,h2,h3,_⟩:=Hw h
 obtain ⟨hu,_⟩:=nP h1
 have C:(Fl<|.slice a n c).run P w= .ok (str l) w:=by
  by_cases he:l= []
  · subst he
    cases a with
    | none=>simp [Fl,str]; rfl
    | some a=>
      subst q
      have :=run_bytesToString (P:=P) w a 0 c []<|by simp [loadCells,loadCellsFrom]
      exact this.trans aa
  · have A:=i.ok<|by simpa [U8] using he
    have G:(loadCells ⟨bk a,fo a,none⟩ n).run P w= .ok ((l.map fun b=>(b.toNat:Int)).map<|gA .u8).toArray w:=by
     subst q
     have :=run_loadCells_list (P:=P) w ⟨bk a,fo a,none⟩ (U8 l) fun j v E=>by
      rw [kn,lA]
      exact i.aH j v E
     rw [sO] at this
     rw [this]
     simp [U8]
    rw [A,run_bytesToString w _ n c _ G,foldl_push]
    simp [str,ByteArray.empty,ByteArray.emptyWithCapacity]
    rfl
 simp [execOp,I,run_convert_bytes_string w t u e a n c hu h2 h3,C]
theorem Rh {at_:Array TypeId} {v:Value} {a:Option Addr} {n c:Nat} (i:ev N σ x= .slice a n c) (h:a=none∨c≠0):
 (execOp (ev N σ) ⟨dst,.call ⟨.builtin .unsafeSliceData,#[x],at_⟩,ty,pos,af,g⟩).run P w= .ok (.value<|.pointer a) w:=by
 have _:=v
 have :(Builtin.unsafeSliceData_ at_ ty #[.slice a n c]).run P w= .ok (.pointer a) w:=by
  cases a with
  | none=>exact Lib.run_unsafeSliceData_nil w at_ ty n c
  | some a=>exact Lib.run_unsafeSliceData_row w at_ ty a n c<|h.resolve_left<|by simp
 simp [execOp,resolve,invoke,builtin,i,this]
def ptrTo (P:Program) (c e:TypeId):Bool:=match P.underlying c with | some (.pointer a)=>a==e && P.cellsOf e==1 | _=>false
theorem Ri {C it e B n c:Nat} {a:Option Addr} {l:List UInt8} {xs:List Value} (hp:ptrTo P C e=true) (I:ev N σ x= .pointer a) (J:ev N σ y= .int .i64 n) (A:w.ownsRow B e 1 (.slice a n c) n xs)
 (ah:xs=U8 l) (ai:n≤9223372036854775807)
 (k:∀ w',Md (fun k=>(bz a n c).ownBlock=some k) w w'→w'.heap.size=w.heap.size→K (fA σ dst<|str l) w'):
 cA P N ⟨dst,.call ⟨.builtin .unsafeString,#[x,y],#[C,it]⟩,ty,pos,af,g⟩ σ w K:=by
 subst ah
 have i:l.length=n:=by have :=A.1; simpa [U8] using this
 unfold ptrTo at hp
 split at hp
 case h_2=>cases hp
 rename_i E hu
 simp only [fi,beq_iff_eq] at hp
 obtain ⟨rfl,O⟩:=hp
 by_cases he:l= []
 · subst he
   obtain rfl :n=0:=i.symm
   refine lN (w':=w) (v:=str []) ?_<|k w (Md.refl _ _) aa
   simp [execOp,resolve,invoke,builtin,I,J,Lib.run_unsafeString_none]
   rfl
 · rcases A.2 with ⟨h,M⟩ | ⟨q,cap,cur,h,_,V,hle,_,ag,aj⟩
   · subst M; simp only [List.length_eq_zero_iff] at i; exact absurd i he
   · simp only [lg,true_and] at h
     obtain ⟨rfl,rfl⟩:=h
     have ae:w.shape? q=some (E,cur.size):=by simp [zo,V]
     have ac:=Lib.run_unsafeString_row (P:=P) w C it ty E hu O q cur.size ae l he (by rw [i,ag]; omega) ab (fun j u hu=>by
      obtain ⟨ad,cp,G,U,_,hk,_⟩:=pY A
      simp only [lg,true_and] at G
      obtain ⟨rfl,rfl⟩:=G
      rw [kn,lA]
      exact U.aH j _ (by simp [U8,hu]))
     refine lN (w':=w.freeze ⟨q,0,none⟩ l.length) (v:=str l) ?_ (k _ ⟨?_,?_,?_,?_⟩ ?_)
     · simp [execOp,resolve,invoke,builtin,I,J,← i,ac,str]
     · unfold sr; split <;> rfl
     · unfold sr; split <;> rfl
     · unfold sr; split <;> simp
     · intro k hk Y
       have Z:k≠q:=fun e=>Y<|by simp [gh,e]
       unfold sr
       split
       · rfl
       · simp only [Array.getElem?_modify]; rw [if_neg (fun e=>Z e.symm)]
     · unfold sr; split <;> simp
def r5 (P:Program) (c up e n:Nat):Bool:=
 (match P.underlying c with | some (.pointer a)=>a==e | _=>false) && (match P.underlying up with | some .unsafePointer=>true | _=>false) && P.cellsOf e==n && eU 0 n && (match P.info? e with | some i=>i.size==n | _=>false)
theorem EG {P:Program} {a up e n:Nat} (h:r5 P a up e n=true):P.underlying a=some (.pointer e)∧P.underlying up=some .unsafePointer∧P.cellsOf e=n∧0 < n∧∃ i,P.info? e=some i∧i.size=n:=by
 simp only [r5,fi] at h
 obtain ⟨⟨⟨⟨h1,h2⟩,h3⟩,h4⟩,h5⟩:=h
 refine ⟨?_,?_,by simpa using h3,o0 (qA 0) (n8 h4),?_⟩
 · split at h1
   · rename_i h; simp only [beq_iff_eq] at h1; rw [h,h1]
   · cases h1
 · split at h2
   · rename_i h; exact h
   · cases h2
 · split at h5
   · rename_i i hi; exact ⟨i,hi,by simpa using h5⟩
   · cases h5
theorem QX {a up e n b:Nat} {L:List Value} (h:r5 P a up e n=true) (E:ev N σ x= .pointer (some ⟨b,0,none⟩)) (c:w.heap[b]? =some (.cells L.toArray e (0,0))) (q:L.length=n):
 (execOp (ev N σ) ⟨dst,.convert a up x,ty,pos,af,g⟩).run P w= .ok (.value<|.pointer<|some ⟨b,0,none⟩) w:=by
 obtain ⟨h1,h2,h3,h4,i,hi,hs⟩:=EG h
 have C:w.shape? b=some (e,L.length):=by simp [zo,c]
 have A:¬n=0:=ab
 simp [execOp,E,convert,c7 h1,c7 h2,Fp,Fo,viewAt,C,cellsIn,q,sizeOf,fR hi,hs,A]
theorem Ml {c up e n b:Nat} {L:List Value} (h:r5 P c up e n=true) (G:ev N σ x= .pointer (some ⟨b,0,none⟩)) (q:w.heap[b]? =some (.cells L.toArray e (0,0))) (A:L.length=n):
 (execOp (ev N σ) ⟨dst,.convert up c x,ty,pos,af,g⟩).run P w= .ok (.value<|.pointer<|some ⟨b,0,none⟩) w:=by
 obtain ⟨h1,h2,h3,h4,i,hi,hs⟩:=EG h
 have E:w.shape? b=some (e,L.length):=by simp [zo,q]
 have a:¬n=0:=ab
 have C:liesAt P P.depth e (L.length / P.cellsOf e) 0 e 1=true :=by
  have hd:P.depth=(2 *(P.types.size+Made.depth)+1)+1:=rfl
  rw [hd]
  simp only [liesAt,y2]
  left
  rw [hd]
  simp [rowAt,h3,a,A,sameLayout,Nat.div_self h4]
 simp [execOp,G,convert,c7 h1,c7 h2,Fp,Fo,viewAt,E,variablesAt,sizeOf,fR hi,hs,a,C]
theorem On {t A e:TypeId} {a:Addr} (hu:P.underlying t=some (.pointer e)) (hs:(P.info? e).isSome=true) (c:ev N σ x= .pointer (some a)) (q:ev N σ y= .pointer (some a)):
 (execOp (ev N σ) ⟨dst,.binOp .neq t x y A,ty,pos,af,g⟩).run P w= .ok (.value<|.bool false) w:=by
 obtain ⟨i,hi⟩:=nr.1 hs
 have he:∀ d,(uT (d+1) t (.pointer<|some a)<|.pointer<|some a).run P w= .ok true w:=by
  intro d
  simp [uT,c7 hu,sizeOf,fR hi,sameAddr]
 have h:(binOp .neq t (.pointer<|some a)<|.pointer<|some a).run P w= .ok (.bool false) w:=by
  have :=he 9999
  simp only [binOp]
  have h2:(Op.equal t (.pointer<|some a)<|.pointer<|some a).run P w= .ok true w:=this
  simp [h2]
 simp [execOp,c,q,eqGuard,h]
theorem JA {f:FuncId} {args:Array Operand} {a:Array TypeId} {v:Value} (i:∀ v w,(callFunc f #[v]).run P w= .ok (.value v) w) (c:args.toList.map (ev N σ)= [v]):
 (execOp (ev N σ) ⟨dst,.call ⟨.value (.func f),args,a⟩,ty,pos,af,g⟩).run P w= .ok (.value v) w:=by
 have :args.map (ev N σ)= #[v]:=by rw [← uL,kJ,c]
 simp [execOp,resolve,ev,nX,invoke,this,i]
structure Bd (T e:TypeId) (w:World) (b:Nat) (buf:Value) (l:List UInt8):Prop where
 aB:∃ pa,w.heap[b]? =some (.cells [uW pa,buf].toArray T (0,0))∧(pa=none∨pa=some ⟨b,0,none⟩)
 own:w.ownsRow (b+1) e 1 buf l.length (U8 l)
 nil:buf= .slice none 0 0↔l= []
def BF (b:Nat) (a:Value) (k:Nat):Prop :=k=b∨a.ownBlock=some k
end
theorem Bd.lt {T e b:Nat} {w:World} {a:Value} {l:List UInt8} (h:Bd T e w b a l):b < w.heap.size:=let ⟨_,h,_⟩:=h.aB; (cg.1 h).1
theorem Bd.gr {T e b:Nat} {w:World} {a:Value} {l:List UInt8} (h:Bd T e w b a l) {k:Nat} (hk:BF b a k):b≤k∧k < w.heap.size:=by
 rcases hk with rfl | hk
 · exact ⟨bX _,h.lt⟩
 · have :=h.own.lt k hk; omega
theorem Bd.md {T e b:Nat} {F:Nat→Prop} {w w':World} {a:Value} {l:List UInt8} (h:Bd T e w b a l) (hm:Md F w w') (c:∀ k,BF b a k→¬F k):Bd T e w' b a l:=by
 obtain ⟨⟨i,h1,h2⟩,h3,h4⟩:=h
 exact ⟨⟨i,hm.aB h1 (c b<|.inl aa),h2⟩,bZ h3 hm (fun k hk=>c k<|.inr hk),h4⟩
end Go.Hb
namespace Go.Hb
def jg (P:Program) (t:TypeId):Option (List (Nat×Nat)×List Value):=
 match P.info? t,P.underlying t with
 | some it,some (.struct fields)=>
   match it.zero,fields.toList.mapM (fun f=>(P.info? f.type).map fun i=>(f.offset,i.size)) with
   | some z,some pl=>some (pl,z.cells.toList)
   | _,_=>none
 | _,_=>none
def rK (pl:List (Nat×Nat)):List Value→List (Nat×Value)→Option (List Value)
 | a,[]=>some a
 | a,(i,v)::r=>match pl[i]? with
   | some (off,s)=>if (s==1 && v.oneCell' && eU off a.length)=true then rK pl (a.set off v) r else none
   | none=>none
theorem Pg {pl:List (Nat×Nat)} {a L:List Value} {ps:List (Nat×Value)} (h:rK pl a ps=some L):kK (pl.toArray[·]?) a.toArray ps=some L.toArray:=by
 induction ps generalizing a with
 | nil=>simp only [rK,eM] at h; subst h; rfl
 | cons p ps C=>
   obtain ⟨i,v⟩:=p
   simp only [rK] at h
   split at h
   · rename_i off s hs
     split at h
     · rename_i c
       simp only [fi,beq_iff_eq] at c
       obtain ⟨⟨rfl,h1⟩,ho⟩:=c
       have E:off < a.length:=n8 ho
       have A:v.cells= #[v]:=nK h1
       have q:pl.toArray[i]? =some (off,1):=by simpa using hs
       simp only [kK,q,A]
       rw [if_neg (by simp; omega),← C h]
       simp
     · cases h
   · cases h
theorem nD {α:Type} {f:α→List Value} {m:Nat} (c:∀ a,(f a).length=m) (l:List α):(l.flatMap f).length=l.length*m:=by
 induction l with
 | nil=>simp
 | cons x l i=>simp [i,c,np,Nat.add_comm]
theorem xk {α:Type} {f:α→List Value} {m:Nat} (i:∀ a,(f a).length=m) {l:List α} {j c:Nat} {a:α} (h:l[j]? =some a) (q:c < m):(l.flatMap f)[j*m+c]? =(f a)[c]? :=by
 induction l generalizing j with
 | nil=>simp at h
 | cons x l A=>
   cases j with
   | zero=>
     simp only [List.getElem?_cons_zero,eM] at h; subst h
     rw [zA,fj,iH,lh (by rw [i]; exact q)]
   | succ j=>
     simp only [F1] at h
     rw [iH,lS (by rw [i,np]; omega),i,show (j+1)*m+c - m=j*m+c from by rw [np]; omega]
     exact A h
theorem gK {α:Type} {f:α→List Value} {m:Nat} (c:∀ a,(f a).length=m) {h:Array Obj} {a:Option Addr} {l:List α} {i:Nat} {e:α} (A:aC h a (l.flatMap f)) (C:l[i]? =some e):∀ j,j < m→Hb.aH h (bk a) (fo a+i*m+j)=(f e)[j]? :=by
 intro j q
 have h1:=xk c C q
 have h2:j < (f e).length:=by rw [c]; exact q
 rw [cx h2] at h1 ⊢
 rw [Gi]; exact A.aH _ _ h1
theorem xm {α:Type} {f:α→List Value} {m:Nat} (c:∀ a,(f a).length=m) (hm:0 < m) {l:List α} (h:0 < l.length):l.flatMap f≠[]:=by
 intro e
 have :=nD c l
 rw [e] at this
 have :0 < l.length*m:=Nat.mul_pos h hm
 simp at*; omega
theorem BX {α:Type} {f:α→List Value} {m:Nat} (c:∀ a,(f a).length=m) {l:List α} {j:Nat} (x:α) (h:j < l.length):(l.set j x).flatMap f=(l.flatMap f).take (j*m)++f x++(l.flatMap f).drop (j*m+m):=by
 induction l generalizing j with
 | nil=>simp at h
 | cons y l i=>
   cases j with
   | zero=>
     simp only [List.set_cons_zero,iH,zA,nn,kN,fj]
     rw [FR,FT (by rw [c]; exact bX _),c]; simp
   | succ j=>
     simp only [bT] at h
     rw [List.set_cons_succ,iH,i ab,iH,sG,FR,c,eL (l:=f y) (by rw [c,np]; omega),FT (l:=f y) (by rw [c,np]; omega),
      show (j+1)*m - m=j*m from by rw [np]; omega,show (j+1)*m+m - m=j*m+m from by rw [np]; omega]
     simp
theorem BW {α:Type} {f:α→List Value} (c:∀ a,(f a).all eH=true) (l:List α):(l.flatMap f).all eH=true :=by
 simp only [List.all_flatMap,kg]; intro x _; exact kg.1<|c x
section
variable {P:Program} {N:Fm} {σ:Nat→Value} {w:World} {dst:Option Nat} {ty:TypeId} {pos :String} {af:Array Edge} {g:Option (Nat×Bool)} {x y z:Operand} {K:(Nat→Value)→World→Prop}
theorem cE {t:TypeId} {parts:Array (Nat×Operand)} {pl:List (Nat×Nat)} {a L:List Value} {ps:List (Nat×Value)} (h:jg P t=some (pl,a)) (hp:parts.toList.map (fun p=>(p.1,ev N σ p.2))=ps) (c:rK pl a ps=some L):
 (execOp (ev N σ) ⟨dst,.build t parts,ty,pos,af,g⟩).run P w= .ok (.value<|.agg L.toArray) w:=by
 unfold jg at h
 split at h
 · rename_i it fields hi hu
   split at h
   · rename_i z A q hm
     simp only [eM,sI] at h
     obtain ⟨rfl,rfl⟩:=h
     have i:P.built t (parts.map fun p=>(p.1,ev N σ p.2)).toList=some L.toArray:=by
      have :=Pg c
      simp only [uK] at this
      simp only [Program.built,hi,hu,q,hm,kJ,hp]; exact this
     simp [execOp,run_build w t _ _ i]
   · cases h
 · cases h
end
end Go.Hb
namespace Go.Hb
section
variable {P:Program} {N:Fm} {σ:Nat→Value} {w:World} {dst:Option Nat} {ty:TypeId} {pos :String} {af:Array Edge} {g:Option (Nat×Bool)} {x y z:Operand} {K:(Nat→Value)→World→Prop}
theorem NY {zv:Value} (h1:zv.oneCell'=true) (n:Nat):madeCells zv.cells n=(ir n zv).toArray:=by
 rw [nK h1]
 apply Array.ext
 · simp [madeCells]
 · intro i h2 h3
   simp [madeCells,Nat.mod_one]
theorem Oh {t e bytes n:Nat} {E C:IntKind} {zv:Value} (M:fz P t e 1 bytes=true) (a:zeroOf P e=some (some [zv])) (h1:zv.oneCell'=true) (O:ev N σ x= .int E n) (U:ev N σ y= .int C n) (Y:bytes*n≤281474976710656) (c:n≤maxLen)
 (k:∀ b w',b=w.heap.size→Nw w w'→(∀ B,B≤b→w'.ownsRow B e 1 (.slice (some ⟨b,0,none⟩) n n) n (ir n zv))→K (fA σ dst<|.slice (some ⟨b,0,none⟩) n n) w'):cA P N ⟨dst,.makeSlice t x y,ty,pos,af,g⟩ σ w K:=by
 obtain ⟨hu,i,G,hi,A,hs,J,ac,Z⟩:=nP M
 have V:G.cells= #[zv]:=by
  unfold zeroOf at a
  simp only [hi,A,kh,eM] at a
  exact uL.1<|by simpa using a
 refine lM (v:=fun b=> .slice (some ⟨b,0,none⟩) n n) (ob:= .cells (ir n zv).toArray e (0,0)) ?_ fun b w' h2 h3 h4=>k b w' h2 h3 fun B I=>⟨by simp,.inr ⟨b,n,_,aa,I,h4,bX _,c,by simp,by simp⟩⟩
 have q:=run_make (P:=P) w t e i G hu hi A E C n n ab (Int.le_refl _) (by rw [J,← Int.natCast_mul]; omega)<|by unfold maxLen at c; omega
 rw [V,hs,Nat.mul_one,ji,show madeCells #[zv] n=(ir n zv).toArray by rw [← NY h1,nK h1]] at q
 simp [execOp,O,U,q]
end
end Go.Hb
namespace Go.Hb
section
variable {P:Program} {N:Fm} {σ:Nat→Value} {w:World} {dst:Option Nat} {ty:TypeId} {pos :String} {af:Array Edge} {g:Option (Nat×Bool)} {x y z:Operand}
theorem Jc {t n len cap i:Nat} {a:Option Addr} {k G:IntKind} (he:fM P t=some n) (A:ev N σ x= .slice a len cap) (C:ev N σ y= .int k (i:Nat)) (E:ev N σ z= .int G (i:Nat)) (h:i≤cap):
 (execOp (ev N σ) ⟨dst,.slice t x none (some y) (some z),ty,pos,af,g⟩).run P w= .ok (.value<|.slice a i i) w:=by
 have c:(0:Int)≤(i:Int):=ab
 unfold fM at he
 cases hd:P.underlying t with
 | none=>rw [hd] at he; cases he
 | some d=>
   rw [hd] at he
   cases d <;> first | (cases he; done) | skip
   rename_i e
   cases hi':P.info? e with
   | none=>simp [hi'] at he
   | some j=>
     have q:(if i=0 then a else a.map (·.add 0))=a:=by
      split
      · rfl
      · cases a <;> simp [uP]
     simp only [execOp,oT,se,A,C,E,kh,Option.map_none,my,oU,asIntOf]
     simp [c7 hd,fR hi',sizeOf,c,q]
     intro I; omega
end
end Go.Hb
namespace Go.Hb
def od (h:Array Obj) (b:Nat) (kvs:List (Value×Value)):Prop := ∃ es clock,h[b]? =some (.map es clock)∧es.toList.map (fun e=>(e.key,e.val))=kvs
theorem od.md {F:Nat→Prop} {w w':World} {b:Nat} {kvs:List (Value×Value)} (h:od w.heap b kvs) (hm:Md F w w') (a:¬F b):od w'.heap b kvs:=
 let ⟨es,c,h1,h2⟩:=h; ⟨es,c,hm.aB h1 a,h2⟩
structure sL (P:Program) (k:TypeId) (isK:Value→Prop):Prop where
 check:∀ em w v,isK v→(qn em 10000 k v).run P w= .ok () w
 find:∀ w x es,isK x→(∀ e∈es,isK e.key)→
  ((uR k x es).run P w= .ok none w∧∀ e∈es,e.key≠x)∨∃ j e,(uR k x es).run P w= .ok (some (j,e.val)) w∧es[j]? =some e∧e.key=x
theorem IZ {P:Program} {k:TypeId} {em:Bool} {n:Nat} {a:List UInt8} (hk:P.underlying k=some .string) (w:World):(qn em (n+1) k<|str a).run P w= .ok () w:=by
 simp only [str,qn,ng,c7 hk,nd,n2]
def zeroV (P:Program) (e:TypeId):Option Value:=(P.info? e).bind (·.zero)
theorem uH {P:Program} {e:TypeId} {z:Value} (h:zeroV P e=some z) (w:World):(zeroValue e).run P w= .ok z w:=by
 unfold zeroV at h
 simp only [Option.bind_eq_some_iff] at h
 obtain ⟨i,hi,a⟩:=h
 simp [zeroValue,fR hi,a]
section
variable {P:Program} {N:Fm} {σ:Nat→Value} {w:World} {dst:Option Nat} {ty:TypeId} {pos :String} {af:Array Edge} {g:Option (Nat×Bool)} {x y z:Operand} {K:(Nat→Value)→World→Prop}
variable {t k e:TypeId} {isK:Value→Prop} {b:Nat} {kvs:List (Value×Value)} {kx v:Value}
theorem wW {es:Array MapEntry} (h:es.toList.map (fun e=>(e.key,e.val))=kvs) (hk:∀ p∈kvs,isK p.1):∀ e∈es.toList,isK e.key:=fun e he=>hk (e.key,e.val)<|by rw [← h]; exact sB he
theorem run_getObj_map {es:Array MapEntry} {c:Nat} (a:w.heap[b]? =some (.map es c)):(getObj b).run P w= .ok (.map es c) w:=by
 simp [getObj,Sem.run,a]
theorem Oz {kvs:List (Value×Value)} (hn:(kvs.map kO).Nodup) {kx v a:Value} (h1:(kx,v)∈kvs) (h2:(kx,a)∈kvs):v=a:=by
 induction kvs with
 | nil=>simp at h1
 | cons p kvs c=>
   simp only [nk,F9] at hn
   rcases eK.1 h1 with h1 | h1
   · rcases eK.1 h2 with h2 | h2
     · rw [← h1] at h2; cases h2; rfl
     · rw [← h1] at hn; exact absurd (sB (f:=kO) h2) hn.1
   · rcases eK.1 h2 with h2 | h2
     · rw [← h2] at hn; exact absurd (sB (f:=kO) h1) hn.1
     · exact c hn.2 h1 h2
theorem NN {ok:Bool} (G:P.underlying t=some (.map k e)) (i:sL P k isK) (hm:od w.heap b kvs) (hk:∀ p∈kvs,isK p.1) (J:ev N σ x= .map (some b)) (M:ev N σ y=kx) (hi:isK kx) (hn:(kvs.map kO).Nodup) (a:(kx,v)∈kvs):
 (execOp (ev N σ) ⟨dst,.lookup t x y ok,ty,pos,af,g⟩).run P w= .ok (.value (if ok then .tuple #[v,.bool true] else v)) w:=by
 obtain ⟨es,c,E,he⟩:=hm
 rcases i.find w kx es.toList hi (wW he hk) with ⟨_,h2⟩ | ⟨j,q,h1,h2,h3⟩
 · rw [← he] at a
   obtain ⟨A,C,h4⟩:=mD.1 a
   cases h4
   exact absurd aa<|h2 A C
 · have I:(kx,q.val)∈kvs:=by rw [← he,← h3]; exact sB (f:=fun e:MapEntry=>(e.key,e.val))<|iL h2
   have :=Oz hn a I
   subst this
   cases ok <;> simp [execOp,Fz,c7 G,J,M,run_getObj_map E,i.check _ w kx hi,h1]
theorem NO {ok:Bool} {zv:Value} (A:P.underlying t=some (.map k e)) (G:zeroV P e=some zv) (a:sL P k isK) (hm:od w.heap b kvs) (hk:∀ p∈kvs,isK p.1) (C:ev N σ x= .map (some b)) (E:ev N σ y=kx) (hi:isK kx) (hn:∀ v,(kx,v)∉kvs):
 (execOp (ev N σ) ⟨dst,.lookup t x y ok,ty,pos,af,g⟩).run P w= .ok (.value (if ok then .tuple #[zv,.bool false] else zv)) w:=by
 obtain ⟨es,c,q,he⟩:=hm
 rcases a.find w kx es.toList hi (wW he hk) with ⟨h1,_⟩ | ⟨j,i,h1,h2,h3⟩
 · cases ok <;> simp [execOp,Fz,c7 A,C,E,run_getObj_map q,a.check _ w kx hi,h1,uH G]
 · exact absurd (by rw [← he,← h3]; exact sB (f:=fun e:MapEntry=>(e.key,e.val))<|iL h2)<|hn i.val
end
end Go.Hb
namespace Go.Hb
def tag (w:World) (k:Nat):Nat:=match w.heap[k]? with | some (.cells _ t _)=>t+2 | some (.map _ _)=>1 | _=>0
theorem di {w:World} {k t:Nat} {cs:Array Value} {z:Nat×Nat} (h:w.heap[k]? =some (.cells cs t z)):tag w k=t+2:=by unfold tag; rw [h]
theorem QN {w:World} {k:Nat} {kvs:List (Value×Value)} (h:od w.heap k kvs):tag w k=1:=by
 obtain ⟨es,c,h,_⟩:=h
 unfold tag; rw [h]
theorem Ek {w:World} {B e size n k:Nat} {v:Value} {xs:List Value} (h:w.ownsRow B e size v n xs) (hk:v.ownBlock=some k):tag w k=e+2:=by
 rcases h.2 with ⟨rfl,_⟩ | ⟨g,cap,cur,rfl,_,a,_⟩
 · simp [gh] at hk
 · simp only [gh,eM] at hk; subst hk
   exact di a
def TF (w:World) (L:List Nat) (F:Nat→Prop):Prop := ∀ k,F k→L.contains (tag w k)=true
theorem TF.no {w:World} {L:List Nat} {F:Nat→Prop} (h:TF w L F) {k t:Nat} (c:tag w k=t) (a:L.contains t=false):¬F k:=fun hk=>by
 have :=h k hk
 rw [c,a] at this; cases this
theorem TF.or {w:World} {L:List Nat} {F G:Nat→Prop} (h:TF w L F) (a:TF w L G):TF w L (fun k=>F k∨G k):=fun k hk=>by
 rcases hk with hk | hk
 · exact h k hk
 · exact a k hk
theorem TF.eq {w:World} {L:List Nat} {b t:Nat} (c:tag w b=t) (a:L.contains t=true):TF w L (fun k=>k=b):=fun k hk=>by
 subst hk; rw [c]; exact a
theorem TF.own {w:World} {L:List Nat} {B e size n:Nat} {v:Value} {xs:List Value} (h:w.ownsRow B e size v n xs) (a:L.contains (e+2)=true):TF w L (fun k=>v.ownBlock=some k):=fun k hk=>by
 rw [Ek h hk]; exact a
theorem Md.iY {F:Nat→Prop} {w w':World} {L:List Nat} {k t:Nat} {cs:Array Value} {z:Nat×Nat} (hm:Md F w w') (a:TF w L F) (h:w.heap[k]? =some (.cells cs t z)) (c:L.contains (t+2)=false):w'.heap[k]? =some (.cells cs t z):=hm.aB h<|a.no (di h) c
theorem cM {F:Nat→Prop} {w w':World} {L:List Nat} {B e size n:Nat} {v:Value} {xs:List Value} (h:w.ownsRow B e size v n xs) (hm:Md F w w') (a:TF w L F) (c:L.contains (e+2)=false):w'.ownsRow B e size v n xs:=bZ h hm fun _ hk=>a.no (Ek h hk) c
theorem Md.tag {F:Nat→Prop} {w w':World} (hm:Md F w w') {k:Nat} (hk:k < w.heap.size) (a:¬F k):Hb.tag w' k=Hb.tag w k:=by
 unfold Hb.tag; rw [hm.dE k hk a]
end Go.Hb
end
section
namespace Go.Hb
open Go.ChangeShapes Go.WideShapes Go.ChangeAt
theorem Wk.frame {w w':World} (h:Wk w w') (may:MemPlace→Prop):w.keptBut w' may:=by
 refine ⟨h.os,h.output,fun i hi=> ?_⟩
 rw [h.dE i hi id]
 split <;> simp_all
theorem Wk.same {w w':World} (h:Wk w w') {p:MemPlace} (hp:p.block < w.heap.size):w.sameAt w' p:=by
 cases p with
 | cell b o=>exact World.cell?_of_block (w:=w)<|h.dE b hp id
 | map b=>exact h.dE b hp id
section
variable {H:Type} {enc:TypeId×Value→H} {P:Program} {W W':World}
theorem Et (A:laidOutB P=true) (hk:Wk W W'):∀ (c:List TypeId) (vs:List Value) (i:List (DataW H)) (ps:List MemPlace),c.all (fun t=>P.readableRec t && decide (t < P.types.size))=true→(∀ x∈ps,x.block < W.heap.size)→
 Fq enc P W 0 (fun _=>true) true c vs i ps→Fq enc P W' 0 (fun b=>decide (b < W.heap.size)) true c vs i ps
 | [],[],[],_,_,_,h=>h
 | t::c,v::vs,d::i,_,hp,hlt,⟨p,q,h1,h2,he⟩=>by
   subst he
   rw [u4,fi,fi] at hp
   exact ⟨p,q,WideElems.Trod_stays A hp.1.1 (of_decide_eq_true hp.1.2) h1 (fun x a=>hk.same<|hlt x<|F6 _ a) (fun x a=>decide_eq_true<|hlt x<|F6 _ a),
    Et A hk c vs i q hp.2 (fun x a=>hlt x<|List.mem_append_right _ a) h2,rfl⟩
 | [],_::_,_,_,_,_,h=>h.elim
 | [],[],_::_,_,_,_,h=>h.elim
 | _::_,[],_,_,_,_,h=>h.elim
 | _::_,_::_,[],_,_,_,h=>h.elim
theorem PC {f:FuncId} {fn:Func} {s:ChangeSpec} {args:Array Value} {a gs:List (DataW H)} {before:List MemPlace} {tb:TypeId} (i:DataW.Whole enc P fn.params.toList s.vars false W args.toList a gs before) (C:s.vars= [])
 (hs:s.fn H (a++gs)= {results:= [.lit (.bool true)],args:=a}) (M:fn.resultTypes= #[tb]) (G:P.underlying tb=some .bool) (I:laidOutB P=true) (hp:fn.params.toList.all (fun t=>P.readableRec t && decide (t < P.types.size))=true)
 (h:ba P f args W (fun v w'=>v= .bool true∧Wk W w')):Calls P f args W fun e W'=> ∃ v,e= .returned v∧s.post enc P fn false true false false W args v W':=by
 refine kf h fun e W' ⟨v,he,O,hk⟩=>⟨v,he,?_⟩
 subst O
 have A:=i
 obtain ⟨p,q,E,c,rfl,_,_⟩:=i
 rw [C] at c
 obtain ⟨rfl,rfl⟩:=trodVars_none c
 have J:∀ x∈p,x.block < W.heap.size:=fun x U=>A.lt x<|by simpa using U
 refine ⟨_,_,_,[],p,[],A,?_,?_,?_,hk.frame _,fun h=>by cases h⟩
 · rw [hs,M]
   exact trodAll_cons_mk (shut_bool G _) trodAll_mk0
 · rw [hs]
   exact Et I hk _ _ _ _ hp J E
 · rw [hs,C]; rfl
end
end Go.Hb
namespace Go.Hb
open Go.Proofs.YtffmhpaepdkabaaGreatDoor
theorem Hv {H:Type} {l:List (DataW H)} (hk:Rows.uptoSmall H l=true):Rows.uptoBulkAll l≤1048576:=of_decide_eq_true hk
end Go.Hb
namespace Go.Hb
open Go.Proofs.YtffmhpaepdkabaaGreatDoor Go.ChangeShapes Go.WideShapes Go.ChangeAt
structure zI (P:Program) (t:TypeId) (m:Nat) {X:Type} (R:World→List Value→X→Prop) (B:X→Nat):Prop where
 cells:P.cellsOf t=m
 op:∀ {H:Type} (enc:TypeId×Value→H) (W:World) (fuel:Nat) (cs:List Value) (d:DataW H) (p:List MemPlace),DataW.trod enc P W 0 (fun _=>true) true fuel t cs=some (d,p)→cs.length=m∧∃ x,R W cs x∧B x≤Rows.uptoBulk d
section
variable {P:Program} {t t0 t1 e:TypeId} {m m0 m1:Nat} {X X0 X1:Type} {R:World→List Value→X→Prop} {B:X→Nat} {R0:World→List Value→X0→Prop} {B0:X0→Nat} {R1:World→List Value→X1→Prop} {B1:X1→Nat}
theorem OK {k:IntKind} (c:P.underlying t=some (.int k)) (a:P.cellsOf t=1):zI P t 1 (fun _ cs (x:Int)=>cs= [.int k x]∧(Lit.int k x).wf=true) (fun _=>1) where
 cells:=a
 op enc W fuel cs d p h:=by
  obtain ⟨n,rfl,i,hw⟩:=DataW.trod_int c h
  cases i
  exact ⟨aa,n,⟨aa,hw⟩,by simp [Rows.uptoBulk]⟩
theorem Dt (c:P.underlying t=some .string) (a:P.cellsOf t=1):zI P t 1 (fun _ cs (x:List UInt8)=>cs= [str x]) (fun x=>x.length+1) where
 cells:=a
 op enc W fuel cs d p h:=by
  obtain ⟨s,rfl,i,hw⟩:=DataW.trod_string c h
  cases i
  exact ⟨aa,s.data.toList,aa,by simp [Rows.uptoBulk]⟩
end
end Go.Hb
end
namespace Go.Hb
theorem drop_cons {α:Type} {l:List α} {i:Nat} (d:α) (h:i < l.length):l.drop i=l.getD i d::l.drop (i+1):=by
 rw [List.drop_eq_getElem_cons h]; simp [cO,h]
theorem yB {α:Type} {l:List α} {k i:Nat} (d:α) (hk:k≤i) (hi:i < l.length):(l.take<|i+1).drop k=(l.take i).drop k++ [l.getD i d]:=by
 rw [ka l i d hi,List.drop_append_of_le_length (by rw [dT]; omega)]
def oC (b:UInt8):Bool:=b==32 || b==9
theorem Cl (b:UInt8):oC b=decide (b.toNat=32∨b.toNat=9):=by
 unfold oC
 have h:∀ x:UInt8,(b==x)=decide (b.toNat=x.toNat):=fun x=>by
  by_cases a:b=x
  · subst a; simp
  · have :b.toNat≠x.toNat:=fun h=>a<|o4.1 h
    simp [a,this]
 rw [h,h]
 simp [Bool.decide_or]
def da:List UInt8→List UInt8→List (List UInt8)
 | cur,[]=>if cur= [] then [] else [cur]
 | cur,b::r=>if oC b then (if cur= [] then da [] r else cur::da [] r) else da (cur++ [b]) r
theorem L5:da [] []= []:=by simp [da]
theorem L4 {cur:List UInt8} (h:cur≠[]):da cur []= [cur]:=by simp [da,h]
theorem L1 {b:UInt8} {r:List UInt8} (h:oC b=true):da [] (b::r)=da [] r:=by simp [da,h]
theorem L2 {cur:List UInt8} {b:UInt8} {r:List UInt8} (h:oC b=true) (a:cur≠[]):da cur (b::r)=cur::da [] r:=by simp [da,h,a]
theorem BZ {cur:List UInt8} {b:UInt8} {r:List UInt8} (h:oC b=false):da cur (b::r)=da (cur++ [b]) r:=by simp [da,h]
theorem BY:∀ (l cur x:List UInt8),x∈da cur l→x≠[]∧x.length≤cur.length+l.length:=by
 intro l
 induction l with
 | nil=>
   intro cur x h
   unfold da at h
   split at h
   · cases h
   · simp only [lj] at h; subst h; exact ⟨by assumption,by simp⟩
 | cons b r a=>
   intro cur x h
   unfold da at h
   split at h
   · split at h
     · have :=a [] x h; simp only [bT,gj] at*; exact ⟨this.1,ab⟩
     · rcases eK.1 h with rfl | h
       · exact ⟨by assumption,by simp⟩
       · have :=a [] x h; simp only [bT,gj] at*; exact ⟨this.1,ab⟩
   · have :=a _ x h; simp only [bT,bF,gj] at*; exact ⟨this.1,ab⟩
theorem xo:∀ (l cur:List UInt8),(da cur l).length≤l.length+1:=by
 intro l
 induction l with
 | nil=>intro cur; unfold da; split <;> simp
 | cons b r a=>
   intro cur
   unfold da
   split
   · split
     · have :=a []; simp only [bT]; omega
     · have :=a []; simp only [bT]; omega
   · have :=a (cur++ [b]); simp only [bT]; omega
def jk (l:List UInt8) (i:Nat) (a:Int) (cur:List UInt8):Prop :=(a= -1∧cur= [])∨(∃ k:Nat,a=k∧k < i∧i≤l.length∧cur=(l.take i).drop k)
theorem jk.no {l:List UInt8} {i:Nat} :jk l i (-1) []:= .inl ⟨rfl,rfl⟩
theorem jk.neg {l cur:List UInt8} {i:Nat} {a:Int} (h:jk l i a cur) (c:a < 0):a= -1∧cur= []:=by
 rcases h with h | ⟨k,rfl,_⟩
 · exact h
 · omega
theorem jk.pos {l cur:List UInt8} {i:Nat} {a:Int} (h:jk l i a cur) (c:¬a < 0):(0≤a∧a < i)∧cur=(l.take i).drop a.toNat∧cur≠[]:=by
 rcases h with ⟨rfl,_⟩ | ⟨k,rfl,h1,h2,rfl⟩
 · omega
 · refine ⟨ab,by simp,fun e=> ?_⟩
   have :=congrArg kM e
   simp only [fI,dT,gj] at this
   omega
theorem jk.begin {l:List UInt8} {i:Nat} (hi:i < l.length):jk l (i+1) i [l.getD i 0]:=by
 refine .inr ⟨i,aa,ab,ab,?_⟩
 rw [yB 0 (bX i) hi,kL (by rw [dT]; omega),kN]
theorem jk.more {l cur:List UInt8} {i:Nat} {a:Int} (h:jk l i a cur) (c:¬a < 0) (hi:i < l.length):jk l (i+1) a (cur++ [l.getD i 0]):=by
 rcases h with ⟨rfl,_⟩ | ⟨k,rfl,h1,h2,rfl⟩
 · omega
 · exact .inr ⟨k,aa,ab,ab,(yB 0 ab hi).symm⟩
def iO (l:List UInt8):List UInt8:=if 0 < l.length∧l.getD (l.length - 1) 0=13 then l.take (l.length - 1) else l
theorem Bp (l:List UInt8):(iO l).length≤l.length:=by unfold iO; split <;> simp
theorem KU {l:List UInt8} (h:0 < l.length) (h1:l.getD (l.length - 1) 0=13):iO l=l.take (l.length - 1):=if_pos ⟨h,h1⟩
theorem KS {l:List UInt8} (h:¬(0 < l.length∧l.getD (l.length - 1) 0=13)):iO l=l:=if_neg h
theorem CO {l:List UInt8} (h:0 < l.length):l.drop (l.length - 1)= [l.getD (l.length - 1) 0]:=by
 rw [drop_cons 0 ab,kL ab]
def ew:List UInt8→List UInt8→List (List UInt8)
 | cur,[]=>if cur= [] then [] else [iO cur]
 | cur,b::r=>if b=10 then iO cur::ew [] r else ew (cur++ [b]) r
theorem C2:ew [] []= []:=by simp [ew]
theorem NQ {cur:List UInt8} (h:cur≠[]):ew cur []= [iO cur]:=by simp [ew,h]
theorem NT (cur r:List UInt8):ew cur (10::r)=iO cur::ew [] r:=by simp [ew]
theorem C1 {cur:List UInt8} {b:UInt8} {r:List UInt8} (h:b≠10):ew cur (b::r)=ew (cur++ [b]) r:=by simp [ew,h]
theorem xW:∀ (l cur:List UInt8),(ew cur l).length≤l.length+1:=by
 intro l
 induction l with
 | nil=>intro cur; unfold ew; split <;> simp
 | cons b r a=>
   intro cur
   unfold ew
   split
   · have :=a []; simp only [bT]; omega
   · have :=a (cur++ [b]); simp only [bT]; omega
theorem NR (l:List UInt8):(ew [] l).length≤l.length:=by
 cases l with
 | nil=>simp [ew]
 | cons b r=>
   unfold ew
   split
   · have :=xW r []
     have h2:∀ m:List UInt8,(ew [] m).length≤m.length:=by
      intro m
      induction m with
      | nil=>simp [ew]
      | cons c m a=>
        unfold ew
        split
        · simp only [bT]; omega
        · have :=xW m ([]++ [c]); simp only [bT]; omega
     have :=h2 r
     simp only [bT]; omega
   · have :=xW r ([]++ [b]); simp only [bT]; omega
theorem NS:∀ (l cur x:List UInt8),x∈ew cur l→x.length≤cur.length+l.length:=by
 intro l
 induction l with
 | nil=>
   intro cur x h
   unfold ew at h
   split at h
   · cases h
   · simp only [lj] at h; subst h; have :=Bp cur; simp only [gj]; omega
 | cons b r a=>
   intro cur x h
   unfold ew at h
   split at h
   · rcases eK.1 h with rfl | h
     · have :=Bp cur; omega
     · have :=a [] x h; simp only [bT,gj] at*; omega
   · have :=a _ x h; simp only [bT,bF,gj] at*; omega
def dK (c:UInt8) (l:List UInt8):Int:=if l.idxOf c < l.length then (l.idxOf c:Int) else -1
theorem CJ {c:UInt8} {l:List UInt8} (h:dK c l < 0):¬l.idxOf c < l.length:=fun h1=>by unfold dK at h; rw [if_pos h1] at h; omega
theorem pT {c:UInt8} {l:List UInt8} (h:¬dK c l < 0):dK c l=l.idxOf c∧l.idxOf c < l.length:=by
 unfold dK at*
 by_cases h1:l.idxOf c < l.length
 · exact ⟨if_pos h1,h1⟩
 · rw [if_neg h1] at h; omega
def kr (c:UInt8) (l:List UInt8):List UInt8:=if dK c l < 0 then l else l.take (l.idxOf c)
def lC (c:UInt8) (l:List UInt8):List UInt8:=if dK c l < 0 then [] else l.drop (l.idxOf c+1)
theorem J0 (c:UInt8) (l:List UInt8):(kr c l).length≤l.length:=by unfold kr; split <;> simp; omega
theorem Kd {c:UInt8} {l:List UInt8} (h:l≠[]):(lC c l).length < l.length:=by
 have :=mB.2 h
 unfold lC; split <;> simp <;> omega
theorem NP:∀ (l cur:List UInt8),l.idxOf 10 < l.length→ew cur l=iO (cur++l.take (l.idxOf 10))::ew [] (l.drop<|l.idxOf 10 +1):=by
 intro l
 induction l with
 | nil=>intro cur h; simp at h
 | cons b r i=>
   intro cur h
   by_cases a:b=10
   · subst a
     rw [zw,NT,nn,dS,fj,List.drop_one,List.tail_cons]
   · have c:(b::r).idxOf 10=r.idxOf 10 +1:=by rw [sx,beq_eq_false_iff_ne.2 a]; rfl
     rw [c] at h ⊢
     simp only [bT] at h
     rw [C1 a,i _ ab,qy,su,dx]
     rfl
theorem NU:∀ (l cur:List UInt8),¬l.idxOf 10 < l.length→cur++l≠[]→ew cur l= [iO (cur++l)]:=by
 intro l
 induction l with
 | nil=>intro cur _ h; rw [dS] at h ⊢; exact NQ h
 | cons b r i=>
   intro cur h h1
   by_cases a:b=10
   · subst a; rw [zw] at h; simp at h
   · have c:(b::r).idxOf 10=r.idxOf 10 +1:=by rw [sx,beq_eq_false_iff_ne.2 a]; rfl
     rw [c] at h
     simp only [bT] at h
     rw [C1 a,i _ ab (by simp),dx]
     rfl
theorem NV {l:List UInt8} (h:l≠[]):ew [] l=iO (kr 10 l)::ew [] (lC 10 l):=by
 by_cases h1:dK 10 l < 0
 · rw [NU l [] (CJ h1) (by simpa using h)]
   unfold kr lC
   rw [if_pos h1,if_pos h1,C2,kN]
 · rw [NP l [] (pT h1).2]
   unfold kr lC
   rw [if_neg h1,if_neg h1,kN]
def eF (s p:List UInt8):List UInt8:=if s.take p.length=p then s.drop p.length else s
def C4:List UInt8:= [239,187,191]
def uC (s:List UInt8):List UInt8:=eF s C4
theorem yP (s:List UInt8):(uC s).length≤s.length:=by unfold uC eF; split <;> simp
def cJ (t:List UInt8):List (List UInt8):=ew []<|uC t
theorem oF (t:List UInt8):(cJ t).length≤t.length:=eV (NR _)<|yP t
theorem CX {t x:List UInt8} (h:x∈cJ t):x.length≤t.length:=by
 have :=NS _ _ _ h
 have :=yP t
 simp only [gj] at*; omega
def tW (f:List UInt8):Bool:=decide ((f.getD 0 0).toNat=35)
def mU (f:List (List UInt8)):List (List UInt8):=f.takeWhile fun x=> !tW x
def nI (l:List UInt8) (n:Nat):List (Nat×List (List UInt8)):=if mU (da [] l)= [] then [] else [(n,mU (da [] l))]
def j7 (n:Nat):List (List UInt8)→List (Nat×List (List UInt8))
 | []=> []
 | l::r=>nI l n++j7 (n+1) r
def ec (t:List UInt8):List (Nat×List (List UInt8)):=j7 1<|cJ t
theorem tX (l:List UInt8):∀ (c:List (List UInt8)) (n:Nat),j7 n (c++ [l])=j7 n c++nI l (n+c.length):=by
 intro c
 induction c with
 | nil=>intro n; simp [j7]
 | cons a c i=>intro n; rw [ss,j7,i,j7,bT,dx,show n+1 +c.length=n+(c.length+1) from by omega]
theorem DO:∀ (c:List (List UInt8)) (n:Nat),(j7 n c).length≤c.length:=by
 intro c
 induction c with
 | nil=>intro n; simp [j7]
 | cons a c i=>
   intro n
   have :=i<|n+1
   unfold j7 nI
   rw [bF]
   split <;> simp only [gj,bT] <;> omega
theorem DP (t:List UInt8):(ec t).length≤t.length:=eV (DO _ _)<|oF t
theorem CK {f:List (List UInt8)} :∀ {j:Nat},j≤f.length→(∀ i,i < j→tW (f.getD i [])=false)→(j=f.length∨tW (f.getD j [])=true)→mU f=f.take j:=by
 induction f with
 | nil=>intro j q _ _; rw [Gg]; rfl
 | cons a f A=>
   intro j q h1 h2
   cases j with
   | zero=>
     rcases h2 with h2 | h2
     · simp at h2
     · simp only [lR] at h2
       simp [mU,h2]
   | succ j=>
     have c:=h1 0 ab
     simp only [lR] at c
     have :=A (j:=j) (by simpa using q) (fun i hi=>by simpa using h1 (i+1) ab)<|by simpa using h2
     unfold mU at*
     rw [List.takeWhile_cons,c]
     simp only [Bool.not_false,if_true,qy]
     rw [this]
theorem Nr {f:List (List UInt8)} {x:List UInt8} (h:x∈mU f):x∈f:=(Gf _).subset h
theorem Nq (f:List (List UInt8)):(mU f).length≤f.length:=(Gf _).length_le
theorem PM:∀ (c:List (List UInt8)) (n:Nat) (r:Nat×List (List UInt8)),r∈j7 n c→n≤r.1∧r.1 < n+c.length∧r.2≠[]∧∃ l∈c,r.2=mU (da [] l):=by
 intro c
 induction c with
 | nil=>intro n r h; cases h
 | cons a c q=>
   intro n r h
   rw [j7] at h
   rcases List.mem_append.1 h with h | h
   · unfold nI at h
     split at h
     · cases h
     · simp only [lj] at h; subst h
       exact ⟨by simp,by simp,by assumption,a,by simp,aa⟩
   · obtain ⟨h1,h2,h3,l,i,h4⟩:=q _ _ h
     exact ⟨ab,by simp only [bT]; omega,h3,l,by simp [i],h4⟩
theorem DQ {t:List UInt8} {r:Nat×List (List UInt8)} (h:r∈ec t):1≤r.1∧r.1≤t.length∧r.2≠[]∧r.2.length≤t.length+1∧∀ x∈r.2,x≠[]∧x.length≤t.length:=by
 obtain ⟨h1,h2,h3,l,c,h4⟩:=PM _ _ _ h
 have q:=oF t
 have i:=CX c
 refine ⟨h1,ab,h3,?_,fun x a=> ?_⟩
 · rw [h4]; have :=Nq (da [] l); have :=xo l []; omega
 · rw [h4] at a
   have :=BY _ _ _<|Nr a
   simp only [gj] at this
   exact ⟨this.1,ab⟩
def qX (b:UInt8):Bool:=decide (48≤b.toNat∧b.toNat≤57)
def eY (s:List UInt8):Nat:=s.foldl (fun n b=>n*10 +(b.toNat - 48)) 0
theorem qV {s:List UInt8} {i:Nat} (h:i < s.length):eY (s.take<|i+1)=eY (s.take i)*10 +((s.getD i 0).toNat - 48):=by
 rw [ka s i 0 h]; unfold eY; rw [zt]; rfl
theorem Mf:∀ (s:List UInt8) (n:Nat),n≤s.foldl (fun n b=>n*10 +(b.toNat - 48)) n:=by
 intro s
 induction s with
 | nil=>intro n; exact bX _
 | cons b s a=>intro n; refine eV ?_ (a _); show n≤n*10 +(b.toNat - 48); omega
theorem Kr (s:List UInt8) (i:Nat):eY (s.take i)≤eY s:=by
 have :eY s=(s.drop i).foldl (fun n b=>n*10 +(b.toNat - 48)) (eY<|s.take i):=by
  unfold eY; rw [← zt,List.take_append_drop]
 rw [this]; exact Mf _ _
def oD (s:List UInt8):Prop :=s= []∨(1 < s.length∧(s.getD 0 0).toNat=48)
def wx (s:List UInt8):Prop := ∀ i,i < s.length→qX (s.getD i 0)=true
open Classical in
noncomputable def eC (s:List UInt8) (most:Int):Nat×Int:=if oD s∨¬wx s∨most < eY s then (0,13) else (eY s,0)
theorem Dl {s:List UInt8} {most:Int} (h:oD s):eC s most=(0,13):=if_pos<|.inl h
theorem Dk {s:List UInt8} {most:Int} {i:Nat} (h:i < s.length) (h1:qX (s.getD i 0)=false):eC s most=(0,13):=if_pos<|.inr<|.inl fun hd=>by rw [hd i h] at h1; cases h1
theorem OB {s:List UInt8} {most:Int} (h:most < eY s):eC s most=(0,13):=if_pos<|.inr<|.inr h
theorem Di {s:List UInt8} {most:Int} (i:Nat) (h:most < eY (s.take i)):eC s most=(0,13):=OB<|by have :=Kr s i; omega
theorem Dm {s:List UInt8} {most:Int} (h:¬oD s) (h1:wx s) (h2:¬most < eY s):eC s most=(eY s,0):=if_neg<|by rintro (a | a | a) <;> first | exact h a | exact a h1 | exact h2 a
theorem Dj (s:List UInt8) (most:Int):(eC s most=(0,13))∨(eC s most=(eY s,0)∧(eY s:Int)≤most):=by
 unfold eC
 split
 · exact .inl aa
 · rename_i h; exact .inr ⟨rfl,by have :¬most < eY s:=fun a=>h (.inr<|.inr a); omega⟩
theorem tQ (s:List UInt8) (most:Int):(eC s most).2=0→((eC s most).1:Int)≤most:=by
 rcases Dj s most with h | ⟨h,h1⟩ <;> rw [h]
 · intro h; cases h
 · intro _; exact h1
theorem Bo {b:UInt8} (h:¬(48≤b.toNat∧b.toNat≤57)):qX b=false :=decide_eq_false h
theorem Ng {x:UInt8} :∀ {l:List UInt8} {i:Nat},i < l.length→(∀ j,j < i→l.getD j 0≠x)→l.getD i 0=x→dK x l=(i:Nat):=by
 have key:∀ (l:List UInt8) (i:Nat),i < l.length→(∀ j,j < i→l.getD j 0≠x)→l.getD i 0=x→l.idxOf x=i:=by
  intro l
  induction l with
  | nil=>intro i h; simp at h
  | cons b l c=>
    intro i h h1 h2
    cases i with
    | zero=>have a:b=x:=h2
            subst a; simp
    | succ i=>
      have a:b≠x:=h1 0<|Nat.succ_pos _
      rw [sx,show (b==x)=false from by simpa using a]
      have :=c i (by simpa using h) (fun j q=>h1 (j+1) ab) h2
      rw [this]; rfl
 intro l i h h1 h2
 unfold dK
 rw [key l i h h1 h2,if_pos h]
theorem Nh {x:UInt8} {l:List UInt8} (h:∀ j,j < l.length→l.getD j 0≠x):dK x l= -1:=by
 unfold dK
 rw [if_neg]
 intro h1
 have hm:=List.idxOf_lt_length_iff.1 h1
 obtain ⟨j,a,e⟩:=F8.1 hm
 exact h j a<|by rw [cO,cx a]; exact e
end Go.Hb
section
namespace Go.Hb
theorem yM {h:Array Obj} {a:Option Addr} {l:List UInt8} {i:Nat} (c:aC h a (U8 l)) (hi:i < l.length):Hb.aH h (bk a) (fo a+i*1)=some (.int .u8 (l.getD i 0).toNat):=by
 refine c.jo ?_
 unfold U8
 rw [fU,cx hi,cO,cx hi]; rfl
theorem yO {l:List UInt8} (h:0 < l.length):U8 l≠[]:=by
 intro e
 have :=congrArg kM e
 rw [sO,gj] at this
 omega
theorem OQ {w:World} {B e:Nat} {v:Value} {l:List UInt8} {x:UInt8} (h:w.ownsRow B e 1 v (l.length+1) (U8 l++ [.int .u8 x.toNat])):w.ownsRow B e 1 v (l++ [x]).length (U8<|l++ [x]):=by
 rw [bF,sN]; exact h
theorem yr {w:World} {B e:Nat} {v:Value} {l:List (List UInt8)} {x:List UInt8} (h:w.ownsRow B e 1 v (l.length+1) (l.map str++ [str x])):w.ownsRow B e 1 v (l++ [x]).length ((l++ [x]).map str):=by
 rw [bF,iK]; exact h
abbrev Rw:Type :=Nat×List (List UInt8)
def uc (q:Nat×Value):List Value:= [.int .i64 q.1,q.2]
def kF (l:List (Nat×Value)):List Value:=l.flatMap uc
theorem PX (a b:List (Nat×Value)):kF (a++b)=kF a++kF b:=by simp [kF]
theorem DU (l:List (Nat×Value)):(kF l).length=l.length*2:=nD (f:=uc) (m:=2) (fun _=>rfl) l
theorem ua {l:List (Nat×Value)} (h:0 < l.length):kF l≠[]:=xm (f:=uc) (m:=2) (fun _=>rfl) aw h
theorem ub {h:Array Obj} {ad:Option Addr} {vs:List (Nat×Value)} {i:Nat} {q:Nat×Value} (a:aC h ad (kF vs)) (c:vs[i]? =some q):∀ j,j < 2→Hb.aH h (bk ad) (fo ad+i*2 +j)= [gA .i64 q.1,q.2][j]? :=
 gK (f:=uc) (m:=2) (fun _=>rfl) a c
def Tg (w:World) (B e n:Nat) (v:Value) (xs:List Value):Prop :=
 ∃ a cp,v= .slice a n cp∧n≤cp∧(xs= []∨∃ b cur z,a=some ⟨b,0,none⟩∧B≤b∧w.heap[b]? =some (.cells cur e z)∧∀ (j:Nat) u,xs[j]? =some u→cur[j]? =some u)
theorem Tg.jP {w:World} {B e size n:Nat} {v:Value} {xs:List Value} (h:w.ownsRow B e size v n xs):Tg w B e n v xs:=by
 have a:=h
 rcases h.2 with ⟨rfl,rfl⟩ | ⟨g,cap,cur,rfl,c,i,_,_,_,q⟩
 · exact ⟨none,0,aa,bX _,.inl<|gi<|by simpa using h.1⟩
 · refine ⟨_,cap,aa,(aT a).1,.inr ⟨g,cur,_,aa,c,i,fun j u hu=> ?_⟩⟩
   rw [← q,lT] at hu
   split at hu
   · simpa using hu
   · cases hu
theorem Tg.cells {w:World} {B e n:Nat} {v:Value} {xs:List Value} (h:Tg w B e n v xs):∃ a cp,v= .slice a n cp∧aC w.heap a xs:=by
 obtain ⟨a,cp,rfl,_,h | ⟨b,cur,z,rfl,_,c,i⟩⟩:=h
 · subst h; exact ⟨a,cp,rfl,aC.nil _ _⟩
 · refine ⟨_,cp,aa,fun _=>rfl,fun j u hu=> ?_⟩
   show Hb.aH w.heap b (0 +j)=_
   rw [fj,aX c]; exact i j u hu
theorem Tg.c6 {w:World} {B e n cp:Nat} {a:Option Addr} {xs:List Value} (h:Tg w B e n (.slice a n cp) xs):n≤cp∧aC w.heap a xs:=by
 obtain ⟨C,E,i,c,G⟩:=id h
 obtain ⟨a2,c2,q,A⟩:=h.cells
 cases i; cases q
 exact ⟨c,A⟩
theorem Tg.slice {w:World} {B e n:Nat} {v:Value} {xs:List Value} (h:Tg w B e n v xs):∃ a cp,v= .slice a n cp:=let ⟨a,cp,hv,_⟩:=h; ⟨a,cp,hv⟩
theorem Tg.md {F:Nat→Prop} {w w':World} {B e n:Nat} {v:Value} {xs:List Value} (h:Tg w B e n v xs) (hm:Md F w w') (q:∀ k,F k→∀ cur z,w.heap[k]?≠some (.cells cur e z)):Tg w' B e n v xs:=by
 obtain ⟨a,cp,rfl,i,h | ⟨b,cur,z,rfl,A,c,C⟩⟩:=h
 · exact ⟨a,cp,aa,i,.inl h⟩
 · exact ⟨_,cp,aa,i,.inr ⟨b,cur,z,aa,A,by rw [hm.dE b (cg.1 c).1 (fun hk=>q b hk cur z c)]; exact c,C⟩⟩
theorem Tg.wk {w w':World} {B e n:Nat} {v:Value} {xs:List Value} (h:Tg w B e n v xs) (hm:Wk w w'):Tg w' B e n v xs:=h.md hm fun _ hk=>hk.elim
theorem Tg.clip {w:World} {B e n k cp c:Nat} {a:Option Addr} {xs:List Value} (h:Tg w B e n (.slice a n cp) xs) (hk:k≤c):Tg w B e k (.slice a k c) (xs.take k):=by
 obtain ⟨G,I,q,_,i⟩:=h
 simp only [lg,true_and] at q
 obtain ⟨rfl,rfl⟩:=q
 refine ⟨a,c,aa,hk,?_⟩
 rcases i with rfl | ⟨b,cur,z,A,C,E,i⟩
 · exact .inl Gg
 · exact .inr ⟨b,cur,z,A,C,E,fun j u hu=>i j u<|by rw [lT] at hu; split at hu; exact hu; cases hu⟩
theorem iG {w:World} {B e c size n:Nat} {v:Value} {xs:List Value} (h:w.ownsRow B e size v n xs) (q:e≠c):∀ k,v.ownBlock=some k→∀ cur z,w.heap[k]?≠some (.cells cur c z):=by
 intro k hk cur z a
 rcases h.2 with ⟨rfl,_⟩ | ⟨g,cap,A,rfl,_,i,_⟩
 · simp [gh] at hk
 · simp only [gh,eM] at hk
   subst hk
   rw [i] at a
   simp only [eM,sg] at a
   exact q a.2.1
theorem gn {w:World} {b e c:Nat} {cs:Array Value} {y:Nat×Nat} (h:w.heap[b]? =some (.cells cs e y)) (i:e≠c):∀ k,k=b→∀ cur z,w.heap[k]?≠some (.cells cur c z):=by
 rintro k rfl cur z a
 rw [h] at a
 simp only [eM,sg] at a
 exact i a.2.1
def gk (w:World) (B e:Nat) (vs:List (Nat×Value)) (rs:List Rw):Prop :=vs.length=rs.length∧∀ (i:Nat) q r,vs[i]? =some q→rs[i]? =some r→q.1=r.1∧Tg w B e r.2.length q.2 (r.2.map str)
theorem gk.nil (w:World) (B e:Nat):gk w B e [] []:=⟨rfl,fun i q r a=>by simp at a⟩
theorem gk.md {F:Nat→Prop} {w w':World} {B e:Nat} {vs:List (Nat×Value)} {rs:List Rw} (h:gk w B e vs rs) (hm:Md F w w') (a:∀ k,F k→∀ cur z,w.heap[k]?≠some (.cells cur e z)):gk w' B e vs rs:=
 ⟨h.1,fun i q r h1 h2=>⟨(h.2 i q r h1 h2).1,(h.2 i q r h1 h2).2.md hm a⟩⟩
theorem gk.wk {w w':World} {B e:Nat} {vs:List (Nat×Value)} {rs:List Rw} (h:gk w B e vs rs) (hm:Wk w w'):gk w' B e vs rs:=h.md hm fun _ hk=>hk.elim
theorem gk.snoc {w:World} {B e n:Nat} {vs:List (Nat×Value)} {rs:List Rw} {v:Value} {r:List (List UInt8)} (a:gk w B e vs rs) (q:Tg w B e r.length v (r.map str)):gk w B e (vs++ [(n,v)]) (rs++ [(n,r)]):=by
 refine ⟨by rw [bF,bF,a.1]; rfl,fun i A C h1 h2=> ?_⟩
 have c:=a.1
 by_cases hi:i < vs.length
 · rw [lh hi] at h1
   rw [lh ab] at h2
   exact a.2 i A C h1 h2
 · rw [lS ab] at h1
   rw [lS ab,← c] at h2
   cases hj:i - vs.length with
   | zero=>rw [hj] at h1 h2; cases h1; cases h2; exact ⟨rfl,q⟩
   | succ j=>rw [hj] at h1; simp at h1
theorem Tg.mono {w:World} {B B' e n:Nat} {v:Value} {xs:List Value} (h:Tg w B e n v xs) (c:B'≤B):Tg w B' e n v xs:=by
 obtain ⟨a,cp,q,i,A⟩:=h
 exact ⟨a,cp,q,i,A.imp id fun ⟨b,cur,z,h1,h2,h3⟩=>⟨b,cur,z,h1,eV c h2,h3⟩⟩
theorem gk.mono {w:World} {B B' e:Nat} {vs:List (Nat×Value)} {rs:List Rw} (h:gk w B e vs rs) (a:B'≤B):gk w B' e vs rs:=⟨h.1,fun i q r h1 h2=>⟨(h.2 i q r h1 h2).1,(h.2 i q r h1 h2).2.mono a⟩⟩
end Go.Hb
end
section
set_option linter.unusedSectionVars false
namespace Go.Hb
open Go.Sort (swp insInner insOuter insertionSort siftDown heapBuild heapPop heapSort scanUp scanDown partLoop partEqLoop partition partitionEqual scanSorted shiftDown shiftUp partialIns partialInsertionSort reverseLoop reverseRange choosePivot breakPatterns breakStep pdq Hint)
def LE {α:Type} (f:α→Value) (d:Array α):List Value:=d.toList.map f
section
variable {α:Type} [Inhabited α] {f:α→Value}
theorem rA (d:Array α):(LE f d).length=d.size:=by simp [LE]
theorem bE {d:Array α} (h:0 < d.size):LE f d≠[]:=by
 intro e; have :=congrArg kM e; rw [rA,gj] at this; omega
theorem CQ {d:Array α} {i:Nat} (h:i < d.size):(LE f d)[i]? =some (f d[i]!):=by
 unfold LE
 rw [fU,yZ,uJ h,getElem!_pos d i h]; rfl
theorem ca {h:Array Obj} {a:Option Addr} {d:Array α} {i:Nat} (c:aC h a (LE f d)) (hi:i < d.size):Hb.aH h (bk a) (fo a+i*1)=some (f d[i]!):=c.jo<|CQ hi
theorem NF (d:Array α) (i:Nat) (v:α):(LE f d).set i (f v)=LE f (d.setIfInBounds i v):=by
 unfold LE; rw [y1,List.map_set]
theorem ea {w:World} {B e n:Nat} {v:Value} {d:Array α} (h:w.ownsRow B e 1 v n (LE f d)):d.size=n:=by
 have :=h.1; rw [rA] at this; omega
end
section
variable {P:Program} {N:Fm} {σ:Nat→Value} {w:World} {ty:TypeId} {pos :String} {af:Array Edge} {g:Option (Nat×Bool)} {x y:Operand} {K:(Nat→Value)→World→Prop}
theorem eE {α:Type} [Inhabited α] {f:α→Value} {t B e n cap:Nat} {a:Option Addr} {d:Array α} {u:α} (i:Nat) (c:w.ownsRow B e 1 (.slice a n cap) n (LE f d)) (C:dC P t=some 1) (q:ev N σ x= .pointer (some ⟨bk a,fo a+i*1,none⟩)) (A:ev N σ y=f u) (h1:(f u).oneCell'=true)
 (E:i < n) (k:∀ w',Md (fun k=>(bz a n cap).ownBlock=some k) w w'→w'.ownsRow B e 1 (.slice a n cap) n (LE f<|d.setIfInBounds i u)→K σ w'):cA P N ⟨none,.store t x y,ty,pos,af,g⟩ σ w K:=
 p6 c C q A h1 (j:=i) ab ab fun w' h1 h2=>k w' h1<|by rw [← NF]; exact h2
end
section
variable {α:Type} [Inhabited α] {lt:α→α→Bool} {d:Array α}
theorem M7 {a j:Nat} (h:a < j) (h1:lt d[j]! d[j - 1]! =true):insInner lt a j d=insInner lt a (j - 1) (swp d j<|j - 1):=by
 cases j with
 | zero=>omega
 | succ j=>simp only [qz] at*; rw [insInner,if_pos (by simp [h1]; omega)]
theorem M9 {a j:Nat} (h:¬a < j):insInner lt a j d=d:=by
 cases j with
 | zero=>rfl
 | succ j=>rw [insInner,if_neg (by simp; omega)]
theorem M8 {a j:Nat} (h1:lt d[j]! d[j - 1]! =false):insInner lt a j d=d:=by
 cases j with
 | zero=>rfl
 | succ j=>simp only [qz] at*; rw [insInner,if_neg (by simp [h1])]
theorem CG {a b i:Nat} (h:i < b):insOuter lt a b i d=insOuter lt a b (i+1) (insInner lt a i d):=by rw [insOuter,if_pos h]
theorem M6 {a b i:Nat} (h:¬i < b):insOuter lt a b i d=d:=by rw [insOuter,if_neg h]
theorem P9 {hi first r:Nat} (h:¬2 *r+1 < hi):siftDown lt hi first r d=d:=by rw [siftDown,dif_pos ab]
theorem Qa {hi first r:Nat} (h:2 *r+1 +1 < hi) (h1:lt d[first+(2 *r+1)]! d[first+(2 *r+1)+1]! =true):
 siftDown lt hi first r d=if (!lt d[first+r]! d[first+(2 *r+2)]!)=true then d else siftDown lt hi first (2 *r+2) (swp d (first+r)<|first+(2 *r+2)):=by
 rw [siftDown,dif_neg ab,if_pos (by simp [h1]; omega),dif_pos ab]
theorem D4 {hi first r:Nat} (a:2 *r+1 < hi) (h:¬2 *r+1 +1 < hi∨lt d[first+(2 *r+1)]! d[first+(2 *r+1)+1]! =false):
 siftDown lt hi first r d=if (!lt d[first+r]! d[first+(2 *r+1)]!)=true then d else siftDown lt hi first (2 *r+1) (swp d (first+r)<|first+(2 *r+1)):=by
 rw [siftDown,dif_neg ab,if_neg (by rcases h with h | h <;> simp [h] <;> omega)]
theorem Mx {hi first k:Nat} (h:0 < k):heapBuild lt hi first k d=heapBuild lt hi first (k - 1) (siftDown lt hi first (k - 1) d):=by
 cases k with
 | zero=>omega
 | succ k=>rfl
theorem My {hi first :Nat} :heapBuild lt hi first 0 d=d:=rfl
theorem MT {first k:Nat} (h:0 < k):heapPop lt first k d=heapPop lt first (k - 1) (siftDown lt (k - 1) first 0 (swp d first (first+(k - 1)))):=by
 cases k with
 | zero=>omega
 | succ k=>rfl
theorem yQ {p:α→Bool} {i j:Nat} (h:i≤j) (h1:p d[i]! =true):scanUp p d j i=scanUp p d j (i+1):=by
 rw [scanUp]; simp [h,h1]
theorem qc {p:α→Bool} {i j:Nat} (h:¬i≤j∨p d[i]! =false):scanUp p d j i=i:=by
 rw [scanUp]; rcases h with h | h <;> simp [h]
theorem wy {p:α→Bool} {i j:Nat} (a:0 < j) (h:i≤j) (h1:p d[j]! =true):scanDown p d i j=scanDown p d i (j - 1):=by
 cases j with
 | zero=>omega
 | succ j=>rw [scanDown]; simp [h,h1]
theorem pF {p:α→Bool} {i j:Nat} (h:¬i≤j∨p d[j]! =false):scanDown p d i j=j:=by
 cases j with
 | zero=>rfl
 | succ j=>rw [scanDown]; rcases h with h | h <;> simp [h]
theorem Qq {b i:Nat} (h:i < b) (h1:lt d[i]! d[i - 1]! =false):scanSorted lt d b i=scanSorted lt d b (i+1):=by
 rw [scanSorted]; simp [h,h1]
theorem Eb {b i:Nat} (h:¬i < b∨lt d[i]! d[i - 1]! =true):scanSorted lt d b i=i:=by
 rw [scanSorted]; rcases h with h | h <;> simp [h]
theorem PY {j:Nat} (h:0 < j) (h1:lt d[j]! d[j - 1]! =true):shiftDown lt j d=shiftDown lt (j - 1) (swp d j<|j - 1):=by
 cases j with
 | zero=>omega
 | succ j=>simp only [qz] at*; rw [shiftDown]; simp [h1]
theorem DV {j:Nat} (h:¬0 < j∨lt d[j]! d[j - 1]! =false):shiftDown lt j d=d:=by
 cases j with
 | zero=>rfl
 | succ j=>simp only [qz] at*; rw [shiftDown]; rcases h with h | h <;> first | omega | simp [h]
theorem QG {b j:Nat} (h:j < b) (h1:lt d[j]! d[j - 1]! =true):shiftUp lt b j d=shiftUp lt b (j+1) (swp d j<|j - 1):=by
 rw [shiftUp]; simp [h,h1]
theorem Ee {b j:Nat} (h:¬j < b∨lt d[j]! d[j - 1]! =false):shiftUp lt b j d=d:=by
 rw [shiftUp]; rcases h with h | h <;> simp [h]
theorem PD {i j:Nat} (h:i < j):reverseLoop i j d=reverseLoop (i+1) (j - 1) (swp d i j):=by rw [reverseLoop,if_pos h]
theorem PE {i j:Nat} (h:¬i < j):reverseLoop i j d=d:=by rw [reverseLoop,if_neg h]
theorem DB {a i j i2 c:Nat} (h1:scanUp (fun x=>lt x d[a]!) d j i=i2) (h2:scanDown (fun x=> !lt x d[a]!) d i2 j=c) (hi:i≤i2) (q:c≤j):
 partLoop lt a i j d=if i2 > c then (c,d) else if (c - 1)+1 - (i2+1) < j+1 - i then partLoop lt a (i2+1) (c - 1) (swp d i2 c) else (c,d):=by
 rw [partLoop]; simp only [h1,h2]; split <;> first | rfl | (split <;> rfl)
theorem Dx {a i j i2 c:Nat} (h1:scanUp (fun x=> !lt d[a]! x) d j i=i2) (h2:scanDown (fun x=>lt d[a]! x) d i2 j=c):
 partEqLoop lt a i j d=if i2 > c then (i2,d) else if (c - 1)+1 - (i2+1) < j+1 - i then partEqLoop lt a (i2+1) (c - 1) (swp d i2 c) else (i2,d):=by
 rw [partEqLoop]; simp only [h1,h2]; split <;> first | rfl | (split <;> rfl)
end
def bC (x y:Nat):Bool:=decide (x < y)
theorem rB:Go.Sort.SWO bC:=⟨fun x=>by simp [bC],fun x y z=>by simp only [bC,decide_eq_true_eq]; omega,fun x y z=>by simp only [bC,decide_eq_false_iff_not]; omega⟩
def aO (n:Nat):Value:= .int .u16 n
section
variable {P:Program} {N:Fm} {σ:Nat→Value} {w:World} {dst:Option Nat} {ty:TypeId} {pos :String} {af:Array Edge} {g:Option (Nat×Bool)} {x y:Operand}
theorem vD {t A:TypeId} {k:IntKind} {a b v:Int} (i:ev N σ x= .int k a) (q:ev N σ y= .int k b) (c:k.wrap (eA k.bits a ^^^ eA k.bits b).toNat=v):
 (execOp (ev N σ) ⟨dst,.binOp .xor t x y A,ty,pos,af,g⟩).run P w= .ok (.value<|.int k v) w:=by
 subst c; simp [execOp,i,q,eqGuard,binOp,si]
end
theorem EC (x:Int):0≤dq.wrap x∧dq.wrap x < 18446744073709551616:=by
 have h:dq.wrap x=x % 18446744073709551616:=by
  simp [IntKind.wrap,IntKind.bits,IntKind.signed]
 rw [h]; omega
theorem G1 (r:Int) (m:Nat) (hm:0 < m∧m≤1099511627776):∃ o:Nat,o≤m - 1∧dq.wrap (eA dq.bits r &&& eA dq.bits ((m:Int) - 1)).toNat=(o:Int):=by
 refine ⟨(eA dq.bits r &&& eA dq.bits ((m:Int) - 1)).toNat,?_,?_⟩
 · rw [Fc]
   refine eV Nat.and_le_right ?_
   have h1:(m:Int) - 1=((m - 1:Nat):Int):=ab
   rw [h1,na]
   have h2:(dq.bits:Nat)=64:=rfl
   rw [h2]
   omega
 · exact mr (by have :=(eA dq.bits r &&& eA dq.bits ((m:Int) - 1)).isLt; have h2:(dq.bits:Nat)=64:=aa; rw [h2] at this ⊢; omega)
def jc (n:Nat):Nat:=if n=0 then 0 else Nat.log2 n+1
theorem CU:∀ n:Fin 256,n.val≠0→n.val < 2 ^ jc n.val∧2 ^ jc n.val≤2 *n.val∧jc n.val≤8:=by decide+kernel
theorem tN {n:Nat} (h:n < 256):jc n≤8:=by
 rcases Nat.eq_zero_or_pos n with rfl | a
 · decide
 · exact (CU ⟨n,h⟩<|by simp; omega).2.2
theorem NI {n:Nat} (h:n < 256) (a:0 < n):n < 2 ^ jc n∧2 ^ jc n≤2 *n:=by
 have :=CU ⟨n,h⟩<|by simp; omega
 exact ⟨this.1,this.2.1⟩
end Go.Hb
end
namespace Go.Hb
def fE:List Nat→List Nat
 | []=> []
 | [x]=> [x]
 | x::y::l=>if x=y then fE (y::l) else x::fE (y::l)
theorem Kq (x y:Nat):∀ l:List Nat,fE (l++ [x,y])=if x=y then fE (l++ [x]) else fE (l++ [x])++ [y]:=by
 intro l
 induction l with
 | nil=>by_cases h:x=y <;> simp [fE,h]
 | cons a l c=>
   cases l with
   | nil=>by_cases h:a=x <;> by_cases h2:x=y <;> simp_all [fE]
   | cons b l=>
     simp only [ss] at c ⊢
     rw [fE,c,fE]
     by_cases h:a=b <;> by_cases h2:x=y <;> simp [h,h2]
theorem Bg (x:Nat):∀ l:List Nat,x∈fE l↔x∈l:=by
 intro l
 induction l with
 | nil=>simp [fE]
 | cons a l c=>
   cases l with
   | nil=>simp [fE]
   | cons b l=>
     rw [fE]
     by_cases h:a=b
     · subst h; rw [if_pos rfl,c]; simp
     · rw [if_neg h,eK,c,eK (a:=x) (b:=a)]
theorem Kp:∀ l:List Nat,l.Pairwise (·≤·)→(fE l).Pairwise (· < ·):=by
 intro l
 induction l with
 | nil=>intro _; exact List.Pairwise.nil
 | cons a l i=>
   intro h
   cases l with
   | nil=>simp [fE]
   | cons b l=>
     rw [nm] at h
     rw [fE]
     by_cases h1:a=b
     · rw [if_pos h1]; exact i h.2
     · rw [if_neg h1,nm]
       refine ⟨fun y c=> ?_,i h.2⟩
       have c:=(Bg y _).1 c
       have h2:=h.1 b<|by simp
       rcases eK.1 c with rfl | c
       · omega
       · have :=(nm.1 h.2).1 y c; omega
theorem PH:∀ l m:List Nat,l.Pairwise (· < ·)→m.Pairwise (· < ·)→(∀ x,x∈l↔x∈m)→l=m:=by
 intro l
 induction l with
 | nil=>
   intro m _ _ h
   cases m with
   | nil=>rfl
   | cons y m=>have :=(h y).2 (by simp); cases this
 | cons a l q=>
   intro m i hm h
   cases m with
   | nil=>have :=(h a).1 (by simp); cases this
   | cons y m=>
     rw [nm] at i hm
     have e:a=y:=by
      have h1:=(h a).1<|by simp
      have h2:=(h y).2<|by simp
      rcases eK.1 h1 with h1 | h1
      · exact h1
      · rcases eK.1 h2 with h2 | h2
        · exact h2.symm
        · have :=i.1 y h2; have :=hm.1 a h1; omega
     subst e
     congr 1
     refine q m i.2 hm.2 fun x=> ?_
     constructor
     · intro c
       have :=i.1 x c
       rcases eK.1 ((h x).1<|n7 _ c) with h1 | h1
       · omega
       · exact h1
     · intro c
       have :=hm.1 x c
       rcases eK.1 ((h x).2<|n7 _ c) with h1 | h1
       · omega
       · exact h1
def ky (x:Nat):List Nat→List Nat
 | []=> [x]
 | y::l=>if x < y then x::y::l else if x=y then y::l else y::ky x l
def jO (l:List Nat):List Nat:=l.foldr ky []
theorem CF (x y:Nat):∀ l:List Nat,y∈ky x l↔y=x∨y∈l:=by
 intro l
 induction l with
 | nil=>simp [ky]
 | cons a l c=>
   rw [ky]
   split
   · simp
   · split
     · rename_i h; subst h; simp
     · rw [eK,c,eK]
       constructor <;> (rintro (h | h | h) <;> simp [h])
theorem M5 (x:Nat):∀ l:List Nat,l.Pairwise (· < ·)→(ky x l).Pairwise (· < ·):=by
 intro l
 induction l with
 | nil=>intro _; simp [ky]
 | cons a l q=>
   intro h
   rw [ky]
   rw [nm] at h
   split
   · rename_i i
     rw [nm,nm]
     exact ⟨fun y c=>by rcases eK.1 c with rfl | c; exact i; have :=h.1 y c; omega,h⟩
   · split
     · rw [nm]; exact h
     · rw [nm]
       exact ⟨fun y c=>by rcases (CF x y l).1 c with rfl | c; omega; exact h.1 y c,q h.2⟩
theorem yc (x:Nat):∀ l:List Nat,x∈jO l↔x∈l:=by
 intro l
 induction l with
 | nil=>simp [jO]
 | cons a l c=>show x∈ky a (jO l)↔_; rw [CF,c,eK]
theorem yd:∀ l:List Nat,(jO l).Pairwise (· < ·):=by
 intro l
 induction l with
 | nil=>exact List.Pairwise.nil
 | cons a l c=>exact M5 a _ c
theorem Dr {l m:List Nat} (hm:m.Pairwise (· < ·)) (h:∀ x,x∈m↔x∈l):m=jO l:=PH _ _ hm (yd l) fun x=>by rw [h,yc]
theorem OF {l:List Nat} (h:l.Pairwise (· < ·)):jO l=l:=(Dr h fun _=>Iff.rfl).symm
theorem M4 (x:Nat):∀ l:List Nat,(ky x l).length≤l.length+1:=by
 intro l
 induction l with
 | nil=>simp [ky]
 | cons a l c=>rw [ky]; split <;> (try split) <;> simp only [bT] <;> omega
theorem OE:∀ l:List Nat,(jO l).length≤l.length:=by
 intro l
 induction l with
 | nil=>simp [jO]
 | cons a l c=>have :=M4 a (jO l); show (ky a<|jO l).length≤_; simp only [bT]; omega
theorem p9 (d:Array Nat):d.toList.length=d.size:=by simp
theorem rY (d:Array Nat) (i:Nat):d.toList.getD i 0=d[i]! :=by
 rw [cO,yZ]
 by_cases h:i < d.size
 · rw [uJ h,getElem!_pos d i h]; rfl
 · rw [qk ab,getElem!_neg d i h]; rfl
theorem uv {d:Array Nat} {i:Nat} (h:i < d.size):d.toList.take (i+1)=d.toList.take i++ [d[i]!]:=by
 rw [ka d.toList i 0 (by simpa using h),rY]
theorem tg {d:Array Nat} {q:Nat} (h1:1≤q) (h:q < d.size):fE (d.toList.take<|q+1)=if d[q - 1]! =d[q]! then fE (d.toList.take q) else fE (d.toList.take q)++ [d[q]!]:=by
 obtain ⟨q,rfl⟩:∃ k,q=k+1:=⟨q - 1,ab⟩
 rw [uv h,uv ab,dx,qz]
 exact Kq _ _ _
theorem Qj {d:Array Nat} (h:qp bC 0 d.size d):d.toList.Pairwise (·≤·):=by
 rw [List.pairwise_iff_getElem]
 intro i j hi a c
 have :=h i j (Nat.zero_le _) c<|by simpa using a
 rw [← rY,← rY,cO,cO,cx hi,cx a] at this
 simp only [bC,decide_eq_false_iff_not,Option.getD_some] at this
 omega
theorem Qh {l:List Nat} {d:Array Nat} (hp:Go.Sort.PermIn 0 l.length l.toArray d) (hs:qp bC 0 l.length d):fE d.toList=jO l:=by
 have a:d.size=l.length:=by rw [hp.1]; simp
 have c:d.toList.Perm l:=by
  have :=hp.2.2
  rw [show (d.extract 0 l.length).toList=d.toList from by rw [Array.toList_extract]; simp [eL (show d.toList.length≤l.length by simp [a])]] at this
  simpa using this
 exact Dr (Kp _<|Qj<|by rw [a]; exact hs) fun x=>by rw [Bg]; exact c.mem_iff
theorem ti {d d2:Array Nat} {k j:Nat} (h:d.toList.drop k=d2.toList.drop k) (hk:k≤j):d[j]! =d2[j]! :=by
 have :=congrArg (fun l=>l.getD (j - k) 0) h
 simp only [cO,sw,show k+(j - k)=j from by omega] at this
 rw [← rY,← rY]; simpa [cO] using this
theorem set_drop {d:Array Nat} {k m v:Nat} (h:k < m):(d.setIfInBounds k v).toList.drop m=d.toList.drop m:=by
 rw [y1,List.drop_set,if_pos h]
theorem yz {d:Array Nat} {k v:Nat} (h:k < d.size):(d.setIfInBounds k v).toList.take (k+1)=d.toList.take k++ [v]:=by
 rw [y1,List.set_eq_take_append_cons_drop,if_pos (by simpa using h),sG,dT,r8,mE ab,Gk,eL (by rw [dT]; omega)]
 rfl
theorem xT {h:Array Obj} {a:Option Addr} {d:Array Nat} {i j:Nat} {f:Nat→Value} (c:aC h a ((LE f d).drop i)) (hi:i+j < d.size):Hb.aH h (bk a) (fo a+j*1)=some (f d[i+j]!):=by
 refine c.jo ?_
 rw [sw]; exact CQ hi
theorem xU {d:Array Nat} {i:Nat} {f:Nat→Value} (h:i < d.size):(LE f d).drop i≠[]:=by
 intro e; have :=congrArg kM e; rw [fI,rA,gj] at this; omega
def gx (b:UInt8):Bool:=decide (33≤b.toNat∧b.toNat≤126∧b.toNat≠47∧b.toNat≠44∧b.toNat≠35)
noncomputable def dX (kind:Nat) (s:List UInt8):Nat:=
 if kind=1 then (if s.length=1∧gx (s.getD 0 0)=true then (s.getD 0 0).toNat else 0)
 else if kind=2 then (if s.length=2∧gx (s.getD 0 0)=true∧gx (s.getD 1 0)=true then 256 *(s.getD 0 0).toNat+(s.getD 1 0).toNat else 0)
 else (eC s 65535).1
def fS (c:UInt8):List UInt8→List UInt8→List (List UInt8)
 | acc,[]=> [acc]
 | acc,b::l=>if b=c then acc::fS c [] l else fS c (acc++ [b]) l
theorem Qn (c:UInt8):∀ (l acc:List UInt8),(fS c acc l).length≤l.length+1:=by
 intro l
 induction l with
 | nil=>intro acc; simp [fS]
 | cons b l a=>
   intro acc; rw [fS]; split
   · have :=a []; simp only [bT]; omega
   · have :=a (acc++ [b]); simp only [bT]; omega
theorem Qo (c:UInt8):∀ (l acc x:List UInt8),x∈fS c acc l→x.length≤acc.length+l.length:=by
 intro l
 induction l with
 | nil=>intro acc x h; simp only [fS,lj] at h; subst h; simp
 | cons b l a=>
   intro acc x h
   rw [fS] at h
   split at h
   · rcases eK.1 h with rfl | h
     · simp
     · have :=a [] x h; simp only [gj,bT] at*; omega
   · have :=a _ x h; rw [bF,iq] at this; simp only [bT]; omega
def mM (k:Nat):Nat→List UInt8→List (List UInt8)
 | 0,_=> []
 | f+1,s=>if s= [] then [] else s.take k::mM k f (s.drop k)
def chunks (k:Nat) (s:List UInt8):List (List UInt8):=mM k s.length s
theorem I1 {k:Nat} (hk:0 < k):∀ (f g:Nat) (s:List UInt8),s.length≤f→s.length≤g→mM k f s=mM k g s:=by
 intro f
 induction f with
 | zero=>intro g s h _; obtain rfl :=gi (by omega :s.length=0); cases g <;> simp [mM]
 | succ f a=>
   intro g s h1 h2
   cases g with
   | zero=>obtain rfl :=gi (by omega :s.length=0); simp [mM]
   | succ g=>
     rw [mM,mM]
     by_cases hs:s= []
     · simp [hs]
     · have c:=mB.2 hs
       rw [if_neg hs,if_neg hs,a g (s.drop k) (by rw [fI]; omega) (by rw [fI]; omega)]
theorem wc (k:Nat):chunks k []= []:=rfl
theorem wa {k:Nat} {s:List UInt8} (hk:0 < k) (hs:s≠[]):chunks k s=s.take k::chunks k (s.drop k):=by
 have a:=mB.2 hs
 unfold chunks
 obtain ⟨m,hm⟩:∃ m,s.length=m+1:=⟨s.length - 1,ab⟩
 rw [hm,mM,if_neg hs,I1 hk m (s.drop k).length (s.drop k) (by rw [fI]; omega) (bX _)]
theorem I4 {k:Nat} (hk:0 < k):∀ (n:Nat) (s:List UInt8),s.length≤n→(chunks k s).length≤s.length:=by
 intro n
 induction n with
 | zero=>intro s h; obtain rfl :=gi (by omega :s.length=0); simp [wc]
 | succ n a=>
   intro s h
   by_cases hs:s= []
   · subst hs; simp [wc]
   · have c:=mB.2 hs
     rw [wa hk hs,bT]
     have :=a (s.drop k)<|by rw [fI]; omega
     rw [fI] at this; omega
theorem I5 {k:Nat} (hk:0 < k):∀ (n:Nat) (s x:List UInt8),s.length≤n→x∈chunks k s→x.length≤s.length:=by
 intro n
 induction n with
 | zero=>intro s x h a; obtain rfl :=gi (by omega :s.length=0); cases a
 | succ n c=>
   intro s x h a
   by_cases hs:s= []
   · subst hs; cases a
   · have i:=mB.2 hs
     rw [wa hk hs] at a
     rcases eK.1 a with rfl | a
     · rw [dT]; omega
     · have :=c (s.drop k) x (by rw [fI]; omega) a
       rw [fI] at this; omega
def dO (kind:Nat) (s:List UInt8):List (List UInt8):=if kind=3 then fS 44 [] s else chunks kind s
theorem O8 {kind:Nat} {s:List UInt8} (hk:0 < kind):(dO kind s).length≤s.length+1:=by
 unfold dO; split
 · exact Qn _ _ _
 · have :=I4 hk s.length s (bX _); omega
theorem O9 {kind:Nat} {s x:List UInt8} (hk:0 < kind) (h:x∈dO kind s):x.length≤s.length:=by
 unfold dO at h; split at h
 · have :=Qo _ _ _ _ h; simpa using this
 · exact I5 hk _ _ _ (bX _) h
noncomputable def ee (kind:Nat) (s:List UInt8):List Nat×Nat:=
 if s= [] then ([],31) else if ∃ x∈dO kind s,dX kind x=0 then ([],31) else if 64 < (dO kind s).length then ([],32) else (jO ((dO kind s).map<|dX kind),0)
noncomputable def gL (kind:Nat) (s:List UInt8):Nat×Nat:=if dX kind s=0 then (0,31) else (dX kind s,0)
theorem LP (kind:Nat) (s:List UInt8):dX kind s < 65536:=by
 unfold dX
 have a:=iM<|s.getD 0 0
 have h1:=iM<|s.getD 1 0
 split
 · split <;> omega
 · split
   · split <;> omega
   · unfold eC; split
     · exact Nat.zero_lt_succ _
     · rename_i h; simp only; omega
theorem qi {n:Int} (h:0≤n∧n≤65535):mz.wrap n=n:=IntWalk.u16_in n h
theorem P4 {x:Nat} (h:x < 256):mz.wrap ((x:Int)*2 ^ min (8:Int).toNat mz.bits)=((256 *x:Nat):Int):=by
 have h2:((x:Int)*2 ^ min (8:Int).toNat mz.bits)=((256 *x:Nat):Int):=by
  show (x:Int)*256=_
  omega
 rw [h2]; exact qi ab
theorem ON {x y:Nat} (h:x < 256) (q:y < 256):mz.wrap (eA mz.bits ((256 *x:Nat):Int) ||| eA mz.bits ((y:Nat):Int)).toNat=((256 *x+y:Nat):Int):=by
 have h1:(eA mz.bits ((256 *x:Nat):Int) ||| eA mz.bits ((y:Nat):Int)).toNat=256 *x+y:=by
  have i:(mz.bits:Nat)=16:=rfl
  rw [Fe,na,na,i]
  have a:(((256 *x:Nat):Int) % ((2 ^ 16:Nat):Int)).toNat=2 ^ 8 *x:=ab
  have c:(((y:Nat):Int) % ((2 ^ 16:Nat):Int)).toNat=y:=ab
  rw [a,c,← Nat.two_pow_add_eq_or_of_lt (show y < 2 ^ 8 by omega)]
 rw [h1]; exact qi ab
theorem OA (s:List UInt8):(eC s 65535).1≤65535:=by
 unfold eC; split
 · exact Nat.zero_le _
 · simp only; omega
theorem I3 (s:List UInt8) (i k:Nat):(s.take (min ((i+k:Nat):Int) (s.length:Int)).toNat).drop (i:Int).toNat=(s.drop i).take k:=by
 rw [ji,show (min ((i+k:Nat):Int) (s.length:Int)).toNat=min (i+k) s.length from by omega,u7]
 by_cases h:i+k≤s.length
 · rw [mE h,Gk]
 · rw [Nat.min_eq_right ab,eL (by rw [fI]; omega),eL (by rw [fI]; omega)]
theorem D9 (c:UInt8):∀ (l acc:List UInt8),l.idxOf c < l.length→fS c acc l=(acc++l.take (l.idxOf c))::fS c [] (l.drop<|l.idxOf c+1):=by
 intro l
 induction l with
 | nil=>intro acc h; simp at h
 | cons b l i=>
   intro acc h
   rw [fS]
   by_cases a:b=c
   · subst a; rw [if_pos rfl]; simp
   · rw [if_neg a]
     have hi:(b::l).idxOf c=l.idxOf c+1:=by rw [sx,show (b==c)=false from by simpa using a]; rfl
     rw [hi] at h ⊢
     simp only [bT] at h
     rw [i _ ab]
     simp [dx]
theorem Qp (c:UInt8):∀ (l acc:List UInt8),¬c∈l→fS c acc l= [acc++l]:=by
 intro l
 induction l with
 | nil=>intro acc _; simp [fS]
 | cons b l a=>
   intro acc h
   rw [eK,not_or] at h
   rw [fS,if_neg (fun e=>h.1 e.symm),a _ h.2]; simp
theorem yE (c:UInt8):∀ (l acc:List UInt8),(fS c acc l).length=l.count c+1:=by
 intro l
 induction l with
 | nil=>intro acc; simp [fS]
 | cons b l i=>
   intro acc
   rw [fS]
   by_cases a:b=c
   · subst a; rw [if_pos rfl,bT,i]; simp
   · rw [if_neg a,i,List.count_cons_of_ne a]
theorem Kf {c:UInt8} {l:List UInt8} (h:l.idxOf c < l.length):(l.drop<|l.idxOf c+1).count c+1=l.count c:=by
 have h1:=yE c l []
 rw [D9 c l [] h,bT,yE] at h1
 omega
def gG (n:Nat):Value:= .int .i64 n
end Go.Hb
section
namespace Go.Hb
def gJ (b:UInt8):Bool:=decide (33≤b.toNat∧b.toNat≠127)
def fX (w:List UInt8):Bool:=w.all gJ
def m4 (w:List UInt8):Bool:=decide (1≤w.length∧w.length≤64∧fX w=true)
theorem eR {α:Type} {l:List α} {i:Nat} {d:α} (h:i < l.length):l.getD i d∈l:=by
 rw [cO,cx h]; exact List.getElem_mem h
theorem oG {α:Type} {l:List α} {x:α} (d:α) (h:x∈l):∃ i,i < l.length∧l.getD i d=x:=by
 obtain ⟨i,hi,rfl⟩:=F8.1 h
 exact ⟨i,hi,by rw [cO,cx hi]; rfl⟩
theorem zT {α:Type} {f:α→Bool} {l:List α} {i:Nat} (d:α) (h:i < l.length) (h1:f (l.getD i d)=false):l.all f=false :=by
 rw [List.all_eq_false]; exact ⟨_,eR h,by rw [h1]; exact c8⟩
theorem zU {α:Type} {f:α→Bool} {l:List α} (d:α) (h:∀ i,i < l.length→f (l.getD i d)=true):l.all f=true :=by
 rw [kg]; intro x a; obtain ⟨i,hi,rfl⟩:=oG d a; exact h i hi
theorem s5 {w:List UInt8} {i:Nat} (h:i < w.length) (h1:gJ (w.getD i 0)=false):fX w=false :=zT 0 h h1
theorem s6 {w:List UInt8} (h:∀ i,i < w.length→gJ (w.getD i 0)=true):fX w=true :=zU 0 h
theorem Hy (b:UInt8):fX [b]=gJ b:=by unfold fX; simp
def oz (b:UInt8):Bool:=decide (b.toNat=92∨b.toNat=47∨b.toNat=35)
abbrev kj:Type :=List UInt8×List UInt8×Bool×Nat
def Pj (r:kj):Value:= .tuple #[str r.1,str r.2.1,.bool r.2.2.1,.int .i64 r.2.2.2]
def hU:List UInt8→List UInt8→kj
 | acc,[]=>(acc,[],false,0)
 | acc,[b]=>if b.toNat=47 then (acc,[],true,0) else if b.toNat=92 then ([],[],false,20) else (acc++ [b],[],false,0)
 | acc,b::c::l=>if b.toNat=47 then (acc,c::l,true,0) else if b.toNat=92 then (if oz c=true then hU (acc++ [c]) l else ([],[],false,20)) else hU (acc++ [b]) (c::l)
theorem yT (acc:List UInt8):hU acc []=(acc,[],false,0):=by simp [hU]
theorem EY {acc l:List UInt8} {b:UInt8} (h:b.toNat=47):hU acc (b::l)=(acc,l,true,0):=by
 cases l <;> simp [hU,h]
theorem EV {acc:List UInt8} {b:UInt8} (h:b.toNat=92):hU acc [b]=([],[],false,20):=by simp [hU,h]
theorem EW {acc l:List UInt8} {b c:UInt8} (h:b.toNat=92) (a:oz c=false):hU acc (b::c::l)=([],[],false,20):=by simp [hU,h,a]
theorem EU {acc l:List UInt8} {b c:UInt8} (h:b.toNat=92) (a:oz c=true):hU acc (b::c::l)=hU (acc++ [c]) l:=by simp [hU,h,a]
theorem EX {acc l:List UInt8} {b:UInt8} (h:¬b.toNat=47) (h1:¬b.toNat=92):hU acc (b::l)=hU (acc++ [b]) l:=by
 cases l <;> simp [hU,h,h1]
theorem RO (n:Nat):∀ (l acc:List UInt8),l.length≤n→(hU acc l).1.length≤acc.length+l.length∧(hU acc l).2.1.length≤l.length:=by
 induction n with
 | zero=>intro l acc h; obtain rfl :=gi (by omega :l.length=0); rw [yT]; exact ⟨by simp,by simp⟩
 | succ n a=>
   intro l acc h
   cases l with
   | nil=>rw [yT]; exact ⟨by simp,by simp⟩
   | cons b l=>
     simp only [bT] at h ⊢
     by_cases h1:b.toNat=47
     · rw [EY h1]; exact ⟨by simp only; omega,by simp only; omega⟩
     · by_cases h2:b.toNat=92
       · cases l with
         | nil=>rw [EV h2]; exact ⟨by simp,by simp⟩
         | cons c l=>
           simp only [bT] at h ⊢
           cases hc:oz c
           · rw [EW h2 hc]; exact ⟨by simp,by simp⟩
           · rw [EU h2 hc]
             have :=a l (acc++ [c]) ab
             rw [bF,iq] at this
             omega
       · rw [EX h1 h2]
         have :=a l (acc++ [b]) ab
         rw [bF,iq] at this
         omega
def bq (f:List UInt8):kj:=hU [] f
theorem uG (f:List UInt8):(bq f).1.length≤f.length∧(bq f).2.1.length≤f.length:=by
 have :=RO f.length f []<|bX _
 simpa [bq] using this
def lets (s:List UInt8):List UInt8:=s.foldl (fun a b=>if b∈a then a else a++ [b]) []
def letE (s:List UInt8):List UInt8×Nat:=if s= []∨fX s=false then ([],21) else (lets s,0)
theorem tO {s:List UInt8} {i:Nat} (h:i < s.length):lets (s.take<|i+1)=if s.getD i 0∈lets (s.take i) then lets (s.take i) else lets (s.take i)++ [s.getD i 0]:=by
 unfold lets
 rw [ka s i 0 h,zt]; rfl
theorem CW (s:List UInt8):(lets s).length≤s.length:=by
 have key:∀ (s a:List UInt8),(s.foldl (fun a b=>if b∈a then a else a++ [b]) a).length≤a.length+s.length:=by
  intro s
  induction s with
  | nil=>intro a; simp
  | cons b s c=>
    intro a
    rw [qv,bT]
    split
    · have :=c a; omega
    · have :=c (a++ [b]); rw [bF,iq] at this; omega
 have :=key s []
 simpa [lets] using this
def marksOf (a:List UInt8):List Value:=(gB 256).map fun k=> .bool<|decide (iU k∈a)
theorem C5 (a:List UInt8):(marksOf a).length=256:=by simp [marksOf]
theorem N4 (a:List UInt8) (b:UInt8):(marksOf a)[b.toNat]? =some (.bool<|decide (b∈a)):=by
 have :=iM b
 unfold marksOf
 rw [fU,vd ab]
 simp
theorem N6 (a:List UInt8) (b:UInt8):(marksOf a).set b.toNat (.bool true)=marksOf (a++ [b]):=by
 apply ni
 intro k
 rw [jx,C5]
 unfold marksOf
 rw [fU,fU]
 by_cases hk:k < 256
 · rw [vd hk]
   simp only [kh]
   have he:(iU k=b)↔b.toNat=k:=by
    constructor
    · rintro rfl; simp; omega
    · rintro rfl; simp
   by_cases h:b.toNat=k
   · have h2:=he.2 h
     simp [h,hk,h2]
   · have h2:¬iU k=b:=fun e=>h<|he.1 e
     simp [h,h2]
 · have :(gB 256)[k]? =none:=qw<|by simp; omega
   have c:=iM b
   rw [this]
   simp; omega
theorem N5:marksOf []=ir 256 (.bool false):=by
 unfold marksOf
 apply ni
 intro k
 rw [fU,List.getElem?_replicate]
 by_cases hk:k < 256
 · rw [vd hk]; simp [hk]
 · rw [qw (by simp; omega)]; simp [hk]
theorem Bd.new {T e b:Nat} {w:World} (h:w.heap[b]? =some (.cells [uW none,.slice none 0 0].toArray T (0,0))):Bd T e w b (.slice none 0 0) []:=
 ⟨⟨none,h,.inl rfl⟩,dI _ _ _ _,by simp⟩
theorem Bd.step {T e b:Nat} {a w w':World} {c:Value} {l:List UInt8} (h:Bd T e w b c l) (i:Wk a w) (q:Md (BF b c) w w') (C:a.heap.size≤b):Wk a w':=
 Md.trans' i q fun k hk A=>by have :=h.gr A; omega
theorem Bd.yI {T e b:Nat} {a w w':World} {c:Value} {l:List UInt8} (h:Bd T e w b c l) (i:Wk a w) (q:Md (fun k=>c.ownBlock=some k) w w') (C:a.heap.size≤b):Wk a w':=
 Md.trans' i q fun k hk A=>by have :=h.gr (.inr A); omega
end Go.Hb
end
section
set_option linter.unusedSimpArgs false
namespace Go.Hb
def nz (g:Nat→Bool):Nat→Nat
 | 0=>0
 | n+1=>nz g n ||| (if g n=true then 2 ^ n else 0)
theorem Hl (g:Nat→Bool):∀ n,nz g n < 2 ^ n:=by
 intro n
 induction n with
 | zero=>exact Nat.zero_lt_one
 | succ n a=>
   rw [nz]
   refine zz (Nat.lt_trans a<|vo aw<|qA n) ?_
   split
   · exact vo aw<|qA n
   · exact Nat.two_pow_pos _
theorem qM (g:Nat→Bool) (j:Nat):∀ n,(nz g n).testBit j=(decide (j < n) && g j):=by
 intro n
 induction n with
 | zero=>simp [nz]
 | succ n i=>
   rw [nz,Gm,i]
   by_cases c:j=n
   · subst c
     cases h:g j <;> simp [Nat.testBit_two_pow_self]
   · have a:(if g n=true then 2 ^ n else 0).testBit j=false :=by
      split
      · rw [Gn]; simp; omega
      · simp
     rw [a,Ff]
     congr 1
     exact decide_eq_decide.2 ab
theorem sX {g:Nat→Bool} {x:Nat} (c:x < 2 ^ 64) (h:∀ j,j < 64→x.testBit j=g j):x=nz g 64:=by
 refine Nat.eq_of_testBit_eq fun j=> ?_
 rw [qM]
 by_cases a:j < 64
 · rw [h j a,decide_eq_true a,sc]
 · rw [decide_eq_false a,Bool.false_and]
   exact Nat.testBit_lt_two_pow<|o0 c<|Nat.pow_le_pow_right aw ab
def dF (f:UInt8→Bool) (k:Nat):Nat:=nz (fun j=>f<|iU<|64 *k+j) 64
def du (f:UInt8→Bool):List Value:= [.int .u64 (dF f 0),.int .u64 (dF f 1),.int .u64 (dF f 2),.int .u64 (dF f 3)]
theorem qg (f:UInt8→Bool) (k:Nat):dF f k < 18446744073709551616:=Hl _ 64
theorem ta (f:UInt8→Bool):(du f).length=4:=rfl
theorem AZ (f:UInt8→Bool):(du f).all eH=true :=rfl
theorem wi (f:UInt8→Bool) {k:Nat} (h:k < 4):(du f)[k]? =some (.int .u64<|dF f k):=by
 match k,h with
 | 0,_=>rfl
 | 1,_=>rfl
 | 2,_=>rfl
 | 3,_=>rfl
theorem wj:du (fun _=>false)= [.int .u64 0,.int .u64 0,.int .u64 0,.int .u64 0]:=by
 have :∀ k,dF (fun _=>false) k=0:=fun k=>(sX (x:=0) aw fun j _=>by simp).symm
 unfold du; simp only [this]; rfl
theorem vF (b:UInt8) {k j:Nat} (hk:k < 4) (c:j < 64):iU (64 *k+j)=b↔k=b.toNat / 64∧j=b.toNat % 64:=by
 have a:=iM b
 constructor
 · rintro rfl
   simp only [zC]
   omega
 · rintro ⟨h1,h2⟩
   refine o4.1 ?_
   simp only [zC]
   omega
theorem RG (f:UInt8→Bool) (b:UInt8) {k:Nat} (hk:k < 4):dF (fun x=>f x || decide (x=b)) k=if k=b.toNat / 64 then dF f k ||| 2 ^ (b.toNat % 64) else dF f k:=by
 split
 · rename_i h
   refine (sX (zz (qg f k)<|vo aw ab) fun j a=> ?_).symm
   rw [Gm,Gn]
   have h1:(dF f k).testBit j=f (iU<|64 *k+j):=by unfold dF; rw [qM,decide_eq_true a,sc]
   rw [h1]
   congr 1
   exact decide_eq_decide.2<|by rw [vF b hk a]; omega
 · rename_i h
   refine (sX (qg f k) fun j a=> ?_).symm
   have h1:(dF f k).testBit j=f (iU<|64 *k+j):=by unfold dF; rw [qM,decide_eq_true a,sc]
   show _=(f (iU<|64 *k+j) || decide (iU (64 *k+j)=b))
   rw [h1,decide_eq_false (by rw [vF b hk a]; omega),Ff]
theorem Js (f:UInt8→Bool) (b:UInt8):(du f).set (b.toNat / 64) (.int .u64 ((dF f (b.toNat / 64) ||| 2 ^ (b.toNat % 64):Nat):Int))=du (fun x=>f x || decide (x=b)):=by
 have a:=iM b
 apply ni
 intro k
 rw [jx,ta]
 by_cases hk:k < 4
 · rw [wi _ hk,wi _ hk,RG f b hk]
   by_cases h:b.toNat / 64=k
   · subst h; simp [show b.toNat / 64 < 4 by omega]
   · rw [if_neg h,if_neg (fun e=>h e.symm)]
 · rw [qw (by rw [ta]; omega),qw (by rw [ta]; omega)]
   simp; omega
theorem RF (f:UInt8→Bool) (b:UInt8):decide ((((dF f (b.toNat / 64) / 2 ^ (b.toNat % 64)) % 2:Nat):Int)=1)=f b:=by
 have a:=iM b
 have h1:(dF f<|b.toNat / 64).testBit (b.toNat % 64)=f b:=by
  unfold dF
  rw [qM,decide_eq_true (Nat.mod_lt _ aw),sc,(vF b (k:=b.toNat / 64) (j:=b.toNat % 64) ab<|Nat.mod_lt _ aw).2 ⟨rfl,rfl⟩]
 rw [← h1,Nat.testBit_eq_decide_div_mod_eq]
 exact decide_eq_decide.2 ab
theorem zX (b:UInt8):nb.wrap (eA nb.bits (b.toNat:Int) &&& eA nb.bits 63).toNat=((b.toNat % 64:Nat):Int):=by
 have h:∀ r:Fin 256,nb.wrap (eA nb.bits ((r.val:Nat):Int) &&& eA nb.bits 63).toNat=((r.val % 64:Nat):Int):=by decide+kernel
 exact h ⟨b.toNat,iM b⟩
theorem D3 (b:UInt8):(b.toNat:Int).fdiv (2 ^ min (6:Int).toNat nb.bits)=((b.toNat / 64:Nat):Int):=by
 have h:∀ r:Fin 256,((r.val:Nat):Int).fdiv (2 ^ min (6:Int).toNat nb.bits)=((r.val / 64:Nat):Int):=by decide+kernel
 exact h ⟨b.toNat,iM b⟩
theorem P3 {m:Nat} (h:m < 64):dq.wrap ((1:Int)*2 ^ min ((m:Nat):Int).toNat dq.bits)=((2 ^ m:Nat):Int):=by
 have h2:(dq.bits:Nat)=64:=rfl
 rw [ji,h2,mE ab,Int.one_mul]
 have h3:(2:Nat) ^ m < 2 ^ 64:=vo aw h
 have h4:((2:Int) ^ m)=((2 ^ m:Nat):Int):=by simp
 rw [h4]
 obtain ⟨x,a⟩:∃ x:Nat,2 ^ m=x:=⟨_,rfl⟩
 rw [a] at h3 ⊢; exact mr ab
theorem OM {x y:Nat} (c:x < 2 ^ 64) (i:y < 2 ^ 64):dq.wrap (eA dq.bits (x:Int) ||| eA dq.bits (y:Int)).toNat=((x ||| y:Nat):Int):=by
 have a:(dq.bits:Nat)=64:=rfl
 have h1:(eA dq.bits (x:Int) ||| eA dq.bits (y:Int)).toNat=x ||| y:=by
  rw [Fe,na,na,a]
  congr 1 <;> omega
 rw [h1]
 have :=zz c i
 obtain ⟨z,q⟩:∃ z:Nat,x ||| y=z:=⟨_,rfl⟩
 rw [q] at this ⊢; exact mr ab
theorem P8 (x:Nat) {m:Nat} (h:m < 64):(x:Int).fdiv (2 ^ min ((m:Nat):Int).toNat dq.bits)=((x / 2 ^ m:Nat):Int):=by
 have h2:(dq.bits:Nat)=64:=rfl
 rw [ji,h2,mE ab]
 rw [show ((2:Int) ^ m)=((2 ^ m:Nat):Int) by simp,Int.fdiv_eq_ediv_of_nonneg _ (Int.natCast_nonneg _)]; rfl
theorem G0 {x:Nat} (c:x < 2 ^ 64):dq.wrap (eA dq.bits (x:Int) &&& eA dq.bits 1).toNat=((x % 2:Nat):Int):=by
 have a:(dq.bits:Nat)=64:=rfl
 have h1:(eA dq.bits (x:Int) &&& eA dq.bits 1).toNat=x % 2:=by
  rw [Fc,na,na,a,show ((x:Int) % ((2 ^ 64:Nat):Int)).toNat=x by omega]
  exact Nat.and_one_is_mod x
 rw [h1]; exact mr ab
section
variable {P:Program} {N:Fm} {σ:Nat→Value} {w:World} {dst:Option Nat} {ty:TypeId} {pos :String} {af:Array Edge} {g:Option (Nat×Bool)} {x:Operand}
theorem tc {t:TypeId} {k:Nat} {f:UInt8→Bool} (q:ev N σ x= .int .u64 (dF f k)):(execOp (ev N σ) ⟨dst,.unOp .xor t x,ty,pos,af,g⟩).run P w= .ok (.value<|.int .u64<|dF (fun y=> !f y) k) w:=by
 have i:=qg f k
 have h1:dq.wrap (eA dq.bits dq.max ^^^ eA dq.bits (dF f k:Int)).toNat=(dF (fun y=> !f y) k:Int):=by
  have c:(dq.bits:Nat)=64:=rfl
  have h2:(eA dq.bits dq.max ^^^ eA dq.bits (dF f k:Int)).toNat=dF (fun y=> !f y) k:=by
   rw [BitVec.toNat_xor,na,na,c,show (dq.max % ((2 ^ 64:Nat):Int)).toNat=2 ^ 64 - 1 from by decide,show ((dF f k:Int) % ((2 ^ 64:Nat):Int)).toNat=dF f k by omega]
   refine sX (Nat.xor_lt_two_pow aw i) fun j a=> ?_
   rw [Nat.testBit_xor,Nat.testBit_two_pow_sub_one,decide_eq_true a,Bool.true_xor]
   congr 1
   unfold dF; rw [qM,decide_eq_true a,sc]
  rw [h2]; have :=qg (fun y=> !f y) k; exact mr ab
 have h3:(si .xor dq dq.max (dF f k:Int)).run P w= .ok (.int .u64<|dF (fun y=> !f y) k) w:=by
  simp only [si]
  rw [← h1]; rfl
 have h4:(zb .xor<|.int dq (dF f k:Int)).run P w= .ok (.int .u64<|dF (fun y=> !f y) k) w:=by
  simp only [zb]
  exact h3
 simp [execOp,q,h4]
end
def et (t:List UInt8) (b:UInt8):Bool:=
 if t.length=1 then decide (t.getD 0 0=46∨t.getD 0 0=b)
 else if t.getD 1 0=94 then !decide (b∈(t.take<|t.length - 1).drop 2)
 else decide (b∈(t.take<|t.length - 1).drop 1)
def iZ:List UInt8→Option (List UInt8×List UInt8)
 | []=>none
 | b::l=>if b=91 then (if l.idxOf 93 < l.length∧l.idxOf 93≠0∧¬(l.idxOf 93=1∧l.getD 0 0=94) then some (b::l.take (l.idxOf 93 +1),l.drop (l.idxOf 93 +1)) else none) else some ([b],l)
theorem AT {s t r:List UInt8} (h:iZ s=some (t,r)):r.length < s.length:=by
 cases s with
 | nil=>cases h
 | cons b l=>
   simp only [iZ] at h
   split at h
   · split at h
     · simp only [eM,sI] at h
       obtain ⟨_,rfl⟩:=h
       rw [fI,bT]; omega
     · cases h
   · simp only [eM,sI] at h
     obtain ⟨_,rfl⟩:=h
     simp
def l3:Nat→List UInt8→Option (List<|List UInt8)
 | 0,s=>if s= [] then some [] else none
 | f+1,s=>if s= [] then some [] else match iZ s with
   | none=>none
   | some (t,r)=>(l3 f r).map (t:: ·)
theorem JV:∀ (f g:Nat) (s:List UInt8),s.length≤f→s.length≤g→l3 f s=l3 g s:=by
 intro f
 induction f with
 | zero=>intro g s h _; obtain rfl :=gi (by omega :s.length=0); cases g <;> simp [l3]
 | succ f a=>
   intro g s h1 h2
   cases g with
   | zero=>obtain rfl :=gi (by omega :s.length=0); simp [l3]
   | succ g=>
     rw [l3,l3]
     split
     · rfl
     · cases hc:iZ s with
       | none=>rfl
       | some q=>
         obtain ⟨t,r⟩:=q
         have :=AT hc
         simp only
         rw [a g r ab ab]
def kq (s:List UInt8):Option (List<|List UInt8):=l3 s.length s
theorem JS:kq []=some []:=rfl
theorem JU {s t r:List UInt8} (h:iZ s=some (t,r)):kq s=(kq r).map (t:: ·):=by
 have a:=AT h
 unfold kq
 obtain ⟨m,hm⟩:∃ m,s.length=m+1:=⟨s.length - 1,ab⟩
 have hs:s≠[]:=fun e=>by rw [e] at hm; simp at hm
 rw [hm,l3,if_neg hs,h]
 simp only
 rw [JV m r.length r ab (bX _)]
theorem JT {s:List UInt8} (hs:s≠[]) (h:iZ s=none):kq s=none:=by
 unfold kq
 have a:=mB.2 hs
 obtain ⟨m,hm⟩:∃ m,s.length=m+1:=⟨s.length - 1,ab⟩
 rw [hm,l3,if_neg hs,h]
def dz (s:List UInt8):List (List UInt8)×Nat:=
 if s= []∨512 < s.length then ([],40) else if s= [46] then ([],0) else match kq s with
  | none=>([],41)
  | some xs=>if 16 < xs.length then ([],42) else (xs,0)
def jz (s:List UInt8) (i:Nat) (a:List (List UInt8)):Prop :=kq s=(kq<|s.drop i).map (a++ ·)
theorem jz.start (s:List UInt8):jz s 0 []:=by
 unfold jz; rw [sv]; cases kq s <;> simp
theorem jz.step {s t r:List UInt8} {i j:Nat} {a:List (List UInt8)} (h:jz s i a) (c:iZ (s.drop i)=some (t,r)) (q:r=s.drop j):jz s j (a++ [t]):=by
 subst q
 unfold jz at*
 rw [h,JU c]
 cases kq (s.drop j) <;> simp
theorem jz.bad {s:List UInt8} {i:Nat} {a:List (List UInt8)} (h:jz s i a) (hi:i < s.length) (c:iZ (s.drop i)=none):kq s=none:=by
 unfold jz at h
 rw [h,JT (fun e=>by have :=congrArg kM e; rw [fI,gj] at this; omega) c]; rfl
theorem jz.done {s:List UInt8} {i:Nat} {a:List (List UInt8)} (h:jz s i a) (hi:s.length≤i):kq s=some a:=by
 unfold jz at h
 rw [h,kL hi,JS]; simp
theorem I7 {b:UInt8} {l:List UInt8} (h:b≠91):iZ (b::l)=some ([b],l):=by simp [iZ,h]
theorem I8 {b:UInt8} {l:List UInt8} (a:b=91) (h:l.idxOf 93 < l.length) (h1:l.idxOf 93≠0) (h2:¬(l.idxOf 93=1∧l.getD 0 0=94)):iZ (b::l)=some (b::l.take (l.idxOf 93 +1),l.drop (l.idxOf 93 +1)):=by
 simp only [iZ]; rw [if_pos a,if_pos ⟨h,h1,h2⟩]
theorem I6 {b:UInt8} {l:List UInt8} (a:b=91) (h:¬(l.idxOf 93 < l.length∧l.idxOf 93≠0∧¬(l.idxOf 93=1∧l.getD 0 0=94))):iZ (b::l)=none:=by
 simp only [iZ]; rw [if_pos a,if_neg h]
def mL (f:UInt8→Bool) (i:Nat):List UInt8:=((gB i).map iU).filter f
def bytesOf (f:UInt8→Bool):List UInt8:=mL f 256
theorem Ad (f:UInt8→Bool) (i:Nat):mL f (i+1)=mL f i++(if f (iU i)=true then [iU i] else []):=by
 unfold mL
 rw [List.range_succ,iK,List.filter_append]
 congr 1
 cases h:f (iU i) <;> simp [h]
theorem qP (f:UInt8→Bool) (i:Nat):(mL f i).length≤i:=by
 unfold mL
 refine eV (vg _ _) ?_
 simp
theorem Hx (f:UInt8→Bool):(bytesOf f).Nodup:=by
 unfold bytesOf mL
 refine List.Nodup.sublist List.filter_sublist ?_
 rw [Ga,List.pairwise_map]
 refine Sh ?_<|Ga.1 List.nodup_range
 intro a b c i q e
 have h1:=sD.1 c
 have h2:=sD.1 i
 have :=congrArg UInt8.toNat e
 simp only [zC] at this
 omega
def j9 (f:UInt8→Bool):List UInt8:=
 if (bytesOf f).length=256 then [46]
 else if (bytesOf f).length=1∧(bytesOf f).getD 0 0≠46∧(bytesOf f).getD 0 0≠91 then bytesOf f
 else if f 93=true then [91,94]++bytesOf (fun b=> !f b)++ [93]
 else [91]++((bytesOf f).filter (fun b=>decide (b≠94))++(if 94∈bytesOf f then [94] else []))++ [93]
def nO (ps:List (List UInt8)):List UInt8:=if ps= [] then [46] else ps.flatMap fun t=>j9<|et t
theorem D2 (f:UInt8→Bool):(j9 f).length≤300:=by
 have h1:=qP f 256
 have h2:=qP (fun b=> !f b) 256
 unfold j9
 split
 · simp
 · split
   · unfold bytesOf; omega
   · split
     · simp only [bF,bT,gj]; unfold bytesOf; omega
     · have h3:=vg (fun b=>decide (b≠94))<|bytesOf f
       have h4:(if 94∈bytesOf f then [(94:UInt8)] else []).length≤1:=by split <;> simp
       simp only [bF,bT,gj]
       have h5:(bytesOf f).length≤256:=h1
       omega
theorem MV {l:List UInt8} (hn:l.Nodup) {c:UInt8} (h:l.idxOf c < l.length):l.take (l.idxOf c)++l.drop (l.idxOf c+1)=l.filter (fun b=>decide (b≠c)):=by
 induction l with
 | nil=>simp at h
 | cons b l q=>
   rw [F9] at hn
   by_cases a:b=c
   · subst a
     simp only [zw,nn,kN,fj,su,sv]
     rw [List.filter_cons_of_neg (by simp)]
     exact (FU.2 fun x i=>by simp; rintro rfl; exact hn.1 i).symm
   · have e:(b::l).idxOf c=l.idxOf c+1:=by rw [sx,show (b==c)=false from by simpa using a]; rfl
     rw [e] at h ⊢
     simp only [bT] at h
     rw [qy,su,ss,q hn.2 ab,List.filter_cons_of_pos (by simpa using a)]
theorem Dh {l:List UInt8} {c:UInt8} (h:¬c∈l):l.filter (fun b=>decide (b≠c))=l:=
 FU.2 fun x a=>by simp; rintro rfl; exact h a
def jr (ps:List (List UInt8)):List Value:=ps.flatMap fun t=>du<|et t
theorem Jr (a b:List (List UInt8)):jr (a++b)=jr a++jr b:=by simp [jr]
end Go.Hb
end
section
namespace Go.Hb
abbrev Tx:Type :=List UInt8
structure dt where
 flag:Nat
 kind:Nat
 fu:Bool
 first :Nat
 count:Nat
structure cW where
 kind:Nat
 flag:Nat
 fu:Bool
 strip:Tx
 add:Tx
 cond:Tx
 next :List Nat
 line:Nat
structure aE where
 kind:Nat
 qS:Tx
 tr:Tx
 sp:List Nat
 least:Nat
 cT:List (Tx×Tx)
 aliases:List (List Nat)
 bo:List dt
 rules:List cW
def gW:Tx:= [70,76,65,71]
def ic:Tx:= [83,69,84]
def iF:Tx:= [84,82,89]
def iP:Tx:= [78,69,69,68,65,70,70,73,88]
def jb:Tx:= [70,79,82,66,73,68,68,69,78,87,79,82,68]
def jt:Tx:= [75,69,69,80,67,65,83,69]
def jK:Tx:= [67,79,77,80,79,85,78,68,70,76,65,71]
def j4:Tx:= [78,79,83,85,71,71,69,83,84]
def kA:Tx:= [67,79,77,80,79,85,78,68,77,73,78]
def iD:Tx:= [82,69,80]
def gV:Tx:= [65,70]
def gX:Tx:= [80,70,88]
def cY:Tx:= [83,70,88]
def xR:Tx:= [115,104,111,114,116]
def xP:Tx:= [108,111,110,103]
def xQ:Tx:= [110,117,109]
def fg:List Tx:= [iP,jb,jt,jK,j4]
def width (k:Tx):Nat:=if k∈fg∨k=gW∨k=ic∨k=iF∨k=kA∨k=iD∨k=gV then 2 else if k=gX∨k=cY then 4 else 0
def fY (w:Tx):Nat:=if w= []∨fX w=false then 21 else if 32 < w.length then 22 else 0
def e0 (none:Bool) (fd:Tx):Except Nat Tx:=
 if none=true∧fd= [48] then .ok []
 else if (bq fd).2.2.2≠0 then .error (bq fd).2.2.2
 else if (bq fd).2.2.1=true then .error 114
 else if fY (bq fd).1≠0 then .error (fY (bq fd).1)
 else .ok (bq fd).1
def dm (cs:List dt) (x:Nat):Option dt:=cs.find? fun c=>decide (c.flag=x)
def dJ (f:aE) (x:Nat):Bool:=decide (x∈f.sp) || (dm f.bo x).isSome
noncomputable def gN (f:aE) (s:Tx):Except Nat Nat:=
 if (gL f.kind s).2≠0 then .error (gL f.kind s).2 else if dJ f (gL f.kind s).1=true then .error 115 else .ok (gL f.kind s).1
noncomputable def jJ (kind:Nat) (s:Tx):Except Nat (List Nat):=if (ee kind s).2≠0 then .error (ee kind s).2 else .ok (ee kind s).1
noncomputable def dQ (s:Tx) (most:Int):Except Nat Nat:=if (eC s most).2≠0 then .error 13 else .ok (eC s most).1
noncomputable def e9 (kind:Nat) (al:List (List Nat)) (s:Tx):Except Nat (List Nat):=
 if al= [] then jJ kind s
 else match dQ s al.length with
  | .error _=> .error 13
  | .ok n=>if n=0 then .error 13 else .ok (al.getD (n - 1) [])
noncomputable def lG (kind:Nat) (al:List (List Nat)) (a:Nat) (r:kj):Except Nat (List Nat):=
 if r.2.2.1=true then (if a=1 then .error 118 else e9 kind al r.2.1) else .ok []
def kV (row:List Tx):Except Nat Tx:=
 if row.length=5 then (if fX (row.getD 4 [])=false then .error 21 else if (dz<|row.getD 4 []).2≠0 then .error (dz<|row.getD 4 []).2 else .ok (nO (dz<|row.getD 4 []).1)) else .ok [46]
def jW (r:kj):Except Nat Tx:=if r.2.2.2≠0 then .error r.2.2.2 else if r.1= [48] then .ok [] else if fY r.1≠0 then .error (fY r.1) else .ok r.1
noncomputable def ij (kind:Nat) (al:List (List Nat)) (c:dt) (ln:Nat) (row:List Tx):Except Nat cW:=
 if row.length≠4∧row.length≠5 then .error 111
 else match e0 true (row.getD 2 []) with
  | .error e=> .error e
  | .ok st=>match jW (bq<|row.getD 3 []) with
    | .error e=> .error e
    | .ok ad=>match lG kind al c.kind (bq<|row.getD 3 []) with
      | .error e=> .error e
      | .ok nx=>match kV row with
        | .error e=> .error e
        | .ok cd=> .ok ⟨c.kind,c.flag,c.fu,st,ad,cd,nx,ln⟩
def k4 (ln:Nat) (row:List Tx):Except Nat (Tx×Tx):=
 if row.length≠3 then .error 111
 else match e0 false (row.getD 1 []) with
  | .error e=> .error e
  | .ok a=>match e0 true (row.getD 2 []) with
    | .error e=> .error e
    | .ok b=> .ok (a,b)
noncomputable def kS (kind:Nat) (ln:Nat) (row:List Tx):Except Nat (List Nat):=if row.length≠2 then .error 111 else jJ kind (row.getD 1 [])
def group {α:Type} (hd:List Tx) (rd:Nat→List Tx→Except Nat α) (eof:Nat):Nat→List Rw→Except (Nat×Nat) (List α×List Rw)
 | 0,rows=> .ok ([],rows)
 | _+1,[]=> .error (eof,116)
 | n+1,(ln,row)::rows=>if row.take hd.length≠hd then .error (ln,116) else match rd ln row with
   | .error e=> .error (ln,e)
   | .ok x=>match group hd rd eof n rows with
     | .error e=> .error e
     | .ok r=> .ok (x::r.1,r.2)
def jL (s:Tx):Nat:=if s=xR then 1 else if s=xP then 2 else if s=xQ then 3 else 0
def ordered (hs:List Tx):Bool:= !hs.any fun h=>decide (h∈fg∨h=gV∨h=gX∨h=cY)
noncomputable def gp (eof:Nat) (f:aE) (rows:List Rw) (ln:Nat) (row:List Tx):Except (Nat×Nat) (aE×List Rw):=
 match gN f (row.getD 1 []) with
 | .error e=> .error (ln,e)
 | .ok x=>if row.getD 2 []≠[89]∧row.getD 2 []≠[78] then .error (ln,114)
   else match dQ (row.getD 3 []) 1024 with
    | .error e=> .error (ln,e)
    | .ok n=>if 1024 < f.rules.length+n then .error (ln,117)
      else match group [row.getD 0 [],row.getD 1 []] (ij f.kind f.aliases ⟨x,if row.getD 0 []=cY then 2 else 1,decide (row.getD 2 []= [89]),f.rules.length,n⟩) eof n rows with
       | .error e=> .error e
       | .ok r=> .ok ({f with bo:=f.bo++ [⟨x,if row.getD 0 []=cY then 2 else 1,decide (row.getD 2 []= [89]),f.rules.length,n⟩],rules:=f.rules++r.1},r.2)
noncomputable def je (f:aE) (rows:List Rw) (ln:Nat) (row:List Tx):Except (Nat×Nat) (aE×List Rw):=
 match gN f (row.getD 1 []) with
 | .error e=> .error (ln,e)
 | .ok x=> .ok ({f with sp:=f.sp.set (fg.idxOf<|row.getD 0 []) x},rows)
def jM (f:aE) (hs:List Tx) (rows:List Rw) (ln:Nat) (row:List Tx):Except (Nat×Nat) (aE×List Rw):=
 if ordered hs=false then .error (ln,113) else if jL (row.getD 1 [])=0 then .error (ln,114) else .ok ({f with kind:=jL<|row.getD 1 []},rows)
def lI (f:aE) (rows:List Rw) (ln:Nat) (row:List Tx):Except (Nat×Nat) (aE×List Rw):=
 if fX (row.getD 1 [])=false then .error (ln,21) else .ok ({f with qS:=row.getD 1 []},rows)
def lK (f:aE) (rows:List Rw) (ln:Nat) (row:List Tx):Except (Nat×Nat) (aE×List Rw):=
 if (letE<|row.getD 1 []).2≠0 then .error (ln,(letE<|row.getD 1 []).2) else .ok ({f with tr:=(letE<|row.getD 1 []).1},rows)
noncomputable def jN (f:aE) (rows:List Rw) (ln:Nat) (row:List Tx):Except (Nat×Nat) (aE×List Rw):=
 match dQ (row.getD 1 []) 64 with
 | .error e=> .error (ln,e)
 | .ok n=>if n=0 then .error (ln,13) else .ok ({f with least:=n},rows)
noncomputable def jQ (eof:Nat) (f:aE) (rows:List Rw) (ln:Nat) (row:List Tx):Except (Nat×Nat) (aE×List Rw):=
 match dQ (row.getD 1 []) 256 with
 | .error e=> .error (ln,e)
 | .ok n=>match group [iD] k4 eof n rows with
   | .error e=> .error e
   | .ok r=> .ok ({f with cT:=f.cT++r.1},r.2)
noncomputable def jn (eof:Nat) (f:aE) (hs:List Tx) (rows:List Rw) (ln:Nat) (row:List Tx):Except (Nat×Nat) (aE×List Rw):=
 if gX∈hs∨cY∈hs then .error (ln,113)
 else match dQ (row.getD 1 []) 1024 with
  | .error e=> .error (ln,e)
  | .ok n=>match group [gV] (kS f.kind) eof n rows with
    | .error e=> .error e
    | .ok r=> .ok ({f with aliases:=f.aliases++r.1},r.2)
noncomputable def bN (eof:Nat) (f:aE) (hs:List Tx) (rows:List Rw) (ln:Nat) (row:List Tx):Except (Nat×Nat) (aE×List Rw):=
 if row.getD 0 []∈fg then je f rows ln row
 else if row.getD 0 []=gW then jM f hs rows ln row
 else if row.getD 0 []=ic then lI f rows ln row
 else if row.getD 0 []=iF then lK f rows ln row
 else if row.getD 0 []=kA then jN f rows ln row
 else if row.getD 0 []=iD then jQ eof f rows ln row
 else if row.getD 0 []=gV then jn eof f hs rows ln row
 else gp eof f rows ln row
noncomputable def fP (eof:Nat):Nat→aE→List Tx→List Rw→Except (Nat×Nat) aE
 | 0,f,_,rows=>if rows= [] then .ok f else .error (0,0)
 | _+1,f,_,[]=> .ok f
 | k+1,f,hs,(ln,row)::rows=>
   if width (row.getD 0 [])=0 then .error (ln,110)
   else if row.length≠width (row.getD 0 []) then .error (ln,111)
   else if width (row.getD 0 [])=2∧row.getD 0 []∈hs then .error (ln,112)
   else match bN eof f hs rows ln row with
    | .error e=> .error e
    | .ok r=>fP eof k r.1 (hs++ [row.getD 0 []]) r.2
def k3 (f:aE) (x:Nat):Bool:=decide (x=f.sp.getD 0 0) || (match dm f.bo x with | some c=>decide (c.kind=2) | none=>false)
def l0 (f:aE) (r:cW):Bool:=r.next.any fun x=> !k3 f x
def gH:aE:=⟨1,[],[],[0,0,0,0,0],3,[],[],[],[]⟩
noncomputable def e7 (t:Tx):Except (Nat×Nat) aE:=
 if 65536 < t.length then .error (0,10)
 else match fP ((cJ t).length+1) (ec t).length gH [] (ec t) with
  | .error e=> .error e
  | .ok f=>match f.rules.find? (l0 f) with
    | some r=> .error (r.line,118)
    | none=> .ok f
theorem tM {α:Type} {hd:List Tx} {rd:Nat→List Tx→Except Nat α} {eof:Nat} :∀ (n:Nat) (rows:List Rw) (r:List α×List Rw),group hd rd eof n rows= .ok r→r.2.length≤rows.length∧r.1.length=n∧∀ q∈r.2,q∈rows:=by
 intro n
 induction n with
 | zero=>intro rows r h; simp only [group,oR] at h; subst h; exact ⟨bX _,rfl,fun q a=>a⟩
 | succ n c=>
   intro rows r h
   cases rows with
   | nil=>simp [group] at h
   | cons q rows=>
     obtain ⟨ln,row⟩:=q
     simp only [group] at h
     split at h
     · cases h
     · cases hr:rd ln row with
       | error e=>rw [hr] at h; cases h
       | ok x=>
         rw [hr] at h
         simp only at h
         cases hg:group hd rd eof n rows with
         | error e=>rw [hg] at h; cases h
         | ok i=>
           rw [hg] at h
           simp only [oR] at h
           subst h
           have :=c rows i hg
           refine ⟨by simp only [bT]; omega,by simp only [bT]; omega,fun q a=>n7 _<|this.2.2 q a⟩
def fW {α:Type} (hd:List Tx) (rd:Nat→List Tx→Except Nat α) (eof:Nat) (T:Except (Nat×Nat) (List α×List Rw)) (xs:List α) (n:Nat) (rows:List Rw):Prop :=
 T=match group hd rd eof n rows with
  | .error e=> .error e
  | .ok r=> .ok (xs++r.1,r.2)
theorem fW.start {α:Type} {hd:List Tx} {rd:Nat→List Tx→Except Nat α} {eof n:Nat} {rows:List Rw} :fW hd rd eof (group hd rd eof n rows) [] n rows:=by
 unfold fW; cases group hd rd eof n rows <;> rfl
section
variable {α:Type} {hd:List Tx} {rd:Nat→List Tx→Except Nat α} {eof n:Nat} {T:Except (Nat×Nat) (List α×List Rw)} {xs:List α} {rows:List Rw} {ln:Nat} {row:List Tx}
theorem fW.ends (h:fW hd rd eof T xs n []) (hn:0 < n):T= .error (eof,116):=by
 obtain ⟨m,rfl⟩:∃ m,n=m+1:=⟨n - 1,ab⟩
 exact h
theorem fW.other (h:fW hd rd eof T xs n ((ln,row)::rows)) (hn:0 < n) (a:row.take hd.length≠hd):T= .error (ln,116):=by
 obtain ⟨m,rfl⟩:∃ m,n=m+1:=⟨n - 1,ab⟩
 unfold fW at h; simp only [group] at h; rw [if_pos a] at h; exact h
theorem fW.bad {e:Nat} (h:fW hd rd eof T xs n ((ln,row)::rows)) (hn:0 < n) (a:row.take hd.length=hd) (he:rd ln row= .error e):T= .error (ln,e):=by
 obtain ⟨m,rfl⟩:∃ m,n=m+1:=⟨n - 1,ab⟩
 unfold fW at h; simp only [group] at h; rw [if_neg (fun h2=>h2 a),he] at h; exact h
theorem fW.step {x:α} (h:fW hd rd eof T xs n ((ln,row)::rows)) (hn:0 < n) (a:row.take hd.length=hd) (he:rd ln row= .ok x):fW hd rd eof T (xs++ [x]) (n - 1) rows:=by
 obtain ⟨m,rfl⟩:∃ m,n=m+1:=⟨n - 1,ab⟩
 unfold fW at h ⊢; simp only [group] at h; rw [if_neg (fun h2=>h2 a),he] at h
 simp only [qz] at h ⊢
 rw [h]
 cases group hd rd eof m rows with
 | error e=>rfl
 | ok r=>simp only [dx]; rfl
theorem fW.done (h:fW hd rd eof T xs 0 rows):T= .ok (xs,rows):=by
 unfold fW at h; simpa [group] using h
end
end Go.Hb
end
