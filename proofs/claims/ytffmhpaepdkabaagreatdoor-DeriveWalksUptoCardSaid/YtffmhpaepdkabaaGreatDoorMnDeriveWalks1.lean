/-
  Walks and plain laws that the law rests on, laid together. No conditions but those that each theorem names.
-/
import Derived.WalkKit
import Derived.OrdersHeld
import Derived.TacticsIn
import Derived.Lib.Strings
import Derived.Lib.UnsafeStr
import Derived.Laws.MakeOwn
import Derived.Laws.StructEq
import Derived.SliceStrings
import Derived.Carry
import Derived.JoinedCond
import Derived.ProofKit
import Derived.OpenShut
import Derived.Test.YtffmhpaepdkabaaGreatDoorRows
import Derived.Sort.AssemblyPlain
import Derived.RangeFuncFrom
import Derived.RangeFuncLeaves
import Derived.Recover
import Derived.Laws.OwnMore
import Derived.Lib.Bytealg
import Derived.Lib.SliceRun
import Derived.OrdersIn
import Derived.Test.YtffmhpaepdkabaaGreatDoorChecked
import Derived.Shelf.Slices.In.SortAlone
import Derived.Shelf.Slices.In.SortNone
import Derived.Sort.OwnSortedInts
import Derived.Sort.EveryDepth
set_option linter.unusedVariables false
open Array renaming ext_getElem?→MJ,getD_eq_getD_getElem?→D5,getElem?_eq_getElem→zy,getElem?_eq_none→tX,getElem?_eq_some_iff→dB,getElem?_setIfInBounds→D6,getElem?_toList→D7,length_toList→wc,mem_toList_iff→wg,range→tY,replicate→tZ,setIfInBounds_comm→D8,toArray_toList→MN,toList_inj→zz,toList_map→nz,toList_setIfInBounds→D9
open BitVec renaming ofInt→gx,toNat_and→MP,toNat_ofInt→p8,toNat_or→MQ
open Bool renaming and_eq_true→gU,eq_iff_iff→ua,noConfusion→eo,not_eq_true'→zA,or_eq_true→Eb,or_false→MR,true_and→wi
open Go.Addr renaming add→zB
open Go.Builtin renaming append_→zC,firstCells→MT,lenOf→MU,len_→MV
open Go.Calls renaming mono→lE
open Go.Conv renaming bytesToString→MY,seenAt→MZ,unsafePointer→M0
open Go.DataW renaming TrodAll→M1
open Go.Deferred renaming ofValue→qY
open Go.Fence renaming wide→iQ
open Go.Instr renaming alloc→M5,buildSlice→Ee,checkKey→ub,fill→oZ,findKey→zE,loadAt→M8,lookup→M9,slice→wm,sliceAt→si,sliceBound→sj,sliceBounds→o0,storeAt→Ei,sureAddr→qZ
open Go.IntKind renaming i64→zH,u16→o3,u64→eM,u8→p9
open Go.Next renaming value→Ej
open Go.Obj.cells renaming injEq→wo
open Go.Op renaming equal→Ek,equalIn→o4,intArith→wq,intBits→wu,intCmp→uc,stringOp→El,unary→Em
open Go.Oper renaming upon→k4,uponIn→q4,wp→j0
open Go.Region renaming Mode→sn,binds→j4,free_spec→En,noSelect_spec→Eo,ready→js,wanted→q5
open Go.Result renaming andThen_ok→wx,ok→Ep
open Go.Sem renaming run_bind→wy,run_ite→Eu,run_pure→zJ
open Go.Sort renaming SortedIn→ud
open Go.Value renaming bool→bU,cells→ug,int→jk,oneCell'→gF,ownBlock→iW,pointer→zL,slice→bS
open Go.Value.slice renaming injEq→mT
open Go.Value.string renaming inj→Nn
open Go.World renaming freeze→wH,ownsRow_nil→dC,setCell→zO,shape?→EA
open Int renaming toNat_natCast→mU
open List.Pairwise renaming imp_of_mem→Z9
open List renaming all_cons→uh,all_eq_true→ml,any_eq_true→Nr,append_assoc→dH,append_nil→ei,cons_append→EB,drop_append→Ns,drop_eq_nil_of_le→gV,drop_of_length_le→Nu,drop_succ_cons→wO,drop_take→su,drop_zero→wP,eq_nil_of_length_eq_zero→fY,ext_getElem?→qa,filter_eq_self→Nz,flatMap_cons→rh,foldl_append→ED,foldl_cons→sv,getD_cons_zero→lT,getD_eq_getElem?_getD→da,getElem?_append_left→mm,getElem?_append_right→mV,getElem?_cons_succ→NG,getElem?_drop→ri,getElem?_eq_getElem→cI,getElem?_eq_none→uk,getElem?_map→iq,getElem?_range→zR,getElem?_set→k5,getElem?_take→o6,getElem_mem→NI,idxOf_cons→wT,idxOf_cons_self→EE,length→jD,length_append→bM,length_cons→c7,length_drop→fT,length_filter_le→zS,length_nil→fU,length_pos_iff→lF,length_singleton→e9,length_take→dQ,mapM_toArray→wX,map_append→ir,map_cons→um,mem_append→jF,mem_append_left→NK,mem_cons→e7,mem_cons_of_mem→rj,mem_iff_getElem→zV,mem_map→o7,mem_map_of_mem→wY,mem_of_getElem?→iR,mem_range→uq,mem_singleton→j5,nil_append→qc,nodup_cons→ur,nodup_iff_pairwise_ne→NN,pairwise_cons→qd,range→j6,replicate→kp,size_toArray→ou,takeWhile_sublist→NS,take_append→xa,take_nil→NT,take_of_length_le→eU,take_succ_cons→qe,take_zero→ow,zipIdx_cons→NV
open Nat renaming add_assoc→NW,add_sub_cancel→sx,add_sub_cancel_left→NY,beq→xd,ble→o8,blt→gG,eq_of_beq_eq_true→NZ,le_of_ble_eq_true→uw,le_refl→cD,le_trans→gk,lt_of_lt_of_le→sy,lt_or_ge→fu,lt_succ_self→ux,min_eq_left→pc,mul_le_mul_right→sA,or_lt_two_pow→EK,pow_lt_pow_right→zY,succ_mul→sB,testBit_or→N1,testBit_two_pow→N2,zero_add→gW,zero_mul→EL
open Option renaming bind_some→N3,getD_some→zZ,isSome_iff_exists→ph,map_eq_some_iff→pj,map_some→mo
open Option.some renaming injEq→fV
open Prod renaming fst→mW
open Prod.mk renaming injEq→sD
open UInt8 renaming ofNat→j7,toNat_inj→k6,toNat_lt→iX,toNat_ofNat'→EM
open Go.Proofs.Tryz
open Go.RowKit

namespace Go.Hb
theorem ab {p:Prop} (h:p:=by omega):p:=h
theorem aj {p:Prop} (h:p:=by kernel_rfl):p:=h
theorem az {p:Prop} (h:p:=by decide):p:=h
theorem aa {α:Sort _} {a:α} :a=a:=rfl
end Go.Hb
section
namespace Go.Hb
structure Fm where
 n:Nat
 D:List Deferred
 F:List Nat
 r:Option Nat
def dD (σ:Nat→Value) (d:Nat) (v:Value):Nat→Value:=fun i=>cond (xd i d) v<|σ i
def iO (σ:Nat→Value):Option Nat→Value→Nat→Value
 | some d,v=>dD σ d v
 | none,_=>σ
def act (N:Fm) (σ:Nat→Value):Act:=⟨((j6 N.n).map σ).toArray,N.D⟩
def ev (N:Fm) (σ:Nat→Value):Operand→Value
 | .tmp t=>cond (gG t N.n) (σ t) undef
 | .const v=>v
 | .global g=> .pointer<|some ⟨g,0,none⟩
 | .func f=> .func (.func f) #[] #[]
theorem pA (N:Fm) (σ:Nat→Value) (t:Nat):(act N σ).tmps[t]? =if t < N.n then some (σ t) else none:=by
 simp only [act,List.getElem?_toArray,iq]
 split
 · rename_i h; rw [zR h]; rfl
 · rename_i h; rw [uk (by simpa using h)]; rfl
theorem hU (N:Fm) (σ:Nat→Value):(act N σ).eval=ev N σ:=by
 funext x
 cases x with
 | tmp t=>
   simp only [Act.eval,ev,D5,pA]
   by_cases h:t < N.n
   · rw [if_pos h,show gG t N.n=true from by simpa using h]; rfl
   · rw [if_neg h,show gG t N.n=false from by cases hx:gG t N.n <;> simp_all [gG,Nat.ble_eq] <;> omega]; rfl
 | _=>rfl
theorem xk {a b:Act} (hd:a.defers=b.defers) (q:∀ i:Nat,a.tmps[i]? =b.tmps[i]?):a=b:=by
 cases a; cases b
 simp only at hd q
 subst hd
 congr 1
 exact MJ q
theorem jJ (N:Fm) (σ:Nat→Value) (dst:Option Nat) (v:Value):(act N σ).put dst v=act N (iO σ dst v):=by
 cases dst with
 | none=>rfl
 | some d=>
   refine xk aa fun i=> ?_
   have A:((act N σ).put (some d) v).tmps=(act N σ).tmps.setIfInBounds d v:=rfl
   rw [A,D6,pA,pA]
   have hs:(act N σ).tmps.size=N.n:=by simp [act]
   simp only [iO,dD]
   by_cases q:i=d
   · subst q
     rw [hs]
     have a:xd i i=true :=by simp
     by_cases h:i < N.n
     · rw [if_pos rfl,if_pos h,if_pos h,a]; rfl
     · rw [if_pos rfl,if_neg h,if_neg h]
   · rw [if_neg (fun e=>q e.symm)]
     have a:xd i d=false :=by
      cases hx:xd i d
      · rfl
      · exact absurd (NZ hx) q
     rw [a]; rfl
theorem nv {σ:Nat→Value} {i:Nat} {v:Value} (h:σ i=v):dD σ i v=σ:=by
 funext j
 unfold dD
 cases hx:xd j i
 · rfl
 · have :=NZ hx; subst this; exact h.symm
def lift (N:Fm) (Q:Exit→(Nat→Value)→World→Prop):Exit→Act→World→Prop
 | .panic c,a,w=> ∃ σ,a=act N σ∧∀ q,(∀ i∈N.F,q i=σ i)→Q (.panic c) q w
 | .outgrown,_,_=>False
 | e,a,w=> ∃ σ,a=act N σ∧Q e σ w
def fe:Option Nat→Fence
 | none=>iQ
 | some l=>iQ.inRound l
theorem BB (r:Option Nat):(fe r).round=r:=by cases r <;> rfl
theorem xZ (r:Option Nat) (f:FuncId):(fe r).fn f:=by cases r <;> trivial
theorem uR (r:Option Nat):(fe r).depth=none:=by cases r <;> rfl
theorem HH {r:Option Nat} {n:Nat} {P:Program} {f:FuncId} {args:Array Value} {w:World} {R:Ending→World→Prop} (h:Calls P f args w R):CallsIn (fe r) n P f args w R:=by
 cases r
 · exact callsIn_wide.2 h
 · exact (callsIn_wide (n:=n)).2 h
theorem BC {r:Option Nat} {n:Nat} {P:Program} {row:String} {args:Array Value} {w:World} {R:Value→World→Prop} (h:Rows P row args w R):RowsIn (fe r) n P row args w R:=fun c cs _=>by
 obtain ⟨v,w',a,hs⟩:=h c cs
 refine ⟨v,w',a,?_⟩
 cases r
 · exact stepsIn_wide.2 hs
 · exact stepsIn_wide.2 hs
def Kg (ops:List Oper):Bool:=ops.all fun o=>match o.op with | .defer _=>false | _=>true
def tC (r:Option Nat) (ops:List Oper):Bool:=match r with | none=>true | some _=>Kg ops
theorem Wp {l:List Oper} (h:Kg l=true):∀ o∈l,∀ c,o.op≠.defer c:=fun o a c e=>by
 have :=ml.1 h o a
 rw [e] at this
 cases this
theorem Cu {r:Option Nat} {P:Program} {ops:Array Oper} {Q:Exit→Act→World→Prop} (C:¬LetsOut Q) (E:tC r ops.toList=true):∀ (l:List Nat) (a:Act) (w:World),wpOps P ops Q l a w→wpOpsIn (fe r) 0 P ops Q l a w:=by
 intro l
 induction l with
 | nil=>exact fun _ _ h=>h
 | cons i l A=>
   intro a w h
   simp only [wpOps] at h
   simp only [wpOpsIn]
   cases ho:ops[i]? with
   | none=>simp only [ho] at h ⊢; exact A a w h
   | some o=>
     simp only [ho] at h ⊢
     by_cases hw:q5 o (yielded ops a.tmps)=true
     · rw [if_pos hw] at h ⊢
       rcases h with h | h
       · refine ⟨fun f _=>xZ r f,?_⟩
         rw [BB]
         have G:o.semAt r a.eval=execOp a.eval o:=by
          cases r with
          | none=>rfl
          | some k=>exact Oper.semAt_eq _ _ _<|Wp E o<|wg.2<|Array.mem_of_getElem? ho
         rw [G]
         unfold j0 at h
         generalize (execOp a.eval o).run P w=x at h
         cases x with
         | ok n w'=>
           cases n <;> simp only [k4,q4] at h ⊢ <;>
            first
             | exact A _ _ h
             | (refine ⟨fun q=>(by rw [uR] at q; cases q),CallsIn.mono (HH h) fun e w'' he=> ?_⟩
                cases e <;> first | exact A _ _ he | exact he)
             | exact ⟨fun q=>(by rw [uR] at q; cases q),RowsIn.mono (BC h) fun v w'' he=>A _ _ he⟩
         | halt x w'=>cases x <;> simp only [k4,q4] at h ⊢ <;> exact h
       · exact absurd h.2 C
     · rw [if_neg hw] at h ⊢
       exact ⟨fun f _=>xZ r f,A _ _ h⟩
def dU (P:Program) (N:Fm) (c:Code) (Q:Exit→(Nat→Value)→World→Prop) (σ:Nat→Value) (w:World):Prop :=
 c.wpIn (fe N.r) 0 P (lift N Q) (act N σ) w
def eT (P:Program) (N:Fm) (ops:Array Oper) (Q:Exit→(Nat→Value)→World→Prop) (l:List Oper) (σ:Nat→Value) (w:World):Prop :=
 wpList P ops (lift N Q) l (act N σ) w
def lS (K:(Nat→Value)→World→Prop) (Q:Exit→(Nat→Value)→World→Prop):Exit→(Nat→Value)→World→Prop
 | .normal,σ,w=>K σ w
 | e,σ,w=>Q e σ w
def qH (id:Nat) (Q:Exit→(Nat→Value)→World→Prop):Exit→(Nat→Value)→World→Prop
 | .exit a,σ,w=>if a=id then Q .normal σ w else Q (.exit a) σ w
 | e,σ,w=>Q e σ w
section
variable {P:Program} {N:Fm} {Q:Exit→(Nat→Value)→World→Prop} {σ:Nat→Value} {w:World} {K:(Nat→Value)→World→Prop}
theorem VL {Q A:Exit→(Nat→Value)→World→Prop} (h:∀ e σ w,Q e σ w→A e σ w) (e:Exit) (a:Act) (w:World):lift N Q e a w→lift N A e a w:=by
 cases e <;> first | exact fun h=>h.elim | exact fun ⟨σ,i,q⟩=>⟨σ,i,h _ _ _ q⟩ | exact fun ⟨σ,i,q⟩=>⟨σ,i,fun E C=>h _ _ _<|q E C⟩
theorem ZK {a:Exit→(Nat→Value)→World→Prop} {c:Code} (h:∀ e σ w,Q e σ w→a e σ w) (i:dU P N c Q σ w):dU P N c a σ w:=
 wpIn_mono i (VL h)
theorem tn (h:K σ w):lS K Q .normal σ w:=h
theorem te (id:Nat) (h:Q (.exit id) σ w):lS K Q (.exit id) σ w:=h
theorem tr (h:Q .ret σ w):lS K Q .ret σ w:=h
theorem bn {id:Nat} (h:Q .normal σ w):qH id Q .normal σ w:=h
theorem be {id:Nat} (h:Q .normal σ w):qH id Q (.exit id) σ w:=by simpa only [qH,if_true] using h
theorem my {id a:Nat} (i:a≠id) (h:Q (.exit a) σ w):qH id Q (.exit a) σ w:=by simpa only [qH,if_neg i] using h
theorem br {id:Nat} (h:Q .ret σ w):qH id Q .ret σ w:=h
theorem sq {x y:Code} (h:∀ K:(Nat→Value)→World→Prop,(∀ σ w,dU P N y Q σ w→K σ w)→dU P N x (lS K Q) σ w):dU P N (.seq x y) Q σ w:=by
 refine wpIn_seq<|wpIn_mono (h (fun σ w=>dU P N y Q σ w) fun _ _ h=>h) ?_
 intro e a w i
 cases e with
 | normal=>obtain ⟨σ,rfl,q⟩:=i; exact q
 | panic c=>exact i
 | outgrown=>exact i
 | _=>obtain ⟨σ,rfl,q⟩:=i; exact ⟨σ,rfl,q⟩
theorem ep {x y:Code} (a:(Nat→Value)→World→Prop) (h:dU P N x (lS a Q) σ w) (hk:∀ σ w,a σ w→dU P N y Q σ w):dU P N (.seq x y) Q σ w:=
 sq fun _ q=>ZK (fun e _ _ i=>by cases e <;> first | exact q _ _ (hk _ _ i) | exact i) h
theorem ct {c:Operand} {x y:Code} (a:ev N σ c= .bool true) (h:dU P N x Q σ w):dU P N (.cond c x y) Q σ w:=
 wpIn_cond_true (by rw [hU]; exact a) h
theorem cf {c:Operand} {x y:Code} (a:ev N σ c= .bool false) (h:dU P N y Q σ w):dU P N (.cond c x y) Q σ w:=
 wpIn_cond_false (by rw [hU]; exact a) h
theorem cb {c:Operand} {x y:Code} {b:Bool} (a:ev N σ c= .bool b) (q:b=true→dU P N x Q σ w) (i:b=false→dU P N y Q σ w):dU P N (.cond c x y) Q σ w:=by
 cases b
 · exact cf a<|i aa
 · exact ct a<|q aa
theorem cd {c:Operand} {x y:Code} {p:Prop} [Decidable p] (a:ev N σ c= .bool (decide p)) (q:p→dU P N x Q σ w) (i:¬p→dU P N y Q σ w):dU P N (.cond c x y) Q σ w:=
 cb a (fun h=>q<|of_decide_eq_true h) (fun h=>i<|of_decide_eq_false h)
theorem aJ {id:Nat} {c:Code} (h:dU P N c (qH id Q) σ w):dU P N (.block id c) Q σ w:=by
 refine wpIn_block<|wpIn_mono h ?_
 intro e a w q
 cases e with
 | panic c=>exact q
 | outgrown=>exact q
 | exit A=>
   obtain ⟨σ,rfl,i⟩:=q
   simp only [qH,Exit.inBlock] at i ⊢
   split
   · rename_i e; rw [if_pos e] at i; exact ⟨σ,rfl,i⟩
   · rename_i e; rw [if_neg e] at i; exact ⟨σ,rfl,i⟩
 | _=>obtain ⟨σ,rfl,i⟩:=q; exact ⟨σ,rfl,i⟩
theorem ext {id:Nat} (h:Q (.exit id) σ w):dU P N (.exit id) Q σ w:=wpIn_exit ⟨σ,rfl,h⟩
theorem aQ (h:Q .normal σ w):dU P N .skip Q σ w:=wpIn_skip ⟨σ,rfl,h⟩
theorem rt (h:Q .ret σ w):dU P N .ret Q σ w:=wpIn_ret ⟨σ,rfl,h⟩
theorem fx {c:Code} {v:Value} (i:Nat) (h:σ i=v) (a:dU P N c Q (dD σ i v) w):dU P N c Q σ w:=by rw [nv h] at a; exact a
theorem lp {c:Code} (E:Nat→(Nat→Value)→World→Prop) (n:Nat) (Y:E n σ w)
 (h:∀ n σ w,E n σ w→dU P N c (lS (fun aj w'=> ∃ m,m < n∧E m aj w') Q) σ w):dU P N (.loop c) Q σ w:=by
 intro b k cs ag I J
 have key:∀ n σ w,E n σ w→
  ∃ e G w',lift N Q e G w'∧ArrivesIn (Machine.fenced P<|fe N.r) P (lone (b.atR (act N σ) (.code c:: .inLoop c::k)) cs w) b k cs e G w':=by
  intro n
  induction n using Nat.strongRecOn with
  | _ n ah=>
    intro σ w Z
    obtain ⟨e,M,C,A,i⟩:=h n σ w Z b (.inLoop c::k) cs ag I J
    cases e with
    | normal=>
      obtain ⟨a,rfl,m,hm,ab⟩:=A
      obtain ⟨V,O,ai,ae,ac⟩:=ah m hm a C ab
      exact ⟨V,O,ai,ae,.of_steps (StepsIn.trans i<|.one (fenced_calm I J aa) stepR_inLoop) ac⟩
    | exit id=>obtain ⟨a,rfl,q⟩:=A; exact ⟨.exit id,act N a,C,⟨a,rfl,q⟩,.pass (x:= .inLoop c) rfl (fun _ _=> .inl<|by simp) i⟩
    | goto l=>obtain ⟨a,rfl,q⟩:=A; exact ⟨.goto l,act N a,C,⟨a,rfl,q⟩,.pass (x:= .inLoop c) rfl (fun _ _=> .inl<|by simp) i⟩
    | ret=>obtain ⟨a,rfl,q⟩:=A; exact ⟨.ret,act N a,C,⟨a,rfl,q⟩,.pass (x:= .inLoop c) rfl (fun _ _=> .inl<|by simp) i⟩
    | panic U=>exact ⟨.panic U,M,C,A,.pass (x:= .inLoop c) rfl (fun _ _=> .inl<|by simp) i⟩
    | outgrown=>exact A.elim
 obtain ⟨e,G,w',q,i⟩:=key _ σ w Y
 exact ⟨e,G,w',q,.of_steps (.one (fenced_calm I J aa) stepR_loop) i⟩
def dV (P:Program) (N:Fm) (o:Oper) (σ:Nat→Value) (w:World) (K:(Nat→Value)→World→Prop):Prop :=
 j0 P o (act N σ) w (fun a w=> ∃ σ,a=act N σ∧K σ w) (fun _ _ _=>False)
theorem Zi {o:Oper} {a:Act} {K q:Act→World→Prop} {Q:Exit→Act→World→Prop} (h:∀ a w,K a w→q a w)
 (r:Result Next) (i:o.upon P a K (fun _ _ _=>False) r):o.upon P a q Q r:=by
 cases r with
 | ok n w'=>
   cases n <;> simp only [k4] at i ⊢ <;>
    first
     | exact h _ _ i
     | exact lE i (fun e w'' he=>by
      cases e with
      | returned v=>exact h _ _ he
      | panicked c=>exact he.elim
      | outgrown=>obtain ⟨_,_,A⟩:=he; exact A.elim)
     | exact Rows.mono i fun _ _ he=>h _ _ he
 | halt x w'=>cases x <;> simp only [k4] at i ⊢
theorem tT {K:(Nat→Value)→World→Prop} {i:Act→World→Prop} {Q:Exit→Act→World→Prop} {o:Oper} (h:dV P N o σ w K) (hk:∀ σ w,K σ w→i (act N σ) w):o.wp P (act N σ) w i Q:=by
 unfold dV at h
 unfold j0 at*
 exact Zi (fun a w ⟨σ,A,q⟩=>by subst A; exact hk _ _ q) _ h
theorem Mu {K a:(Nat→Value)→World→Prop} {o:Oper} (h:dV P N o σ w K) (hk:∀ σ w,K σ w→a σ w):dV P N o σ w a:=
 tT h (fun σ w i=>⟨σ,rfl,hk σ w i⟩)
variable {ops:Array Oper} {rest:List Oper} {d:Nat} {op:Op} {ty:TypeId} {pos :String} {af:Array Edge} {d':Option Nat} {v:Value} {o:Oper}
theorem zq (a:q5 o (yielded ops (act N σ).tmps)=true) (h:dV P N o σ w (fun σ w=>eT P N ops Q rest σ w)):eT P N ops Q (o::rest) σ w:=by
 unfold eT wpList
 rw [if_pos a]
 exact .inl<|tT h fun _ _ hk=>hk
theorem oh {K:(Nat→Value)→World→Prop} {w':World} (a:(execOp (ev N σ) o).run P w= .ok (.value v) w') (hk:K (iO σ o.dst v) w'):dV P N o σ w K:=by
 unfold dV j0
 rw [hU,a]
 exact ⟨_,jJ ..,hk⟩
theorem jQ (o:Oper) (a:o.guard=none) (y:Nat→Option Bool):q5 o y=true :=by simp [q5,a]
def jW (ops:Array Oper) (j:Nat):Option Nat:=(ops[j]?).bind (·.dst)
theorem p4 {j t:Nat} {want b:Bool} (i:o.guard=some (j,want)) (a:jW ops j=some t) (q:gG t N.n=true) (A:σ t= .bool b):
 q5 o (yielded ops (act N σ).tmps)=(b==want):=by
 have h1:yielded ops (act N σ).tmps j=some b:=by
  unfold yielded
  unfold jW at a
  rw [a]
  simp only [N3,pA]
  rw [if_pos (sy (ux t)<|uw q),A]
 simp only [q5,i,h1]
 cases b <;> cases want <;> rfl
theorem Mn {j t:Nat} {want:Bool} (i:o.guard=some (j,want)) (a:jW ops j=some t) (q:gG t N.n=true) (A:σ t=undef):
 q5 o (yielded ops (act N σ).tmps)=false :=by
 have h1:yielded ops (act N σ).tmps j=none:=by
  unfold yielded
  unfold jW at a
  rw [a]
  simp only [N3,pA]
  rw [if_pos (sy (ux t)<|uw q),A]; rfl
 simp only [q5,i,h1]
 rfl
theorem p (h:(execOp (ev N σ) ⟨some d,op,ty,pos,af,none⟩).run P w= .ok (.value v) w) (k:eT P N ops Q rest (dD σ d v) w):
 eT P N ops Q (⟨some d,op,ty,pos,af,none⟩::rest) σ w:=
 zq (jQ _ rfl _) (oh h k)
theorem pg {j t:Nat} {want:Bool} (a:jW ops j=some t) (i:gG t N.n=true) (q:σ t= .bool want)
 (h:(execOp (ev N σ) ⟨some d,op,ty,pos,af,some (j,want)⟩).run P w= .ok (.value v) w) (k:eT P N ops Q rest (dD σ d v) w):
 eT P N ops Q (⟨some d,op,ty,pos,af,some (j,want)⟩::rest) σ w:=
 zq (by rw [p4 rfl a i q]; cases want <;> rfl) (oh h k)
theorem sk {j t:Nat} {want b:Bool} (i:jW ops j=some t) (q:gG t N.n=true) (A:σ t= .bool b) (a:(b==want)=false)
 (k:eT P N ops Q rest (dD σ d undef) w):eT P N ops Q (⟨some d,op,ty,pos,af,some (j,want)⟩::rest) σ w:=by
 unfold eT wpList
 rw [if_neg (by rw [p4 rfl i q A,a]; simp),jJ]
 exact k
theorem kn {j t:Nat} {want:Bool} (a:jW ops j=some t) (i:gG t N.n=true) (q:σ t=undef)
 (k:eT P N ops Q rest (dD σ d undef) w):eT P N ops Q (⟨some d,op,ty,pos,af,some (j,want)⟩::rest) σ w:=by
 unfold eT wpList
 rw [if_neg (by rw [Mn rfl a i q]; simp),jJ]
 exact k
theorem e (h:dV P N ⟨d',op,ty,pos,af,none⟩ σ w (fun σ w=>eT P N ops Q rest σ w)):eT P N ops Q (⟨d',op,ty,pos,af,none⟩::rest) σ w:=
 zq (jQ _ rfl _) h
theorem eg {j t:Nat} {want:Bool} (a:jW ops j=some t) (i:gG t N.n=true) (q:σ t= .bool want)
 (h:dV P N ⟨d',op,ty,pos,af,some (j,want)⟩ σ w (fun σ w=>eT P N ops Q rest σ w)):eT P N ops Q (⟨d',op,ty,pos,af,some (j,want)⟩::rest) σ w:=
 zq (by rw [p4 rfl a i q]; cases want <;> rfl) h
theorem nl (h:Q .normal σ w):eT P N ops Q [] σ w:=⟨σ,rfl,h⟩
theorem CE:¬LetsOut (lift N Q):=fun ⟨_,_,h⟩=>h
theorem rg {id:Nat} {l:List Oper} (a:tC N.r l=true) (h:eT P N l.toArray Q l σ w):dU P N (.region id l.toArray false) Q σ w:=by
 refine wpIn_region<|Cu CE a _ _ _ ?_
 have h1:=wpOps_eq_wpList (P:=P) (ops:=l.toArray) (Q:=lift N Q) l 0 fun j=>by simp
 rw [List.range_eq_range',ou,h1]
 exact h
theorem gs {l:List Oper} {t:Nat} {q:Prop} [Decidable q] (h:σ t= .bool (decide q)) (A:q→eT P N ops Q l (dD σ t<|.bool true) w) (i:¬q→eT P N ops Q l (dD σ t<|.bool false) w):eT P N ops Q l σ w:=by
 by_cases a:q
 · have :=A a; rwa [nv (by rw [h,decide_eq_true a])] at this
 · have :=i a; rwa [nv (by rw [h,decide_eq_false a])] at this
theorem gb {l:List Oper} {t:Nat} {b:Bool} (h:σ t= .bool b) (i:b=true→eT P N ops Q l (dD σ t<|.bool true) w) (a:b=false→eT P N ops Q l (dD σ t<|.bool false) w):eT P N ops Q l σ w:=by
 cases b
 · have :=a rfl; rwa [nv h] at this
 · have :=i rfl; rwa [nv h] at this
def fL (P:Program) (N:Fm) (ops:Array Oper) (Q:Exit→(Nat→Value)→World→Prop) (S:World→Prop) (fuel:Nat) (bg:Array Bool) (σ:Nat→Value) (w:World):Prop :=
 wpAnyH P .any ops (lift N Q) S fuel bg (act N σ) w
variable {S:World→Prop} {fuel:Nat} {bg:Array Bool}
theorem Fj {id:Nat} {l:List Oper} (a:tC N.r l=true) (hm:P.follows .mixedOrders=true) (h:wpAny P .any l.toArray (lift N Q) l.toArray.size (tZ l.toArray.size false) (act N σ) w.drew):dU P N (.region id l.toArray true) Q σ w:=by
 refine wpIn_region_draw fun t=>Cu CE a _ _ _ ?_
 simp only [Region.schedule,hm,Bool.true_or,if_true]
 exact wpAny_sound _ t _ _ _ h
theorem bN {id:Nat} {l:List Oper} (S:World→Prop) (a:tC N.r l=true) (hm:P.follows .mixedOrders=true) (i:S w.drew) (h:fL P N l.toArray Q S l.length (tZ l.length false) σ w.drew):dU P N (.region id l.toArray true) Q σ w:=
 Fj a hm (wpAny_of_held _ _ _ _<|by rw [ou]; exact h)
def C1 (F:List Nat) (d:Option Nat):Bool:=match d with | some d=> !(F.contains d) | none=>true
def jb (F:List Nat) (ops:Array Oper) (bg:Array Bool) (i:Nat):Bool:=
 Region.noSelect ops && Region.free .any ops bg i && (js .any ops bg).contains i && C1 F ((ops[i]?).bind (·.dst))
theorem oL {d:Option Nat} {v:Value} (hd:C1 N.F d=true) (c:List PanicEntry) (a:Act) (w:World):lift N Q (.panic c) (a.put d v) w→lift N Q (.panic c) a w:=by
 rintro ⟨σ,q,h⟩
 cases d with
 | none=>exact ⟨σ,q,h⟩
 | some d=>
   have J:a.tmps.size=N.n:=by
    have :=congrArg (fun x:Act=>x.tmps.size) q
    simpa [Act.put,act] using this
   have C:a.defers=N.D:=congrArg (fun x:Act=>x.defers) q
   have E:∀ i:Nat,i≠d→a.tmps[i]? =if i < N.n then some (σ i) else none:=fun i hi=>by
    have h1:(a.put (some d) v).tmps[i]? =a.tmps[i]? :=by
     show (a.tmps.setIfInBounds d v)[i]? =_
     rw [D6,if_neg (fun e=>hi e.symm)]
    rw [← h1,q,pA]
   refine ⟨fun i=>if i < N.n then a.tmps.getD i undef else σ i,xk C fun i=> ?_,fun I A=>h I fun i hi=> ?_⟩
   · rw [pA]
     by_cases h1:i < N.n
     · rw [if_pos h1,if_pos h1,D5,zy ab]; rfl
     · rw [if_neg h1,tX ab]
   · have G:i≠d:=by
      rintro rfl
      simp only [C1,zA,List.contains_eq_mem,decide_eq_false_iff_not] at hd
      exact hd hi
     rw [A i hi]
     by_cases h1:i < N.n
     · simp only [if_pos h1]
       rw [D5,E i G,if_pos h1]; rfl
     · simp only [if_neg h1]
theorem hp (i:Nat) (hi:ops[i]? =some ⟨some d,op,ty,pos,af,none⟩) (q:jb N.F ops bg i=true)
 (C:∀ w,S w→(execOp (ev N σ) ⟨some d,op,ty,pos,af,none⟩).run P w= .ok (.value v) w) (A:S w)
 (k:fL P N ops Q S fuel (bg.setIfInBounds i true) (dD σ d v) w):fL P N ops Q S (fuel+1) bg σ w:=by
 simp only [jb,gU] at q
 refine wpAnyH_take hi q.1.1.1 q.1.1.2 q.1.2 (fun c a w=>oL (by have :=q.2; rwa [hi] at this) c a w) (.inl ⟨jQ _ rfl _,fun w A=> ?_⟩) A ?_ (v:=v)
 · rw [hU]; exact C w A
 · rw [jJ]; exact k
theorem lr (i:Nat) {j t:Nat} {want:Bool} (hi:ops[i]? =some ⟨some d,op,ty,pos,af,some (j,want)⟩) (q:jb N.F ops bg i=true)
 (C:jW ops j=some t) (E:gG t N.n=true) (G:σ t= .bool want)
 (I:∀ w,S w→(execOp (ev N σ) ⟨some d,op,ty,pos,af,some (j,want)⟩).run P w= .ok (.value v) w) (A:S w)
 (k:fL P N ops Q S fuel (bg.setIfInBounds i true) (dD σ d v) w):fL P N ops Q S (fuel+1) bg σ w:=by
 simp only [jb,gU] at q
 refine wpAnyH_take hi q.1.1.1 q.1.1.2 q.1.2 (fun c a w=>oL (by have :=q.2; rwa [hi] at this) c a w) (.inl ⟨by rw [p4 aa C E G]; cases want <;> rfl,fun w A=> ?_⟩) A ?_ (v:=v)
 · rw [hU]; exact I w A
 · rw [jJ]; exact k
theorem oK (i:Nat) {j t:Nat} {want b:Bool} (hi:ops[i]? =some ⟨some d,op,ty,pos,af,some (j,want)⟩) (q:jb N.F ops bg i=true)
 (E:jW ops j=some t) (G:gG t N.n=true) (I:σ t= .bool b) (C:(b==want)=false) (A:S w)
 (k:fL P N ops Q S fuel (bg.setIfInBounds i true) (dD σ d undef) w):fL P N ops Q S (fuel+1) bg σ w:=by
 simp only [jb,gU] at q
 refine wpAnyH_take hi q.1.1.1 q.1.1.2 q.1.2 (fun c a w=>oL (by have :=q.2; rwa [hi] at this) c a w) (.inr ⟨by rw [p4 aa E G I,C],aa⟩) A ?_ (v:=undef)
 rw [jJ]; exact k
theorem l8 (i:Nat) {j t:Nat} {want:Bool} (hi:ops[i]? =some ⟨some d,op,ty,pos,af,some (j,want)⟩) (q:jb N.F ops bg i=true)
 (C:jW ops j=some t) (E:gG t N.n=true) (G:σ t=undef) (A:S w)
 (k:fL P N ops Q S fuel (bg.setIfInBounds i true) (dD σ d undef) w):fL P N ops Q S (fuel+1) bg σ w:=by
 simp only [jb,gU] at q
 refine wpAnyH_take hi q.1.1.1 q.1.1.2 q.1.2 (fun c a w=>oL (by have :=q.2; rwa [hi] at this) c a w) (.inr ⟨Mn aa C E G,aa⟩) A ?_ (v:=undef)
 rw [jJ]; exact k
def lz (ops:Array Oper) (bg:Array Bool) (i:Nat):Bool:=(js .any ops bg)== [i]
theorem he (i:Nat) (hi:ops[i]? =some ⟨d',op,ty,pos,af,none⟩) (a:lz ops bg i=true)
 (h:dV P N ⟨d',op,ty,pos,af,none⟩ σ w (fun σ w=>S w∧fL P N ops Q S fuel (bg.setIfInBounds i true) σ w)):fL P N ops Q S (fuel+1) bg σ w:=by
 refine wpAnyH_all (rs:= [i]) (by simpa [lz] using a) (by simp) ?_
 intro k hk
 obtain rfl :k=i:=by simpa using hk
 unfold wpOp
 simp only [hi]
 rw [if_pos (jQ _ rfl _)]
 exact .inl<|tT h fun _ _ hk=>hk
theorem l7 (i:Nat) {j t:Nat} {want:Bool} (hi:ops[i]? =some ⟨d',op,ty,pos,af,some (j,want)⟩) (q:lz ops bg i=true)
 (a:jW ops j=some t) (A:gG t N.n=true) (C:σ t= .bool want)
 (h:dV P N ⟨d',op,ty,pos,af,some (j,want)⟩ σ w (fun σ w=>S w∧fL P N ops Q S fuel (bg.setIfInBounds i true) σ w)):fL P N ops Q S (fuel+1) bg σ w:=by
 refine wpAnyH_all (rs:= [i]) (by simpa [lz] using q) (by simp) ?_
 intro k hk
 obtain rfl :k=i:=by simpa using hk
 unfold wpOp
 simp only [hi]
 rw [if_pos (by rw [p4 rfl a A C]; cases want <;> rfl)]
 exact .inl<|tT h fun _ _ hk=>hk
theorem hn (a:(js .any ops bg).isEmpty=true) (h:Q .normal σ w):fL P N ops Q S fuel bg σ w:=
 wpAnyH_done (by simpa using a) ⟨σ,rfl,h⟩ fuel
theorem iK {t:Nat} {q:Prop} [Decidable q] (h:σ t= .bool (decide q)) (A:q→fL P N ops Q S fuel bg (dD σ t<|.bool true) w) (i:¬q→fL P N ops Q S fuel bg (dD σ t<|.bool false) w):fL P N ops Q S fuel bg σ w:=by
 by_cases a:q
 · have :=A a; rwa [nv (by rw [h,decide_eq_true a])] at this
 · have :=i a; rwa [nv (by rw [h,decide_eq_false a])] at this
theorem yB {t:Nat} {b:Bool} (h:σ t= .bool b) (i:b=true→fL P N ops Q S fuel bg (dD σ t<|.bool true) w) (a:b=false→fL P N ops Q S fuel bg (dD σ t<|.bool false) w):fL P N ops Q S fuel bg σ w:=by
 cases b
 · have :=a rfl; rwa [nv h] at this
 · have :=i rfl; rwa [nv h] at this
end
def bp (P:Program) (f:FuncId) (args:Array Value) (w:World) (R:Value→World→Prop):Prop :=
 Calls P f args w fun e w'=> ∃ v,e= .returned v∧R v w'
theorem bp.mono {P:Program} {f:FuncId} {args:Array Value} {w:World} {R R':Value→World→Prop} (h:bp P f args w R) (i:∀ v w',R v w'→R' v w'):bp P f args w R':=
 lE h fun _ _ ⟨v,he,a⟩=>⟨v,he,i _ _ a⟩
def mO (args:List Value):Nat→Value:=fun i=>args.getD i undef
def fin (P:Program) (fn:Func) (N:Fm) (R:Value→World→Prop):Exit→(Nat→Value)→World→Prop
 | .normal,σ,w=> ∃ v,(results fn (act N σ).tmps).run P w= .ok v w∧R v w
 | .ret,σ,w=> ∃ v,(results fn (act N σ).tmps).run P w= .ok v w∧R v w
 | _,_,_=>False
theorem enter {P:Program} {f:FuncId} {N:Nat} {fn:Func} {c:Code} {args:List Value} {w:World} {R:Value→World→Prop} (M:P.funcs[f]? =some fn) (J:fn.body=some c)
 (G:fn.ntmps=N) (hn:o8 args.length N=true) (h:dU P ⟨N,[],[],none⟩ c (fin P fn ⟨N,[],[],none⟩ R) (mO args) w):bp P f args.toArray w R:=by
 subst G
 refine calls_of_wp M J ?_
 have I:({tmps:=args.toArray++tZ (fn.ntmps - args.toArray.size) undef,defers:= []} :Act)=act ⟨fn.ntmps,[],[],none⟩ (mO args):=by
  have O:args.length≤fn.ntmps:=by simpa using hn
  refine xk aa fun i=> ?_
  rw [pA]
  simp only [mO,da,ou]
  by_cases h1:i < args.length
  · rw [Array.getElem?_append_left (by simpa using h1),if_pos ab]
    simp [h1]
  · rw [Array.getElem?_append_right (by simpa using h1)]
    simp only [ou,Array.getElem?_replicate]
    by_cases h2:i < fn.ntmps
    · rw [if_pos ab,if_pos h2,uk ab]; rfl
    · rw [if_neg ab,if_neg h2]
 rw [I]
 refine Code.wp_mono ?_<|wpIn_wide.1 h
 intro e a w q
 cases e with
 | normal=>obtain ⟨σ,rfl,v,E,C⟩:=q; exact ⟨rfl,v,E,v,rfl,C⟩
 | ret=>obtain ⟨σ,rfl,v,E,C⟩:=q; exact ⟨rfl,v,E,v,rfl,C⟩
 | exit id=>obtain ⟨σ,rfl,A⟩:=q; exact A.elim
 | goto l=>obtain ⟨σ,rfl,A⟩:=q; exact A.elim
 | panic c=>obtain ⟨σ,rfl,A⟩:=q; exact (A σ fun _ _=>rfl).elim
 | outgrown=>exact q.elim
section
variable {P:Program} {N:Fm} {σ:Nat→Value} {w:World} {fn:Func} {R:Value→World→Prop}
theorem mQ (t:Nat):(act N σ).tmps.getD t undef=ev N σ (.tmp t):=by
 rw [← hU]; rfl
theorem f0 (h:fn.results= #[]) (a:R (.tuple #[]) w):fin P fn N R .normal σ w:=⟨_,results_none h _ _ _,a⟩
theorem qw (h:fn.results= #[]) (a:R (.tuple #[]) w):fin P fn N R .ret σ w:=⟨_,results_none h _ _ _,a⟩
theorem f1 {t:Nat} {v:Value} (h:fn.results= #[.tmp t]) (i:ev N σ (.tmp t)=v) (a:R v w):fin P fn N R .ret σ w:=
 ⟨v,by rw [results_tmp h,mQ,i],a⟩
theorem f2 {t u:Nat} {v a:Value} (h:fn.results= #[.tmp t,.tmp u]) (q:ev N σ (.tmp t)=v) (hu:ev N σ (.tmp u)=a) (i:R (.tuple #[v,a]) w):fin P fn N R .ret σ w:=
 ⟨_,by rw [results_tmp2 h,mQ,mQ,q,hu],i⟩
theorem f3 {t u s:Nat} {v a i:Value} (h:fn.results= #[.tmp t,.tmp u,.tmp s]) (A:ev N σ (.tmp t)=v) (hu:ev N σ (.tmp u)=a) (hs:ev N σ (.tmp s)=i) (q:R (.tuple #[v,a,i]) w):fin P fn N R .ret σ w:=by
 refine ⟨_,?_,q⟩
 simp only [results,h]
 subst A hu hs
 simp only [← mQ]
 simp [wX]
theorem f4 {t u s r:Nat} {v a i v3:Value} (h:fn.results= #[.tmp t,.tmp u,.tmp s,.tmp r]) (C:ev N σ (.tmp t)=v) (hu:ev N σ (.tmp u)=a) (hs:ev N σ (.tmp s)=i) (A:ev N σ (.tmp r)=v3) (q:R (.tuple #[v,a,i,v3]) w):fin P fn N R .ret σ w:=by
 refine ⟨_,?_,q⟩
 simp only [results,h]
 subst C hu hs A
 simp only [← mQ]
 simp [wX]
end
attribute [irreducible] eT dU fL dV
end Go.Hb
namespace Go.Hb
def aR (h:Array Obj) (b off :Nat):Option Value:=
 match h[b]? with
 | some (.cells c _ _)=>c[off]?
 | _=>none
theorem nL (w:World) (b off :Nat):w.cell? ⟨b,off,none⟩=aR w.heap b off :=by
 unfold World.cell? aR
 simp only
 split <;> simp_all
theorem a7 {h:Array Obj} {b off :Nat} {c:Array Value} {t:TypeId} {f:Nat×Nat} (a:h[b]? =some (.cells c t f)):aR h b off =c[off]? :=by
 simp only [aR,a]
theorem QU {h:Array Obj} {b off :Nat} {v:Value} (a:aR h b off =some v):b < h.size:=by
 unfold aR at a
 rcases fu b h.size with q | i
 · exact q
 · simp [tX i] at a
structure Md (F:Nat→Prop) (w w':World):Prop where
 os:w'.os=w.os
 output:w'.output=w.output
 size:w.heap.size≤w'.heap.size
 cH:∀ k,k < w.heap.size→¬F k→w'.heap[k]? =w.heap[k]?
abbrev Wk (w w':World):Prop :=Md (fun _=>False) w w'
theorem Md.refl (F:Nat→Prop) (w:World):Md F w w:=⟨rfl,rfl,cD _,fun _ _ _=>rfl⟩
theorem Md.drew {F:Nat→Prop} {w w':World} (h:Md F w w'):Md F w w'.drew:=⟨h.os,h.output,h.size,h.cH⟩
theorem Md.mono {F G:Nat→Prop} {w w':World} (h:Md F w w') (i:∀ k,k < w.heap.size→F k→G k):Md G w w':=
 ⟨h.os,h.output,h.size,fun k hk q=>h.cH k hk fun a=>q<|i k hk a⟩
theorem Md.trans {F:Nat→Prop} {a b c:World} (h:Md F a b) (i:Md F b c):Md F a c:=
 ⟨i.os.trans h.os,i.output.trans h.output,gk h.size i.size,fun k hk q=>(i.cH k (sy hk h.size) q).trans<|h.cH k hk q⟩
theorem Md.trans' {F G:Nat→Prop} {a b c:World} (h:Md F a b) (i:Md G b c) (A:∀ k,k < a.heap.size→G k→F k):Md F a c:=
 ⟨i.os.trans h.os,i.output.trans h.output,gk h.size i.size,
  fun k hk q=>(i.cH k (sy hk h.size) fun x=>q<|A k hk x).trans (h.cH k hk q)⟩
theorem Md.aJ {F:Nat→Prop} {w w':World} (h:Md F w w') {k:Nat} {o:Obj} (hk:w.heap[k]? =some o) (a:¬F k):w'.heap[k]? =some o:=
 (h.cH k (dB.1 hk).1 a).trans hk
theorem Md.aR {F:Nat→Prop} {w w':World} (h:Md F w w') {b off :Nat} {v:Value} (a:Hb.aR w.heap b off =some v) (i:¬F b):Hb.aR w'.heap b off =some v:=by
 have :=h.cH b (QU a) i
 unfold Hb.aR at*
 rw [this]; exact a
theorem Wk.aR {w w':World} (h:Wk w w') {b off :Nat} {v:Value} (a:Hb.aR w.heap b off =some v):Hb.aR w'.heap b off =some v:=Md.aR h a id
theorem Wk.aJ {w w':World} (h:Wk w w') {k:Nat} {o:Obj} (hk:w.heap[k]? =some o):w'.heap[k]? =some o:=Md.aJ h hk id
structure Nw (w w':World):Prop where
 md:Wk w w'
 size:w'.heap.size=w.heap.size+1
theorem CV (w:World) (o:Obj):Nw w {w with heap:=w.heap.push o} :=
 ⟨⟨rfl,rfl,by simp,fun k hk _=>by show (w.heap.push o)[k]? =_; rw [Array.getElem?_push,if_neg ab]⟩,by simp⟩
def dF (P:Program) (t:TypeId):Option (Option Nat):=
 match P.underlying t with
 | some (.struct _) | some (.array _ _)=>((P.info? t).map (·.size)).map some
 | some _=>some none
 | none=>none
def bX (P:Program) (s f:Nat):Option Nat:=
 match P.underlying s with
 | some (.struct fs)=>match fs[f]? with
   | some fd=>match P.info? fd.type with
     | some i=>if i.size=0 then none else some fd.offset
     | none=>none
   | none=>none
 | _=>none
def gA (P:Program) (t:TypeId):Option Nat:=
 match P.underlying t with
 | some (.slice e)=>(P.info? e).map (·.size)
 | _=>none
section
variable {P:Program} {N:Fm} {σ:Nat→Value} {w:World} {dst:Option Nat} {ty:TypeId} {pos :String} {af:Array Edge} {g:Option (Nat×Bool)} {x y z:Operand}
theorem eA {t:TypeId} {d:TypeDesc} (h:P.underlying t=some d) (w:World):(underlying t).run P w= .ok d w:=by
 simp [underlying,h]
theorem jh {t:TypeId} {i:TypeInfo} (h:P.info? t=some i) (w:World):(typeInfo t).run P w= .ok i w:=by
 simp [typeInfo,h]
theorem mv:(execOp (ev N σ) ⟨dst,.move x,ty,pos,af,g⟩).run P w= .ok (.value<|ev N σ x) w:=rfl
theorem aE:(execOp (ev N σ) ⟨dst,.assign x,ty,pos,af,g⟩).run P w= .ok (.value<|ev N σ x) w:=rfl
theorem aV (v:Value) (h:ev N σ x=v):(execOp (ev N σ) ⟨dst,.move x,ty,pos,af,g⟩).run P w= .ok (.value v) w:=by rw [← h]; rfl
theorem cU (v:Value) (h:ev N σ x=v):(execOp (ev N σ) ⟨dst,.assign x,ty,pos,af,g⟩).run P w= .ok (.value v) w:=by rw [← h]; rfl
theorem bC {c:Operand} (a:ev N σ c= .bool true):(execOp (ev N σ) ⟨dst,.pick c x y,ty,pos,af,g⟩).run P w= .ok (.value<|ev N σ x) w:=by
 simp [execOp,a,asBool]
theorem bu {c:Operand} (a:ev N σ c= .bool false):(execOp (ev N σ) ⟨dst,.pick c x y,ty,pos,af,g⟩).run P w= .ok (.value<|ev N σ y) w:=by
 simp [execOp,a,asBool]
theorem nc {a:Addr} (i:ev N σ x= .pointer (some a)):(execOp (ev N σ) ⟨dst,.nilCheck x,ty,pos,af,g⟩).run P w= .ok (.value<|.pointer<|some a) w:=by
 simp [execOp,i]
theorem xt {i:Nat} {vs:Array Value} {v:Value} (q:ev N σ x= .tuple vs) (a:vs[i]? =some v):(execOp (ev N σ) ⟨dst,.extract x i,ty,pos,af,g⟩).run P w= .ok (.value v) w:=by
 simp [execOp,q,Instr.extract,a]
theorem fa {s f n b off :Nat} (a:bX P s f=some n) (C:ev N σ x= .pointer (some ⟨b,off,none⟩)):
 (execOp (ev N σ) ⟨dst,.fieldAddr s x f,ty,pos,af,g⟩).run P w= .ok (.value<|.pointer<|some ⟨b,off+n,none⟩) w:=by
 unfold bX at a
 split at a
 · rename_i fs hu
   split at a
   · rename_i fd A
     split at a
     · rename_i i hi
       split at a
       · cases a
       · rename_i E
         cases a
         have q:(⟨b,off,none⟩:Addr).add fd.offset=⟨b,off+fd.offset,none⟩:=by unfold zB; split <;> simp_all
         simp [execOp,Instr.fieldAt,eA hu,A,C,qZ,fieldPlace,sizeOf,jh hi,E,q]
     · cases a
   · cases a
 · cases a
theorem ld {t b off :Nat} {v:Value} (hu:dF P t=some none) (q:ev N σ x= .pointer (some ⟨b,off,none⟩)) (a:aR w.heap b off =some v):
 (execOp (ev N σ) ⟨dst,.load t x,ty,pos,af,g⟩).run P w= .ok (.value v) w:=by
 have i:w.cell? ⟨b,off,none⟩=some v:=by rw [nL]; exact a
 unfold dF at hu
 cases hd:P.underlying t with
 | none=>rw [hd] at hu; cases hu
 | some d=>
   rw [hd] at hu
   cases d <;> first
    | (simp only [pj] at hu; obtain ⟨_,_,h⟩:=hu; cases h; done)
    | simp [execOp,M8,q,qZ,loadVar,isAgg,eA hd,run_load,i]
theorem mx (b off j:Nat):(⟨b,off,none⟩:Addr).add j=⟨b,off+j,none⟩:=by
 unfold zB; split <;> simp_all
theorem di {t n b off :Nat} {cs:List Value} (hu:dF P t=some (some n)) (E:ev N σ x= .pointer (some ⟨b,off,none⟩)) (C:cs.length=n)
 (q:∀ j,j < n→aR w.heap b (off+j)=cs[j]?):
 (execOp (ev N σ) ⟨dst,.load t x,ty,pos,af,g⟩).run P w= .ok (.value<|.agg cs.toArray) w:=by
 have A:(loadCells ⟨b,off,none⟩ n).run P w= .ok cs.toArray w:=by
  subst C
  refine run_loadCells_list (P:=P) w ⟨b,off,none⟩ cs fun j v a=> ?_
  rw [mx,nL]
  exact (q j (List.getElem?_eq_some_iff.1 a).1).trans a
 unfold dF at hu
 cases hd:P.underlying t with
 | none=>rw [hd] at hu; cases hu
 | some d=>
   rw [hd] at hu
   cases hi:P.info? t with
   | none=>simp [Program.underlying,hi] at hd
   | some i=>
     rw [hi] at hu
     cases d <;> first
      | (cases hu; done)
      | (simp only [mo,fV] at hu; subst hu
         simp [execOp,M8,E,qZ,loadVar,isAgg,eA hd,sizeOf,jh hi,A])
theorem ia {t n b off len cap:Nat} {k:IntKind} {i:Int} (he:gA P t=some n) (q:ev N σ x= .slice (some ⟨b,off,none⟩) len cap) (A:ev N σ y= .int k i) (a:0≤i∧i < len):
 (execOp (ev N σ) ⟨dst,.indexAddr t x y,ty,pos,af,g⟩).run P w= .ok (.value<|.pointer<|some ⟨b,off+i.toNat*n,none⟩) w:=by
 unfold gA at he
 cases hd:P.underlying t with
 | none=>rw [hd] at he; cases he
 | some d=>
   rw [hd] at he
   cases d <;> first | (cases he; done) | skip
   rename_i e
   cases hi:P.info? e with
   | none=>simp [hi] at he
   | some j=>
     simp only [hi,mo,fV] at he
     subst he
     simp [execOp,Instr.indexAt,q,A,asIntOf,eA hd,a.1,a.2,sizeOf,jh hi,mx]
def gv (a:Option Addr) (cap l n:Nat):Option Addr:=if cap=l then a else a.map (·.add (l*n))
theorem DA {t n len cap:Nat} {a:Option Addr} {lo hi:Option Value} {l h:Nat} (he:gA P t=some n) (C:ev N σ x= .slice a len cap)
 (A:(o0 true len cap lo hi none).run P w= .ok (l,h,cap) w) (i q:Option Operand) (E:i.map (ev N σ)=lo) (G:q.map (ev N σ)=hi):
 (execOp (ev N σ) ⟨dst,.slice t x i q none,ty,pos,af,g⟩).run P w= .ok (.value<|.slice (gv a cap l n) (h - l)<|cap - l) w:=by
 unfold gA at he
 cases hd:P.underlying t with
 | none=>rw [hd] at he; cases he
 | some d=>
   rw [hd] at he
   cases d <;> first | (cases he; done) | skip
   rename_i e
   cases hi':P.info? e with
   | none=>simp [hi'] at he
   | some j=>
     simp only [hi',mo,fV] at he
     subst he
     simp [execOp,si,wm,C,E,G,eA hd,A,sizeOf,jh hi',gv]
theorem vN {t n len cap:Nat} {a:Option Addr} {k:IntKind} {i:Int} (he:gA P t=some n) (A:ev N σ x= .slice a len cap) (C:ev N σ z= .int k i) (q:0≤i∧i≤cap):
 (execOp (ev N σ) ⟨dst,.slice t x none (some z) none,ty,pos,af,g⟩).run P w= .ok (.value<|.slice a i.toNat cap) w:=by
 have :=DA (dst:=dst) (ty:=ty) (pos :=pos) (af:=af) (g:=g) (w:=w) (lo:=none) (hi:=some<|.int k i) (l:=0) (h:=i.toNat) he A
  (by simp [o0,sj,asIntOf,q.1,q.2]) none (some z) rfl (by simp [C])
 rw [this]
 have hs:gv a cap 0 n=a:=by
  unfold gv; split
  · rfl
  · cases a <;> simp [zB]
 rw [hs]; rfl
theorem vO {t n len cap:Nat} {a:Option Addr} {k:IntKind} {i:Int} (he:gA P t=some n) (A:ev N σ x= .slice a len cap) (C:ev N σ y= .int k i) (q:0≤i∧i≤len):
 (execOp (ev N σ) ⟨dst,.slice t x (some y) none none,ty,pos,af,g⟩).run P w= .ok (.value<|.slice (gv a cap i.toNat n) (len - i.toNat)<|cap - i.toNat) w:=
 DA (lo:=some<|.int k i) (hi:=none) he A
  (by simp [o0,sj,asIntOf,q.1,q.2]) (some y) none (by simp [C]) rfl
theorem Yj {t n len cap:Nat} {a:Option Addr} {k k':IntKind} {i j:Int} (he:gA P t=some n) (A:ev N σ x= .slice a len cap) (C:ev N σ y= .int k i) (E:ev N σ z= .int k' j) (q:0≤i∧i≤j∧j≤cap):
 (execOp (ev N σ) ⟨dst,.slice t x (some y) (some z) none,ty,pos,af,g⟩).run P w= .ok (.value<|.slice (gv a cap i.toNat n) (j.toNat - i.toNat)<|cap - i.toNat) w:=by
 have h1:0≤j:=ab
 have h2:i≤(j.toNat:Int):=ab
 refine DA (lo:=some<|.int k i) (hi:=some<|.int k' j) he A ?_ (some y) (some z) (by simp [C])<|by simp [E]
 simp only [o0,sj,asIntOf,wy,zJ,wx,Eu,q.1,h1,q.2.2,h2,and_self,if_true]
theorem bY {n:Int} (h: -9223372036854775808≤n∧n≤9223372036854775807):zH.wrap n=n:=IntWalk.i64_in n h
theorem tV {n:Int} (h:0≤n∧n≤255):p9.wrap n=n:=IntWalk.u8_in n h
theorem oX {n:Int} (h:0≤n∧n≤18446744073709551615):eM.wrap n=n:=IntWalk.u64_in n h
theorem iv {k:IntKind} {a b:Int} (h:a=b):jk k a=jk k b:=by rw [h]
theorem ad {t C:TypeId} {k:IntKind} {a b:Int} (q:ev N σ x= .int k a) (A:ev N σ y= .int k b) (i:k.wrap (a+b)=a+b):
 (execOp (ev N σ) ⟨dst,.binOp .add t x y C,ty,pos,af,g⟩).run P w= .ok (.value<|.int k<|a+b) w:=by
 simp [execOp,q,A,eqGuard,binOp,wq,i]
theorem bF {t C:TypeId} {k:IntKind} {a b:Int} (v:Int) (q:ev N σ x= .int k a) (A:ev N σ y= .int k b) (i:k.wrap (a+b)=v):
 (execOp (ev N σ) ⟨dst,.binOp .add t x y C,ty,pos,af,g⟩).run P w= .ok (.value<|.int k v) w:=by
 subst i; simp [execOp,q,A,eqGuard,binOp,wq]
theorem dR {t C:TypeId} {k:IntKind} {a b:Int} (v:Int) (q:ev N σ x= .int k a) (A:ev N σ y= .int k b) (i:k.wrap (a - b)=v):
 (execOp (ev N σ) ⟨dst,.binOp .sub t x y C,ty,pos,af,g⟩).run P w= .ok (.value<|.int k v) w:=by
 subst i; simp [execOp,q,A,eqGuard,binOp,wq]
theorem oO {t C:TypeId} {k:IntKind} {a b:Int} (v:Int) (q:ev N σ x= .int k a) (A:ev N σ y= .int k b) (i:k.wrap (a*b)=v):
 (execOp (ev N σ) ⟨dst,.binOp .mul t x y C,ty,pos,af,g⟩).run P w= .ok (.value<|.int k v) w:=by
 subst i; simp [execOp,q,A,eqGuard,binOp,wq]
theorem bl {a:Int} {n:Nat} (h:a=n) (hn:n≤9223372036854775807):zH.wrap a=(n:Int):=by rw [h]; exact bY ab
theorem bv {p q:Prop} [Decidable p] [Decidable q] (h:p↔q):bU (decide p)=bU (decide q):=by rw [decide_eq_decide.2 h]
theorem sb {t C:TypeId} {k:IntKind} {a b:Int} (q:ev N σ x= .int k a) (A:ev N σ y= .int k b) (i:k.wrap (a - b)=a - b):
 (execOp (ev N σ) ⟨dst,.binOp .sub t x y C,ty,pos,af,g⟩).run P w= .ok (.value<|.int k<|a - b) w:=by
 simp [execOp,q,A,eqGuard,binOp,wq,i]
theorem qQ {t E:TypeId} {k:IntKind} {a b:Int} (v:Int) (A:ev N σ x= .int k a) (C:ev N σ y= .int k b) (i:0≤a∧0 < b) (q:k.wrap (a / b)=v):
 (execOp (ev N σ) ⟨dst,.binOp .quo t x y E,ty,pos,af,g⟩).run P w= .ok (.value<|.int k v) w:=by
 have :a.tdiv b=a / b:=Int.tdiv_eq_ediv_of_nonneg i.1
 subst q; simp [execOp,A,C,eqGuard,binOp,Op.intDiv,show b≠0 from by omega,this]
theorem lt {t A:TypeId} {k:IntKind} {a b:Int} (i:ev N σ x= .int k a) (q:ev N σ y= .int k b):
 (execOp (ev N σ) ⟨dst,.binOp .lss t x y A,ty,pos,af,g⟩).run P w= .ok (.value<|.bool<|decide (a < b)) w:=by
 simp [execOp,i,q,eqGuard,binOp,uc]
theorem le {t A:TypeId} {k:IntKind} {a b:Int} (i:ev N σ x= .int k a) (q:ev N σ y= .int k b):
 (execOp (ev N σ) ⟨dst,.binOp .leq t x y A,ty,pos,af,g⟩).run P w= .ok (.value<|.bool<|decide (a≤b)) w:=by
 simp [execOp,i,q,eqGuard,binOp,uc]
theorem gt {t A:TypeId} {k:IntKind} {a b:Int} (i:ev N σ x= .int k a) (q:ev N σ y= .int k b):
 (execOp (ev N σ) ⟨dst,.binOp .gtr t x y A,ty,pos,af,g⟩).run P w= .ok (.value<|.bool<|decide (b < a)) w:=by
 simp [execOp,i,q,eqGuard,binOp,uc]
theorem ge {t A:TypeId} {k:IntKind} {a b:Int} (i:ev N σ x= .int k a) (q:ev N σ y= .int k b):
 (execOp (ev N σ) ⟨dst,.binOp .geq t x y A,ty,pos,af,g⟩).run P w= .ok (.value<|.bool<|decide (b≤a)) w:=by
 simp [execOp,i,q,eqGuard,binOp,uc]
theorem bK {t A:TypeId} {k:IntKind} {a b:Int} (i:ev N σ x= .int k a) (q:ev N σ y= .int k b):
 (execOp (ev N σ) ⟨dst,.binOp .eql t x y A,ty,pos,af,g⟩).run P w= .ok (.value<|.bool<|decide (a=b)) w:=by
 simp [execOp,i,q,eqGuard,binOp,uc]
 rw [ua]; simp
theorem cO {t A:TypeId} {k:IntKind} {a b:Int} (i:ev N σ x= .int k a) (q:ev N σ y= .int k b):
 (execOp (ev N σ) ⟨dst,.binOp .neq t x y A,ty,pos,af,g⟩).run P w= .ok (.value<|.bool<|decide (a≠b)) w:=by
 simp [execOp,i,q,eqGuard,binOp,uc]
 rw [ua]; simp
theorem no {t:TypeId} {b:Bool} (a:ev N σ x= .bool b):(execOp (ev N σ) ⟨dst,.unOp .not t x,ty,pos,af,g⟩).run P w= .ok (.value<|.bool<|!b) w:=by
 simp [execOp,a,Em]
theorem Fu {t C:TypeId} {k:IntKind} {a b v:Int} (q:ev N σ x= .int k a) (A:ev N σ y= .int k b) (i:k.wrap (gx k.bits a ||| gx k.bits b).toNat=v):
 (execOp (ev N σ) ⟨dst,.binOp .or t x y C,ty,pos,af,g⟩).run P w= .ok (.value<|.int k v) w:=by
 subst i; simp [execOp,q,A,eqGuard,binOp,wu]
theorem fG {t C:TypeId} {k:IntKind} {a b v:Int} (q:ev N σ x= .int k a) (A:ev N σ y= .int k b) (i:k.wrap (gx k.bits a &&& gx k.bits b).toNat=v):
 (execOp (ev N σ) ⟨dst,.binOp .and t x y C,ty,pos,af,g⟩).run P w= .ok (.value<|.int k v) w:=by
 subst i; simp [execOp,q,A,eqGuard,binOp,wu]
theorem shr {t C:TypeId} {k E:IntKind} {a b v:Int} (q:ev N σ x= .int k a) (A:ev N σ y= .int E b) (G:0≤b) (i:a.fdiv (2 ^ min b.toNat k.bits)=v):
 (execOp (ev N σ) ⟨dst,.binOp .shr t x y C,ty,pos,af,g⟩).run P w= .ok (.value<|.int k v) w:=by
 have :¬b < 0:=ab
 simp [execOp,q,A,eqGuard,binOp,Op.shift,this,i]
theorem shl {t C:TypeId} {k E:IntKind} {a b v:Int} (q:ev N σ x= .int k a) (A:ev N σ y= .int E b) (G:0≤b) (i:k.wrap (a*2 ^ min b.toNat k.bits)=v):
 (execOp (ev N σ) ⟨dst,.binOp .shl t x y C,ty,pos,af,g⟩).run P w= .ok (.value<|.int k v) w:=by
 have :¬b < 0:=ab
 simp [execOp,q,A,eqGuard,binOp,Op.shift,this,i]
theorem zn (m:Nat) (h:m < 256):((j7 m).toNat:Int)=(m:Int):=by
 simp [Nat.mod_eq_of_lt h]
theorem cv {t u:TypeId} {k k':IntKind} {n:Int} (hu:P.underlying u=some (.int k')) (a:(P.underlying t).isSome=true) (i:ev N σ x= .int k n):
 (execOp (ev N σ) ⟨dst,.convert t u x,ty,pos,af,g⟩).run P w= .ok (.value<|.int k'<|k'.wrap n) w:=by
 obtain ⟨d,hd⟩:=ph.1 a
 cases d <;> simp [execOp,i,convert,eA hu,eA hd,Conv.intToInt]
theorem lM {t u:TypeId} {k k':IntKind} {n v:Int} (hu:P.underlying u=some (.int k')) (i:(P.underlying t).isSome=true) (q:ev N σ x= .int k n) (a:k'.wrap n=v):
 (execOp (ev N σ) ⟨dst,.convert t u x,ty,pos,af,g⟩).run P w= .ok (.value<|.int k' v) w:=by
 rw [cv hu i q,a]
theorem xH {t u:TypeId} {k k':IntKind} {n:Int} (hu:P.underlying u=some (.int k')) (i:(P.underlying t).isSome=true) (q:ev N σ x= .int k n) (a:k'.wrap n=n):
 (execOp (ev N σ) ⟨dst,.convert t u x,ty,pos,af,g⟩).run P w= .ok (.value<|.int k' n) w:=by
 rw [cv hu i q,a]
theorem Ta (d:Nat) {t e:TypeId} {a:Option Addr} (hu:P.underlying t=some (.pointer e)):(o4 (d+1) t (.pointer a)<|.pointer none).run P w= .ok a.isNone w:=by
 cases a <;> simp [o4,eA hu]
theorem Hx {t e:TypeId} {a:Option Addr} (hu:P.underlying t=some (.pointer e)):(Ek t (.pointer a)<|.pointer none).run P w= .ok a.isNone w:=Ta 9999 hu
theorem lN {t A e:TypeId} {a:Option Addr} (hu:P.underlying t=some (.pointer e)) (i:ev N σ x= .pointer a) (q:ev N σ y= .pointer none):
 (execOp (ev N σ) ⟨dst,.binOp .eql t x y A,ty,pos,af,g⟩).run P w= .ok (.value<|.bool a.isNone) w:=by
 have h:(binOp .eql t (.pointer a)<|.pointer none).run P w= .ok (.bool a.isNone) w:=by
  simp only [binOp]; simp [Hx hu]
 simp [execOp,i,q,eqGuard,h]
theorem CP {t A e:TypeId} {a:Option Addr} (hu:P.underlying t=some (.pointer e)) (i:ev N σ x= .pointer a) (q:ev N σ y= .pointer none):
 (execOp (ev N σ) ⟨dst,.binOp .neq t x y A,ty,pos,af,g⟩).run P w= .ok (.value<|.bool a.isSome) w:=by
 have h:(binOp .neq t (.pointer a)<|.pointer none).run P w= .ok (.bool a.isSome) w:=by
  simp only [binOp]; simp [Hx hu]
 simp [execOp,i,q,eqGuard,h]
theorem S6 (d:Nat) {t:TypeId} {a b:Bool} (hu:P.underlying t=some .bool):(o4 (d+1) t (.bool a)<|.bool b).run P w= .ok (a==b) w:=by
 simp [o4,eA hu]
theorem S7 {t:TypeId} {a b:Bool} (hu:P.underlying t=some .bool):(Ek t (.bool a)<|.bool b).run P w= .ok (a==b) w:=S6 9999 hu
theorem Hv {t A:TypeId} {a b:Bool} (hu:P.underlying t=some .bool) (i:ev N σ x= .bool a) (q:ev N σ y= .bool b):
 (execOp (ev N σ) ⟨dst,.binOp .eql t x y A,ty,pos,af,g⟩).run P w= .ok (.value<|.bool<|decide (a=b)) w:=by
 have h:(binOp .eql t (.bool a)<|.bool b).run P w= .ok (.bool<|decide (a=b)) w:=by
  simp only [binOp]; simp [S7 hu]; cases a <;> cases b <;> rfl
 simp [execOp,i,q,eqGuard,h]
def str (l:List UInt8):Value:= .string ⟨⟨l⟩⟩
theorem cz {t:TypeId} {l:List UInt8} {at_:Array TypeId} (i:P.underlying t=some .string) (a:at_= #[t]) (q:ev N σ x=str l):
 (execOp (ev N σ) ⟨dst,.call ⟨.builtin .len,#[x],at_⟩,ty,pos,af,g⟩).run P w= .ok (.value<|.int .i64 l.length) w:=by
 subst a
 simp [execOp,resolve,invoke,builtin,MV,eA i,q,str,goInt]
 rfl
theorem bJ {t e:TypeId} {a:Option Addr} {n c:Nat} {at_:Array TypeId} (q:P.underlying t=some (.slice e)) (i:at_= #[t]) (A:ev N σ x= .slice a n c):
 (execOp (ev N σ) ⟨dst,.call ⟨.builtin .len,#[x],at_⟩,ty,pos,af,g⟩).run P w= .ok (.value<|.int .i64 n) w:=by
 subst i
 simp [execOp,resolve,invoke,builtin,MV,eA q,A,goInt]
theorem mn {k:IntKind} {a b:Int} {at_:Array TypeId} (i:ev N σ x= .int k a) (q:ev N σ y= .int k b):
 (execOp (ev N σ) ⟨dst,.call ⟨.builtin .min,#[x,y],at_⟩,ty,pos,af,g⟩).run P w= .ok (.value<|.int k<|min a b) w:=by
 have :(if b < a then b else a)=min a b:=ab
 simp [execOp,resolve,invoke,builtin,Builtin.min_,Builtin.min2,i,q,this]
theorem Vo {t:TypeId} {l:List UInt8} {k:IntKind} {i:Int} (C:P.underlying t=some .string) (E:ev N σ x=str l) (G:ev N σ y= .int k i) (q:0≤i∧i < l.length):
 (execOp (ev N σ) ⟨dst,.index t x y,ty,pos,af,g⟩).run P w= .ok (.value<|.int .u8 ((l.getD i.toNat 0).toNat:Int)) w:=by
 have hs:(⟨⟨l⟩⟩:ByteArray)[i.toNat]? =some (l.getD i.toNat 0):=by
  have a:i.toNat < l.length:=ab
  have A:i.toNat < (⟨⟨l⟩⟩:ByteArray).size:=a
  rw [getElem?_pos (⟨⟨l⟩⟩:ByteArray) i.toNat A]
  simp [da,a,ByteArray.getElem_eq_getElem_data]
 simp [execOp,Instr.index,E,G,asIntOf,str,eA C,q.1,hs]
theorem Dz (l:List UInt8) (a b:Nat):Value.string ((⟨⟨l⟩⟩:ByteArray).extract a b)=str ((l.take b).drop a):=by
 unfold str
 congr 1
 apply ByteArray.ext
 simp [ByteArray.data_extract,List.extract_eq_take_drop,su]
theorem je (n:Nat) {t:TypeId} {l:List UInt8} {k:IntKind} (a:P.underlying t=some .string) (i:ev N σ x=str l) (q:ev N σ y= .int k (n:Int)) (h:n < l.length):
 (execOp (ev N σ) ⟨dst,.index t x y,ty,pos,af,g⟩).run P w= .ok (.value<|.int .u8 ((l.getD n 0).toNat:Int)) w:=Vo a i q ⟨ab,ab⟩
theorem eX {n:Nat} {t:TypeId} {l:List UInt8} {k:IntKind} (a:P.underlying t=some .string) (i:ev N σ x=str l) (q:ev N σ y= .int k (n:Int)) (h:n < l.length):
 (execOp (ev N σ) ⟨dst,.index t x y,ty,pos,af,g⟩).run P w= .ok (.value<|.int .u8 ((l.getD n 0).toNat:Int)) w:=je n a i q h
theorem mg {t:TypeId} {l:List UInt8} {k k':IntKind} {a b:Int} (q:P.underlying t=some .string) (A:ev N σ x=str l) (C:ev N σ y= .int k a) (E:ev N σ z= .int k' b) (i:0≤a∧a≤b∧b≤l.length):
 (execOp (ev N σ) ⟨dst,.slice t x (some y) (some z) none,ty,pos,af,g⟩).run P w= .ok (.value<|str<|(l.take b.toNat).drop a.toNat) w:=by
 have h1:b≤((⟨⟨l⟩⟩:ByteArray).size:Nat):=i.2.2
 have h2:0≤b:=ab
 have h3:a≤(b.toNat:Nat):=ab
 simp [execOp,si,wm,o0,sj,A,C,E,asIntOf,str,eA q,i.1,h1,h2]
 rw [if_pos ab]
 exact congrArg (fun v=>Ep (Ej v) w)<|Dz l a.toNat b.toNat
theorem r5 {t:TypeId} {l:List UInt8} {k':IntKind} {b:Int} (i:P.underlying t=some .string) (q:ev N σ x=str l) (A:ev N σ z= .int k' b) (a:0≤b∧b≤l.length):
 (execOp (ev N σ) ⟨dst,.slice t x none (some z) none,ty,pos,af,g⟩).run P w= .ok (.value<|str<|l.take b.toNat) w:=by
 have h1:b≤((⟨⟨l⟩⟩:ByteArray).size:Nat):=a.2
 have :=Dz l 0 b.toNat
 simp only [wP] at this
 simp [execOp,si,wm,o0,sj,q,A,asIntOf,str,eA i,a.1,h1]
 exact Nn this
theorem mh {t:TypeId} {l:List UInt8} {k:IntKind} {a:Int} (q:P.underlying t=some .string) (A:ev N σ x=str l) (C:ev N σ y= .int k a) (i:0≤a∧a≤l.length):
 (execOp (ev N σ) ⟨dst,.slice t x (some y) none none,ty,pos,af,g⟩).run P w= .ok (.value<|str<|l.drop a.toNat) w:=by
 have h1:a≤((⟨⟨l⟩⟩:ByteArray).size:Nat):=i.2
 have :=Dz l a.toNat l.length
 simp only [List.take_length] at this
 simp [execOp,si,wm,o0,sj,A,C,asIntOf,str,eA q,i.1,h1]
 exact Nn this
theorem LS (l:List UInt8):(⟨⟨l⟩⟩:ByteArray).toList=l:=Lib.toList_data ⟨⟨l⟩⟩
theorem cc {t q:TypeId} {l m:List UInt8} (a:ev N σ x=str l) (i:ev N σ y=str m) (h:l.length+m.length≤9223372036854775807):
 (execOp (ev N σ) ⟨dst,.binOp .add t x y q,ty,pos,af,g⟩).run P w= .ok (.value<|str<|l++m) w:=by
 have h1:¬(((⟨⟨l⟩⟩:ByteArray).size+(⟨⟨m⟩⟩:ByteArray).size:Nat):Int) > zH.max:=by
  have :zH.max=9223372036854775807:=az
  rw [this]
  show ¬((l.length+m.length:Nat):Int) > _
  omega
 have h2:(⟨⟨l⟩⟩:ByteArray)++(⟨⟨m⟩⟩:ByteArray)=⟨⟨l++m⟩⟩:=by
  apply ByteArray.ext; simp
 simp only [execOp,a,i,str,eqGuard,binOp,El]
 rw [if_neg h1,h2]
 rfl
theorem dZ {t q:TypeId} {l m:List UInt8} (a:ev N σ x=str l) (i:ev N σ y=str m):
 (execOp (ev N σ) ⟨dst,.binOp .eql t x y q,ty,pos,af,g⟩).run P w= .ok (.value<|.bool<|decide (l=m)) w:=by
 simp only [execOp,a,i,str,eqGuard,binOp,El,LS]
 show Ep (Ej<|.bool<|l==m) w=_
 rw [show (l==m)=decide (l=m) from by rw [ua]; simp]
theorem oQ {t q:TypeId} {l m:List UInt8} (a:ev N σ x=str l) (i:ev N σ y=str m):
 (execOp (ev N σ) ⟨dst,.binOp .neq t x y q,ty,pos,af,g⟩).run P w= .ok (.value<|.bool<|decide (l≠m)) w:=by
 simp only [execOp,a,i,str,eqGuard,binOp,El,LS]
 show Ep (Ej<|.bool<|!(l==m)) w=_
 rw [show (!(l==m))=decide (l≠m) from by rw [ua]; simp]
theorem mf {fn:Fn} {first captured:Array Operand} :(execOp (ev N σ) ⟨dst,.makeFunc fn first captured,ty,pos,af,g⟩).run P w= .ok (.value<|.func fn (first.map<|ev N σ)<|captured.map<|ev N σ) w:=rfl
theorem CM {fn:Fn} {first captured:Array Operand} :(execOp (ev N σ) ⟨dst,.makeFunc fn first captured,ty,pos,af,g⟩).run P w= .ok (.value<|.func fn (first.toList.map<|ev N σ).toArray (captured.toList.map<|ev N σ).toArray) w:=by
 rw [mf,← nz,← nz]
end
end Go.Hb
namespace Go.Hb
def bP (h:Array Obj) (b:Nat) (L:List Value):Prop := ∃ e,h[b]? =some (.cells L.toArray e (0,0))
theorem bP.aR {h:Array Obj} {b:Nat} {L:List Value} (a:bP h b L) (j:Nat):Hb.aR h b j=L[j]? :=by
 obtain ⟨e,a⟩:=a
 rw [a7 a]; simp
theorem bP.bG {h:Array Obj} {b:Nat} {L:List Value} (a:bP h b L) (j:Nat):Hb.aR h b (0 +j)=L[j]? :=by
 rw [gW,a.aR]
theorem Md.B {F:Nat→Prop} {w w':World} (h:Md F w w') {b:Nat} {L:List Value} (a:bP w.heap b L) (i:¬F b):bP w'.heap b L:=
 let ⟨e,a⟩:=a; ⟨e,h.aJ a i⟩
theorem Wk.B {w w':World} (h:Wk w w') {b:Nat} {L:List Value} (a:bP w.heap b L):bP w'.heap b L:=Md.B h a id
theorem bP.lt {h:Array Obj} {b:Nat} {L:List Value} (a:bP h b L):b < h.size:=let ⟨_,a⟩:=a; (dB.1 a).1
def bk (a:Option Addr):Nat:=match a with | some ad=>ad.block | none=>0
def fo (a:Option Addr):Nat:=match a with | some ad=>ad.off | none=>0
structure aO (h:Array Obj) (a:Option Addr) (xs:List Value):Prop where
 ok:xs≠[]→a=some ⟨bk a,fo a,none⟩
 aR:∀ j u,xs[j]? =some u→Hb.aR h (bk a) (fo a+j)=some u
theorem aO.nil (h:Array Obj) (a:Option Addr):aO h a []:=⟨fun h=>absurd rfl h,fun _ _ hu=>by simp at hu⟩
theorem aO.md {F:Nat→Prop} {w w':World} {a:Option Addr} {xs:List Value} (i:aO w.heap a xs) (h:Md F w w') (q:xs≠[]→¬F (bk a)):aO w'.heap a xs:=
 ⟨i.ok,fun j u hu=>h.aR (i.aR j u hu)<|q<|by rintro rfl; simp at hu⟩
theorem aO.wk {w w':World} {a:Option Addr} {xs:List Value} (i:aO w.heap a xs) (h:Wk w w'):aO w'.heap a xs:=i.md h fun _ x=>x
theorem aO.take {h:Array Obj} {a:Option Addr} {xs:List Value} (i:aO h a xs) (n:Nat):aO h a (xs.take n):=
 ⟨fun q=>i.ok (by rintro rfl; simp at q),fun j u hu=>i.aR j u<|by rw [o6] at hu; split at hu; exact hu; cases hu⟩
theorem aO.ec {h:Array Obj} {b:Nat} {L:List Value} (a:bP h b L):aO h (some ⟨b,0,none⟩) L:=
 ⟨fun _=>rfl,fun j u hu=>by show Hb.aR h b (0 +j)=_; rw [gW,a.aR]; exact hu⟩
theorem aO.gN {h:Array Obj} {a:Option Addr} {xs:List Value} (q:aO h a xs) {i:Nat} {u:Value} (hu:xs[i]? =some u):Hb.aR h (bk a) (fo a+i*1)=some u:=by
 rw [Nat.mul_one]; exact q.aR i u hu
def cj (h:Array Obj) (a:Option Addr) (l:List (List UInt8)):Prop :=aO h a<|l.map str
theorem cj.get {h:Array Obj} {a:Option Addr} {l:List (List UInt8)} (hs:cj h a l) {i:Nat} (hi:i < l.length):Hb.aR h (bk a) (fo a+i*1)=some (str<|l.getD i []):=
 aO.gN hs (by simp [da,hi])
theorem cj.wk {w w':World} {a:Option Addr} {l:List (List UInt8)} (hs:cj w.heap a l) (h:Wk w w'):cj w'.heap a l:=aO.wk hs h
theorem bT {α:Type} {f:α→Value} {l:List α} (h:0 < l.length):l.map f≠[]:=by
 cases l with
 | nil=>simp at h
 | cons x l=>simp
def aaa (k:IntKind) (h:Array Obj) (a:Option Addr) (l:List Int):Prop :=aO h a<|l.map<|jk k
def gi (P:Program) (t e size bytes:Nat):Bool:=
 match P.underlying t with
 | some (.slice a)=>a==e && match P.info? e with
   | some i=>i.size==size && i.bytes==bytes && gG 0 size && match i.zero with
     | some z=>z.cells.size==size
     | none=>false
   | none=>false
 | _=>false
theorem r4 {P:Program} {t e size bytes:Nat} (h:gi P t e size bytes=true):
 P.underlying t=some (.slice e)∧∃ i z,P.info? e=some i∧i.zero=some z∧i.size=size∧i.bytes=bytes∧z.cells.size=size∧0 < size:=by
 unfold gi at h
 split at h
 · rename_i q hu
   simp only [gU,beq_iff_eq] at h
   obtain ⟨rfl,h⟩:=h
   split at h
   · rename_i i hi
     simp only [gU,beq_iff_eq] at h
     obtain ⟨⟨⟨h1,h2⟩,h3⟩,h4⟩:=h
     split at h4
     · rename_i z a
       exact ⟨hu,i,z,hi,a,h1,h2,by simpa using h4,sy (ux 0)<|uw h3⟩
     · cases h4
   · cases h
 · cases h
def et (P:Program) (t:TypeId):Option Nat:=(P.info? t).map (·.size)
def zeroOf (P:Program) (t:TypeId):Option (Option<|List Value):=(P.info? t).map fun i=>i.zero.map fun z=>z.cells.toList
def bo (P:Program) (f:FuncId):Prop := ∀ args w,(callFunc f args).run P w= .ok (.enter f args) w
theorem QT {P:Program} {f:FuncId} {fn:Func} (i:P.funcs[f]? =some fn) (hn:(fn.name== "runtime.NumGoroutine")=false) (a:fn.body.isNone=false):bo P f:=by
 intro args w
 have h1:¬((fn.name== "runtime.NumGoroutine")=true):=by rw [hn]; simp
 have h2:¬(fn.body.isNone=true):=by rw [a]; simp
 simp only [callFunc,wy,run_program,wx,i]
 rw [if_neg h1,if_neg h2]
 rfl
section
variable {P:Program} {N:Fm} {σ:Nat→Value} {w:World} {dst:Option Nat} {ty:TypeId} {pos :String} {af:Array Edge} {g:Option (Nat×Bool)} {x y z:Operand} {K:(Nat→Value)→World→Prop}
theorem ZL {o:Oper} {f:FuncId} {L:List Value} {R:Value→World→Prop} (q:(execOp (ev N σ) o).run P w= .ok (.enter f L.toArray) w) (i:bp P f L.toArray w R)
 (k:∀ v w',R v w'→K (iO σ o.dst v) w'):dV P N o σ w K:=by
 unfold dV j0
 rw [hU,q]
 refine lE i fun e w' ⟨v,he,a⟩=> ?_
 subst he
 exact ⟨_,jJ ..,k v w' a⟩
theorem cl {f:FuncId} {args:Array Operand} {a:Array TypeId} {L:List Value} {R:Value→World→Prop} (q:bo P f) (A:bp P f L.toArray w R) (i:args.toList.map (ev N σ)=L)
 (k:∀ v w',R v w'→K (iO σ dst v) w'):dV P N ⟨dst,.call ⟨.value (.func f),args,a⟩,ty,pos,af,g⟩ σ w K:=by
 refine ZL (f:=f) ?_ A k
 have :args.map (ev N σ)=L.toArray:=by rw [← i,← nz]
 simp [execOp,resolve,ev,qY,invoke,this,q L.toArray w]
theorem oV {o:Oper} {ob:Obj} {v:Nat→Value} (a:(execOp (ev N σ) o).run P w= .ok (.value<|v w.heap.size) {w with heap:=w.heap.push ob})
 (k:∀ b w',b=w.heap.size→Nw w w'→w'.heap[b]? =some ob→K (iO σ o.dst<|v b) w'):dV P N o σ w K:=
 oh a (k _ _ rfl (CV w ob) (by simp))
theorem al {e:TypeId} {q:List Value} (a:zeroOf P e=some (some q)) (k:∀ b w',b=w.heap.size→Nw w w'→bP w'.heap b q→K (iO σ dst<|.pointer<|some ⟨b,0,none⟩) w'):
 dV P N ⟨dst,.alloc e,ty,pos,af,g⟩ σ w K:=by
 refine oV (v:=fun b=> .pointer<|some ⟨b,0,none⟩) (ob:= .cells q.toArray e (0,0)) ?_ fun b w' h1 h2 h3=>k b w' h1 h2 ⟨e,h3⟩
 unfold zeroOf at a
 simp only [pj] at a
 obtain ⟨i,hi,zv,A,rfl⟩:=a
 simp [execOp,M5,zeroValue,jh hi,A,newVar,newRow]
theorem fg {e:TypeId} {q:List Value} (a:zeroOf P e=some (some q)) (k:∀ b w',b=w.heap.size→Nw w w'→w'.heap[b]? =some (.cells q.toArray e (0,0))→K (iO σ dst<|.pointer<|some ⟨b,0,none⟩) w'):
 dV P N ⟨dst,.alloc e,ty,pos,af,g⟩ σ w K:=by
 refine oV (v:=fun b=> .pointer<|some ⟨b,0,none⟩) (ob:= .cells q.toArray e (0,0)) ?_ k
 unfold zeroOf at a
 simp only [pj] at a
 obtain ⟨i,hi,zv,A,rfl⟩:=a
 simp [execOp,M5,zeroValue,jh hi,A,newVar,newRow]
theorem bx {e:TypeId} {v:Value} {L:List Value} (i:ev N σ x=v) (a:v.cells.toList=L) (k:∀ b w',b=w.heap.size→Nw w w'→bP w'.heap b L→K (iO σ dst<|.pointer<|some ⟨b,0,none⟩) w'):
 dV P N ⟨dst,.box e x,ty,pos,af,g⟩ σ w K:=by
 subst a
 refine oV (v:=fun b=> .pointer<|some ⟨b,0,none⟩) (ob:= .cells v.cells e (0,0)) ?_ fun b w' h1 h2 h3=>k b w' h1 h2 ⟨e,h3⟩
 simp [execOp,Instr.box,i,newVar,newRow]
theorem vt {t:TypeId} (k:∀ b w',b=w.heap.size→Nw w w'→w'.heap[b]? =some (.map #[] 0)→K (iO σ dst<|.map<|some b) w'):dV P N ⟨dst,.makeMap t none,ty,pos,af,g⟩ σ w K:=by
 refine oV (v:=fun b=> .map<|some b) ?_ k
 simp [execOp,Instr.makeMap]
theorem m7 {t e:TypeId} {size bytes:Nat} (q:gi P t e size bytes=true)
 (k:∀ b w',b=w.heap.size→Nw w w'→(∀ B,B≤b→w'.ownsRow B e size (.slice (some ⟨b,0,none⟩) 0 0) 0 [])→K (iO σ dst<|.slice (some ⟨b,0,none⟩) 0 0) w'):dV P N ⟨dst,.buildSlice t 0 #[],ty,pos,af,g⟩ σ w K:=by
 refine oV (v:=fun b=> .slice (some ⟨b,0,none⟩) 0 0) (ob:= .cells #[] e (0,0)) ?_ fun b w' h1 h2 h3=>k b w' h1 h2 fun B a=>⟨by simp,.inr ⟨b,0,#[],aa,a,h3,cD _,by simp [maxLen],by simp,by simp⟩⟩
 obtain ⟨hu,i,zv,hi,A,h1,h2,h3,h4⟩:=r4 q
 simp [execOp,Ee,eA hu,sizeOf,jh hi,oZ,newRow]
 congr 2
 exact Array.eq_empty_of_size_eq_zero<|by simp
theorem O0 {t e:TypeId} {size bytes:Nat} {v:Value} {L:List Value} (G:gi P t e size bytes=true) (hs:o8 size 1000=true) (J:ev N σ x=v) (I:v.cells.size=size)
 (A:v.cells.toList=L) (k:∀ b w',b=w.heap.size→Nw w w'→w'.heap[b]? =some (.cells L.toArray e (0,0))→K (iO σ dst<|.slice (some ⟨b,0,none⟩) 1 1) w'):dV P N ⟨dst,.buildSlice t 1 #[(0,x)],ty,pos,af,g⟩ σ w K:=by
 subst A
 refine oV (v:=fun b=> .slice (some ⟨b,0,none⟩) 1 1) (ob:= .cells v.cells e (0,0)) ?_ fun b w' h1 h2 h3=>k b w' h1 h2<|by simpa using h3
 obtain ⟨hu,i,zv,hi,M,h1,h2,h3,h4⟩:=r4 G
 have U:size≤1000:=by simpa using hs
 have C:oZ (fun i=>some (i*size,size)) ((tY size).map (zv.cells[· % zv.cells.size]!)) [(0,v)]=some v.cells:=by
  have a:((tY size).map (zv.cells[· % zv.cells.size]!)).size=size:=by simp
  generalize (tY size).map (zv.cells[· % zv.cells.size]!)=cs at a
  simp only [oZ,I]
  rw [if_neg (by rw [a]; simp)]
  congr 1
  have key:∀ (l:List Value) (m:Nat) (cs:Array Value),m+l.length≤cs.size→∀ j,((l.zipIdx m).foldl (fun (cs:Array Value) (c,j)=>cs.setIfInBounds (0 *size+j) c) cs)[j]? =if j < m then cs[j]? else if j < m+l.length then l[j - m]? else cs[j]? :=by
   intro l
   induction l with
   | nil=>intro m cs hm j; simp; intro h1 h2; omega
   | cons c l O=>
     intro m cs hm j
     simp only [NV,sv,c7] at hm ⊢
     rw [O (m+1) _ (by simp; omega)]
     simp only [EL,gW,D6]
     by_cases h1:j < m
     · rw [if_pos ab,if_pos h1,if_neg ab]
     · rw [if_neg h1]
       by_cases h2:j=m
       · subst h2
         rw [if_pos ab,if_pos rfl,if_pos ab,if_pos ab]
         simp
       · rw [if_neg ab]
         by_cases h3:j < m+1 +l.length
         · rw [if_pos h3,if_pos ab]
           obtain ⟨q,E⟩:∃ q,j - m=q+1:=⟨j - m - 1,ab⟩
           rw [E,NG,show j - (m+1)=q from by omega]
         · rw [if_neg h3,if_neg ab,if_neg ab]
  apply MJ
  intro j
  have :=key v.cells.toList 0 cs (by simp; omega) j
  rw [show (v.cells.zipIdx.foldl (fun (cs:Array Value) (c,j)=>cs.setIfInBounds (0 *size+j) c) cs)=((v.cells.toList.zipIdx 0).foldl (fun (cs:Array Value) (c,j)=>cs.setIfInBounds (0 *size+j) c) cs) from by
   rw [← Array.foldl_toList]; simp [Array.toList_zipIdx]]
  rw [this]
  simp only [Nat.not_lt_zero,if_false,gW,Nat.sub_zero,wc,D7]
  split
  · rfl
  · rw [tX ab,tX ab]
 simp only [execOp,Ee,wy,eA hu,wx,sizeOf,jh hi,zJ,h1,Nat.one_mul,Eu,zeroValue,M,List.map_toArray,um,List.map_nil,J,C]
 rw [if_neg (by rw [show (2:Nat) ^ 24=16777216 from rfl]; omega),if_neg ab]
 simp [newRow]
theorem Fy {t e:TypeId} {size bytes:Nat} {v:Value} {L:List Value} (i:gi P t e size bytes=true) (hs:o8 size 1000=true) (A:ev N σ x=v) (q:v.cells.size=size)
 (a:v.cells.toList=L) (k:∀ b w',b=w.heap.size→Nw w w'→bP w'.heap b L→K (iO σ dst<|.slice (some ⟨b,0,none⟩) 1 1) w'):dV P N ⟨dst,.buildSlice t 1 #[(0,x)],ty,pos,af,g⟩ σ w K:=
 O0 i hs A q a fun b w' h1 h2 h3=>k b w' h1 h2 ⟨_,h3⟩
theorem qO {v:Value} (h:v.oneCell'=true):v.cells= #[v]:=by cases v <;> first | rfl | (cases h; done)
theorem HJ {loc:Nat→Option (Nat×Nat)} (A:∀ i,loc i=some (i*1,1)):∀ (rest pre a:List Value),a.length=rest.length→rest.all gF=true→
 oZ loc (pre++a).toArray ((rest.zipIdx pre.length).map fun q=>(q.2,q.1))=some (pre++rest).toArray
 | [],pre,a,hl,_=>by
   rw [fY hl]; rfl
 | v::r,pre,a,hl,h1=>by
   cases a with
   | nil=>simp at hl
   | cons z a=>
     rw [uh,gU] at h1
     have E:=qO h1.1
     have C:=HJ A r (pre++ [v]) a (by simpa using hl) h1.2
     simp only [NV,um,oZ,A,E]
     rw [if_neg (by simp)]
     simp only [bM,e9,dH,List.singleton_append] at C
     rw [← C]
     simp
theorem sT {t e bytes n:Nat} {ps:Array (Nat×Operand)} {L:List Value} (C:gi P t e 1 bytes=true) (hp:ps.toList.map (fun p=>(p.1,ev N σ p.2))=(L.zipIdx 0).map fun q=>(q.2,q.1)) (h1:L.all gF=true) (hn:L.length=n) (hs:(o8 n 1000 && gG 0 n)=true)
 (k:∀ b w',b=w.heap.size→Nw w w'→w'.heap[b]? =some (.cells L.toArray e (0,0))→K (iO σ dst<|.slice (some ⟨b,0,none⟩) n n) w'):dV P N ⟨dst,.buildSlice t n ps,ty,pos,af,g⟩ σ w K:=by
 subst hn
 refine oV (v:=fun b=> .slice (some ⟨b,0,none⟩) L.length L.length) (ob:= .cells L.toArray e (0,0)) ?_ k
 obtain ⟨hu,i,zv,hi,E,a,h2,h3,h4⟩:=r4 C
 simp only [gU] at hs
 have I:L.length≤1000:=by simpa using hs.1
 have J:0 < L.length:=by have :=uw hs.2; omega
 have A:oZ (fun i=>some (i*1,1)) ((tY<|L.length*1).map (zv.cells[· % zv.cells.size]!)) (ps.toList.map fun p=>(p.1,ev N σ p.2))=some L.toArray:=by
  rw [hp]
  have G:((tY<|L.length*1).map (zv.cells[· % zv.cells.size]!)).toList.length=L.length:=by simp
  have :=HJ (loc:=fun i=>some (i*1,1)) (fun _=>rfl) L [] ((tY<|L.length*1).map (zv.cells[· % zv.cells.size]!)).toList G h1
  rw [qc,qc,MN] at this
  exact this
 simp only [execOp,Ee,wy,eA hu,wx,sizeOf,jh hi,zJ,a,Eu,zeroValue,E,nz,A]
 rw [if_neg (by rw [show (2:Nat) ^ 24=16777216 from rfl]; omega),if_neg ab]
 simp [newRow]
theorem fZ {t e:TypeId} {bytes:Nat} {v:Value} (a:gi P t e 1 bytes=true) (i:ev N σ x=v) (h1:v.oneCell'=true)
 (k:∀ b w',b=w.heap.size→Nw w w'→bP w'.heap b [v]→K (iO σ dst<|.slice (some ⟨b,0,none⟩) 1 1) w'):dV P N ⟨dst,.buildSlice t 1 #[(0,x)],ty,pos,af,g⟩ σ w K:=
 Fy a rfl i (by rw [qO h1]; rfl) (by rw [qO h1]) k
theorem kQ {t e:TypeId} {size bytes:Nat} {L:List Value} (i:gi P t e size bytes=true) (hs:o8 size 1000=true) (q:ev N σ x= .agg L.toArray) (a:L.length=size)
 (k:∀ b w',b=w.heap.size→Nw w w'→bP w'.heap b L→K (iO σ dst<|.slice (some ⟨b,0,none⟩) 1 1) w'):dV P N ⟨dst,.buildSlice t 1 #[(0,x)],ty,pos,af,g⟩ σ w K:=
 Fy i hs q (by simpa [ug] using a) (by simp [ug]) k
theorem iZ {e:TypeId} {L:List Value} (a:ev N σ x= .agg L.toArray) (k:∀ b w',b=w.heap.size→Nw w w'→bP w'.heap b L→K (iO σ dst<|.pointer<|some ⟨b,0,none⟩) w'):
 dV P N ⟨dst,.box e x,ty,pos,af,g⟩ σ w K:=bx a (by simp [ug]) k
theorem oE {e:TypeId} {L:List Value} (a:ev N σ x= .agg L.toArray) (k:∀ b w',b=w.heap.size→Nw w w'→w'.heap[b]? =some (.cells L.toArray e (0,0))→K (iO σ dst<|.pointer<|some ⟨b,0,none⟩) w'):
 dV P N ⟨dst,.box e x,ty,pos,af,g⟩ σ w K:=by
 refine oV (v:=fun b=> .pointer<|some ⟨b,0,none⟩) (ob:= .cells L.toArray e (0,0)) ?_ fun b w' h1 h2 h3=>k b w' h1 h2 h3
 simp [execOp,Instr.box,a,newVar,newRow,ug]
theorem uD {l:List Value} (h:l.all gF=true):∀ u∈l,u.oneCell'=true :=ml.1 h
theorem cT {t b off :Nat} {e:TypeId} {L:List Value} {v:Value} (q:et P t=some 1) (U:ev N σ x= .pointer (some ⟨b,off,none⟩)) (V:ev N σ y=v) (h1:v.oneCell'=true) (a:w.heap[b]? =some (.cells L.toArray e (0,0))) (J:off < L.length)
 (k:∀ w',Md (fun k=>k=b) w w'→w'.heap[b]? =some (.cells (L.set off v).toArray e (0,0))→K σ w'):dV P N ⟨none,.store t x y,ty,pos,af,g⟩ σ w K:=by
 have C:v.cells= #[v]:=by cases v <;> first | rfl | (cases h1; done)
 have E:w.cell? ⟨b,off,none⟩=some L[off]:=by rw [nL,a7 a]; simp [J]
 have G:w.frozen? ⟨b,off,none⟩=false :=by simp only [World.frozen?,show w.heap[b]? =_ from a]; simp
 unfold et at q
 simp only [pj] at q
 obtain ⟨i,hi,hs⟩:=q
 have A:(⟨b,off,none⟩:Addr).add 0=⟨b,off,none⟩:=rfl
 have M:(execOp (ev N σ) ⟨none,.store t x y,ty,pos,af,g⟩).run P w= .ok .skip (w.setCell ⟨b,off,none⟩ v):=by
  simp [execOp,Ei,U,V,qZ,storeVar,C,sizeOf,jh hi,hs,storeCells,A,run_store P w _ v _ h1,E,G]
 unfold dV j0
 rw [hU,M]
 refine ⟨σ,aa,k _ ⟨aa,aa,by simp [zO],fun k _ hk=> ?_⟩ ?_⟩
 · exact Below.heap_setCell w _ v k hk
 · have I:=(dB.1 a).1
   have O:w.heap[b]= .cells L.toArray e (0,0):=(dB.1 a).2
   simp only [zO]
   rw [zy (by simpa using I),Array.getElem_modify]
   simp [O,List.setIfInBounds_toArray]
theorem st {t b off :Nat} {L:List Value} {v:Value} (C:et P t=some 1) (q:ev N σ x= .pointer (some ⟨b,off,none⟩)) (A:ev N σ y=v) (h1:v.oneCell'=true) (a:bP w.heap b L) (i:off < L.length)
 (k:∀ w',Md (fun k=>k=b) w w'→bP w'.heap b (L.set off v)→K σ w'):dV P N ⟨none,.store t x y,ty,pos,af,g⟩ σ w K:=
 let ⟨_,a⟩:=a
 cT C q A h1 a i fun w' h1 h2=>k w' h1 ⟨_,h2⟩
theorem gj {t b off n:Nat} {e:TypeId} {L vs:List Value} (a:et P t=some n) (C:ev N σ x= .pointer (some ⟨b,off,none⟩)) (E:ev N σ y= .agg vs.toArray) (hn:vs.length=n) (h1:vs.all gF=true) (q:w.heap[b]? =some (.cells L.toArray e (0,0))) (G:off+n≤L.length)
 (k:∀ w',Md (fun k=>k=b) w w'→w'.heap[b]? =some (.cells (L.take off++vs++L.drop (off+n)).toArray e (0,0))→K σ w'):dV P N ⟨none,.store t x y,ty,pos,af,g⟩ σ w K:=by
 unfold et at a
 simp only [pj] at a
 obtain ⟨i,hi,hs⟩:=a
 have bN:=run_storeCells_at P b off e vs 0 L.toArray w q (by simp; omega)<|uD h1
 have A:(execOp (ev N σ) ⟨none,.store t x y,ty,pos,af,g⟩).run P w= .ok .skip (w.setRow b (L.take off++vs++L.drop (off+n)).toArray):=by
  simp [execOp,Ei,C,E,qZ,storeVar,ug,sizeOf,jh hi,hs,hn,bN]
 unfold dV j0
 rw [hU,A]
 exact ⟨σ,aa,k _ ⟨aa,aa,by simp,fun k _ hk=>setRow_other w b k _ hk⟩<|setRow_heap w b _ _ e _ q⟩
theorem dj {t b off n:Nat} {L vs:List Value} (q:et P t=some n) (C:ev N σ x= .pointer (some ⟨b,off,none⟩)) (E:ev N σ y= .agg vs.toArray) (hn:vs.length=n) (h1:vs.all gF=true) (a:bP w.heap b L) (G:off+n≤L.length)
 (k:∀ w',Md (fun k=>k=b) w w'→bP w'.heap b (L.take off++vs++L.drop (off+n))→K σ w'):dV P N ⟨none,.store t x y,ty,pos,af,g⟩ σ w K:=by
 obtain ⟨e,a⟩:=a
 unfold et at q
 simp only [pj] at q
 obtain ⟨i,hi,hs⟩:=q
 have bN:=run_storeCells_at P b off e vs 0 L.toArray w a (by simp; omega)<|uD h1
 have A:(execOp (ev N σ) ⟨none,.store t x y,ty,pos,af,g⟩).run P w= .ok .skip (w.setRow b (L.take off++vs++L.drop (off+n)).toArray):=by
  simp [execOp,Ei,C,E,qZ,storeVar,ug,sizeOf,jh hi,hs,hn,bN]
 unfold dV j0
 rw [hU,A]
 exact ⟨σ,aa,k _ ⟨aa,aa,by simp,fun k _ hk=>setRow_other w b k _ hk⟩ ⟨e,setRow_heap w b _ _ e _ a⟩⟩
theorem OG {t ty e:TypeId} {i:TypeInfo} {zv:Value} {B n m c:Nat} {v U:Value} {xs news:List Value} {ad:Addr} {w':World} (hu:P.underlying t=some (.slice e)) (hi:P.info? e=some i) (O:i.zero=some zv) (ae:zv.cells.size=i.size) (aa:0 < i.size)
 (C:w.ownsRow B e i.size v n xs) (A:news.length=m*i.size) (E:∀ j u,news[j]? =some u→w.cell? (ad.add j)=some u) (h1:∀ u∈news,u.oneCell'=true) (I:n+m≤maxLen) (G:(n+m)*i.bytes≤140737488355328)
 (a:(zC #[t,t] ty #[v,.slice (some ad) m c]).run P w= .ok U w'):∀ k,U.ownBlock=some k→v.ownBlock=some k∨w.heap.size≤k:=by
 intro k hk
 have ag:n+m≤9223372036854775807:=by unfold maxLen at I; omega
 rcases C.2 with ⟨rfl,rfl⟩ | ⟨q,cap,cur,rfl,ai,Z,ak,aj,V,al⟩
 · have ac:xs= []:=fY<|by simpa using C.1
   subst ac
   obtain ⟨v2,am,J,h2,_,_⟩:=run_append_own (P:=P) w w.heap.size t ty e i zv i.size i.bytes hu hi O rfl rfl ae aa _ 0 [] (dC w w.heap.size e i.size) ad m c news A E h1 I G (cD _)
   rw [a] at J
   cases J
   exact .inr (by
    rcases h2.2 with ⟨h,_⟩ | ⟨g2,_,_,h,ah,_⟩
    · rw [h] at hk; simp [iW] at hk
    · rw [h] at hk; simp only [iW,fV] at hk; omega)
 · by_cases M:n+m≤cap
   · have Y:n*i.size+news.length≤cur.size:=by rw [A,V,← Nat.add_mul]; exact sA _ M
     rw [run_append_room (P:=P) w t ty e i hu hi q n cap cur Z ad m c news A E h1 M Y] at a
     cases a
     exact .inl hk
   · have holds:∀ j u,xs[j]? =some u→w.cell? ((⟨q,0,none⟩:Addr).add j)=some u:=C.cells (g:=q) rfl
     rw [run_append_grow (P:=P) w t ty e i zv hu hi O ⟨q,0,none⟩ n cap xs C.1 holds ad m c news A E ab ab (growslice_fits ab G)] at a
     cases a
     simp only [iW,fV] at hk
     exact .inr ab
theorem ap {t e size bytes B n m c:Nat} {v:Value} {xs news:List Value} {a:Option Addr} (aj:gi P t e size bytes=true) (A:w.ownsRow B e size v n xs) (V:ev N σ x=v) (ab:B≤w.heap.size)
 (Y:ev N σ y= .slice a m c) (I:aO w.heap a news) (C:news.length=m*size) (h1:news.all gF=true) (E:(n+m)*bytes≤140737488355328) (am:n+m≤9223372036854775807)
 (k:∀ q w',w'.ownsRow B e size q (n+m) (xs++news)→Md (fun k=>v.ownBlock=some k) w w'→(q= .slice none 0 0↔v= .slice none 0 0∧m=0)→(∀ k,q.ownBlock=some k→v.ownBlock=some k∨w.heap.size≤k)→K (iO σ dst q) w'):
 dV P N ⟨dst,.call ⟨.builtin .append,#[x,y],#[t,t]⟩,ty,pos,af,g⟩ σ w K:=by
 obtain ⟨hu,i,zv,hi,Z,hs,G,aa,O⟩:=r4 aj
 have J:n+m≤maxLen:=by unfold maxLen; omega
 by_cases hm:news= []
 · subst hm
   have ag:m=0:=by
    rcases Nat.mul_eq_zero.1 (C.symm.trans rfl) with h | h
    · exact h
    · omega
   subst ag
   have ai:(zC #[t,t] ty #[v,.slice a 0 c]).run P w= .ok v w:=by
    rcases A.2 with ⟨rfl,rfl⟩ | ⟨al,cap,cur,rfl,_,_,hle,_⟩
    · cases a <;> simp [zC,eA hu,sizeOf,jh hi,MU,MT,loadCells,loadCellsFrom]
    · cases a <;> simp [zC,eA hu,sizeOf,jh hi,MU,MT,loadCells,loadCellsFrom,hle,storeCells]
   refine oh (w':=w) (v:=v) ?_<|k v w (by simpa using A) (Md.refl _ _) (by simp) fun _ h=> .inl h
   simp [execOp,resolve,invoke,builtin,V,Y,ai]
 · have ac:=I.ok hm
   have M:∀ j u,news[j]? =some u→w.cell? ((⟨bk a,fo a,none⟩:Addr).add j)=some u:=fun j u hu=>by rw [mx,nL]; exact I.aR j u hu
   obtain ⟨q,w',U,h2,h3,h4⟩:=run_append_own (P:=P) w B t ty e i zv size bytes hu hi Z hs G aa O v n xs A ⟨bk a,fo a,none⟩ m c news C M (uD h1) J E ab
   subst hs G
   have ae:=OG hu hi Z aa O A C M (uD h1) J E U
   refine oh (w':=w') (v:=q) ?_<|k q w' h2 ⟨h3.os,h3.output,h3.size,fun k hk ah=>h3.block k hk fun e=>ah e.symm⟩ h4 ae
   have ak:ev N σ y= .slice (some ⟨bk a,fo a,none⟩) m c:=Y.trans<|congrArg (fun a=>bS a m c) ac
   simp [execOp,resolve,invoke,builtin,V,ak,U]
theorem bc {t n len cap:Nat} {k:IntKind} {i:Int} {a:Option Addr} (he:gA P t=some n) (A:ev N σ x= .slice a len cap) (C:ev N σ y= .int k i) (q:0≤i∧i < len) (E:a=some ⟨bk a,fo a,none⟩):
 (execOp (ev N σ) ⟨dst,.indexAddr t x y,ty,pos,af,g⟩).run P w= .ok (.value<|.pointer<|some ⟨bk a,fo a+i.toNat*n,none⟩) w:=
 ia he (by rw [A]; congr 1) C q
end
theorem dz {F:Nat→Prop} {w w':World} {B e size n:Nat} {v:Value} {xs:List Value} (h:w.ownsRow B e size v n xs) (hm:Md F w w') (i:∀ k,v.ownBlock=some k→¬F k):w'.ownsRow B e size v n xs:=by
 refine ⟨h.1,?_⟩
 rcases h.2 with hn | ⟨g,cap,cur,rfl,a,q,rest⟩
 · exact .inl hn
 · exact .inr ⟨g,cap,cur,aa,a,hm.aJ q (i g aa),rest⟩
section
variable {P:Program} {N:Fm} {σ:Nat→Value} {w:World} {dst:Option Nat} {ty:TypeId} {pos :String} {af:Array Edge} {g:Option (Nat×Bool)} {x y z:Operand} {K:(Nat→Value)→World→Prop}
theorem tI {t B e size n cap off j:Nat} {a:Option Addr} {xs:List Value} {u:Value} (V:w.ownsRow B e size (.slice a n cap) n xs) (ac:et P t=some 1) (Z:ev N σ x= .pointer (some ⟨bk a,off,none⟩)) (ab:ev N σ y=u) (h1:u.oneCell'=true)
 (M:off =fo a+j) (U:j < n*size)
 (k:∀ w',Md (fun k=>(bS a n cap).ownBlock=some k) w w'→w'.ownsRow B e size (.slice a n cap) n (xs.set j u)→K σ w'):dV P N ⟨none,.store t x y,ty,pos,af,g⟩ σ w K:=by
 obtain ⟨A,h⟩:=V
 rcases h with ⟨h,rfl⟩ | ⟨i,cp,cur,h,C,J,hle,I,q,Y⟩
 · simp at U
 · simp only [mT,true_and] at h
   obtain ⟨rfl,rfl⟩:=h
   have O:off =j:=by rw [M]; simp [fo]
   subst O
   have hlen:off < cur.toList.length:=by
    have :=sA size hle
    rw [wc,q]; omega
   refine cT (L:=cur.toList) ac Z ab h1 (show w.heap[i]? =_ by simpa using J) hlen fun w' G E=>k w' (G.mono fun k _ hk=>by subst hk; rfl) ⟨by simpa using A,.inr ⟨i,cap,_,aa,C,E,hle,I,by simpa using q,?_⟩⟩
   rw [← Y]
   simp only
   rw [List.take_set]
end
theorem eS {w:World} {B e size n:Nat} {v:Value} {xs:List Value} (h:w.ownsRow B e size v n xs):v.oneCell'=true :=by
 rcases h.2 with ⟨rfl,_⟩ | ⟨g,cap,cur,rfl,_⟩ <;> rfl
theorem cE {w:World} {B e size n:Nat} {v:Value} {xs:List Value} (h:w.ownsRow B e size v n xs):∃ a cap,v= .slice a n cap:=by
 rcases h.2 with ⟨rfl,rfl⟩ | ⟨g,cap,cur,rfl,_⟩
 · exact ⟨_,_,aa⟩
 · exact ⟨_,_,aa⟩
theorem mI {w:World} {B B' e q size J n I:Nat} {v A:Value} {xs M:List Value} (h:w.ownsRow B e size v n xs) (C:w.ownsRow B' q J A I M) (G:e≠q) {k:Nat} (hk:v.ownBlock=some k):A.ownBlock≠some k:=by
 intro i
 rcases h.2 with ⟨rfl,_⟩ | ⟨g,cap,cur,rfl,_,E,_⟩
 · simp [iW] at hk
 · rcases C.2 with ⟨rfl,_⟩ | ⟨V,O,U,rfl,_,a,_⟩
   · simp [iW] at i
   · simp only [iW,fV] at hk i
     subst hk i
     rw [E] at a
     simp only [fV,wo] at a
     exact G a.2.1
theorem a6 {w w':World} {B e size n:Nat} {v:Value} {xs:List Value} (h:w.ownsRow B e size v n xs) (hm:Wk w w'):w'.ownsRow B e size v n xs:=dz h hm fun _ _ x=>x
theorem dS {w:World} {B e size n:Nat} {v:Value} {xs:List Value} (h:w.ownsRow B e size v n xs) {k:Nat} (hk:v.ownBlock=some k):B≤k∧k < w.heap.size:=h.lt k hk
theorem Wk.own {a w w':World} {B e size n:Nat} {v:Value} {xs:List Value} (h:Wk a w) (i:w.ownsRow B e size v n xs) (hm:Md (fun k=>v.ownBlock=some k) w w') (A:a.heap.size≤B):Wk a w':=
 Md.trans' h hm (fun k hk q=>by have :=(dS i q).1; omega)
theorem tD {w:World} {B e size n:Nat} {v:Value} {xs:List Value} (h:w.ownsRow B e size v n xs):∃ a cap,v= .slice a n cap∧aO w.heap a xs∧n≤cap∧(∀ k,v.ownBlock=some k→a=some ⟨k,0,none⟩∧B≤k∧k < w.heap.size)∧(v.ownBlock=none→xs= []):=by
 rcases h.2 with ⟨rfl,rfl⟩ | ⟨g,cap,cur,rfl,q,i,hle,_,_,A⟩
 · have :xs= []:=fY<|by simpa using h.1
   subst this
   exact ⟨none,0,aa,aO.nil _ _,cD _,fun k hk=>by simp [iW] at hk,fun _=>rfl⟩
 · refine ⟨_,cap,aa,⟨fun _=>rfl,fun j u hu=> ?_⟩,hle,fun k hk=> ?_,fun hk=>by simp [iW] at hk⟩
   · show aR w.heap g (0 +j)=_
     rw [gW,a7 i]
     rw [← A,o6] at hu
     split at hu
     · simpa using hu
     · cases hu
   · simp only [iW,fV] at hk; subst hk
     exact ⟨aa,q,(dB.1 i).1⟩
theorem ba {w:World} {B e size n cap:Nat} {a:Option Addr} {xs:List Value} (h:w.ownsRow B e size (.slice a n cap) n xs):n≤cap∧aO w.heap a xs:=by
 obtain ⟨A,C,i,q,hle,_⟩:=tD h
 simp only [mT,true_and] at i
 obtain ⟨rfl,rfl⟩:=i
 exact ⟨hle,q⟩
theorem eE {w:World} {B B' e size n:Nat} {v:Value} {xs:List Value} (h:w.ownsRow B e size v n xs) (a:B'≤B):w.ownsRow B' e size v n xs:=by
 refine ⟨h.1,?_⟩
 rcases h.2 with h | ⟨g,cap,cur,h1,h2,r⟩
 · exact .inl h
 · exact .inr ⟨g,cap,cur,h1,gk a h2,r⟩
theorem aO.drop {h:Array Obj} {a:Option Addr} {xs:List Value} (i:aO h a xs) {cap k size:Nat} (C:xs.length≤cap*size):aO h (gv a cap k size) (xs.drop<|k*size):=by
 unfold gv
 by_cases hk:cap=k
 · rw [if_pos hk,gV (by rw [← hk]; exact C)]; exact aO.nil _ _
 · rw [if_neg hk]
   by_cases q:xs= []
   · subst q; rw [List.drop_nil]; exact aO.nil _ _
   · have A:=i.ok q
     rw [A]
     simp only [mo,mx]
     refine ⟨fun _=>rfl,fun j u hu=> ?_⟩
     rw [ri] at hu
     have :=i.aR _ _ hu
     show Hb.aR h (bk a) (fo a+k*size+j)=_
     rw [NW]; exact this
theorem WK {w:World} {B e size n cap:Nat} {a:Option Addr} {xs:List Value} (h:w.ownsRow B e size (.slice a n cap) n xs) (q:xs≠[]):B≤bk a∧bk a < w.heap.size:=by
 obtain ⟨A,C,i,_,_,h1,h2⟩:=tD h
 simp only [mT,true_and] at i
 obtain ⟨rfl,rfl⟩:=i
 cases hk:(bS a n cap).ownBlock with
 | none=>exact absurd (h2 hk) q
 | some k=>
   obtain ⟨rfl,h3,h4⟩:=h1 k hk
   exact ⟨h3,h4⟩
section
variable {P:Program} {N:Fm} {σ:Nat→Value} {w:World} {dst:Option Nat} {ty:TypeId} {pos :String} {af:Array Edge} {g:Option (Nat×Bool)} {x y z:Operand} {K:(Nat→Value)→World→Prop}
end
end Go.Hb
namespace Go.Hb
section
variable {P:Program} {md:sn} {ops:Array Oper} {Q:Exit→Act→World→Prop} {S:World→Prop} {r:Nat}
def p5 (P:Program) (md:sn) (ops:Array Oper) (Q:Exit→Act→World→Prop) (S:World→Prop) (r:Nat):Nat→Array Bool→Act→World→Prop
 | 0,bg,a,w=>js md ops bg= []∧Q .normal a w
 | fuel+1,bg,a,w=>
   (js md ops bg= []→Q .normal a w)∧
   ∀ i∈js md ops bg,wpOp P ops Q i (fun q w'=>((bg.setIfInBounds i true).getD r false =false→S w')∧p5 P md ops Q S r fuel (bg.setIfInBounds i true) q w') a w
theorem Mr:∀ (fuel:Nat) (bg:Array Bool) (a:Act) (w:World),p5 P md ops Q S r fuel bg a w→wpAny P md ops Q fuel bg a w
 | 0,_,_,_,h=>h
 | fuel+1,_,_,_,h=>⟨h.1,fun i hi=>wpOp_mono (fun q w' A=>Mr fuel _ q w' A.2)<|h.2 i hi⟩
theorem ZH {i:Nat} {E:Oper} {v:Value} (hi:ops[i]? =some E) (ai:∀ (j:Nat) (o:Oper) cs b,ops[j]? =some o→o.op≠.select cs b)
 (al:∀ c a w,Q (.panic c) (a.put E.dst v) w→Q (.panic c) a w) (av:∀ o,ops[r]? =some o→∃ x∈o.after,j4 md x=true∧x.on=i) (ao:i≠r):
 ∀ (fuel:Nat) (bg:Array Bool) (a:Act) (w:World),
   (∀ j A,ops[j]? =some A→j≠i→bg.getD j true =false→(∀ x∈A.after,j4 md x=true→x.on≠i)→E.apart ops A=true)→
   i∈js md ops bg→YieldsIf P ops S E v a→S w→bg.getD r false =false→
   p5 P md ops Q S r fuel (bg.setIfInBounds i true) (a.put E.dst v) w→p5 P md ops Q S r (fuel+1) bg a w:=by
 intro fuel
 induction fuel with
 | zero=>
   intro bg a w _ C M G _ H
   refine ⟨fun h=>(by rw [h] at C; cases C),fun j I=> ?_⟩
   by_cases q:j=i
   · subst q; exact M.wpOp hi G ⟨fun _=>G,H⟩
   · have :=ready_mono I q
     rw [H.1] at this
     cases this
 | succ fuel aw=>
   intro bg a w Z C M G ae H
   refine ⟨fun h=>(by rw [h] at C; cases C),fun j I=> ?_⟩
   by_cases q:j=i
   · subst q; exact M.wpOp hi G ⟨fun _=>G,H⟩
   · have h1:=H.2 j<|ready_mono I q
     obtain ⟨ac,A,J,am⟩:=mem_ready.1 I
     have ah:∀ x∈A.after,j4 md x=true→x.on≠i:=fun x V U heq=>by
      have h1:=am x V U
      have Y:=(mem_ready.1 C).1
      rw [heq] at h1
      rcases fu i bg.size with O | O
      · simp [O] at Y h1; rw [Y] at h1; cases h1
      · simp [tX O] at h1
     have ab:j≠r:=by
      rintro rfl
      obtain ⟨x,V,U,au⟩:=av A J
      exact ah x V U au
     have aq:(bg.setIfInBounds j true).getD r false =false :=by rw [getD_set_ne false ab]; exact ae
     have ag:((bg.setIfInBounds i true).setIfInBounds j true).getD r false =false :=by rw [getD_set_ne false ab,getD_set_ne false ao]; exact ae
     have h2:=wpOp_putIf J (Z j A J q ac ah) (fun cs b=>ai i E cs b hi) (fun cs b=>ai j A cs b J) al M h1
     have an:∀ k ok,ops[k]? =some ok→k≠i→(bg.setIfInBounds j true).getD k true =false→
      (∀ x∈ok.after,j4 md x=true→x.on≠i)→E.apart ops ok=true :=fun k ok hk ap aj ar=>by
      refine Z k ok hk ap ?_ ar
      by_cases aa:j=k
      · subst aa; exact ac
      · rw [getD_set_ne true aa] at aj; exact aj
     refine wpOp_mono (fun ak w' h3=>⟨fun _=>h3.2.1 ag,aw (bg.setIfInBounds j true) ak w' an (ready_mono C<|Ne.symm q) h3.1 (h3.2.1 ag) aq ?_⟩) h2
     rw [D8 _ _ q]
     exact h3.2.2
end
section
variable {P:Program} {N:Fm} {ops:Array Oper} {Q:Exit→(Nat→Value)→World→Prop} {σ:Nat→Value} {w:World} {S:World→Prop} {r fuel:Nat} {bg:Array Bool}
 {d':Option Nat} {d:Nat} {op:Op} {ty:TypeId} {pos :String} {af:Array Edge} {v:Value}
def iP (P:Program) (N:Fm) (ops:Array Oper) (Q:Exit→(Nat→Value)→World→Prop) (S:World→Prop) (r fuel:Nat) (bg:Array Bool) (σ:Nat→Value) (w:World):Prop :=
 p5 P .any ops (lift N Q) S r fuel bg (act N σ) w
theorem eR {id:Nat} {l:List Oper} (S:World→Prop) (r:Nat) (a:tC N.r l=true) (hm:P.follows .mixedOrders=true) (i:S w.drew) (h:iP P N l.toArray Q S r l.length (tZ l.length false) σ w.drew):dU P N (.region id l.toArray true) Q σ w:=by
 exact Fj a hm<|Mr _ _ _ _<|by rw [ou]; exact h
def Iz (F:List Nat) (ops:Array Oper) (bg:Array Bool) (r i:Nat):Bool:=
 jb F ops bg i && !(bg.getD r false) && i !=r && (match ops[r]? with | some o=>o.after.toList.any (fun x=>j4 .any x && x.on==i) | none=>false)
theorem lq (i:Nat) (hi:ops[i]? =some ⟨some d,op,ty,pos,af,none⟩) (A:Iz N.F ops bg r i=true)
 (J:∀ w,S w→(execOp (ev N σ) ⟨some d,op,ty,pos,af,none⟩).run P w= .ok (.value v) w) (q:S w)
 (k:iP P N ops Q S r fuel (bg.setIfInBounds i true) (dD σ d v) w):iP P N ops Q S r (fuel+1) bg σ w:=by
 simp only [Iz,jb,gU,zA,bne_iff_ne,ne_eq] at A
 obtain ⟨⟨⟨⟨⟨⟨C,E⟩,hf3⟩,hfF⟩,hf4⟩,hf5⟩,hf6⟩:=A
 rw [hi] at hfF
 refine ZH hi (Eo C) (fun c a w=>oL hfF c a w) (fun o G=> ?_) hf5 fuel bg _ w (En hi E) (by simpa using hf3) (.inl ⟨jQ _ rfl _,fun w q=> ?_⟩) q hf4 ?_ (v:=v)
 · rw [G] at hf6
   simp only [Nr,gU,beq_iff_eq] at hf6
   obtain ⟨x,I,h1,h2⟩:=hf6
   exact ⟨x,wg.1 I,h1,h2⟩
 · rw [hU]; exact J w q
 · rw [jJ]; exact k
theorem Jp (i:Nat) (hi:ops[i]? =some ⟨d',op,ty,pos,af,none⟩) (A:lz ops bg i=true)
 (h:dV P N ⟨d',op,ty,pos,af,none⟩ σ w (fun σ w=>((bg.setIfInBounds i true).getD r false =false→S w)∧iP P N ops Q S r fuel (bg.setIfInBounds i true) σ w)):iP P N ops Q S r (fuel+1) bg σ w:=by
 have a:js .any ops bg= [i]:=by simpa [lz] using A
 refine ⟨fun q=>absurd (a ▸ q) (by simp),fun k hk=> ?_⟩
 rw [a] at hk
 obtain rfl :k=i:=by simpa using hk
 unfold wpOp
 simp only [hi]
 rw [if_pos (jQ _ rfl _)]
 exact .inl<|tT h fun _ _ hk=>hk
theorem gE (i:Nat) (hi:ops[i]? =some ⟨d',op,ty,pos,af,none⟩) (a:lz ops bg i=true)
 (h:dV P N ⟨d',op,ty,pos,af,none⟩ σ w (fun σ w=>S w∧iP P N ops Q S r fuel (bg.setIfInBounds i true) σ w)):iP P N ops Q S r (fuel+1) bg σ w:=
 Jp i hi a (Mu h fun _ _ hk=>⟨fun _=>hk.1,hk.2⟩)
theorem dO (i:Nat) (hi:ops[i]? =some ⟨d',op,ty,pos,af,none⟩) (A:lz ops bg i=true) (q:(bg.setIfInBounds i true).getD r false =true)
 (h:dV P N ⟨d',op,ty,pos,af,none⟩ σ w (fun σ w=>iP P N ops Q S r fuel (bg.setIfInBounds i true) σ w)):iP P N ops Q S r (fuel+1) bg σ w:=
 Jp i hi A (Mu h fun _ _ hk=>⟨fun a=>absurd (a.symm.trans q) eo,hk⟩)
theorem eQ (i:(js .any ops bg).isEmpty=true) (h:Q .normal σ w):iP P N ops Q S r fuel bg σ w:=by
 have a:js .any ops bg= []:=by simpa using i
 cases fuel with
 | zero=>exact ⟨a,σ,rfl,h⟩
 | succ fuel=>exact ⟨fun _=>⟨σ,rfl,h⟩,by rw [a]; simp⟩
attribute [irreducible] iP
end
end Go.Hb
namespace Go.Hb
section
variable {P:Program} {md:sn} {ops:Array Oper} {Q:Exit→Act→World→Prop} {S:World→Prop} {r:Nat}
inductive rl (md:sn) (ops:Array Oper) (i:Nat):Nat→Prop
 | one {r o e} :ops[r]? =some o→e∈o.after→j4 md e=true→e.on=i→rl md ops i r
 | more {r o e} :ops[r]? =some o→e∈o.after→j4 md e=true→rl md ops i e.on→rl md ops i r
def sE (md:sn) (ops:Array Oper) (bg:Array Bool):Prop := ∀ (j:Nat) (o:Oper),ops[j]? =some o→bg.getD j false =true→∀ e∈o.after,j4 md e=true→bg.getD e.on false =true
theorem ID {bg:Array Bool} {j k:Nat} (h:bg.getD k false =true):(bg.setIfInBounds j true).getD k false =true :=by
 by_cases e:j=k
 · subst e
   by_cases a:j < bg.size
   · simp [a]
   · simp [a] at h
 · rw [getD_set_ne false e]; exact h
theorem sE.set {bg:Array Bool} {j:Nat} (h:sE md ops bg) (C:j∈js md ops bg):sE md ops (bg.setIfInBounds j true):=by
 intro k o hk q e he i
 obtain ⟨_,G,E,A⟩:=mem_ready.1 C
 by_cases a:j=k
 · subst a
   rw [E] at hk; cases hk
   exact ID<|A e he i
 · rw [getD_set_ne false a] at q
   exact ID<|h k o hk q e he i
theorem rl.bg {bg:Array Bool} {i r:Nat} (hd:rl md ops i r) (A:sE md ops bg) (a:∀ o,ops[r]? =some o→∀ e∈o.after,j4 md e=true→bg.getD e.on false =true):bg.getD i false =true :=by
 induction hd with
 | one h1 h2 h3 h4=>rw [← h4]; exact a _ h1 _ h2 h3
 | more h1 h2 h3 _ E=>exact E fun o C e he q=>A _ o C (a _ h1 _ h2 h3) e he q
theorem ZG {i:Nat} {C:Oper} {v:Value} (hi:ops[i]? =some C) (aj:∀ (j:Nat) (o:Oper) cs b,ops[j]? =some o→o.op≠.select cs b)
 (am:∀ c a w,Q (.panic c) (a.put C.dst v) w→Q (.panic c) a w) (hd:rl md ops i r) (ap:i≠r):
 ∀ (fuel:Nat) (bg:Array Bool) (a:Act) (w:World),sE md ops bg→
   (∀ j E,ops[j]? =some E→j≠i→bg.getD j true =false→(∀ x∈E.after,j4 md x=true→x.on≠i)→C.apart ops E=true)→
   i∈js md ops bg→YieldsIf P ops S C v a→S w→bg.getD r false =false→
   p5 P md ops Q S r fuel (bg.setIfInBounds i true) (a.put C.dst v) w→p5 P md ops Q S r (fuel+1) bg a w:=by
 intro fuel
 induction fuel with
 | zero=>
   intro bg a w _ _ A M G _ H
   refine ⟨fun h=>(by rw [h] at A; cases A),fun j I=> ?_⟩
   by_cases q:j=i
   · subst q; exact M.wpOp hi G ⟨fun _=>G,H⟩
   · have :=ready_mono I q
     rw [H.1] at this
     cases this
 | succ fuel ax=>
   intro bg a w Y Z A M G ag H
   refine ⟨fun h=>(by rw [h] at A; cases A),fun j I=> ?_⟩
   by_cases q:j=i
   · subst q; exact M.wpOp hi G ⟨fun _=>G,H⟩
   · have h1:=H.2 j<|ready_mono I q
     obtain ⟨ae,E,J,V⟩:=mem_ready.1 I
     have aa:bg.getD i false =false :=by
      have U:=(mem_ready.1 A).1
      rcases fu i bg.size with O | O
      · simpa [O] using U
      · simp [O] at U
     have av:∀ x∈E.after,j4 md x=true→x.on≠i:=fun x aw an heq=>by
      have h1:=V x aw an
      rw [heq,aa] at h1; cases h1
     have ac:j≠r:=by
      rintro rfl
      have :=hd.bg Y fun o ai=>by rw [J] at ai; cases ai; exact V
      rw [aa] at this; cases this
     have ar:(bg.setIfInBounds j true).getD r false =false :=by rw [getD_set_ne false ac]; exact ag
     have ah:((bg.setIfInBounds i true).setIfInBounds j true).getD r false =false :=by rw [getD_set_ne false ac,getD_set_ne false ap]; exact ag
     have h2:=wpOp_putIf J (Z j E J q ae av) (fun cs b=>aj i C cs b hi) (fun cs b=>aj j E cs b J) am M h1
     have ao:∀ k ok,ops[k]? =some ok→k≠i→(bg.setIfInBounds j true).getD k true =false→
      (∀ x∈ok.after,j4 md x=true→x.on≠i)→C.apart ops ok=true :=fun k ok hk aq ak au=>by
      refine Z k ok hk aq ?_ au
      by_cases ab:j=k
      · subst ab; exact ae
      · rw [getD_set_ne true ab] at ak; exact ak
     refine wpOp_mono (fun al w' h3=>⟨fun _=>h3.2.1 ah,ax (bg.setIfInBounds j true) al w' (Y.set I) ao (ready_mono A<|Ne.symm q) h3.1 (h3.2.1 ah) ar ?_⟩) h2
     rw [D8 _ _ q]
     exact h3.2.2
theorem ZI {i:Nat} {C:Oper} {v:Value} (hi:ops[i]? =some C) (ae:∀ (j:Nat) (o:Oper) cs b,ops[j]? =some o→o.op≠.select cs b)
 (ai:∀ c a w,Q (.panic c) (a.put C.dst v) w→Q (.panic c) a w) (O:i≠r):
 ∀ (fuel:Nat) (bg:Array Bool) (a:Act) (w:World),
   (∀ j E,ops[j]? =some E→j≠i→bg.getD j true =false→(∀ x∈E.after,j4 md x=true→x.on≠i)→C.apart ops E=true)→
   i∈js md ops bg→YieldsIf P ops (fun _=>True) C v a→(bg.getD r false =false→S w)→
   p5 P md ops Q S r fuel (bg.setIfInBounds i true) (a.put C.dst v) w→p5 P md ops Q S r (fuel+1) bg a w:=by
 intro fuel
 induction fuel with
 | zero=>
   intro bg a w _ A I M H
   refine ⟨fun h=>(by rw [h] at A; cases A),fun j G=> ?_⟩
   by_cases q:j=i
   · subst q; exact I.wpOp hi trivial ⟨fun h=>M (by rw [getD_set_ne false O] at h; exact h),H⟩
   · have :=ready_mono G q
     rw [H.1] at this
     cases this
 | succ fuel ar=>
   intro bg a w Z A I M H
   refine ⟨fun h=>(by rw [h] at A; cases A),fun j G=> ?_⟩
   by_cases q:j=i
   · subst q; exact I.wpOp hi trivial ⟨fun h=>M (by rw [getD_set_ne false O] at h; exact h),H⟩
   · have h1:=H.2 j<|ready_mono G q
     obtain ⟨ac,E,U,aj⟩:=mem_ready.1 G
     have am:bg.getD i false =false :=by
      have V:=(mem_ready.1 A).1
      rcases fu i bg.size with J | J
      · simpa [J] using V
      · simp [J] at V
     have ap:∀ x∈E.after,j4 md x=true→x.on≠i:=fun x aq ak heq=>by
      have h1:=aj x aq ak
      rw [heq,am] at h1; cases h1
     have h2:=wpOp_putIf U (Z j E U q ac ap) (fun cs b=>ae i C cs b hi) (fun cs b=>ae j E cs b U) ai I h1
     have al:∀ k ok,ops[k]? =some ok→k≠i→(bg.setIfInBounds j true).getD k true =false→
      (∀ x∈ok.after,j4 md x=true→x.on≠i)→C.apart ops ok=true :=fun k ok hk an ag ao=>by
      refine Z k ok hk an ?_ ao
      by_cases ab:j=k
      · subst ab; exact ac
      · rw [getD_set_ne true ab] at ag; exact ag
     have Y:(bg.setIfInBounds i true).setIfInBounds j true =(bg.setIfInBounds j true).setIfInBounds i true :=D8 _ _ fun e=>q e.symm
     have aa:(bg.setIfInBounds j true).getD r false =false→((bg.setIfInBounds i true).setIfInBounds j true).getD r false =false :=fun h=>by rw [Y,getD_set_ne false O]; exact h
     refine wpOp_mono (fun ah w' h3=>⟨fun h=>h3.2.1 (aa h),ar (bg.setIfInBounds j true) ah w' al (ready_mono A<|Ne.symm q) h3.1 (fun h=>h3.2.1<|aa h) ?_⟩) h2
     rw [← Y]
     exact h3.2.2
end
section
variable {P:Program} {N:Fm} {ops:Array Oper} {Q:Exit→(Nat→Value)→World→Prop} {σ:Nat→Value} {w:World} {S:World→Prop} {r fuel:Nat} {bg:Array Bool}
 {d:Nat} {op:Op} {ty:TypeId} {pos :String} {af:Array Edge} {v:Value}
def xN (ops:Array Oper) (i:Nat):Nat→Nat→Bool
 | 0,_=>false
 | f+1,r=>match ops[r]? with | some o=>o.after.toList.any (fun e=>j4 .any e && (e.on==i || xN ops i f e.on)) | none=>false
theorem Sx {i:Nat} :∀ (f r:Nat),xN ops i f r=true→rl .any ops i r:=by
 intro f
 induction f with
 | zero=>intro r h; cases h
 | succ f A=>
   intro r h
   rw [xN] at h
   split at h
   · rename_i o q
     simp only [Nr,gU,Eb,beq_iff_eq] at h
     obtain ⟨e,he,a,h⟩:=h
     rcases h with h | h
     · exact .one q (wg.1 he) a h
     · exact .more q (wg.1 he) a<|A _ h
   · cases h
def A9 (ops:Array Oper) (bg:Array Bool):Bool:=(j6 ops.size).all fun j=> !bg.getD j false || match ops[j]? with | some o=>o.after.toList.all (fun e=> !j4 .any e || bg.getD e.on false) | none=>true
theorem Rm (h:A9 ops bg=true):sE .any ops bg:=by
 intro j o a q e he i
 unfold A9 at h
 rw [ml] at h
 have h1:=h j<|uq.2 (dB.1 a).1
 rw [q,a] at h1
 simp only [Bool.not_true,Bool.false_or,ml,Eb,zA] at h1
 rcases h1 e (wg.2 he) with h2 | h2
 · rw [i] at h2; cases h2
 · exact h2
def Ca (F:List Nat) (ops:Array Oper) (bg:Array Bool) (r i:Nat):Bool:=jb F ops bg i && !(bg.getD r false) && i !=r && A9 ops bg && xN ops i ops.size r
def yu (F:List Nat) (ops:Array Oper) (bg:Array Bool) (r i:Nat):Bool:=jb F ops bg i && i !=r
theorem kI (i:Nat) (hi:ops[i]? =some ⟨some d,op,ty,pos,af,none⟩) (A:Ca N.F ops bg r i=true)
 (G:∀ w,S w→(execOp (ev N σ) ⟨some d,op,ty,pos,af,none⟩).run P w= .ok (.value v) w) (q:S w)
 (k:iP P N ops Q S r fuel (bg.setIfInBounds i true) (dD σ d v) w):iP P N ops Q S r (fuel+1) bg σ w:=by
 simp only [Ca,jb,gU,zA,bne_iff_ne,ne_eq] at A
 obtain ⟨⟨⟨⟨⟨⟨⟨C,E⟩,hf3⟩,hfF⟩,hf4⟩,hf5⟩,hf6⟩,hf7⟩:=A
 rw [hi] at hfF
 unfold iP at*
 refine ZG hi (Eo C) (fun c a w=>oL hfF c a w) (Sx _ _ hf7) hf5 fuel bg _ w (Rm hf6) (En hi E) (by simpa using hf3) (.inl ⟨jQ _ rfl _,fun w q=> ?_⟩) q hf4 ?_ (v:=v)
 · rw [hU]; exact G w q
 · rw [jJ]; exact k
theorem dG (i:Nat) (hi:ops[i]? =some ⟨some d,op,ty,pos,af,none⟩) (q:yu N.F ops bg r i=true)
 (G:∀ w,(execOp (ev N σ) ⟨some d,op,ty,pos,af,none⟩).run P w= .ok (.value v) w) (A:bg.getD r false =false→S w)
 (k:iP P N ops Q S r fuel (bg.setIfInBounds i true) (dD σ d v) w):iP P N ops Q S r (fuel+1) bg σ w:=by
 simp only [yu,jb,gU,bne_iff_ne,ne_eq] at q
 obtain ⟨⟨⟨⟨C,E⟩,hf3⟩,hfF⟩,hf5⟩:=q
 rw [hi] at hfF
 unfold iP at*
 refine ZI hi (Eo C) (fun c a w=>oL hfF c a w) hf5 fuel bg _ w (En hi E) (by simpa using hf3) (.inl ⟨jQ _ rfl _,fun w _=> ?_⟩) A ?_ (v:=v)
 · rw [hU]; exact G w
 · rw [jJ]; exact k
end
end Go.Hb
namespace Go.Hb
def Mb:Nat→Nat→List UInt8
 | 0,n=> [j7 n]
 | f+1,n=>if n < 128 then [j7 n] else j7 (n % 128 +128)::Mb f (n / 128)
def Zf (n:Nat):List UInt8:=Mb n n
def frame:List (List UInt8)→List UInt8
 | []=> []
 | r::l=>Zf r.length++(r++frame l)
theorem fK {α:Type} (l:List α) (i:Nat) (d:α) (h:i < l.length):l.take (i+1)=l.take i++ [l.getD i d]:=by
 rw [List.take_succ_eq_append_getElem h]; simp [da,h]
end Go.Hb
namespace Go.Hb
def U8 (l:List UInt8):List Value:=l.map fun b=>jk .u8 b.toNat
theorem xj (l:List UInt8):(U8 l).length=l.length:=by simp [U8]
theorem xi (a b:List UInt8):U8 (a++b)=U8 a++U8 b:=by simp [U8]
theorem Oh (l:List UInt8):(U8 l).all gF=true :=by
 rw [ml]
 intro u hu
 simp only [U8,o7] at hu
 obtain ⟨b,_,rfl⟩:=hu
 rfl
def xx (P:Program) (t e u:TypeId):Bool:=
 gi P t e 1 1 && (match P.underlying e with | some (.int .u8)=>true | _=>false) && (match P.underlying u with | some .string=>true | _=>false) &&
  (match P.info? e with | some i=>(match i.zero with | some (.int .u8 0)=>true | _=>false) | none=>false)
theorem O2 {P:Program} {t e u:TypeId} (h:xx P t e u=true):
 gi P t e 1 1=true∧P.underlying e=some (.int .u8)∧P.underlying u=some .string∧∃ i,P.info? e=some i∧i.zero=some (.int .u8 0):=by
 simp only [xx,gU] at h
 obtain ⟨⟨⟨h1,h2⟩,h3⟩,h4⟩:=h
 refine ⟨h1,?_,?_,?_⟩
 · split at h2
   · rename_i h; exact h
   · cases h2
 · split at h3
   · rename_i h; exact h
   · cases h3
 · split at h4
   · rename_i i hi
     split at h4
     · rename_i h; exact ⟨i,hi,h⟩
     · cases h4
   · cases h4
section
variable {P:Program} {N:Fm} {σ:Nat→Value} {w:World} {dst:Option Nat} {ty:TypeId} {pos :String} {af:Array Edge} {g:Option (Nat×Bool)} {x y z:Operand} {K:(Nat→Value)→World→Prop}
theorem foldl_push (l:List UInt8) (r:ByteArray):(l.map fun b=>(b.toNat:Int)).foldl (fun r n=>r.push<|j7 n.toNat) r=⟨r.data++l.toArray⟩:=by
 induction l generalizing r with
 | nil=>simp
 | cons b l a=>
   simp only [um,sv]
   rw [a]
   apply ByteArray.ext
   simp [ByteArray.push]
theorem na {t e u n c:Nat} {a:Option Addr} {l:List UInt8} (h:xx P t e u=true) (I:ev N σ x= .slice a n c) (i:aO w.heap a (U8 l)) (q:l.length=n):
 (execOp (ev N σ) ⟨dst,.convert t u x,ty,pos,af,g⟩).run P w= .ok (.value<|str l) w:=by
 obtain ⟨h1,h2,h3,_⟩:=O2 h
 obtain ⟨hu,_⟩:=r4 h1
 have C:(MY<|.slice a n c).run P w= .ok (str l) w:=by
  by_cases he:l= []
  · subst he
    cases a with
    | none=>simp [MY,str]; rfl
    | some a=>
      subst q
      have :=run_bytesToString (P:=P) w a 0 c []<|by simp [loadCells,loadCellsFrom]
      exact this.trans aa
  · have A:=i.ok<|by simpa [U8] using he
    have G:(loadCells ⟨bk a,fo a,none⟩ n).run P w= .ok ((l.map fun b=>(b.toNat:Int)).map<|jk .u8).toArray w:=by
     subst q
     have :=run_loadCells_list (P:=P) w ⟨bk a,fo a,none⟩ (U8 l) fun j v E=>by
      rw [mx,nL]
      exact i.aR j v E
     rw [xj] at this
     rw [this]
     simp [U8]
    rw [A,run_bytesToString w _ n c _ G,foldl_push]
    simp [str,ByteArray.empty,ByteArray.emptyWithCapacity]
    rfl
 simp [execOp,I,run_convert_bytes_string w t u e a n c hu h2 h3,C]
theorem Zm {at_:Array TypeId} {v:Value} {a:Option Addr} {n c:Nat} (i:ev N σ x= .slice a n c) (h:a=none∨c≠0):
 (execOp (ev N σ) ⟨dst,.call ⟨.builtin .unsafeSliceData,#[x],at_⟩,ty,pos,af,g⟩).run P w= .ok (.value<|.pointer a) w:=by
 have _:=v
 have :(Builtin.unsafeSliceData_ at_ ty #[.slice a n c]).run P w= .ok (.pointer a) w:=by
  cases a with
  | none=>exact Lib.run_unsafeSliceData_nil w at_ ty n c
  | some a=>exact Lib.run_unsafeSliceData_row w at_ ty a n c<|h.resolve_left<|by simp
 simp [execOp,resolve,invoke,builtin,i,this]
def ptrTo (P:Program) (i e:TypeId):Bool:=match P.underlying i with | some (.pointer a)=>a==e && P.cellsOf e==1 | _=>false
theorem Zn {C it e B n c:Nat} {a:Option Addr} {l:List UInt8} {xs:List Value} (hp:ptrTo P C e=true) (I:ev N σ x= .pointer a) (J:ev N σ y= .int .i64 n) (A:w.ownsRow B e 1 (.slice a n c) n xs)
 (ah:xs=U8 l) (ai:n≤9223372036854775807)
 (k:∀ w',Md (fun k=>(bS a n c).ownBlock=some k) w w'→w'.heap.size=w.heap.size→K (iO σ dst<|str l) w'):
 dV P N ⟨dst,.call ⟨.builtin .unsafeString,#[x,y],#[C,it]⟩,ty,pos,af,g⟩ σ w K:=by
 subst ah
 have i:l.length=n:=by have :=A.1; simpa [U8] using this
 unfold ptrTo at hp
 split at hp
 case h_2=>cases hp
 rename_i E hu
 simp only [gU,beq_iff_eq] at hp
 obtain ⟨rfl,O⟩:=hp
 by_cases he:l= []
 · subst he
   obtain rfl :n=0:=i.symm
   refine oh (w':=w) (v:=str []) ?_<|k w (Md.refl _ _) aa
   simp [execOp,resolve,invoke,builtin,I,J,Lib.run_unsafeString_none]
   rfl
 · rcases A.2 with ⟨h,M⟩ | ⟨q,cap,cur,h,_,V,hle,_,ag,aj⟩
   · subst M; simp only [List.length_eq_zero_iff] at i; exact absurd i he
   · simp only [mT,true_and] at h
     obtain ⟨rfl,rfl⟩:=h
     have ae:w.shape? q=some (E,cur.size):=by simp [EA,V]
     have ac:=Lib.run_unsafeString_row (P:=P) w C it ty E hu O q cur.size ae l he (by rw [i,ag]; omega) ab (fun j u hu=>by
      obtain ⟨ad,cp,G,U,_,hk,_⟩:=tD A
      simp only [mT,true_and] at G
      obtain ⟨rfl,rfl⟩:=G
      rw [mx,nL]
      exact U.aR j _ (by simp [U8,hu]))
     refine oh (w':=w.freeze ⟨q,0,none⟩ l.length) (v:=str l) ?_ (k _ ⟨?_,?_,?_,?_⟩ ?_)
     · simp [execOp,resolve,invoke,builtin,I,J,← i,ac,str]
     · unfold wH; split <;> rfl
     · unfold wH; split <;> rfl
     · unfold wH; split <;> simp
     · intro k hk Y
       have Z:k≠q:=fun e=>Y<|by simp [iW,e]
       unfold wH
       split
       · rfl
       · simp only [Array.getElem?_modify]; rw [if_neg (fun e=>Z e.symm)]
     · unfold wH; split <;> simp
def vX (P:Program) (q up e n:Nat):Bool:=
 (match P.underlying q with | some (.pointer a)=>a==e | _=>false) && (match P.underlying up with | some .unsafePointer=>true | _=>false) && P.cellsOf e==n && gG 0 n && (match P.info? e with | some i=>i.size==n | _=>false)
theorem Me {P:Program} {a up e n:Nat} (h:vX P a up e n=true):P.underlying a=some (.pointer e)∧P.underlying up=some .unsafePointer∧P.cellsOf e=n∧0 < n∧∃ i,P.info? e=some i∧i.size=n:=by
 simp only [vX,gU] at h
 obtain ⟨⟨⟨⟨h1,h2⟩,h3⟩,h4⟩,h5⟩:=h
 refine ⟨?_,?_,by simpa using h3,sy (ux 0) (uw h4),?_⟩
 · split at h1
   · rename_i h; simp only [beq_iff_eq] at h1; rw [h,h1]
   · cases h1
 · split at h2
   · rename_i h; exact h
   · cases h2
 · split at h5
   · rename_i i hi; exact ⟨i,hi,by simpa using h5⟩
   · cases h5
theorem Y2 {a up e n b:Nat} {L:List Value} (h:vX P a up e n=true) (G:ev N σ x= .pointer (some ⟨b,0,none⟩)) (q:w.heap[b]? =some (.cells L.toArray e (0,0))) (A:L.length=n):
 (execOp (ev N σ) ⟨dst,.convert a up x,ty,pos,af,g⟩).run P w= .ok (.value<|.pointer<|some ⟨b,0,none⟩) w:=by
 obtain ⟨h1,h2,h3,h4,i,hi,hs⟩:=Me h
 have E:w.shape? b=some (e,L.length):=by simp [EA,q]
 have C:¬n=0:=ab
 simp [execOp,G,convert,eA h1,eA h2,M0,MZ,viewAt,E,cellsIn,A,sizeOf,jh hi,hs,C]
theorem TW {q up e n b:Nat} {L:List Value} (h:vX P q up e n=true) (I:ev N σ x= .pointer (some ⟨b,0,none⟩)) (A:w.heap[b]? =some (.cells L.toArray e (0,0))) (C:L.length=n):
 (execOp (ev N σ) ⟨dst,.convert up q x,ty,pos,af,g⟩).run P w= .ok (.value<|.pointer<|some ⟨b,0,none⟩) w:=by
 obtain ⟨h1,h2,h3,h4,i,hi,hs⟩:=Me h
 have G:w.shape? b=some (e,L.length):=by simp [EA,A]
 have a:¬n=0:=ab
 have E:liesAt P P.depth e (L.length / P.cellsOf e) 0 e 1=true :=by
  have hd:P.depth=(2 *(P.types.size+Made.depth)+1)+1:=rfl
  rw [hd]
  simp only [liesAt,Eb]
  left
  rw [hd]
  simp [rowAt,h3,a,C,sameLayout,Nat.div_self h4]
 simp [execOp,I,convert,eA h1,eA h2,M0,MZ,viewAt,G,variablesAt,sizeOf,jh hi,hs,a,E]
theorem Wh {t C e:TypeId} {a:Addr} (hu:P.underlying t=some (.pointer e)) (hs:(P.info? e).isSome=true) (q:ev N σ x= .pointer (some a)) (A:ev N σ y= .pointer (some a)):
 (execOp (ev N σ) ⟨dst,.binOp .neq t x y C,ty,pos,af,g⟩).run P w= .ok (.value<|.bool false) w:=by
 obtain ⟨i,hi⟩:=ph.1 hs
 have he:∀ d,(o4 (d+1) t (.pointer<|some a)<|.pointer<|some a).run P w= .ok true w:=by
  intro d
  simp [o4,eA hu,sizeOf,jh hi,sameAddr]
 have h:(binOp .neq t (.pointer<|some a)<|.pointer<|some a).run P w= .ok (.bool false) w:=by
  have :=he 9999
  simp only [binOp]
  have h2:(Ek t (.pointer<|some a)<|.pointer<|some a).run P w= .ok true w:=this
  simp [h2]
 simp [execOp,q,A,eqGuard,h]
theorem RF {f:FuncId} {args:Array Operand} {a:Array TypeId} {v:Value} (q:∀ v w,(callFunc f #[v]).run P w= .ok (.value v) w) (i:args.toList.map (ev N σ)= [v]):
 (execOp (ev N σ) ⟨dst,.call ⟨.value (.func f),args,a⟩,ty,pos,af,g⟩).run P w= .ok (.value v) w:=by
 have :args.map (ev N σ)= #[v]:=by rw [← zz,nz,i]
 simp [execOp,resolve,ev,qY,invoke,this,q]
structure Bd (T e:TypeId) (w:World) (b:Nat) (buf:Value) (l:List UInt8):Prop where
 aJ:∃ pa,w.heap[b]? =some (.cells [zL pa,buf].toArray T (0,0))∧(pa=none∨pa=some ⟨b,0,none⟩)
 own:w.ownsRow (b+1) e 1 buf l.length (U8 l)
 nil:buf= .slice none 0 0↔l= []
def BF (b:Nat) (a:Value) (k:Nat):Prop :=k=b∨a.ownBlock=some k
end
theorem Bd.lt {T e b:Nat} {w:World} {a:Value} {l:List UInt8} (h:Bd T e w b a l):b < w.heap.size:=let ⟨_,h,_⟩:=h.aJ; (dB.1 h).1
theorem Bd.jn {T e b:Nat} {w:World} {a:Value} {l:List UInt8} (h:Bd T e w b a l) {k:Nat} (hk:BF b a k):b≤k∧k < w.heap.size:=by
 rcases hk with rfl | hk
 · exact ⟨cD _,h.lt⟩
 · have :=h.own.lt k hk; omega
theorem Bd.md {T e b:Nat} {F:Nat→Prop} {w w':World} {a:Value} {l:List UInt8} (h:Bd T e w b a l) (hm:Md F w w') (i:∀ k,BF b a k→¬F k):Bd T e w' b a l:=by
 obtain ⟨⟨q,h1,h2⟩,h3,h4⟩:=h
 exact ⟨⟨q,hm.aJ h1 (i b<|.inl aa),h2⟩,dz h3 hm (fun k hk=>i k<|.inr hk),h4⟩
end Go.Hb
namespace Go.Hb
def gT (P:Program) (t:TypeId):Option (List (Nat×Nat)×List Value):=
 match P.info? t,P.underlying t with
 | some it,some (.struct fields)=>
   match it.zero,fields.toList.mapM (fun f=>(P.info? f.type).map fun i=>(f.offset,i.size)) with
   | some z,some pl=>some (pl,z.cells.toList)
   | _,_=>none
 | _,_=>none
def vA (pl:List (Nat×Nat)):List Value→List (Nat×Value)→Option (List Value)
 | a,[]=>some a
 | a,(i,v)::r=>match pl[i]? with
   | some (off,s)=>if (s==1 && v.oneCell' && gG off a.length)=true then vA pl (a.set off v) r else none
   | none=>none
theorem Xb {pl:List (Nat×Nat)} {a L:List Value} {ps:List (Nat×Value)} (h:vA pl a ps=some L):oZ (pl.toArray[·]?) a.toArray ps=some L.toArray:=by
 induction ps generalizing a with
 | nil=>simp only [vA,fV] at h; subst h; rfl
 | cons p ps E=>
   obtain ⟨i,v⟩:=p
   simp only [vA] at h
   split at h
   · rename_i off s hs
     split at h
     · rename_i q
       simp only [gU,beq_iff_eq] at q
       obtain ⟨⟨rfl,h1⟩,ho⟩:=q
       have G:off < a.length:=uw ho
       have C:v.cells= #[v]:=qO h1
       have A:pl.toArray[i]? =some (off,1):=by simpa using hs
       simp only [oZ,A,C]
       rw [if_neg (by simp; omega),← E h]
       simp
     · cases h
   · cases h
theorem nT {α:Type} {f:α→List Value} {m:Nat} (i:∀ a,(f a).length=m) (l:List α):(l.flatMap f).length=l.length*m:=by
 induction l with
 | nil=>simp
 | cons x l q=>simp [q,i,sB,Nat.add_comm]
theorem BK {α:Type} {f:α→List Value} {m:Nat} (i:∀ a,(f a).length=m) {l:List α} {j c:Nat} {a:α} (h:l[j]? =some a) (q:c < m):(l.flatMap f)[j*m+c]? =(f a)[c]? :=by
 induction l generalizing j with
 | nil=>simp at h
 | cons x l A=>
   cases j with
   | zero=>
     simp only [List.getElem?_cons_zero,fV] at h; subst h
     rw [EL,gW,rh,mm (by rw [i]; exact q)]
   | succ j=>
     simp only [NG] at h
     rw [rh,mV (by rw [i,sB]; omega),i,show (j+1)*m+c - m=j*m+c from by rw [sB]; omega]
     exact A h
theorem fA {α:Type} {f:α→List Value} {m:Nat} (q:∀ a,(f a).length=m) {h:Array Obj} {a:Option Addr} {l:List α} {i:Nat} {e:α} (C:aO h a (l.flatMap f)) (E:l[i]? =some e):∀ j,j < m→Hb.aR h (bk a) (fo a+i*m+j)=(f e)[j]? :=by
 intro j A
 have h1:=BK q E A
 have h2:j < (f e).length:=by rw [q]; exact A
 rw [cI h2] at h1 ⊢
 rw [NW]; exact C.aR _ _ h1
theorem BL {α:Type} {f:α→List Value} {m:Nat} (i:∀ a,(f a).length=m) (hm:0 < m) {l:List α} (h:0 < l.length):l.flatMap f≠[]:=by
 intro e
 have :=nT i l
 rw [e] at this
 have :0 < l.length*m:=Nat.mul_pos h hm
 simp at*; omega
theorem H7 {α:Type} {f:α→List Value} {m:Nat} (i:∀ a,(f a).length=m) {l:List α} {j:Nat} (x:α) (h:j < l.length):(l.set j x).flatMap f=(l.flatMap f).take (j*m)++f x++(l.flatMap f).drop (j*m+m):=by
 induction l generalizing j with
 | nil=>simp at h
 | cons y l q=>
   cases j with
   | zero=>
     simp only [List.set_cons_zero,rh,EL,ow,qc,gW]
     rw [Ns,Nu (by rw [i]; exact cD _),i]; simp
   | succ j=>
     simp only [c7] at h
     rw [List.set_cons_succ,rh,q ab,rh,xa,Ns,i,eU (l:=f y) (by rw [i,sB]; omega),Nu (l:=f y) (by rw [i,sB]; omega),
      show (j+1)*m - m=j*m from by rw [sB]; omega,show (j+1)*m+m - m=j*m+m from by rw [sB]; omega]
     simp
theorem H6 {α:Type} {f:α→List Value} (i:∀ a,(f a).all gF=true) (l:List α):(l.flatMap f).all gF=true :=by
 simp only [List.all_flatMap,ml]; intro x _; exact ml.1<|i x
section
variable {P:Program} {N:Fm} {σ:Nat→Value} {w:World} {dst:Option Nat} {ty:TypeId} {pos :String} {af:Array Edge} {g:Option (Nat×Bool)} {x y z:Operand} {K:(Nat→Value)→World→Prop}
theorem c8 {t:TypeId} {parts:Array (Nat×Operand)} {pl:List (Nat×Nat)} {a L:List Value} {ps:List (Nat×Value)} (h:gT P t=some (pl,a)) (hp:parts.toList.map (fun p=>(p.1,ev N σ p.2))=ps) (i:vA pl a ps=some L):
 (execOp (ev N σ) ⟨dst,.build t parts,ty,pos,af,g⟩).run P w= .ok (.value<|.agg L.toArray) w:=by
 unfold gT at h
 split at h
 · rename_i it fields hi hu
   split at h
   · rename_i z C A hm
     simp only [fV,sD] at h
     obtain ⟨rfl,rfl⟩:=h
     have q:P.built t (parts.map fun p=>(p.1,ev N σ p.2)).toList=some L.toArray:=by
      have :=Xb i
      simp only [MN] at this
      simp only [Program.built,hi,hu,A,hm,nz,hp]; exact this
     simp [execOp,run_build w t _ _ q]
   · cases h
 · cases h
end
end Go.Hb
namespace Go.Hb
section
variable {P:Program} {N:Fm} {σ:Nat→Value} {w:World} {dst:Option Nat} {ty:TypeId} {pos :String} {af:Array Edge} {g:Option (Nat×Bool)} {x y z:Operand} {K:(Nat→Value)→World→Prop}
theorem VY {zv:Value} (h1:zv.oneCell'=true) (n:Nat):madeCells zv.cells n=(kp n zv).toArray:=by
 rw [qO h1]
 apply Array.ext
 · simp [madeCells]
 · intro i h2 h3
   simp [madeCells,Nat.mod_one]
theorem Wd {t e bytes n:Nat} {G E:IntKind} {zv:Value} (O:gi P t e 1 bytes=true) (a:zeroOf P e=some (some [zv])) (h1:zv.oneCell'=true) (U:ev N σ x= .int G n) (V:ev N σ y= .int E n) (Z:bytes*n≤281474976710656) (q:n≤maxLen)
 (k:∀ b w',b=w.heap.size→Nw w w'→(∀ B,B≤b→w'.ownsRow B e 1 (.slice (some ⟨b,0,none⟩) n n) n (kp n zv))→K (iO σ dst<|.slice (some ⟨b,0,none⟩) n n) w'):dV P N ⟨dst,.makeSlice t x y,ty,pos,af,g⟩ σ w K:=by
 obtain ⟨hu,i,I,hi,C,hs,M,ae,ac⟩:=r4 O
 have Y:I.cells= #[zv]:=by
  unfold zeroOf at a
  simp only [hi,C,mo,fV] at a
  exact zz.1<|by simpa using a
 refine oV (v:=fun b=> .slice (some ⟨b,0,none⟩) n n) (ob:= .cells (kp n zv).toArray e (0,0)) ?_ fun b w' h2 h3 h4=>k b w' h2 h3 fun B J=>⟨by simp,.inr ⟨b,n,_,aa,J,h4,cD _,q,by simp,by simp⟩⟩
 have A:=run_make (P:=P) w t e i I hu hi C G E n n ab (Int.le_refl _) (by rw [M,← Int.natCast_mul]; omega)<|by unfold maxLen at q; omega
 rw [Y,hs,Nat.mul_one,mU,show madeCells #[zv] n=(kp n zv).toArray by rw [← VY h1,qO h1]] at A
 simp [execOp,U,V,A]
end
end Go.Hb
namespace Go.Hb
section
variable {P:Program} {N:Fm} {σ:Nat→Value} {w:World} {dst:Option Nat} {ty:TypeId} {pos :String} {af:Array Edge} {g:Option (Nat×Bool)} {x y z:Operand}
theorem Ra {t n len cap i:Nat} {a:Option Addr} {k k':IntKind} (he:gA P t=some n) (C:ev N σ x= .slice a len cap) (E:ev N σ y= .int k (i:Nat)) (G:ev N σ z= .int k' (i:Nat)) (h:i≤cap):
 (execOp (ev N σ) ⟨dst,.slice t x none (some y) (some z),ty,pos,af,g⟩).run P w= .ok (.value<|.slice a i i) w:=by
 have q:(0:Int)≤(i:Int):=ab
 unfold gA at he
 cases hd:P.underlying t with
 | none=>rw [hd] at he; cases he
 | some d=>
   rw [hd] at he
   cases d <;> first | (cases he; done) | skip
   rename_i e
   cases hi':P.info? e with
   | none=>simp [hi'] at he
   | some j=>
     have A:(if i=0 then a else a.map (·.add 0))=a:=by
      split
      · rfl
      · cases a <;> simp [zB]
     simp only [execOp,si,wm,C,E,G,mo,Option.map_none,o0,sj,asIntOf]
     simp [eA hd,jh hi',sizeOf,q,A]
     intro I; omega
end
end Go.Hb
namespace Go.Hb
def rm (h:Array Obj) (b:Nat) (kvs:List (Value×Value)):Prop := ∃ es clock,h[b]? =some (.map es clock)∧es.toList.map (fun e=>(e.key,e.val))=kvs
theorem rm.md {F:Nat→Prop} {w w':World} {b:Nat} {kvs:List (Value×Value)} (h:rm w.heap b kvs) (hm:Md F w w') (a:¬F b):rm w'.heap b kvs:=
 let ⟨es,c,h1,h2⟩:=h; ⟨es,c,hm.aJ h1 a,h2⟩
structure xh (P:Program) (k:TypeId) (isK:Value→Prop):Prop where
 check:∀ em w v,isK v→(ub em 10000 k v).run P w= .ok () w
 find:∀ w x es,isK x→(∀ e∈es,isK e.key)→
  ((zE k x es).run P w= .ok none w∧∀ e∈es,e.key≠x)∨∃ j e,(zE k x es).run P w= .ok (some (j,e.val)) w∧es[j]? =some e∧e.key=x
theorem Q0 {P:Program} {k:TypeId} {em:Bool} {n:Nat} {a:List UInt8} (hk:P.underlying k=some .string) (w:World):(ub em (n+1) k<|str a).run P w= .ok () w:=by
 simp only [str,ub,wy,eA hk,wx,zJ]
def zeroV (P:Program) (e:TypeId):Option Value:=(P.info? e).bind (·.zero)
theorem zu {P:Program} {e:TypeId} {z:Value} (h:zeroV P e=some z) (w:World):(zeroValue e).run P w= .ok z w:=by
 unfold zeroV at h
 simp only [Option.bind_eq_some_iff] at h
 obtain ⟨i,hi,a⟩:=h
 simp [zeroValue,jh hi,a]
section
variable {P:Program} {N:Fm} {σ:Nat→Value} {w:World} {dst:Option Nat} {ty:TypeId} {pos :String} {af:Array Edge} {g:Option (Nat×Bool)} {x y z:Operand} {K:(Nat→Value)→World→Prop}
variable {t k e:TypeId} {isK:Value→Prop} {b:Nat} {kvs:List (Value×Value)} {kx v:Value}
theorem By {es:Array MapEntry} (h:es.toList.map (fun e=>(e.key,e.val))=kvs) (hk:∀ p∈kvs,isK p.1):∀ e∈es.toList,isK e.key:=fun e he=>hk (e.key,e.val)<|by rw [← h]; exact wY he
theorem run_getObj_map {es:Array MapEntry} {c:Nat} (a:w.heap[b]? =some (.map es c)):(getObj b).run P w= .ok (.map es c) w:=by
 simp [getObj,Sem.run,a]
theorem Ws {kvs:List (Value×Value)} (hn:(kvs.map mW).Nodup) {kx v a:Value} (h1:(kx,v)∈kvs) (h2:(kx,a)∈kvs):v=a:=by
 induction kvs with
 | nil=>simp at h1
 | cons p kvs i=>
   simp only [um,ur] at hn
   rcases e7.1 h1 with h1 | h1
   · rcases e7.1 h2 with h2 | h2
     · rw [← h1] at h2; cases h2; rfl
     · rw [← h1] at hn; exact absurd (wY (f:=mW) h2) hn.1
   · rcases e7.1 h2 with h2 | h2
     · rw [← h2] at hn; exact absurd (wY (f:=mW) h1) hn.1
     · exact i hn.2 h1 h2
theorem VP {ok:Bool} (G:P.underlying t=some (.map k e)) (i:xh P k isK) (hm:rm w.heap b kvs) (hk:∀ p∈kvs,isK p.1) (J:ev N σ x= .map (some b)) (M:ev N σ y=kx) (hi:isK kx) (hn:(kvs.map mW).Nodup) (a:(kx,v)∈kvs):
 (execOp (ev N σ) ⟨dst,.lookup t x y ok,ty,pos,af,g⟩).run P w= .ok (.value (if ok then .tuple #[v,.bool true] else v)) w:=by
 obtain ⟨es,c,E,he⟩:=hm
 rcases i.find w kx es.toList hi (By he hk) with ⟨_,h2⟩ | ⟨j,q,h1,h2,h3⟩
 · rw [← he] at a
   obtain ⟨A,C,h4⟩:=o7.1 a
   cases h4
   exact absurd aa<|h2 A C
 · have I:(kx,q.val)∈kvs:=by rw [← he,← h3]; exact wY (f:=fun e:MapEntry=>(e.key,e.val))<|iR h2
   have :=Ws hn a I
   subst this
   cases ok <;> simp [execOp,M9,eA G,J,M,run_getObj_map E,i.check _ w kx hi,h1]
theorem VQ {ok:Bool} {zv:Value} (A:P.underlying t=some (.map k e)) (G:zeroV P e=some zv) (a:xh P k isK) (hm:rm w.heap b kvs) (hk:∀ p∈kvs,isK p.1) (C:ev N σ x= .map (some b)) (E:ev N σ y=kx) (hi:isK kx) (hn:∀ v,(kx,v)∉kvs):
 (execOp (ev N σ) ⟨dst,.lookup t x y ok,ty,pos,af,g⟩).run P w= .ok (.value (if ok then .tuple #[zv,.bool false] else zv)) w:=by
 obtain ⟨es,c,q,he⟩:=hm
 rcases a.find w kx es.toList hi (By he hk) with ⟨h1,_⟩ | ⟨j,i,h1,h2,h3⟩
 · cases ok <;> simp [execOp,M9,eA A,C,E,run_getObj_map q,a.check _ w kx hi,h1,zu G]
 · exact absurd (by rw [← he,← h3]; exact wY (f:=fun e:MapEntry=>(e.key,e.val))<|iR h2)<|hn i.val
end
end Go.Hb
namespace Go.Hb
def tag (w:World) (k:Nat):Nat:=match w.heap[k]? with | some (.cells _ t _)=>t+2 | some (.map _ _)=>1 | _=>0
theorem dA {w:World} {k t:Nat} {cs:Array Value} {z:Nat×Nat} (h:w.heap[k]? =some (.cells cs t z)):tag w k=t+2:=by unfold tag; rw [h]
theorem YP {w:World} {k:Nat} {kvs:List (Value×Value)} (h:rm w.heap k kvs):tag w k=1:=by
 obtain ⟨es,c,h,_⟩:=h
 unfold tag; rw [h]
theorem DM {w:World} {B e size n k:Nat} {v:Value} {xs:List Value} (h:w.ownsRow B e size v n xs) (hk:v.ownBlock=some k):tag w k=e+2:=by
 rcases h.2 with ⟨rfl,_⟩ | ⟨g,cap,cur,rfl,_,a,_⟩
 · simp [iW] at hk
 · simp only [iW,fV] at hk; subst hk
   exact dA a
def TF (w:World) (L:List Nat) (F:Nat→Prop):Prop := ∀ k,F k→L.contains (tag w k)=true
theorem TF.no {w:World} {L:List Nat} {F:Nat→Prop} (h:TF w L F) {k t:Nat} (i:tag w k=t) (a:L.contains t=false):¬F k:=fun hk=>by
 have :=h k hk
 rw [i,a] at this; cases this
theorem TF.or {w:World} {L:List Nat} {F G:Nat→Prop} (h:TF w L F) (a:TF w L G):TF w L (fun k=>F k∨G k):=fun k hk=>by
 rcases hk with hk | hk
 · exact h k hk
 · exact a k hk
theorem TF.eq {w:World} {L:List Nat} {b t:Nat} (i:tag w b=t) (a:L.contains t=true):TF w L (fun k=>k=b):=fun k hk=>by
 subst hk; rw [i]; exact a
theorem TF.own {w:World} {L:List Nat} {B e size n:Nat} {v:Value} {xs:List Value} (h:w.ownsRow B e size v n xs) (a:L.contains (e+2)=true):TF w L (fun k=>v.ownBlock=some k):=fun k hk=>by
 rw [DM h hk]; exact a
theorem Md.ic {F:Nat→Prop} {w w':World} {L:List Nat} {k t:Nat} {cs:Array Value} {z:Nat×Nat} (hm:Md F w w') (a:TF w L F) (h:w.heap[k]? =some (.cells cs t z)) (i:L.contains (t+2)=false):w'.heap[k]? =some (.cells cs t z):=hm.aJ h<|a.no (dA h) i
theorem cx {F:Nat→Prop} {w w':World} {L:List Nat} {B e size n:Nat} {v:Value} {xs:List Value} (h:w.ownsRow B e size v n xs) (hm:Md F w w') (a:TF w L F) (i:L.contains (e+2)=false):w'.ownsRow B e size v n xs:=dz h hm fun _ hk=>a.no (DM h hk) i
theorem Md.tag {F:Nat→Prop} {w w':World} (hm:Md F w w') {k:Nat} (hk:k < w.heap.size) (a:¬F k):Hb.tag w' k=Hb.tag w k:=by
 unfold Hb.tag; rw [hm.cH k hk a]
end Go.Hb
end
section
namespace Go.Hb
open Go.ChangeShapes Go.WideShapes Go.ChangeAt
theorem Wk.frame {w w':World} (h:Wk w w') (may:MemPlace→Prop):w.keptBut w' may:=by
 refine ⟨h.os,h.output,fun i hi=> ?_⟩
 rw [h.cH i hi id]
 split <;> simp_all
theorem Wk.same {w w':World} (h:Wk w w') {p:MemPlace} (hp:p.block < w.heap.size):w.sameAt w' p:=by
 cases p with
 | cell b o=>exact World.cell?_of_block (w:=w)<|h.cH b hp id
 | map b=>exact h.cH b hp id
section
variable {H:Type} {enc:TypeId×Value→H} {P:Program} {W W':World}
theorem LW (C:laidOutB P=true) (hk:Wk W W'):∀ (i:List TypeId) (vs:List Value) (A:List (DataW H)) (ps:List MemPlace),i.all (fun t=>P.readableRec t && decide (t < P.types.size))=true→(∀ x∈ps,x.block < W.heap.size)→
 M1 enc P W 0 (fun _=>true) true i vs A ps→M1 enc P W' 0 (fun b=>decide (b < W.heap.size)) true i vs A ps
 | [],[],[],_,_,_,h=>h
 | t::i,v::vs,d::A,_,hp,hlt,⟨p,q,h1,h2,he⟩=>by
   subst he
   rw [uh,gU,gU] at hp
   exact ⟨p,q,WideElems.Trod_stays C hp.1.1 (of_decide_eq_true hp.1.2) h1 (fun x a=>hk.same<|hlt x<|NK _ a) (fun x a=>decide_eq_true<|hlt x<|NK _ a),
    LW C hk i vs A q hp.2 (fun x a=>hlt x<|List.mem_append_right _ a) h2,rfl⟩
 | [],_::_,_,_,_,_,h=>h.elim
 | [],[],_::_,_,_,_,h=>h.elim
 | _::_,[],_,_,_,_,h=>h.elim
 | _::_,_::_,[],_,_,_,h=>h.elim
theorem Xr {f:FuncId} {fn:Func} {s:ChangeSpec} {args:Array Value} {a gs:List (DataW H)} {before:List MemPlace} {tb:TypeId} (A:DataW.Whole enc P fn.params.toList s.vars false W args.toList a gs before) (E:s.vars= [])
 (hs:s.fn H (a++gs)= {results:= [.lit (.bool true)],args:=a}) (O:fn.resultTypes= #[tb]) (I:P.underlying tb=some .bool) (J:laidOutB P=true) (hp:fn.params.toList.all (fun t=>P.readableRec t && decide (t < P.types.size))=true)
 (h:bp P f args W (fun v w'=>v= .bool true∧Wk W w')):Calls P f args W fun e W'=> ∃ v,e= .returned v∧s.post enc P fn false true false false W args v W':=by
 refine lE h fun e W' ⟨v,he,U,hk⟩=>⟨v,he,?_⟩
 subst U
 have C:=A
 obtain ⟨p,q,G,i,rfl,_,_⟩:=A
 rw [E] at i
 obtain ⟨rfl,rfl⟩:=trodVars_none i
 have M:∀ x∈p,x.block < W.heap.size:=fun x V=>C.lt x<|by simpa using V
 refine ⟨_,_,_,[],p,[],C,?_,?_,?_,hk.frame _,fun h=>by cases h⟩
 · rw [hs,O]
   exact trodAll_cons_mk (shut_bool I _) trodAll_mk0
 · rw [hs]
   exact LW J hk _ _ _ _ hp M G
 · rw [hs,E]; rfl
end
end Go.Hb
namespace Go.Hb
open Go.Proofs.YtffmhpaepdkabaaGreatDoor
theorem O1 {H:Type} {l:List (DataW H)} (hk:Rows.uptoSmall H l=true):Rows.uptoBulkAll l≤1048576:=of_decide_eq_true hk
end Go.Hb
namespace Go.Hb
open Go.Proofs.YtffmhpaepdkabaaGreatDoor Go.ChangeShapes Go.WideShapes Go.ChangeAt
structure EO (P:Program) (t:TypeId) (m:Nat) {X:Type} (R:World→List Value→X→Prop) (B:X→Nat):Prop where
 cells:P.cellsOf t=m
 op:∀ {H:Type} (enc:TypeId×Value→H) (W:World) (fuel:Nat) (cs:List Value) (d:DataW H) (p:List MemPlace),DataW.trod enc P W 0 (fun _=>true) true fuel t cs=some (d,p)→cs.length=m∧∃ x,R W cs x∧B x≤Rows.uptoBulk d
section
variable {P:Program} {t t0 t1 e:TypeId} {m m0 m1:Nat} {X X0 X1:Type} {R:World→List Value→X→Prop} {B:X→Nat} {R0:World→List Value→X0→Prop} {B0:X0→Nat} {R1:World→List Value→X1→Prop} {B1:X1→Nat}
theorem WE {k:IntKind} (i:P.underlying t=some (.int k)) (a:P.cellsOf t=1):EO P t 1 (fun _ cs (x:Int)=>cs= [.int k x]∧(Lit.int k x).wf=true) (fun _=>1) where
 cells:=a
 op enc W fuel cs d p h:=by
  obtain ⟨n,rfl,q,hw⟩:=DataW.trod_int i h
  cases q
  exact ⟨aa,n,⟨aa,hw⟩,by simp [Rows.uptoBulk]⟩
theorem Kr (i:P.underlying t=some .string) (a:P.cellsOf t=1):EO P t 1 (fun _ cs (x:List UInt8)=>cs= [str x]) (fun x=>x.length+1) where
 cells:=a
 op enc W fuel cs d p h:=by
  obtain ⟨s,rfl,q,hw⟩:=DataW.trod_string i h
  cases q
  exact ⟨aa,s.data.toList,aa,by simp [Rows.uptoBulk]⟩
end
end Go.Hb
end
namespace Go.Hb
theorem drop_cons {α:Type} {l:List α} {i:Nat} (d:α) (h:i < l.length):l.drop i=l.getD i d::l.drop (i+1):=by
 rw [List.drop_eq_getElem_cons h]; simp [da,h]
theorem vM {α:Type} {l:List α} {k i:Nat} (d:α) (hk:k≤i) (hi:i < l.length):(l.take<|i+1).drop k=(l.take i).drop k++ [l.getD i d]:=by
 rw [fK l i d hi,List.drop_append_of_le_length (by rw [dQ]; omega)]
def ni (b:UInt8):Bool:=b==32 || b==9
theorem qC (b:UInt8):ni b=decide (b.toNat=32∨b.toNat=9):=by
 unfold ni
 have h:∀ x:UInt8,(b==x)=decide (b.toNat=x.toNat):=fun x=>by
  by_cases a:b=x
  · subst a; simp
  · have :b.toNat≠x.toNat:=fun h=>a<|k6.1 h
    simp [a,this]
 rw [h,h]
 simp [Bool.decide_or]
def cQ:List UInt8→List UInt8→List (List UInt8)
 | cur,[]=>if cur= [] then [] else [cur]
 | cur,b::r=>if ni b then (if cur= [] then cQ [] r else cur::cQ [] r) else cQ (cur++ [b]) r
theorem BQ:cQ [] []= []:=by simp [cQ]
theorem H9 {cur:List UInt8} (h:cur≠[]):cQ cur []= [cur]:=by simp [cQ,h]
theorem x9 {b:UInt8} {r:List UInt8} (h:ni b=true):cQ [] (b::r)=cQ [] r:=by simp [cQ,h]
theorem H8 {cur:List UInt8} {b:UInt8} {r:List UInt8} (h:ni b=true) (a:cur≠[]):cQ cur (b::r)=cur::cQ [] r:=by simp [cQ,h,a]
theorem BO {cur:List UInt8} {b:UInt8} {r:List UInt8} (h:ni b=false):cQ cur (b::r)=cQ (cur++ [b]) r:=by simp [cQ,h]
theorem BN:∀ (l cur x:List UInt8),x∈cQ cur l→x≠[]∧x.length≤cur.length+l.length:=by
 intro l
 induction l with
 | nil=>
   intro cur x h
   unfold cQ at h
   split at h
   · cases h
   · simp only [j5] at h; subst h; exact ⟨by assumption,by simp⟩
 | cons b r a=>
   intro cur x h
   unfold cQ at h
   split at h
   · split at h
     · have :=a [] x h; simp only [c7,fU] at*; exact ⟨this.1,ab⟩
     · rcases e7.1 h with rfl | h
       · exact ⟨by assumption,by simp⟩
       · have :=a [] x h; simp only [c7,fU] at*; exact ⟨this.1,ab⟩
   · have :=a _ x h; simp only [c7,bM,fU] at*; exact ⟨this.1,ab⟩
theorem uT:∀ (l cur:List UInt8),(cQ cur l).length≤l.length+1:=by
 intro l
 induction l with
 | nil=>intro cur; unfold cQ; split <;> simp
 | cons b r a=>
   intro cur
   unfold cQ
   split
   · split
     · have :=a []; simp only [c7]; omega
     · have :=a []; simp only [c7]; omega
   · have :=a (cur++ [b]); simp only [c7]; omega
theorem BM {cur l:List UInt8} {i:Nat} (a:cur≠[]) (h:l.length≤i∨ni (l.getD i 0)=true):cQ cur (l.drop i)=cur::cQ [] (l.drop i):=by
 by_cases hi:i < l.length
 · have q:=h.resolve_left ab
   rw [drop_cons 0 hi,H8 q a,x9 q]
 · rw [gV ab,H9 a,BQ]
def k8 (l:List UInt8) (i:Nat) (a:Int) (cur:List UInt8):Prop :=(a= -1∧cur= [])∨(∃ k:Nat,a=k∧k < i∧i≤l.length∧cur=(l.take i).drop k)
theorem k8.no {l:List UInt8} {i:Nat} :k8 l i (-1) []:= .inl ⟨rfl,rfl⟩
theorem k8.neg {l cur:List UInt8} {i:Nat} {a:Int} (h:k8 l i a cur) (q:a < 0):a= -1∧cur= []:=by
 rcases h with h | ⟨k,rfl,_⟩
 · exact h
 · omega
theorem k8.pos {l cur:List UInt8} {i:Nat} {a:Int} (h:k8 l i a cur) (q:¬a < 0):(0≤a∧a < i)∧cur=(l.take i).drop a.toNat∧cur≠[]:=by
 rcases h with ⟨rfl,_⟩ | ⟨k,rfl,h1,h2,rfl⟩
 · omega
 · refine ⟨ab,by simp,fun e=> ?_⟩
   have :=congrArg jD e
   simp only [fT,dQ,fU] at this
   omega
theorem k8.begin {l:List UInt8} {i:Nat} (hi:i < l.length):k8 l (i+1) i [l.getD i 0]:=by
 refine .inr ⟨i,aa,ab,ab,?_⟩
 rw [vM 0 (cD i) hi,gV (by rw [dQ]; omega),qc]
theorem k8.more {l cur:List UInt8} {i:Nat} {a:Int} (h:k8 l i a cur) (q:¬a < 0) (hi:i < l.length):k8 l (i+1) a (cur++ [l.getD i 0]):=by
 rcases h with ⟨rfl,_⟩ | ⟨k,rfl,h1,h2,rfl⟩
 · omega
 · exact .inr ⟨k,aa,ab,ab,(vM 0 ab hi).symm⟩
def jM (l:List UInt8):List UInt8:=if 0 < l.length∧l.getD (l.length - 1) 0=13 then l.take (l.length - 1) else l
theorem Hl (l:List UInt8):(jM l).length≤l.length:=by unfold jM; split <;> simp
theorem Hm {l:List UInt8} (h:0 < l.length) (h1:l.getD (l.length - 1) 0=13):jM l=l.take (l.length - 1):=if_pos ⟨h,h1⟩
theorem Bt {l:List UInt8} (h:¬(0 < l.length∧l.getD (l.length - 1) 0=13)):jM l=l:=if_neg h
theorem Jq {l:List UInt8} (h:0 < l.length):l.drop (l.length - 1)= [l.getD (l.length - 1) 0]:=by
 rw [drop_cons 0 ab,gV ab]
def gh:List UInt8→List UInt8→List (List UInt8)
 | cur,[]=>if cur= [] then [] else [jM cur]
 | cur,b::r=>if b=10 then jM cur::gh [] r else gh (cur++ [b]) r
theorem CI:gh [] []= []:=by simp [gh]
theorem JC {cur:List UInt8} (h:cur≠[]):gh cur []= [jM cur]:=by simp [gh,h]
theorem JD (cur r:List UInt8):gh cur (10::r)=jM cur::gh [] r:=by simp [gh]
theorem CH {cur:List UInt8} {b:UInt8} {r:List UInt8} (h:b≠10):gh cur (b::r)=gh (cur++ [b]) r:=by simp [gh,h]
theorem CG:∀ (l cur:List UInt8),(gh cur l).length≤l.length+1:=by
 intro l
 induction l with
 | nil=>intro cur; unfold gh; split <;> simp
 | cons b r a=>
   intro cur
   unfold gh
   split
   · have :=a []; simp only [c7]; omega
   · have :=a (cur++ [b]); simp only [c7]; omega
theorem VS (l:List UInt8):(gh [] l).length≤l.length:=by
 cases l with
 | nil=>simp [gh]
 | cons b r=>
   unfold gh
   split
   · have :=CG r []
     have h2:∀ m:List UInt8,(gh [] m).length≤m.length:=by
      intro m
      induction m with
      | nil=>simp [gh]
      | cons c m a=>
        unfold gh
        split
        · simp only [c7]; omega
        · have :=CG m ([]++ [c]); simp only [c7]; omega
     have :=h2 r
     simp only [c7]; omega
   · have :=CG r ([]++ [b]); simp only [c7]; omega
theorem VT:∀ (l cur x:List UInt8),x∈gh cur l→x.length≤cur.length+l.length:=by
 intro l
 induction l with
 | nil=>
   intro cur x h
   unfold gh at h
   split at h
   · cases h
   · simp only [j5] at h; subst h; have :=Hl cur; simp only [fU]; omega
 | cons b r a=>
   intro cur x h
   unfold gh at h
   split at h
   · rcases e7.1 h with rfl | h
     · have :=Hl cur; omega
     · have :=a [] x h; simp only [c7,fU] at*; omega
   · have :=a _ x h; simp only [c7,bM,fU] at*; omega
def fj (c:UInt8) (l:List UInt8):Int:=if l.idxOf c < l.length then (l.idxOf c:Int) else -1
theorem Jh {c:UInt8} {l:List UInt8} (h:fj c l < 0):¬l.idxOf c < l.length:=fun h1=>by unfold fj at h; rw [if_pos h1] at h; omega
theorem rM {c:UInt8} {l:List UInt8} (h:¬fj c l < 0):fj c l=l.idxOf c∧l.idxOf c < l.length:=by
 unfold fj at*
 by_cases h1:l.idxOf c < l.length
 · exact ⟨if_pos h1,h1⟩
 · rw [if_neg h1] at h; omega
def mA (c:UInt8) (l:List UInt8):List UInt8:=if fj c l < 0 then l else l.take (l.idxOf c)
def nO (c:UInt8) (l:List UInt8):List UInt8:=if fj c l < 0 then [] else l.drop (l.idxOf c+1)
theorem RX (c:UInt8) (l:List UInt8):(mA c l).length≤l.length:=by unfold mA; split <;> simp; omega
theorem R6 {c:UInt8} {l:List UInt8} (h:l≠[]):(nO c l).length < l.length:=by
 have :=lF.2 h
 unfold nO; split <;> simp <;> omega
theorem VR:∀ (l cur:List UInt8),l.idxOf 10 < l.length→gh cur l=jM (cur++l.take (l.idxOf 10))::gh [] (l.drop<|l.idxOf 10 +1):=by
 intro l
 induction l with
 | nil=>intro cur h; simp at h
 | cons b r q=>
   intro cur h
   by_cases a:b=10
   · subst a
     rw [EE,JD,ow,ei,gW,List.drop_one,List.tail_cons]
   · have i:(b::r).idxOf 10=r.idxOf 10 +1:=by rw [wT,beq_eq_false_iff_ne.2 a]; rfl
     rw [i] at h ⊢
     simp only [c7] at h
     rw [CH a,q _ ab,qe,wO,dH]
     rfl
theorem VU:∀ (l cur:List UInt8),¬l.idxOf 10 < l.length→cur++l≠[]→gh cur l= [jM (cur++l)]:=by
 intro l
 induction l with
 | nil=>intro cur _ h; rw [ei] at h ⊢; exact JC h
 | cons b r q=>
   intro cur h h1
   by_cases a:b=10
   · subst a; rw [EE] at h; simp at h
   · have i:(b::r).idxOf 10=r.idxOf 10 +1:=by rw [wT,beq_eq_false_iff_ne.2 a]; rfl
     rw [i] at h
     simp only [c7] at h
     rw [CH a,q _ ab (by simp),dH]
     rfl
theorem VV {l:List UInt8} (h:l≠[]):gh [] l=jM (mA 10 l)::gh [] (nO 10 l):=by
 by_cases h1:fj 10 l < 0
 · rw [VU l [] (Jh h1) (by simpa using h)]
   unfold mA nO
   rw [if_pos h1,if_pos h1,CI,qc]
 · rw [VR l [] (rM h1).2]
   unfold mA nO
   rw [if_neg h1,if_neg h1,qc]
def gC (s p:List UInt8):List UInt8:=if s.take p.length=p then s.drop p.length else s
def qJ:List UInt8:= [239,187,191]
def tA (s:List UInt8):Bool:=decide (s.take 3=qJ)
def k0 (s:List UInt8):List UInt8:=gC s qJ
theorem zo (s:List UInt8):(k0 s).length≤s.length:=by unfold k0 gC; split <;> simp
theorem Zh {s:List UInt8} (h:tA s=true):k0 s=s.drop 3:=if_pos<|of_decide_eq_true h
theorem Zg {s:List UInt8} (h:tA s=false):k0 s=s:=if_neg<|of_decide_eq_false h
theorem V0 {s:List UInt8} (h:tA s=true):3≤s.length:=by
 have h1:=congrArg jD<|of_decide_eq_true h
 rw [dQ] at h1
 have :qJ.length=3:=rfl
 omega
theorem yI (s:List UInt8):tA s=decide (3≤s.length∧(s.getD 0 0).toNat=239∧(s.getD 1 0).toNat=187∧(s.getD 2 0).toNat=191):=by
 unfold tA
 refine decide_eq_decide.2 ?_
 match s with
 | []=>simp [qJ]
 | [a]=>simp [qJ]
 | [a,b]=>simp [qJ]
 | a::b::c::r=>
   have h:∀ (x:UInt8) (n:Nat),n < 256→(x=j7 n↔x.toNat=n):=fun x n hn=>by
    constructor
    · rintro rfl; simp; omega
    · intro h; apply k6.1; simp; omega
   have h1:=h a 239 az
   have h2:=h b 187 az
   have h3:=h c 191 az
   simp only [qJ,qe,ow,List.cons.injEq,and_true,c7,lT,List.getD_cons_succ]
   constructor
   · rintro ⟨i,q,A⟩; exact ⟨ab,h1.1 i,h2.1 q,h3.1 A⟩
   · rintro ⟨_,i,q,A⟩; exact ⟨h1.2 i,h2.2 q,h3.2 A⟩
def bL (t:List UInt8):List (List UInt8):=gh []<|k0 t
theorem nY (t:List UInt8):(bL t).length≤t.length:=gk (VS _)<|zo t
theorem CF {t x:List UInt8} (h:x∈bL t):x.length≤t.length:=by
 have :=VT _ _ _ h
 have :=zo t
 simp only [fU] at*; omega
def vH (f:List UInt8):Bool:=decide ((f.getD 0 0).toNat=35)
def nX (f:List (List UInt8)):List (List UInt8):=f.takeWhile fun x=> !vH x
def lx (l:List UInt8) (n:Nat):List (Nat×List (List UInt8)):=if nX (cQ [] l)= [] then [] else [(n,nX (cQ [] l))]
def lB (n:Nat):List (List UInt8)→List (Nat×List (List UInt8))
 | []=> []
 | l::r=>lx l n++lB (n+1) r
def bR (t:List UInt8):List (Nat×List (List UInt8)):=lB 1<|bL t
theorem np (l:List UInt8):∀ (i:List (List UInt8)) (n:Nat),lB n (i++ [l])=lB n i++lx l (n+i.length):=by
 intro i
 induction i with
 | nil=>intro n; simp [lB]
 | cons a i q=>intro n; rw [EB,lB,q,lB,c7,dH,show n+1 +i.length=n+(i.length+1) from by omega]
theorem Dp:∀ (i:List (List UInt8)) (n:Nat),(lB n i).length≤i.length:=by
 intro i
 induction i with
 | nil=>intro n; simp [lB]
 | cons a i q=>
   intro n
   have :=q<|n+1
   unfold lB lx
   rw [bM]
   split <;> simp only [fU,c7] <;> omega
theorem yV (t:List UInt8):(bR t).length≤t.length:=gk (Dp _ _)<|nY t
theorem yE {f:List (List UInt8)} :∀ {j:Nat},j≤f.length→(∀ i,i < j→vH (f.getD i [])=false)→(j=f.length∨vH (f.getD j [])=true)→nX f=f.take j:=by
 induction f with
 | nil=>intro j A _ _; rw [NT]; rfl
 | cons a f C=>
   intro j A h1 h2
   cases j with
   | zero=>
     rcases h2 with h2 | h2
     · simp at h2
     · simp only [lT] at h2
       simp [nX,h2]
   | succ j=>
     have q:=h1 0 ab
     simp only [lT] at q
     have :=C (j:=j) (by simpa using A) (fun i hi=>by simpa using h1 (i+1) ab)<|by simpa using h2
     unfold nX at*
     rw [List.takeWhile_cons,q]
     simp only [Bool.not_false,if_true,qe]
     rw [this]
theorem Vx {f:List (List UInt8)} {x:List UInt8} (h:x∈nX f):x∈f:=(NS _).subset h
theorem Vw (f:List (List UInt8)):(nX f).length≤f.length:=(NS _).length_le
theorem XI:∀ (i:List (List UInt8)) (n:Nat) (r:Nat×List (List UInt8)),r∈lB n i→n≤r.1∧r.1 < n+i.length∧r.2≠[]∧∃ l∈i,r.2=nX (cQ [] l):=by
 intro i
 induction i with
 | nil=>intro n r h; cases h
 | cons a i A=>
   intro n r h
   rw [lB] at h
   rcases jF.1 h with h | h
   · unfold lx at h
     split at h
     · cases h
     · simp only [j5] at h; subst h
       exact ⟨by simp,by simp,by assumption,a,by simp,aa⟩
   · obtain ⟨h1,h2,h3,l,q,h4⟩:=A _ _ h
     exact ⟨ab,by simp only [c7]; omega,h3,l,by simp [q],h4⟩
theorem yW {t:List UInt8} {r:Nat×List (List UInt8)} (h:r∈bR t):1≤r.1∧r.1≤t.length∧r.2≠[]∧r.2.length≤t.length+1∧∀ x∈r.2,x≠[]∧x.length≤t.length:=by
 obtain ⟨h1,h2,h3,l,i,h4⟩:=XI _ _ _ h
 have A:=nY t
 have q:=CF i
 refine ⟨h1,ab,h3,?_,fun x a=> ?_⟩
 · rw [h4]; have :=Vw (cQ [] l); have :=uT l []; omega
 · rw [h4] at a
   have :=BN _ _ _<|Vx a
   simp only [fU] at this
   exact ⟨this.1,ab⟩
def qt (b:UInt8):Bool:=decide (48≤b.toNat∧b.toNat≤57)
def eW (s:List UInt8):Nat:=s.foldl (fun n b=>n*10 +(b.toNat - 48)) 0
theorem nb {s:List UInt8} {i:Nat} (h:i < s.length):eW (s.take<|i+1)=eW (s.take i)*10 +((s.getD i 0).toNat - 48):=by
 rw [fK s i 0 h]; unfold eW; rw [ED]; rfl
theorem TU:∀ (s:List UInt8) (n:Nat),n≤s.foldl (fun n b=>n*10 +(b.toNat - 48)) n:=by
 intro s
 induction s with
 | nil=>intro n; exact cD _
 | cons b s a=>intro n; refine gk ?_ (a _); show n≤n*10 +(b.toNat - 48); omega
theorem Sm (s:List UInt8) (i:Nat):eW (s.take i)≤eW s:=by
 have :eW s=(s.drop i).foldl (fun n b=>n*10 +(b.toNat - 48)) (eW<|s.take i):=by
  unfold eW; rw [← ED,List.take_append_drop]
 rw [this]; exact TU _ _
def qF (s:List UInt8):Prop :=s= []∨(1 < s.length∧(s.getD 0 0).toNat=48)
def Bl (s:List UInt8):Prop := ∀ i,i < s.length→qt (s.getD i 0)=true
open Classical in
noncomputable def ee (s:List UInt8) (most:Int):Nat×Int:=if qF s∨¬Bl s∨most < eW s then (0,13) else (eW s,0)
theorem yN {s:List UInt8} {most:Int} (h:qF s):ee s most=(0,13):=if_pos<|.inl h
theorem yM {s:List UInt8} {most:Int} {i:Nat} (h:i < s.length) (h1:qt (s.getD i 0)=false):ee s most=(0,13):=if_pos<|.inr<|.inl fun hd=>by rw [hd i h] at h1; cases h1
theorem Wt {s:List UInt8} {most:Int} (h:most < eW s):ee s most=(0,13):=if_pos<|.inr<|.inr h
theorem vw {s:List UInt8} {most:Int} (i:Nat) (h:most < eW (s.take i)):ee s most=(0,13):=Wt<|by have :=Sm s i; omega
theorem CR {s:List UInt8} {most:Int} (h:¬qF s) (h1:Bl s) (h2:¬most < eW s):ee s most=(eW s,0):=if_neg<|by rintro (a | a | a) <;> first | exact h a | exact a h1 | exact h2 a
theorem Kj (s:List UInt8) (most:Int):(ee s most=(0,13))∨(ee s most=(eW s,0)∧(eW s:Int)≤most):=by
 unfold ee
 split
 · exact .inl aa
 · rename_i h; exact .inr ⟨rfl,by have :¬most < eW s:=fun a=>h (.inr<|.inr a); omega⟩
theorem qN (s:List UInt8) (most:Int):(ee s most).2=0→((ee s most).1:Int)≤most:=by
 rcases Kj s most with h | ⟨h,h1⟩ <;> rw [h]
 · intro h; cases h
 · intro _; exact h1
theorem Bk {b:UInt8} (h:qt b=true):48≤b.toNat∧b.toNat≤57:=of_decide_eq_true h
theorem xO {b:UInt8} (h:¬(48≤b.toNat∧b.toNat≤57)):qt b=false :=decide_eq_false h
theorem Ji {x:UInt8} :∀ {l:List UInt8} {i:Nat},i < l.length→(∀ j,j < i→l.getD j 0≠x)→l.getD i 0=x→fj x l=(i:Nat):=by
 have key:∀ (l:List UInt8) (i:Nat),i < l.length→(∀ j,j < i→l.getD j 0≠x)→l.getD i 0=x→l.idxOf x=i:=by
  intro l
  induction l with
  | nil=>intro i h; simp at h
  | cons b l q=>
    intro i h h1 h2
    cases i with
    | zero=>have a:b=x:=h2
            subst a; simp
    | succ i=>
      have a:b≠x:=h1 0<|Nat.succ_pos _
      rw [wT,show (b==x)=false from by simpa using a]
      have :=q i (by simpa using h) (fun j A=>h1 (j+1) ab) h2
      rw [this]; rfl
 intro l i h h1 h2
 unfold fj
 rw [key l i h h1 h2,if_pos h]
theorem Jj {x:UInt8} {l:List UInt8} (h:∀ j,j < l.length→l.getD j 0≠x):fj x l= -1:=by
 unfold fj
 rw [if_neg]
 intro h1
 have hm:=List.idxOf_lt_length_iff.1 h1
 obtain ⟨j,a,e⟩:=zV.1 hm
 exact h j a<|by rw [da,cI a]; exact e
end Go.Hb
section
namespace Go.Hb
theorem pW {h:Array Obj} {a:Option Addr} {l:List UInt8} {i:Nat} (q:aO h a (U8 l)) (hi:i < l.length):Hb.aR h (bk a) (fo a+i*1)=some (.int .u8 (l.getD i 0).toNat):=by
 refine q.gN ?_
 unfold U8
 rw [iq,cI hi,da,cI hi]; rfl
theorem Zd {h:Array Obj} {a:Option Addr} {l:List UInt8} (i:aO h a (U8 l)) (n:Nat):aO h a (U8<|l.take n):=by
 have :=i.take n
 unfold U8 at*
 rwa [List.map_take]
theorem pX {l:List UInt8} (h:0 < l.length):U8 l≠[]:=by
 intro e
 have :=congrArg jD e
 rw [xj,fU] at this
 omega
theorem qP {w:World} {B e:Nat} {v:Value} {l:List UInt8} {x:UInt8} (h:w.ownsRow B e 1 v (l.length+1) (U8 l++ [.int .u8 x.toNat])):w.ownsRow B e 1 v (l++ [x]).length (U8<|l++ [x]):=by
 rw [bM,xi]; exact h
theorem mJ {w:World} {B e:Nat} {v:Value} {l:List (List UInt8)} {x:List UInt8} (h:w.ownsRow B e 1 v (l.length+1) (l.map str++ [str x])):w.ownsRow B e 1 v (l++ [x]).length ((l++ [x]).map str):=by
 rw [bM,ir]; exact h
abbrev Rw:Type :=Nat×List (List UInt8)
def yZ (q:Nat×Value):List Value:= [.int .i64 q.1,q.2]
def kK (l:List (Nat×Value)):List Value:=l.flatMap yZ
theorem Dv (a b:List (Nat×Value)):kK (a++b)=kK a++kK b:=by simp [kK]
theorem Lb (l:List (Nat×Value)):(kK l).length=l.length*2:=nT (f:=yZ) (m:=2) (fun _=>rfl) l
theorem lQ {l:List (Nat×Value)} (h:0 < l.length):kK l≠[]:=BL (f:=yZ) (m:=2) (fun _=>rfl) az h
theorem lR {h:Array Obj} {ad:Option Addr} {vs:List (Nat×Value)} {i:Nat} {q:Nat×Value} (a:aO h ad (kK vs)) (A:vs[i]? =some q):∀ j,j < 2→Hb.aR h (bk ad) (fo ad+i*2 +j)= [jk .i64 q.1,q.2][j]? :=
 fA (f:=yZ) (m:=2) (fun _=>rfl) a A
def Tg (w:World) (B e n:Nat) (v:Value) (xs:List Value):Prop :=
 ∃ a cp,v= .slice a n cp∧n≤cp∧(xs= []∨∃ b cur z,a=some ⟨b,0,none⟩∧B≤b∧w.heap[b]? =some (.cells cur e z)∧∀ (j:Nat) u,xs[j]? =some u→cur[j]? =some u)
theorem Tg.jP {w:World} {B e size n:Nat} {v:Value} {xs:List Value} (h:w.ownsRow B e size v n xs):Tg w B e n v xs:=by
 have a:=h
 rcases h.2 with ⟨rfl,rfl⟩ | ⟨g,cap,cur,rfl,i,q,_,_,_,A⟩
 · exact ⟨none,0,aa,cD _,.inl<|fY<|by simpa using h.1⟩
 · refine ⟨_,cap,aa,(ba a).1,.inr ⟨g,cur,_,aa,i,q,fun j u hu=> ?_⟩⟩
   rw [← A,o6] at hu
   split at hu
   · simpa using hu
   · cases hu
theorem Tg.cells {w:World} {B e n:Nat} {v:Value} {xs:List Value} (h:Tg w B e n v xs):∃ a cp,v= .slice a n cp∧aO w.heap a xs:=by
 obtain ⟨a,cp,rfl,_,h | ⟨b,cur,z,rfl,_,i,q⟩⟩:=h
 · subst h; exact ⟨a,cp,rfl,aO.nil _ _⟩
 · refine ⟨_,cp,aa,fun _=>rfl,fun j u hu=> ?_⟩
   show Hb.aR w.heap b (0 +j)=_
   rw [gW,a7 i]; exact q j u hu
theorem Tg.cV {w:World} {B e n cp:Nat} {a:Option Addr} {xs:List Value} (h:Tg w B e n (.slice a n cp) xs):n≤cp∧aO w.heap a xs:=by
 obtain ⟨E,G,q,i,I⟩:=id h
 obtain ⟨a2,c2,A,C⟩:=h.cells
 cases q; cases A
 exact ⟨i,C⟩
theorem Tg.slice {w:World} {B e n:Nat} {v:Value} {xs:List Value} (h:Tg w B e n v xs):∃ a cp,v= .slice a n cp:=let ⟨a,cp,hv,_⟩:=h; ⟨a,cp,hv⟩
theorem Tg.md {F:Nat→Prop} {w w':World} {B e n:Nat} {v:Value} {xs:List Value} (h:Tg w B e n v xs) (hm:Md F w w') (A:∀ k,F k→∀ cur z,w.heap[k]?≠some (.cells cur e z)):Tg w' B e n v xs:=by
 obtain ⟨a,cp,rfl,q,h | ⟨b,cur,z,rfl,C,i,E⟩⟩:=h
 · exact ⟨a,cp,aa,q,.inl h⟩
 · exact ⟨_,cp,aa,q,.inr ⟨b,cur,z,aa,C,by rw [hm.cH b (dB.1 i).1 (fun hk=>A b hk cur z i)]; exact i,E⟩⟩
theorem Tg.wk {w w':World} {B e n:Nat} {v:Value} {xs:List Value} (h:Tg w B e n v xs) (hm:Wk w w'):Tg w' B e n v xs:=h.md hm fun _ hk=>hk.elim
theorem Tg.clip {w:World} {B e n k cp i:Nat} {a:Option Addr} {xs:List Value} (h:Tg w B e n (.slice a n cp) xs) (hk:k≤i):Tg w B e k (.slice a k i) (xs.take k):=by
 obtain ⟨I,J,A,_,q⟩:=h
 simp only [mT,true_and] at A
 obtain ⟨rfl,rfl⟩:=A
 refine ⟨a,i,aa,hk,?_⟩
 rcases q with rfl | ⟨b,cur,z,C,E,G,q⟩
 · exact .inl NT
 · exact .inr ⟨b,cur,z,C,E,G,fun j u hu=>q j u<|by rw [o6] at hu; split at hu; exact hu; cases hu⟩
theorem ik {w:World} {B e i size n:Nat} {v:Value} {xs:List Value} (h:w.ownsRow B e size v n xs) (A:e≠i):∀ k,v.ownBlock=some k→∀ cur z,w.heap[k]?≠some (.cells cur i z):=by
 intro k hk cur z a
 rcases h.2 with ⟨rfl,_⟩ | ⟨g,cap,C,rfl,_,q,_⟩
 · simp [iW] at hk
 · simp only [iW,fV] at hk
   subst hk
   rw [q] at a
   simp only [fV,wo] at a
   exact A a.2.1
theorem fz {w:World} {b e i:Nat} {cs:Array Value} {y:Nat×Nat} (h:w.heap[b]? =some (.cells cs e y)) (q:e≠i):∀ k,k=b→∀ cur z,w.heap[k]?≠some (.cells cur i z):=by
 rintro k rfl cur z a
 rw [h] at a
 simp only [fV,wo] at a
 exact q a.2.1
def gZ (w:World) (B e:Nat) (vs:List (Nat×Value)) (rs:List Rw):Prop :=vs.length=rs.length∧∀ (i:Nat) q r,vs[i]? =some q→rs[i]? =some r→q.1=r.1∧Tg w B e r.2.length q.2 (r.2.map str)
theorem gZ.nil (w:World) (B e:Nat):gZ w B e [] []:=⟨rfl,fun i q r a=>by simp at a⟩
theorem gZ.md {F:Nat→Prop} {w w':World} {B e:Nat} {vs:List (Nat×Value)} {rs:List Rw} (h:gZ w B e vs rs) (hm:Md F w w') (a:∀ k,F k→∀ cur z,w.heap[k]?≠some (.cells cur e z)):gZ w' B e vs rs:=
 ⟨h.1,fun i q r h1 h2=>⟨(h.2 i q r h1 h2).1,(h.2 i q r h1 h2).2.md hm a⟩⟩
theorem gZ.wk {w w':World} {B e:Nat} {vs:List (Nat×Value)} {rs:List Rw} (h:gZ w B e vs rs) (hm:Wk w w'):gZ w' B e vs rs:=h.md hm fun _ hk=>hk.elim
theorem gZ.snoc {w:World} {B e n:Nat} {vs:List (Nat×Value)} {rs:List Rw} {v:Value} {r:List (List UInt8)} (a:gZ w B e vs rs) (A:Tg w B e r.length v (r.map str)):gZ w B e (vs++ [(n,v)]) (rs++ [(n,r)]):=by
 refine ⟨by rw [bM,bM,a.1]; rfl,fun i C E h1 h2=> ?_⟩
 have q:=a.1
 by_cases hi:i < vs.length
 · rw [mm hi] at h1
   rw [mm ab] at h2
   exact a.2 i C E h1 h2
 · rw [mV ab] at h1
   rw [mV ab,← q] at h2
   cases hj:i - vs.length with
   | zero=>rw [hj] at h1 h2; cases h1; cases h2; exact ⟨rfl,A⟩
   | succ j=>rw [hj] at h1; simp at h1
theorem Tg.mono {w:World} {B B' e n:Nat} {v:Value} {xs:List Value} (h:Tg w B e n v xs) (i:B'≤B):Tg w B' e n v xs:=by
 obtain ⟨a,cp,A,q,C⟩:=h
 exact ⟨a,cp,A,q,C.imp id fun ⟨b,cur,z,h1,h2,h3⟩=>⟨b,cur,z,h1,gk i h2,h3⟩⟩
theorem gZ.mono {w:World} {B B' e:Nat} {vs:List (Nat×Value)} {rs:List Rw} (h:gZ w B e vs rs) (a:B'≤B):gZ w B' e vs rs:=⟨h.1,fun i q r h1 h2=>⟨(h.2 i q r h1 h2).1,(h.2 i q r h1 h2).2.mono a⟩⟩
end Go.Hb
end
section
set_option linter.unusedSectionVars false
namespace Go.Hb
open Go.Sort (swp insInner insOuter insertionSort siftDown heapBuild heapPop heapSort scanUp scanDown partLoop partEqLoop partition partitionEqual scanSorted shiftDown shiftUp partialIns partialInsertionSort reverseLoop reverseRange choosePivot breakPatterns breakStep pdq Hint)
def LE {α:Type} (f:α→Value) (d:Array α):List Value:=d.toList.map f
section
variable {α:Type} [Inhabited α] {f:α→Value}
theorem vo (d:Array α):(LE f d).length=d.size:=by simp [LE]
theorem cy {d:Array α} (h:0 < d.size):LE f d≠[]:=by
 intro e; have :=congrArg jD e; rw [vo,fU] at this; omega
theorem Js {d:Array α} {i:Nat} (h:i < d.size):(LE f d)[i]? =some (f d[i]!):=by
 unfold LE
 rw [iq,D7,zy h,getElem!_pos d i h]; rfl
theorem dN {h:Array Obj} {a:Option Addr} {d:Array α} {i:Nat} (q:aO h a (LE f d)) (hi:i < d.size):Hb.aR h (bk a) (fo a+i*1)=some (f d[i]!):=q.gN<|Js hi
theorem VF (d:Array α) (i:Nat) (v:α):(LE f d).set i (f v)=LE f (d.setIfInBounds i v):=by
 unfold LE; rw [D9,List.map_set]
theorem fP {w:World} {B e n:Nat} {v:Value} {d:Array α} (h:w.ownsRow B e 1 v n (LE f d)):d.size=n:=by
 have :=h.1; rw [vo] at this; omega
end
section
variable {P:Program} {N:Fm} {σ:Nat→Value} {w:World} {ty:TypeId} {pos :String} {af:Array Edge} {g:Option (Nat×Bool)} {x y:Operand} {K:(Nat→Value)→World→Prop}
theorem gB {α:Type} [Inhabited α] {f:α→Value} {t B e n cap:Nat} {a:Option Addr} {d:Array α} {u:α} (i:Nat) (q:w.ownsRow B e 1 (.slice a n cap) n (LE f d)) (E:et P t=some 1) (A:ev N σ x= .pointer (some ⟨bk a,fo a+i*1,none⟩)) (C:ev N σ y=f u) (h1:(f u).oneCell'=true)
 (G:i < n) (k:∀ w',Md (fun k=>(bS a n cap).ownBlock=some k) w w'→w'.ownsRow B e 1 (.slice a n cap) n (LE f<|d.setIfInBounds i u)→K σ w'):dV P N ⟨none,.store t x y,ty,pos,af,g⟩ σ w K:=
 tI q E A C h1 (j:=i) ab ab fun w' h1 h2=>k w' h1<|by rw [← VF]; exact h2
end
section
variable {α:Type} [Inhabited α] {lt:α→α→Bool} {d:Array α}
theorem Vd {a j:Nat} (h:a < j) (h1:lt d[j]! d[j - 1]! =true):insInner lt a j d=insInner lt a (j - 1) (swp d j<|j - 1):=by
 cases j with
 | zero=>omega
 | succ j=>simp only [sx] at*; rw [insInner,if_pos (by simp [h1]; omega)]
theorem Vf {a j:Nat} (h:¬a < j):insInner lt a j d=d:=by
 cases j with
 | zero=>rfl
 | succ j=>rw [insInner,if_neg (by simp; omega)]
theorem Ve {a j:Nat} (h1:lt d[j]! d[j - 1]! =false):insInner lt a j d=d:=by
 cases j with
 | zero=>rfl
 | succ j=>simp only [sx] at*; rw [insInner,if_neg (by simp [h1])]
theorem Jf {a b i:Nat} (h:i < b):insOuter lt a b i d=insOuter lt a b (i+1) (insInner lt a i d):=by rw [insOuter,if_pos h]
theorem Vc {a b i:Nat} (h:¬i < b):insOuter lt a b i d=d:=by rw [insOuter,if_neg h]
theorem Yf {hi first r:Nat} (h:¬2 *r+1 < hi):siftDown lt hi first r d=d:=by rw [siftDown,dif_pos ab]
theorem Yg {hi first r:Nat} (h:2 *r+1 +1 < hi) (h1:lt d[first+(2 *r+1)]! d[first+(2 *r+1)+1]! =true):
 siftDown lt hi first r d=if (!lt d[first+r]! d[first+(2 *r+2)]!)=true then d else siftDown lt hi first (2 *r+2) (swp d (first+r)<|first+(2 *r+2)):=by
 rw [siftDown,dif_neg ab,if_pos (by simp [h1]; omega),dif_pos ab]
theorem Lk {hi first r:Nat} (a:2 *r+1 < hi) (h:¬2 *r+1 +1 < hi∨lt d[first+(2 *r+1)]! d[first+(2 *r+1)+1]! =false):
 siftDown lt hi first r d=if (!lt d[first+r]! d[first+(2 *r+1)]!)=true then d else siftDown lt hi first (2 *r+1) (swp d (first+r)<|first+(2 *r+1)):=by
 rw [siftDown,dif_neg ab,if_neg (by rcases h with h | h <;> simp [h] <;> omega)]
theorem Ux {hi first k:Nat} (h:0 < k):heapBuild lt hi first k d=heapBuild lt hi first (k - 1) (siftDown lt hi first (k - 1) d):=by
 cases k with
 | zero=>omega
 | succ k=>rfl
theorem Uy {hi first :Nat} :heapBuild lt hi first 0 d=d:=rfl
theorem UX {first k:Nat} (h:0 < k):heapPop lt first k d=heapPop lt first (k - 1) (siftDown lt (k - 1) first 0 (swp d first (first+(k - 1)))):=by
 cases k with
 | zero=>omega
 | succ k=>rfl
theorem DS {p:α→Bool} {i j:Nat} (h:i≤j) (h1:p d[i]! =true):scanUp p d j i=scanUp p d j (i+1):=by
 rw [scanUp]; simp [h,h1]
theorem tP {p:α→Bool} {i j:Nat} (h:¬i≤j∨p d[i]! =false):scanUp p d j i=i:=by
 rw [scanUp]; rcases h with h | h <;> simp [h]
theorem Bn {p:α→Bool} {i j:Nat} (a:0 < j) (h:i≤j) (h1:p d[j]! =true):scanDown p d i j=scanDown p d i (j - 1):=by
 cases j with
 | zero=>omega
 | succ j=>rw [scanDown]; simp [h,h1]
theorem s7 {p:α→Bool} {i j:Nat} (h:¬i≤j∨p d[j]! =false):scanDown p d i j=j:=by
 cases j with
 | zero=>rfl
 | succ j=>rw [scanDown]; rcases h with h | h <;> simp [h]
theorem Yu {b i:Nat} (h:i < b) (h1:lt d[i]! d[i - 1]! =false):scanSorted lt d b i=scanSorted lt d b (i+1):=by
 rw [scanSorted]; simp [h,h1]
theorem Ly {b i:Nat} (h:¬i < b∨lt d[i]! d[i - 1]! =true):scanSorted lt d b i=i:=by
 rw [scanSorted]; rcases h with h | h <;> simp [h]
theorem XZ {j:Nat} (h:0 < j) (h1:lt d[j]! d[j - 1]! =true):shiftDown lt j d=shiftDown lt (j - 1) (swp d j<|j - 1):=by
 cases j with
 | zero=>omega
 | succ j=>simp only [sx] at*; rw [shiftDown]; simp [h1]
theorem Lc {j:Nat} (h:¬0 < j∨lt d[j]! d[j - 1]! =false):shiftDown lt j d=d:=by
 cases j with
 | zero=>rfl
 | succ j=>simp only [sx] at*; rw [shiftDown]; rcases h with h | h <;> first | omega | simp [h]
theorem YJ {b j:Nat} (h:j < b) (h1:lt d[j]! d[j - 1]! =true):shiftUp lt b j d=shiftUp lt b (j+1) (swp d j<|j - 1):=by
 rw [shiftUp]; simp [h,h1]
theorem LJ {b j:Nat} (h:¬j < b∨lt d[j]! d[j - 1]! =false):shiftUp lt b j d=d:=by
 rw [shiftUp]; rcases h with h | h <;> simp [h]
theorem Xs {i j:Nat} (h:i < j):reverseLoop i j d=reverseLoop (i+1) (j - 1) (swp d i j):=by rw [reverseLoop,if_pos h]
theorem Xt {i j:Nat} (h:¬i < j):reverseLoop i j d=d:=by rw [reverseLoop,if_neg h]
theorem KB {a i j i2 q:Nat} (h1:scanUp (fun x=>lt x d[a]!) d j i=i2) (h2:scanDown (fun x=> !lt x d[a]!) d i2 j=q) (hi:i≤i2) (A:q≤j):
 partLoop lt a i j d=if i2 > q then (q,d) else if (q - 1)+1 - (i2+1) < j+1 - i then partLoop lt a (i2+1) (q - 1) (swp d i2 q) else (q,d):=by
 rw [partLoop]; simp only [h1,h2]; split <;> first | rfl | (split <;> rfl)
theorem Ku {a i j i2 q:Nat} (h1:scanUp (fun x=> !lt d[a]! x) d j i=i2) (h2:scanDown (fun x=>lt d[a]! x) d i2 j=q):
 partEqLoop lt a i j d=if i2 > q then (i2,d) else if (q - 1)+1 - (i2+1) < j+1 - i then partEqLoop lt a (i2+1) (q - 1) (swp d i2 q) else (i2,d):=by
 rw [partEqLoop]; simp only [h1,h2]; split <;> first | rfl | (split <;> rfl)
end
def cg (x y:Nat):Bool:=decide (x < y)
theorem vp:Go.Sort.SWO cg:=⟨fun x=>by simp [cg],fun x y z=>by simp only [cg,decide_eq_true_eq]; omega,fun x y z=>by simp only [cg,decide_eq_false_iff_not]; omega⟩
def bj (n:Nat):Value:= .int .u16 n
section
variable {P:Program} {N:Fm} {σ:Nat→Value} {w:World} {dst:Option Nat} {ty:TypeId} {pos :String} {af:Array Edge} {g:Option (Nat×Bool)} {x y:Operand}
theorem Aq {t C:TypeId} {k:IntKind} {a b v:Int} (q:ev N σ x= .int k a) (A:ev N σ y= .int k b) (i:k.wrap (gx k.bits a ^^^ gx k.bits b).toNat=v):
 (execOp (ev N σ) ⟨dst,.binOp .xor t x y C,ty,pos,af,g⟩).run P w= .ok (.value<|.int k v) w:=by
 subst i; simp [execOp,q,A,eqGuard,binOp,wu]
end
theorem Ma (x:Int):0≤eM.wrap x∧eM.wrap x < 18446744073709551616:=by
 have h:eM.wrap x=x % 18446744073709551616:=by
  simp [IntKind.wrap,IntKind.bits,IntKind.signed]
 rw [h]; omega
theorem OF (r:Int) (m:Nat) (hm:0 < m∧m≤1099511627776):∃ o:Nat,o≤m - 1∧eM.wrap (gx eM.bits r &&& gx eM.bits ((m:Int) - 1)).toNat=(o:Int):=by
 refine ⟨(gx eM.bits r &&& gx eM.bits ((m:Int) - 1)).toNat,?_,?_⟩
 · rw [MP]
   refine gk Nat.and_le_right ?_
   have h1:(m:Int) - 1=((m - 1:Nat):Int):=ab
   rw [h1,p8]
   have h2:(eM.bits:Nat)=64:=rfl
   rw [h2]
   omega
 · exact oX (by have :=(gx eM.bits r &&& gx eM.bits ((m:Int) - 1)).isLt; have h2:(eM.bits:Nat)=64:=aa; rw [h2] at this ⊢; omega)
def kW (n:Nat):Nat:=if n=0 then 0 else Nat.log2 n+1
theorem Jx:∀ n:Fin 256,n.val≠0→n.val < 2 ^ kW n.val∧2 ^ kW n.val≤2 *n.val∧kW n.val≤8:=by decide+kernel
theorem yG {n:Nat} (h:n < 256):kW n≤8:=by
 rcases Nat.eq_zero_or_pos n with rfl | a
 · decide
 · exact (Jx ⟨n,h⟩<|by simp; omega).2.2
theorem VI {n:Nat} (h:n < 256) (a:0 < n):n < 2 ^ kW n∧2 ^ kW n≤2 *n:=by
 have :=Jx ⟨n,h⟩<|by simp; omega
 exact ⟨this.1,this.2.1⟩
end Go.Hb
end
namespace Go.Hb
def iG:List Nat→List Nat
 | []=> []
 | [x]=> [x]
 | x::y::l=>if x=y then iG (y::l) else x::iG (y::l)
theorem Sl (x y:Nat):∀ l:List Nat,iG (l++ [x,y])=if x=y then iG (l++ [x]) else iG (l++ [x])++ [y]:=by
 intro l
 induction l with
 | nil=>by_cases h:x=y <;> simp [iG,h]
 | cons a l i=>
   cases l with
   | nil=>by_cases h:a=x <;> by_cases h2:x=y <;> simp_all [iG]
   | cons b l=>
     simp only [EB] at i ⊢
     rw [iG,i,iG]
     by_cases h:a=b <;> by_cases h2:x=y <;> simp [h,h2]
theorem G9 (x:Nat):∀ l:List Nat,x∈iG l↔x∈l:=by
 intro l
 induction l with
 | nil=>simp [iG]
 | cons a l i=>
   cases l with
   | nil=>simp [iG]
   | cons b l=>
     rw [iG]
     by_cases h:a=b
     · subst h; rw [if_pos rfl,i]; simp
     · rw [if_neg h,e7,i,e7 (a:=x) (b:=a)]
theorem Sk:∀ l:List Nat,l.Pairwise (·≤·)→(iG l).Pairwise (· < ·):=by
 intro l
 induction l with
 | nil=>intro _; exact List.Pairwise.nil
 | cons a l q=>
   intro h
   cases l with
   | nil=>simp [iG]
   | cons b l=>
     rw [qd] at h
     rw [iG]
     by_cases h1:a=b
     · rw [if_pos h1]; exact q h.2
     · rw [if_neg h1,qd]
       refine ⟨fun y i=> ?_,q h.2⟩
       have i:=(G9 y _).1 i
       have h2:=h.1 b<|by simp
       rcases e7.1 i with rfl | i
       · omega
       · have :=(qd.1 h.2).1 y i; omega
theorem Xz:∀ l m:List Nat,l.Pairwise (· < ·)→m.Pairwise (· < ·)→(∀ x,x∈l↔x∈m)→l=m:=by
 intro l
 induction l with
 | nil=>
   intro m _ _ h
   cases m with
   | nil=>rfl
   | cons y m=>have :=(h y).2 (by simp); cases this
 | cons a l A=>
   intro m q hm h
   cases m with
   | nil=>have :=(h a).1 (by simp); cases this
   | cons y m=>
     rw [qd] at q hm
     have e:a=y:=by
      have h1:=(h a).1<|by simp
      have h2:=(h y).2<|by simp
      rcases e7.1 h1 with h1 | h1
      · exact h1
      · rcases e7.1 h2 with h2 | h2
        · exact h2.symm
        · have :=q.1 y h2; have :=hm.1 a h1; omega
     subst e
     congr 1
     refine A m q.2 hm.2 fun x=> ?_
     constructor
     · intro i
       have :=q.1 x i
       rcases e7.1 ((h x).1<|rj _ i) with h1 | h1
       · omega
       · exact h1
     · intro i
       have :=hm.1 x i
       rcases e7.1 ((h x).2<|rj _ i) with h1 | h1
       · omega
       · exact h1
def mD (x:Nat):List Nat→List Nat
 | []=> [x]
 | y::l=>if x < y then x::y::l else if x=y then y::l else y::mD x l
def kj (l:List Nat):List Nat:=l.foldr mD []
theorem Je (x y:Nat):∀ l:List Nat,y∈mD x l↔y=x∨y∈l:=by
 intro l
 induction l with
 | nil=>simp [mD]
 | cons a l i=>
   rw [mD]
   split
   · simp
   · split
     · rename_i h; subst h; simp
     · rw [e7,i,e7]
       constructor <;> (rintro (h | h | h) <;> simp [h])
theorem Vb (x:Nat):∀ l:List Nat,l.Pairwise (· < ·)→(mD x l).Pairwise (· < ·):=by
 intro l
 induction l with
 | nil=>intro _; simp [mD]
 | cons a l A=>
   intro h
   rw [mD]
   rw [qd] at h
   split
   · rename_i q
     rw [qd,qd]
     exact ⟨fun y i=>by rcases e7.1 i with rfl | i; exact q; have :=h.1 y i; omega,h⟩
   · split
     · rw [qd]; exact h
     · rw [qd]
       exact ⟨fun y i=>by rcases (Je x y l).1 i with rfl | i; omega; exact h.1 y i,A h.2⟩
theorem CX (x:Nat):∀ l:List Nat,x∈kj l↔x∈l:=by
 intro l
 induction l with
 | nil=>simp [kj]
 | cons a l i=>show x∈mD a (kj l)↔_; rw [Je,i,e7]
theorem CY:∀ l:List Nat,(kj l).Pairwise (· < ·):=by
 intro l
 induction l with
 | nil=>exact List.Pairwise.nil
 | cons a l i=>exact Vb a _ i
theorem CZ {l m:List Nat} (hm:m.Pairwise (· < ·)) (h:∀ x,x∈m↔x∈l):m=kj l:=Xz _ _ hm (CY l) fun x=>by rw [h,CX]
theorem WA {l:List Nat} (h:l.Pairwise (· < ·)):kj l=l:=(CZ h fun _=>Iff.rfl).symm
theorem Va (x:Nat):∀ l:List Nat,(mD x l).length≤l.length+1:=by
 intro l
 induction l with
 | nil=>simp [mD]
 | cons a l i=>rw [mD]; split <;> (try split) <;> simp only [c7] <;> omega
theorem Wz:∀ l:List Nat,(kj l).length≤l.length:=by
 intro l
 induction l with
 | nil=>simp [kj]
 | cons a l i=>have :=Va a (kj l); show (mD a<|kj l).length≤_; simp only [c7]; omega
theorem tL (d:Array Nat):d.toList.length=d.size:=by simp
theorem vT (d:Array Nat) (i:Nat):d.toList.getD i 0=d[i]! :=by
 rw [da,D7]
 by_cases h:i < d.size
 · rw [zy h,getElem!_pos d i h]; rfl
 · rw [tX ab,getElem!_neg d i h]; rfl
theorem zg {d:Array Nat} {i:Nat} (h:i < d.size):d.toList.take (i+1)=d.toList.take i++ [d[i]!]:=by
 rw [fK d.toList i 0 (by simpa using h),vT]
theorem xM {d:Array Nat} {q:Nat} (h1:1≤q) (h:q < d.size):iG (d.toList.take<|q+1)=if d[q - 1]! =d[q]! then iG (d.toList.take q) else iG (d.toList.take q)++ [d[q]!]:=by
 obtain ⟨q,rfl⟩:∃ k,q=k+1:=⟨q - 1,ab⟩
 rw [zg h,zg ab,dH,sx]
 exact Sl _ _ _
theorem Yo {d:Array Nat} (h:ud cg 0 d.size d):d.toList.Pairwise (·≤·):=by
 rw [List.pairwise_iff_getElem]
 intro i j hi a q
 have :=h i j (Nat.zero_le _) q<|by simpa using a
 rw [← vT,← vT,da,da,cI hi,cI a] at this
 simp only [cg,decide_eq_false_iff_not,zZ] at this
 omega
theorem Ym {l:List Nat} {d:Array Nat} (hp:Go.Sort.PermIn 0 l.length l.toArray d) (hs:ud cg 0 l.length d):iG d.toList=kj l:=by
 have a:d.size=l.length:=by rw [hp.1]; simp
 have i:d.toList.Perm l:=by
  have :=hp.2.2
  rw [show (d.extract 0 l.length).toList=d.toList from by rw [Array.toList_extract]; simp [eU (show d.toList.length≤l.length by simp [a])]] at this
  simpa using this
 exact CZ (Sk _<|Yo<|by rw [a]; exact hs) fun x=>by rw [G9]; exact i.mem_iff
theorem xP {d d2:Array Nat} {k j:Nat} (h:d.toList.drop k=d2.toList.drop k) (hk:k≤j):d[j]! =d2[j]! :=by
 have :=congrArg (fun l=>l.getD (j - k) 0) h
 simp only [da,ri,show k+(j - k)=j from by omega] at this
 rw [← vT,← vT]; simpa [da] using this
theorem set_drop {d:Array Nat} {k m v:Nat} (h:k < m):(d.setIfInBounds k v).toList.drop m=d.toList.drop m:=by
 rw [D9,List.drop_set,if_pos h]
theorem Dw {d:Array Nat} {k v:Nat} (h:k < d.size):(d.setIfInBounds k v).toList.take (k+1)=d.toList.take k++ [v]:=by
 rw [D9,List.set_eq_take_append_cons_drop,if_pos (by simpa using h),xa,dQ,wc,pc ab,NY,eU (by rw [dQ]; omega)]
 rfl
theorem CB {h:Array Obj} {a:Option Addr} {d:Array Nat} {i j:Nat} {f:Nat→Value} (q:aO h a ((LE f d).drop i)) (hi:i+j < d.size):Hb.aR h (bk a) (fo a+j*1)=some (f d[i+j]!):=by
 refine q.gN ?_
 rw [ri]; exact Js hi
theorem CC {d:Array Nat} {i:Nat} {f:Nat→Value} (h:i < d.size):(LE f d).drop i≠[]:=by
 intro e; have :=congrArg jD e; rw [fT,vo,fU] at this; omega
def ji (b:UInt8):Bool:=decide (33≤b.toNat∧b.toNat≤126∧b.toNat≠47∧b.toNat≠44∧b.toNat≠35)
noncomputable def eK (kind:Nat) (s:List UInt8):Nat:=
 if kind=1 then (if s.length=1∧ji (s.getD 0 0)=true then (s.getD 0 0).toNat else 0)
 else if kind=2 then (if s.length=2∧ji (s.getD 0 0)=true∧ji (s.getD 1 0)=true then 256 *(s.getD 0 0).toNat+(s.getD 1 0).toNat else 0)
 else (ee s 65535).1
def fJ (c:UInt8):List UInt8→List UInt8→List (List UInt8)
 | acc,[]=> [acc]
 | acc,b::l=>if b=c then acc::fJ c [] l else fJ c (acc++ [b]) l
theorem Yr (c:UInt8):∀ (l acc:List UInt8),(fJ c acc l).length≤l.length+1:=by
 intro l
 induction l with
 | nil=>intro acc; simp [fJ]
 | cons b l a=>
   intro acc; rw [fJ]; split
   · have :=a []; simp only [c7]; omega
   · have :=a (acc++ [b]); simp only [c7]; omega
theorem Ys (c:UInt8):∀ (l acc x:List UInt8),x∈fJ c acc l→x.length≤acc.length+l.length:=by
 intro l
 induction l with
 | nil=>intro acc x h; simp only [fJ,j5] at h; subst h; simp
 | cons b l a=>
   intro acc x h
   rw [fJ] at h
   split at h
   · rcases e7.1 h with rfl | h
     · simp
     · have :=a [] x h; simp only [fU,c7] at*; omega
   · have :=a _ x h; rw [bM,e9] at this; simp only [c7]; omega
def pD (k:Nat):Nat→List UInt8→List (List UInt8)
 | 0,_=> []
 | f+1,s=>if s= [] then [] else s.take k::pD k f (s.drop k)
def chunks (k:Nat) (s:List UInt8):List (List UInt8):=pD k s.length s
theorem Q2 {k:Nat} (hk:0 < k):∀ (f g:Nat) (s:List UInt8),s.length≤f→s.length≤g→pD k f s=pD k g s:=by
 intro f
 induction f with
 | zero=>intro g s h _; obtain rfl :=fY (by omega :s.length=0); cases g <;> simp [pD]
 | succ f a=>
   intro g s h1 h2
   cases g with
   | zero=>obtain rfl :=fY (by omega :s.length=0); simp [pD]
   | succ g=>
     rw [pD,pD]
     by_cases hs:s= []
     · simp [hs]
     · have i:=lF.2 hs
       rw [if_neg hs,if_neg hs,a g (s.drop k) (by rw [fT]; omega) (by rw [fT]; omega)]
theorem xD (k:Nat):chunks k []= []:=rfl
theorem xC {k:Nat} {s:List UInt8} (hk:0 < k) (hs:s≠[]):chunks k s=s.take k::chunks k (s.drop k):=by
 have a:=lF.2 hs
 unfold chunks
 obtain ⟨m,hm⟩:∃ m,s.length=m+1:=⟨s.length - 1,ab⟩
 rw [hm,pD,if_neg hs,Q2 hk m (s.drop k).length (s.drop k) (by rw [fT]; omega) (cD _)]
theorem Q5 {k:Nat} (hk:0 < k):∀ (n:Nat) (s:List UInt8),s.length≤n→(chunks k s).length≤s.length:=by
 intro n
 induction n with
 | zero=>intro s h; obtain rfl :=fY (by omega :s.length=0); simp [xD]
 | succ n a=>
   intro s h
   by_cases hs:s= []
   · subst hs; simp [xD]
   · have i:=lF.2 hs
     rw [xC hk hs,c7]
     have :=a (s.drop k)<|by rw [fT]; omega
     rw [fT] at this; omega
theorem Q6 {k:Nat} (hk:0 < k):∀ (n:Nat) (s x:List UInt8),s.length≤n→x∈chunks k s→x.length≤s.length:=by
 intro n
 induction n with
 | zero=>intro s x h a; obtain rfl :=fY (by omega :s.length=0); cases a
 | succ n i=>
   intro s x h a
   by_cases hs:s= []
   · subst hs; cases a
   · have q:=lF.2 hs
     rw [xC hk hs] at a
     rcases e7.1 a with rfl | a
     · rw [dQ]; omega
     · have :=i (s.drop k) x (by rw [fT]; omega) a
       rw [fT] at this; omega
def dM (kind:Nat) (s:List UInt8):List (List UInt8):=if kind=3 then fJ 44 [] s else chunks kind s
theorem Kz {kind:Nat} {s:List UInt8} (hk:0 < kind):(dM kind s).length≤s.length+1:=by
 unfold dM; split
 · exact Yr _ _ _
 · have :=Q5 hk s.length s (cD _); omega
theorem KA {kind:Nat} {s x:List UInt8} (hk:0 < kind) (h:x∈dM kind s):x.length≤s.length:=by
 unfold dM at h; split at h
 · have :=Ys _ _ _ _ h; simpa using this
 · exact Q6 hk _ _ _ (cD _) h
noncomputable def ed (kind:Nat) (s:List UInt8):List Nat×Nat:=
 if s= [] then ([],31) else if ∃ x∈dM kind s,eK kind x=0 then ([],31) else if 64 < (dM kind s).length then ([],32) else (kj ((dM kind s).map<|eK kind),0)
noncomputable def gP (kind:Nat) (s:List UInt8):Nat×Nat:=if eK kind s=0 then (0,31) else (eK kind s,0)
theorem HV (kind:Nat) (s:List UInt8):eK kind s < 65536:=by
 unfold eK
 have a:=iX<|s.getD 0 0
 have h1:=iX<|s.getD 1 0
 split
 · split <;> omega
 · split
   · split <;> omega
   · unfold ee; split
     · exact Nat.zero_lt_succ _
     · rename_i h; simp only; omega
theorem tU {n:Int} (h:0≤n∧n≤65535):o3.wrap n=n:=IntWalk.u16_in n h
theorem X6 {x:Nat} (h:x < 256):o3.wrap ((x:Int)*2 ^ min (8:Int).toNat o3.bits)=((256 *x:Nat):Int):=by
 have h2:((x:Int)*2 ^ min (8:Int).toNat o3.bits)=((256 *x:Nat):Int):=by
  show (x:Int)*256=_
  omega
 rw [h2]; exact tU ab
theorem WI {x y:Nat} (h:x < 256) (A:y < 256):o3.wrap (gx o3.bits ((256 *x:Nat):Int) ||| gx o3.bits ((y:Nat):Int)).toNat=((256 *x+y:Nat):Int):=by
 have h1:(gx o3.bits ((256 *x:Nat):Int) ||| gx o3.bits ((y:Nat):Int)).toNat=256 *x+y:=by
  have q:(o3.bits:Nat)=16:=rfl
  rw [MQ,p8,p8,q]
  have a:(((256 *x:Nat):Int) % ((2 ^ 16:Nat):Int)).toNat=2 ^ 8 *x:=ab
  have i:(((y:Nat):Int) % ((2 ^ 16:Nat):Int)).toNat=y:=ab
  rw [a,i,← Nat.two_pow_add_eq_or_of_lt (show y < 2 ^ 8 by omega)]
 rw [h1]; exact tU ab
theorem Ki (s:List UInt8):(ee s 65535).1≤65535:=by
 unfold ee; split
 · exact Nat.zero_le _
 · simp only; omega
theorem Q4 (s:List UInt8) (i k:Nat):(s.take (min ((i+k:Nat):Int) (s.length:Int)).toNat).drop (i:Int).toNat=(s.drop i).take k:=by
 rw [mU,show (min ((i+k:Nat):Int) (s.length:Int)).toNat=min (i+k) s.length from by omega,su]
 by_cases h:i+k≤s.length
 · rw [pc h,NY]
 · rw [Nat.min_eq_right ab,eU (by rw [fT]; omega),eU (by rw [fT]; omega)]
theorem Lw (c:UInt8):∀ (l acc:List UInt8),l.idxOf c < l.length→fJ c acc l=(acc++l.take (l.idxOf c))::fJ c [] (l.drop<|l.idxOf c+1):=by
 intro l
 induction l with
 | nil=>intro acc h; simp at h
 | cons b l i=>
   intro acc h
   rw [fJ]
   by_cases a:b=c
   · subst a; rw [if_pos rfl]; simp
   · rw [if_neg a]
     have hi:(b::l).idxOf c=l.idxOf c+1:=by rw [wT,show (b==c)=false from by simpa using a]; rfl
     rw [hi] at h ⊢
     simp only [c7] at h
     rw [i _ ab]
     simp [dH]
theorem Yt (c:UInt8):∀ (l acc:List UInt8),¬c∈l→fJ c acc l= [acc++l]:=by
 intro l
 induction l with
 | nil=>intro acc _; simp [fJ]
 | cons b l a=>
   intro acc h
   rw [e7,not_or] at h
   rw [fJ,if_neg (fun e=>h.1 e.symm),a _ h.2]; simp
theorem DE (c:UInt8):∀ (l acc:List UInt8),(fJ c acc l).length=l.count c+1:=by
 intro l
 induction l with
 | nil=>intro acc; simp [fJ]
 | cons b l i=>
   intro acc
   rw [fJ]
   by_cases a:b=c
   · subst a; rw [if_pos rfl,c7,i]; simp
   · rw [if_neg a,i,List.count_cons_of_ne a]
theorem R8 {c:UInt8} {l:List UInt8} (h:l.idxOf c < l.length):(l.drop<|l.idxOf c+1).count c+1=l.count c:=by
 have h1:=DE c l []
 rw [Lw c l [] h,c7,DE] at h1
 omega
def bQ (n:Nat):Value:= .int .i64 n
theorem yH {α:Type} {f:α→Value} {h:Array Obj} {a:Option Addr} {l:List α} {i:Nat} (d:α) (q:aO h a (l.map f)) (hi:i < l.length):Hb.aR h (bk a) (fo a+i*1)=some (f<|l.getD i d):=by
 refine q.gN ?_
 rw [iq,cI hi,da,cI hi]; rfl
def qg (l out:List Nat) (last:Int):Prop :=out.Pairwise (· < ·)∧∀ x,x∈out↔x∈l∧(x:Int)≤last
def lf (l:List Nat) (last:Int) (i:Nat) (nx:Int):Prop :=(nx= -1∧∀ j,j < i→((l.getD j 0:Nat):Int)≤last)∨(∃ m∈l,nx=(m:Nat)∧last < nx∧∀ j,j < i→last < ((l.getD j 0:Nat):Int)→nx≤((l.getD j 0:Nat):Int))
theorem qg.nil (l:List Nat):qg l [] (-1):=⟨List.Pairwise.nil,fun x=>by simp; omega⟩
theorem lf.nil (l:List Nat) (last:Int):lf l last 0 (-1):= .inl ⟨rfl,fun j a=>by omega⟩
theorem yP {i:Nat} {q:Nat→Prop} (h:∀ j,j < i→q j) (h1:q i):∀ j,j < i+1→q j:=fun j a=>by
 rcases fu j i with h2 | h2
 · exact h j h2
 · rw [show j=i by omega]; exact h1
theorem lf.skip {l:List Nat} {last nx:Int} {i:Nat} (h:lf l last i nx) (h1:((l.getD i 0:Nat):Int)≤last∨(¬nx < 0∧nx≤((l.getD i 0:Nat):Int))):lf l last (i+1) nx:=by
 rcases h with ⟨h2,h3⟩ | ⟨m,hm,h2,h3,h4⟩
 · exact .inl ⟨h2,yP h3 ab⟩
 · exact .inr ⟨m,hm,h2,h3,yP h4 ab⟩
theorem lf.take {l:List Nat} {last nx:Int} {i:Nat} (h:lf l last i nx) (hi:i < l.length) (h1:last < ((l.getD i 0:Nat):Int)) (h2:nx < 0∨((l.getD i 0:Nat):Int) < nx):lf l last (i+1) ((l.getD i 0:Nat):Int):=by
 refine .inr ⟨l.getD i 0,?_,aa,h1,?_⟩
 · rw [da,cI hi]; exact NI hi
 · rcases h with ⟨_,h4⟩ | ⟨m,_,h3,_,h5⟩
   · exact yP (fun j a q=>by have :=h4 j a; omega) ab
   · exact yP (fun j a q=>by have :=h5 j a q; omega) ab
theorem lf.done {l out:List Nat} {last nx:Int} (h:lf l last l.length nx) (hu:qg l out last) (hn:nx < 0):out=kj l:=by
 refine CZ hu.1 fun x=> ?_
 rw [hu.2]
 refine ⟨fun h1=>h1.1,fun h1=>⟨h1,?_⟩⟩
 rcases h with ⟨_,h3⟩ | ⟨m,_,h3,_,_⟩
 · obtain ⟨j,a,rfl⟩:=zV.1 h1
   have :=h3 j a
   rwa [da,cI a] at this
 · omega
theorem lf.more {l out:List Nat} {last nx:Int} (h:lf l last l.length nx) (hu:qg l out last) (hn:¬nx < 0):∃ m,m∈l∧nx=((m:Nat):Int)∧last < nx∧qg l (out++ [m]) nx:=by
 rcases h with ⟨h2,_⟩ | ⟨m,hm,h2,h3,h4⟩
 · omega
 · refine ⟨m,hm,h2,h3,?_,fun x=> ?_⟩
   · rw [List.pairwise_append]
     exact ⟨hu.1,List.pairwise_singleton _ _,fun a E b i=>by rw [j5] at i; subst i; have :=((hu.2 a).1 E).2; omega⟩
   · rw [jF,hu.2,j5]
     constructor
     · rintro (⟨h5,A⟩ | rfl)
       · exact ⟨h5,ab⟩
       · exact ⟨hm,ab⟩
     · rintro ⟨h5,A⟩
       by_cases C:(x:Int)≤last
       · exact .inl ⟨h5,C⟩
       · right
         obtain ⟨j,q,rfl⟩:=zV.1 h5
         have :=h4 j q
         rw [da,cI q] at this
         simp only [zZ] at this
         omega
end Go.Hb
section
namespace Go.Hb
def iT (b:UInt8):Bool:=decide (33≤b.toNat∧b.toNat≠127)
def gy (w:List UInt8):Bool:=w.all iT
def pZ (w:List UInt8):Bool:=decide (1≤w.length∧w.length≤64∧gy w=true)
theorem dY {α:Type} {l:List α} {i:Nat} {d:α} (h:i < l.length):l.getD i d∈l:=by
 rw [da,cI h]; exact NI h
theorem nZ {α:Type} {l:List α} {x:α} (d:α) (h:x∈l):∃ i,i < l.length∧l.getD i d=x:=by
 obtain ⟨i,hi,rfl⟩:=zV.1 h
 exact ⟨i,hi,by rw [da,cI hi]; rfl⟩
theorem Fc {α:Type} {f:α→Bool} {l:List α} {i:Nat} (d:α) (h:i < l.length) (h1:f (l.getD i d)=false):l.all f=false :=by
 rw [List.all_eq_false]; exact ⟨_,dY h,by rw [h1]; exact eo⟩
theorem Ff {α:Type} {f:α→Bool} {l:List α} (d:α) (h:∀ i,i < l.length→f (l.getD i d)=true):l.all f=true :=by
 rw [ml]; intro x a; obtain ⟨i,hi,rfl⟩:=nZ d a; exact h i hi
theorem sV {w:List UInt8} {i:Nat} (h:i < w.length) (h1:iT (w.getD i 0)=false):gy w=false :=Fc 0 h h1
theorem uG {w:List UInt8} (h:∀ i,i < w.length→iT (w.getD i 0)=true):gy w=true :=Ff 0 h
theorem O6 (b:UInt8):gy [b]=iT b:=by unfold gy; simp
def rH (b:UInt8):Bool:=decide (b.toNat=92∨b.toNat=47∨b.toNat=35)
abbrev lI:Type :=List UInt8×List UInt8×Bool×Nat
def KH (r:lI):Value:= .tuple #[str r.1,str r.2.1,.bool r.2.2.1,.int .i64 r.2.2.2]
def jq:List UInt8→List UInt8→lI
 | acc,[]=>(acc,[],false,0)
 | acc,[b]=>if b.toNat=47 then (acc,[],true,0) else if b.toNat=92 then ([],[],false,20) else (acc++ [b],[],false,0)
 | acc,b::c::l=>if b.toNat=47 then (acc,c::l,true,0) else if b.toNat=92 then (if rH c=true then jq (acc++ [c]) l else ([],[],false,20)) else jq (acc++ [b]) (c::l)
theorem zt (acc:List UInt8):jq acc []=(acc,[],false,0):=by simp [jq]
theorem D2 {acc l:List UInt8} {b:UInt8} (h:b.toNat=47):jq acc (b::l)=(acc,l,true,0):=by
 cases l <;> simp [jq,h]
theorem DY {acc:List UInt8} {b:UInt8} (h:b.toNat=92):jq acc [b]=([],[],false,20):=by simp [jq,h]
theorem DZ {acc l:List UInt8} {b c:UInt8} (h:b.toNat=92) (a:rH c=false):jq acc (b::c::l)=([],[],false,20):=by simp [jq,h,a]
theorem vZ {acc l:List UInt8} {b c:UInt8} (h:b.toNat=92) (a:rH c=true):jq acc (b::c::l)=jq (acc++ [c]) l:=by simp [jq,h,a]
theorem D1 {acc l:List UInt8} {b:UInt8} (h:¬b.toNat=47) (h1:¬b.toNat=92):jq acc (b::l)=jq (acc++ [b]) l:=by
 cases l <;> simp [jq,h,h1]
theorem ZN (n:Nat):∀ (l acc:List UInt8),l.length≤n→(jq acc l).1.length≤acc.length+l.length∧(jq acc l).2.1.length≤l.length:=by
 induction n with
 | zero=>intro l acc h; obtain rfl :=fY (by omega :l.length=0); rw [zt]; exact ⟨by simp,by simp⟩
 | succ n a=>
   intro l acc h
   cases l with
   | nil=>rw [zt]; exact ⟨by simp,by simp⟩
   | cons b l=>
     simp only [c7] at h ⊢
     by_cases h1:b.toNat=47
     · rw [D2 h1]; exact ⟨by simp only; omega,by simp only; omega⟩
     · by_cases h2:b.toNat=92
       · cases l with
         | nil=>rw [DY h2]; exact ⟨by simp,by simp⟩
         | cons c l=>
           simp only [c7] at h ⊢
           cases hc:rH c
           · rw [DZ h2 hc]; exact ⟨by simp,by simp⟩
           · rw [vZ h2 hc]
             have :=a l (acc++ [c]) ab
             rw [bM,e9] at this
             omega
       · rw [D1 h1 h2]
         have :=a l (acc++ [b]) ab
         rw [bM,e9] at this
         omega
def bD (f:List UInt8):lI:=jq [] f
theorem r9 (f:List UInt8):(bD f).1.length≤f.length∧(bD f).2.1.length≤f.length:=by
 have :=ZN f.length f []<|cD _
 simpa [bD] using this
def lets (s:List UInt8):List UInt8:=s.foldl (fun a b=>if b∈a then a else a++ [b]) []
def letE (s:List UInt8):List UInt8×Nat:=if s= []∨gy s=false then ([],21) else (lets s,0)
theorem qI {s:List UInt8} {i:Nat} (h:i < s.length):lets (s.take<|i+1)=if s.getD i 0∈lets (s.take i) then lets (s.take i) else lets (s.take i)++ [s.getD i 0]:=by
 unfold lets
 rw [fK s i 0 h,ED]; rfl
theorem CD (s:List UInt8):(lets s).length≤s.length:=by
 have key:∀ (s a:List UInt8),(s.foldl (fun a b=>if b∈a then a else a++ [b]) a).length≤a.length+s.length:=by
  intro s
  induction s with
  | nil=>intro a; simp
  | cons b s i=>
    intro a
    rw [sv,c7]
    split
    · have :=i a; omega
    · have :=i (a++ [b]); rw [bM,e9] at this; omega
 have :=key s []
 simpa [lets] using this
def marksOf (a:List UInt8):List Value:=(j6 256).map fun k=> .bool<|decide (j7 k∈a)
theorem JH (a:List UInt8):(marksOf a).length=256:=by simp [marksOf]
theorem V5 (a:List UInt8) (b:UInt8):(marksOf a)[b.toNat]? =some (.bool<|decide (b∈a)):=by
 have :=iX b
 unfold marksOf
 rw [iq,zR ab]
 simp
theorem V7 (a:List UInt8) (b:UInt8):(marksOf a).set b.toNat (.bool true)=marksOf (a++ [b]):=by
 apply qa
 intro k
 rw [k5,JH]
 unfold marksOf
 rw [iq,iq]
 by_cases hk:k < 256
 · rw [zR hk]
   simp only [mo]
   have he:(j7 k=b)↔b.toNat=k:=by
    constructor
    · rintro rfl; simp; omega
    · rintro rfl; simp
   by_cases h:b.toNat=k
   · have h2:=he.2 h
     simp [h,hk,h2]
   · have h2:¬j7 k=b:=fun e=>h<|he.1 e
     simp [h,h2]
 · have :(j6 256)[k]? =none:=uk<|by simp; omega
   have i:=iX b
   rw [this]
   simp; omega
theorem V6:marksOf []=kp 256 (.bool false):=by
 unfold marksOf
 apply qa
 intro k
 rw [iq,List.getElem?_replicate]
 by_cases hk:k < 256
 · rw [zR hk]; simp [hk]
 · rw [uk (by simp; omega)]; simp [hk]
theorem Bd.new {T e b:Nat} {w:World} (h:w.heap[b]? =some (.cells [zL none,.slice none 0 0].toArray T (0,0))):Bd T e w b (.slice none 0 0) []:=
 ⟨⟨none,h,.inl rfl⟩,dC _ _ _ _,by simp⟩
theorem Bd.step {T e b:Nat} {a w w':World} {i:Value} {l:List UInt8} (h:Bd T e w b i l) (q:Wk a w) (A:Md (BF b i) w w') (E:a.heap.size≤b):Wk a w':=
 Md.trans' q A fun k hk C=>by have :=h.jn C; omega
theorem Bd.DJ {T e b:Nat} {a w w':World} {i:Value} {l:List UInt8} (h:Bd T e w b i l) (q:Wk a w) (A:Md (fun k=>i.ownBlock=some k) w w') (E:a.heap.size≤b):Wk a w':=
 Md.trans' q A fun k hk C=>by have :=h.jn (.inr C); omega
end Go.Hb
end
section
set_option linter.unusedSimpArgs false
namespace Go.Hb
def qm (g:Nat→Bool):Nat→Nat
 | 0=>0
 | n+1=>qm g n ||| (if g n=true then 2 ^ n else 0)
theorem OS (g:Nat→Bool):∀ n,qm g n < 2 ^ n:=by
 intro n
 induction n with
 | zero=>exact Nat.zero_lt_one
 | succ n a=>
   rw [qm]
   refine EK (Nat.lt_trans a<|zY az<|ux n) ?_
   split
   · exact zY az<|ux n
   · exact Nat.two_pow_pos _
theorem uF (g:Nat→Bool) (j:Nat):∀ n,(qm g n).testBit j=(decide (j < n) && g j):=by
 intro n
 induction n with
 | zero=>simp [qm]
 | succ n q=>
   rw [qm,N1,q]
   by_cases i:j=n
   · subst i
     cases h:g j <;> simp [Nat.testBit_two_pow_self]
   · have a:(if g n=true then 2 ^ n else 0).testBit j=false :=by
      split
      · rw [N2]; simp; omega
      · simp
     rw [a,MR]
     congr 1
     exact decide_eq_decide.2 ab
theorem xw {g:Nat→Bool} {x:Nat} (i:x < 2 ^ 64) (h:∀ j,j < 64→x.testBit j=g j):x=qm g 64:=by
 refine Nat.eq_of_testBit_eq fun j=> ?_
 rw [uF]
 by_cases a:j < 64
 · rw [h j a,decide_eq_true a,wi]
 · rw [decide_eq_false a,Bool.false_and]
   exact Nat.testBit_lt_two_pow<|sy i<|Nat.pow_le_pow_right az ab
def e8 (f:UInt8→Bool) (k:Nat):Nat:=qm (fun j=>f<|j7<|64 *k+j) 64
def eO (f:UInt8→Bool):List Value:= [.int .u64 (e8 f 0),.int .u64 (e8 f 1),.int .u64 (e8 f 2),.int .u64 (e8 f 3)]
theorem tS (f:UInt8→Bool) (k:Nat):e8 f k < 18446744073709551616:=OS _ 64
theorem xF (f:UInt8→Bool):(eO f).length=4:=rfl
theorem GH (f:UInt8→Bool):(eO f).all gF=true :=rfl
theorem Ba (f:UInt8→Bool) {k:Nat} (h:k < 4):(eO f)[k]? =some (.int .u64<|e8 f k):=by
 match k,h with
 | 0,_=>rfl
 | 1,_=>rfl
 | 2,_=>rfl
 | 3,_=>rfl
theorem Bb:eO (fun _=>false)= [.int .u64 0,.int .u64 0,.int .u64 0,.int .u64 0]:=by
 have :∀ k,e8 (fun _=>false) k=0:=fun k=>(xw (x:=0) az fun j _=>by simp).symm
 unfold eO; simp only [this]; rfl
theorem Ar (b:UInt8) {k j:Nat} (hk:k < 4) (i:j < 64):j7 (64 *k+j)=b↔k=b.toNat / 64∧j=b.toNat % 64:=by
 have a:=iX b
 constructor
 · rintro rfl
   simp only [EM]
   omega
 · rintro ⟨h1,h2⟩
   refine k6.1 ?_
   simp only [EM]
   omega
theorem ZF (f:UInt8→Bool) (b:UInt8) {k:Nat} (hk:k < 4):e8 (fun x=>f x || decide (x=b)) k=if k=b.toNat / 64 then e8 f k ||| 2 ^ (b.toNat % 64) else e8 f k:=by
 split
 · rename_i h
   refine (xw (EK (tS f k)<|zY az ab) fun j a=> ?_).symm
   rw [N1,N2]
   have h1:(e8 f k).testBit j=f (j7<|64 *k+j):=by unfold e8; rw [uF,decide_eq_true a,wi]
   rw [h1]
   congr 1
   exact decide_eq_decide.2<|by rw [Ar b hk a]; omega
 · rename_i h
   refine (xw (tS f k) fun j a=> ?_).symm
   have h1:(e8 f k).testBit j=f (j7<|64 *k+j):=by unfold e8; rw [uF,decide_eq_true a,wi]
   show _=(f (j7<|64 *k+j) || decide (j7 (64 *k+j)=b))
   rw [h1,decide_eq_false (by rw [Ar b hk a]; omega),MR]
theorem Rx (f:UInt8→Bool) (b:UInt8):(eO f).set (b.toNat / 64) (.int .u64 ((e8 f (b.toNat / 64) ||| 2 ^ (b.toNat % 64):Nat):Int))=eO (fun x=>f x || decide (x=b)):=by
 have a:=iX b
 apply qa
 intro k
 rw [k5,xF]
 by_cases hk:k < 4
 · rw [Ba _ hk,Ba _ hk,ZF f b hk]
   by_cases h:b.toNat / 64=k
   · subst h; simp [show b.toNat / 64 < 4 by omega]
   · rw [if_neg h,if_neg (fun e=>h e.symm)]
 · rw [uk (by rw [xF]; omega),uk (by rw [xF]; omega)]
   simp; omega
theorem ZE (f:UInt8→Bool) (b:UInt8):decide ((((e8 f (b.toNat / 64) / 2 ^ (b.toNat % 64)) % 2:Nat):Int)=1)=f b:=by
 have a:=iX b
 have h1:(e8 f<|b.toNat / 64).testBit (b.toNat % 64)=f b:=by
  unfold e8
  rw [uF,decide_eq_true (Nat.mod_lt _ az),wi,(Ar b (k:=b.toNat / 64) (j:=b.toNat % 64) ab<|Nat.mod_lt _ az).2 ⟨rfl,rfl⟩]
 rw [← h1,Nat.testBit_eq_decide_div_mod_eq]
 exact decide_eq_decide.2 ab
theorem Fi (b:UInt8):p9.wrap (gx p9.bits (b.toNat:Int) &&& gx p9.bits 63).toNat=((b.toNat % 64:Nat):Int):=by
 have h:∀ r:Fin 256,p9.wrap (gx p9.bits ((r.val:Nat):Int) &&& gx p9.bits 63).toNat=((r.val % 64:Nat):Int):=by decide+kernel
 exact h ⟨b.toNat,iX b⟩
theorem Lj (b:UInt8):(b.toNat:Int).fdiv (2 ^ min (6:Int).toNat p9.bits)=((b.toNat / 64:Nat):Int):=by
 have h:∀ r:Fin 256,((r.val:Nat):Int).fdiv (2 ^ min (6:Int).toNat p9.bits)=((r.val / 64:Nat):Int):=by decide+kernel
 exact h ⟨b.toNat,iX b⟩
theorem X5 {m:Nat} (h:m < 64):eM.wrap ((1:Int)*2 ^ min ((m:Nat):Int).toNat eM.bits)=((2 ^ m:Nat):Int):=by
 have h2:(eM.bits:Nat)=64:=rfl
 rw [mU,h2,pc ab,Int.one_mul]
 have h3:(2:Nat) ^ m < 2 ^ 64:=zY az h
 have h4:((2:Int) ^ m)=((2 ^ m:Nat):Int):=by simp
 rw [h4]
 obtain ⟨x,a⟩:∃ x:Nat,2 ^ m=x:=⟨_,rfl⟩
 rw [a] at h3 ⊢; exact oX ab
theorem WH {x y:Nat} (i:x < 2 ^ 64) (q:y < 2 ^ 64):eM.wrap (gx eM.bits (x:Int) ||| gx eM.bits (y:Int)).toNat=((x ||| y:Nat):Int):=by
 have a:(eM.bits:Nat)=64:=rfl
 have h1:(gx eM.bits (x:Int) ||| gx eM.bits (y:Int)).toNat=x ||| y:=by
  rw [MQ,p8,p8,a]
  congr 1 <;> omega
 rw [h1]
 have :=EK i q
 obtain ⟨z,A⟩:∃ z:Nat,x ||| y=z:=⟨_,rfl⟩
 rw [A] at this ⊢; exact oX ab
theorem Ye (x:Nat) {m:Nat} (h:m < 64):(x:Int).fdiv (2 ^ min ((m:Nat):Int).toNat eM.bits)=((x / 2 ^ m:Nat):Int):=by
 have h2:(eM.bits:Nat)=64:=rfl
 rw [mU,h2,pc ab]
 rw [show ((2:Int) ^ m)=((2 ^ m:Nat):Int) by simp,Int.fdiv_eq_ediv_of_nonneg _ (Int.natCast_nonneg _)]; rfl
theorem OE {x:Nat} (i:x < 2 ^ 64):eM.wrap (gx eM.bits (x:Int) &&& gx eM.bits 1).toNat=((x % 2:Nat):Int):=by
 have a:(eM.bits:Nat)=64:=rfl
 have h1:(gx eM.bits (x:Int) &&& gx eM.bits 1).toNat=x % 2:=by
  rw [MP,p8,p8,a,show ((x:Int) % ((2 ^ 64:Nat):Int)).toNat=x by omega]
  exact Nat.and_one_is_mod x
 rw [h1]; exact oX ab
section
variable {P:Program} {N:Fm} {σ:Nat→Value} {w:World} {dst:Option Nat} {ty:TypeId} {pos :String} {af:Array Edge} {g:Option (Nat×Bool)} {x:Operand}
theorem xG {t:TypeId} {k:Nat} {f:UInt8→Bool} (A:ev N σ x= .int .u64 (e8 f k)):(execOp (ev N σ) ⟨dst,.unOp .xor t x,ty,pos,af,g⟩).run P w= .ok (.value<|.int .u64<|e8 (fun y=> !f y) k) w:=by
 have q:=tS f k
 have h1:eM.wrap (gx eM.bits eM.max ^^^ gx eM.bits (e8 f k:Int)).toNat=(e8 (fun y=> !f y) k:Int):=by
  have i:(eM.bits:Nat)=64:=rfl
  have h2:(gx eM.bits eM.max ^^^ gx eM.bits (e8 f k:Int)).toNat=e8 (fun y=> !f y) k:=by
   rw [BitVec.toNat_xor,p8,p8,i,show (eM.max % ((2 ^ 64:Nat):Int)).toNat=2 ^ 64 - 1 from by decide,show ((e8 f k:Int) % ((2 ^ 64:Nat):Int)).toNat=e8 f k by omega]
   refine xw (Nat.xor_lt_two_pow az q) fun j a=> ?_
   rw [Nat.testBit_xor,Nat.testBit_two_pow_sub_one,decide_eq_true a,Bool.true_xor]
   congr 1
   unfold e8; rw [uF,decide_eq_true a,wi]
  rw [h2]; have :=tS (fun y=> !f y) k; exact oX ab
 have h3:(wu .xor eM eM.max (e8 f k:Int)).run P w= .ok (.int .u64<|e8 (fun y=> !f y) k) w:=by
  simp only [wu]
  rw [← h1]; rfl
 have h4:(Em .xor<|.int eM (e8 f k:Int)).run P w= .ok (.int .u64<|e8 (fun y=> !f y) k) w:=by
  simp only [Em]
  exact h3
 simp [execOp,A,h4]
end
def cJ (t:List UInt8) (b:UInt8):Bool:=
 if t.length=1 then decide (t.getD 0 0=46∨t.getD 0 0=b)
 else if t.getD 1 0=94 then !decide (b∈(t.take<|t.length - 1).drop 2)
 else decide (b∈(t.take<|t.length - 1).drop 1)
def iF:List UInt8→Option (List UInt8×List UInt8)
 | []=>none
 | b::l=>if b=91 then (if l.idxOf 93 < l.length∧l.idxOf 93≠0∧¬(l.idxOf 93=1∧l.getD 0 0=94) then some (b::l.take (l.idxOf 93 +1),l.drop (l.idxOf 93 +1)) else none) else some ([b],l)
theorem A4 {s t r:List UInt8} (h:iF s=some (t,r)):r.length < s.length:=by
 cases s with
 | nil=>cases h
 | cons b l=>
   simp only [iF] at h
   split at h
   · split at h
     · simp only [fV,sD] at h
       obtain ⟨_,rfl⟩:=h
       rw [fT,c7]; omega
     · cases h
   · simp only [fV,sD] at h
     obtain ⟨_,rfl⟩:=h
     simp
def l5:Nat→List UInt8→Option (List<|List UInt8)
 | 0,s=>if s= [] then some [] else none
 | f+1,s=>if s= [] then some [] else match iF s with
   | none=>none
   | some (t,r)=>(l5 f r).map (t:: ·)
theorem RW:∀ (f g:Nat) (s:List UInt8),s.length≤f→s.length≤g→l5 f s=l5 g s:=by
 intro f
 induction f with
 | zero=>intro g s h _; obtain rfl :=fY (by omega :s.length=0); cases g <;> simp [l5]
 | succ f a=>
   intro g s h1 h2
   cases g with
   | zero=>obtain rfl :=fY (by omega :s.length=0); simp [l5]
   | succ g=>
     rw [l5,l5]
     split
     · rfl
     · cases hc:iF s with
       | none=>rfl
       | some q=>
         obtain ⟨t,r⟩:=q
         have :=A4 hc
         simp only
         rw [a g r ab ab]
def mz (s:List UInt8):Option (List<|List UInt8):=l5 s.length s
theorem RS:mz []=some []:=rfl
theorem RU {s t r:List UInt8} (h:iF s=some (t,r)):mz s=(mz r).map (t:: ·):=by
 have a:=A4 h
 unfold mz
 obtain ⟨m,hm⟩:∃ m,s.length=m+1:=⟨s.length - 1,ab⟩
 have hs:s≠[]:=fun e=>by rw [e] at hm; simp at hm
 rw [hm,l5,if_neg hs,h]
 simp only
 rw [RW m r.length r ab (cD _)]
theorem RT {s:List UInt8} (hs:s≠[]) (h:iF s=none):mz s=none:=by
 unfold mz
 have a:=lF.2 hs
 obtain ⟨m,hm⟩:∃ m,s.length=m+1:=⟨s.length - 1,ab⟩
 rw [hm,l5,if_neg hs,h]
def dq (s:List UInt8):List (List UInt8)×Nat:=
 if s= []∨512 < s.length then ([],40) else if s= [46] then ([],0) else match mz s with
  | none=>([],41)
  | some xs=>if 16 < xs.length then ([],42) else (xs,0)
def ks (s:List UInt8) (i:Nat) (a:List (List UInt8)):Prop :=mz s=(mz<|s.drop i).map (a++ ·)
theorem ks.start (s:List UInt8):ks s 0 []:=by
 unfold ks; rw [wP]; cases mz s <;> simp
theorem ks.step {s t r:List UInt8} {i j:Nat} {a:List (List UInt8)} (h:ks s i a) (q:iF (s.drop i)=some (t,r)) (A:r=s.drop j):ks s j (a++ [t]):=by
 subst A
 unfold ks at*
 rw [h,RU q]
 cases mz (s.drop j) <;> simp
theorem ks.bad {s:List UInt8} {i:Nat} {a:List (List UInt8)} (h:ks s i a) (hi:i < s.length) (q:iF (s.drop i)=none):mz s=none:=by
 unfold ks at h
 rw [h,RT (fun e=>by have :=congrArg jD e; rw [fT,fU] at this; omega) q]; rfl
theorem ks.done {s:List UInt8} {i:Nat} {a:List (List UInt8)} (h:ks s i a) (hi:s.length≤i):mz s=some a:=by
 unfold ks at h
 rw [h,gV hi,RS]; simp
theorem GA {b:UInt8} {l:List UInt8} (h:b≠91):iF (b::l)=some ([b],l):=by simp [iF,h]
theorem A5 {b:UInt8} {l:List UInt8} (a:b=91) (h:l.idxOf 93 < l.length) (h1:l.idxOf 93≠0) (h2:¬(l.idxOf 93=1∧l.getD 0 0=94)):iF (b::l)=some (b::l.take (l.idxOf 93 +1),l.drop (l.idxOf 93 +1)):=by
 simp only [iF]; rw [if_pos a,if_pos ⟨h,h1,h2⟩]
theorem xE {b:UInt8} {l:List UInt8} (a:b=91) (h:¬(l.idxOf 93 < l.length∧l.idxOf 93≠0∧¬(l.idxOf 93=1∧l.getD 0 0=94))):iF (b::l)=none:=by
 simp only [iF]; rw [if_pos a,if_neg h]
def l0 (f:UInt8→Bool) (i:Nat):List UInt8:=((j6 i).map j7).filter f
def bytesOf (f:UInt8→Bool):List UInt8:=l0 f 256
theorem sU (f:UInt8→Bool) (i:Nat):l0 f (i+1)=l0 f i++(if f (j7 i)=true then [j7 i] else []):=by
 unfold l0
 rw [List.range_succ,ir,List.filter_append]
 congr 1
 cases h:f (j7 i) <;> simp [h]
theorem qo (f:UInt8→Bool) (i:Nat):(l0 f i).length≤i:=by
 unfold l0
 refine gk (zS _ _) ?_
 simp
theorem FD (f:UInt8→Bool) (b:UInt8):b∈bytesOf f↔f b=true :=by
 unfold bytesOf l0
 rw [List.mem_filter]
 refine ⟨fun h=>h.2,fun h=>⟨?_,h⟩⟩
 rw [o7]
 exact ⟨b.toNat,uq.2 (iX b),by simp⟩
theorem O3 (f:UInt8→Bool):(bytesOf f).Nodup:=by
 unfold bytesOf l0
 refine List.Nodup.sublist List.filter_sublist ?_
 rw [NN,List.pairwise_map]
 refine Z9 ?_<|NN.1 List.nodup_range
 intro a b i q A e
 have h1:=uq.1 i
 have h2:=uq.1 q
 have :=congrArg UInt8.toNat e
 simp only [EM] at this
 omega
theorem O5 (f:UInt8→Bool):∀ i,(l0 f i).length+(l0 (fun b=> !f b) i).length=i:=by
 intro i
 induction i with
 | zero=>rfl
 | succ i a=>
   rw [sU,sU,bM,bM]
   cases h:f (j7 i) <;> simp [h] <;> omega
theorem FC {f g:UInt8→Bool} (h:∀ b,f b=g b):bytesOf f=bytesOf g:=by rw [show f=g from funext h]
def gS (f:UInt8→Bool):List UInt8:=
 if (bytesOf f).length=256 then [46]
 else if (bytesOf f).length=1∧(bytesOf f).getD 0 0≠46∧(bytesOf f).getD 0 0≠91 then bytesOf f
 else if f 93=true then [91,94]++bytesOf (fun b=> !f b)++ [93]
 else [91]++((bytesOf f).filter (fun b=>decide (b≠94))++(if 94∈bytesOf f then [94] else []))++ [93]
def me (ps:List (List UInt8)):List UInt8:=if ps= [] then [46] else ps.flatMap fun t=>gS<|cJ t
theorem Dx (f:UInt8→Bool):(gS f).length≤300:=by
 have h1:=qo f 256
 have h2:=qo (fun b=> !f b) 256
 unfold gS
 split
 · simp
 · split
   · unfold bytesOf; omega
   · split
     · simp only [bM,c7,fU]; unfold bytesOf; omega
     · have h3:=zS (fun b=>decide (b≠94))<|bytesOf f
       have h4:(if 94∈bytesOf f then [(94:UInt8)] else []).length≤1:=by split <;> simp
       simp only [bM,c7,fU]
       have h5:(bytesOf f).length≤256:=h1
       omega
theorem UZ {l:List UInt8} (hn:l.Nodup) {c:UInt8} (h:l.idxOf c < l.length):l.take (l.idxOf c)++l.drop (l.idxOf c+1)=l.filter (fun b=>decide (b≠c)):=by
 induction l with
 | nil=>simp at h
 | cons b l q=>
   rw [ur] at hn
   by_cases a:b=c
   · subst a
     simp only [EE,ow,qc,gW,wO,wP]
     rw [List.filter_cons_of_neg (by simp)]
     exact (Nz.2 fun x i=>by simp; rintro rfl; exact hn.1 i).symm
   · have e:(b::l).idxOf c=l.idxOf c+1:=by rw [wT,show (b==c)=false from by simpa using a]; rfl
     rw [e] at h ⊢
     simp only [c7] at h
     rw [qe,wO,EB,q hn.2 ab,List.filter_cons_of_pos (by simpa using a)]
theorem Kh {l:List UInt8} {c:UInt8} (h:¬c∈l):l.filter (fun b=>decide (b≠c))=l:=
 Nz.2 fun x a=>by simp; rintro rfl; exact h a
def lj (ps:List (List UInt8)):List Value:=ps.flatMap fun t=>eO<|cJ t
theorem Rv (a b:List (List UInt8)):lj (a++b)=lj a++lj b:=by simp [lj]
end Go.Hb
end
