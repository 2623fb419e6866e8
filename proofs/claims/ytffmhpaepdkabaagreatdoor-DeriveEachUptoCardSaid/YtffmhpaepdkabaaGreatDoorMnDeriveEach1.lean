/-
  Walks and plain laws that the law rests on, laid together. No conditions but those that each theorem names.
-/
import Derived.WalkKit
import Derived.OrdersHeld
import Derived.TacticsIn
import Derived.Lib.Strings
import Derived.Lib.UnsafeStr
import Derived.Laws.MakeOwn
import Derived.Laws.StructEq
import Derived.SliceStrings
import Derived.Carry
import Derived.JoinedCond
import Derived.ProofKit
import Derived.OpenShut
import Derived.Test.YtffmhpaepdkabaaGreatDoorRows
import Derived.Sort.AssemblyPlain
import Derived.RangeFuncFrom
import Derived.RangeFuncLeaves
import Derived.Recover
import Derived.Laws.OwnMore
import Derived.Lib.Bytealg
import Derived.Lib.SliceRun
import Derived.OrdersIn
import Derived.Test.YtffmhpaepdkabaaGreatDoorChecked
import Derived.Shelf.Slices.In.SortAlone
import Derived.Shelf.Slices.In.SortNone
import Derived.Sort.OwnSortedInts
import Derived.Sort.EveryDepth
set_option linter.unusedVariables false
open Array renaming ext_getElem?→Mc,getD_eq_getD_getElem?→DI,getElem?_eq_getElem→zi,getElem?_eq_none→tH,getElem?_eq_some_iff→cQ,getElem?_setIfInBounds→DJ,getElem?_toList→DK,length_toList→vJ,mem_toList_iff→vK,range→tI,replicate→tJ,setIfInBounds_comm→DL,toArray_toList→Mh,toList_inj→zj,toList_map→nk,toList_setIfInBounds→DM
open BitVec renaming ofInt→gq,toNat_and→Mj,toNat_ofInt→pU,toNat_or→Mk
open Bool renaming and_eq_true→gU,eq_iff_iff→tK,noConfusion→ei,not_eq_true'→zk,or_eq_true→DO,or_false→Ml,true_and→vM
open Go.Addr renaming add→zl
open Go.Builtin renaming append_→zm,firstCells→Mn,lenOf→Mo,len_→Mp
open Go.Calls renaming mono→lN
open Go.Conv renaming bytesToString→Ms,seenAt→Mt,unsafePointer→Mu
open Go.DataW renaming TrodAll→Mv
open Go.Deferred renaming ofValue→qM
open Go.Fence renaming wide→jj
open Go.Instr renaming alloc→MA,buildSlice→DR,checkKey→tL,fill→oP,findKey→zn,loadAt→MD,lookup→ME,slice→vO,sliceAt→rW,sliceBound→rX,sliceBounds→oQ,storeAt→DV,sureAddr→qN
open Go.IntKind renaming i64→zo,u16→oR,u64→eK,u8→pV
open Go.Next renaming value→DW
open Go.Obj.cells renaming injEq→vP
open Go.Op renaming equal→DX,equalIn→tM,intArith→vQ,intBits→vR,intCmp→tN,stringOp→DY,unary→DZ
open Go.Oper renaming upon→kV,uponIn→qO,wp→jZ
open Go.Region renaming Mode→rY,binds→j0,free_spec→D1,noSelect_spec→D2,ready→jr,wanted→qP
open Go.Result renaming andThen_ok→vT,ok→D3
open Go.Sem renaming run_bind→vU,run_ite→D7,run_pure→zq
open Go.Sort renaming SortedIn→tO
open Go.Value renaming bool→bT,cells→tR,int→jk,oneCell'→gC,ownBlock→iU,pointer→zt,slice→bR
open Go.Value.slice renaming injEq→mL
open Go.Value.string renaming inj→MQ
open Go.World renaming freeze→vW,ownsRow_nil→dx,setCell→zx,shape?→Ed
open Int renaming toNat_natCast→mM
open List.Pairwise renaming imp_of_mem→Zx
open List renaming all_cons→tS,all_eq_true→ma,any_eq_true→MU,append_assoc→dF,append_nil→ek,cons_append→Ee,drop_append→MV,drop_eq_nil_of_le→gV,drop_of_length_le→MX,drop_succ_cons→vX,drop_take→r5,drop_zero→vY,eq_nil_of_length_eq_zero→fS,ext_getElem?→pW,filter_eq_self→MZ,flatMap_cons→qU,foldl_append→Eg,foldl_cons→r6,getD_cons_zero→lO,getD_eq_getElem?_getD→cV,getElem?_append_left→me,getElem?_append_right→mN,getElem?_cons_succ→M5,getElem?_drop→qV,getElem?_eq_getElem→cD,getElem?_eq_none→tV,getElem?_map→im,getElem?_range→zA,getElem?_set→kW,getElem?_take→oS,getElem_mem→M7,idxOf_cons→wa,idxOf_cons_self→Eh,length→jy,length_append→bL,length_cons→cT,length_drop→fP,length_filter_le→zB,length_nil→ga,length_pos_iff→lx,length_singleton→e5,length_take→dT,mapM_toArray→wi,map_append→iq,map_cons→tW,mem_append→jz,mem_append_left→M9,mem_cons→gr,mem_cons_of_mem→tX,mem_iff_getElem→zE,mem_map→oT,mem_map_of_mem→wj,mem_of_getElem?→iP,mem_range→tY,mem_singleton→j4,nil_append→pY,nodup_cons→Nd,nodup_iff_pairwise_ne→Nf,pairwise_cons→pZ,range→j5,replicate→km,size_toArray→oa,takeWhile_sublist→Nj,take_append→wo,take_nil→Nk,take_of_length_le→eN,take_succ_cons→p4,take_zero→oc,zipIdx_cons→Nn
open Nat renaming add_assoc→No,add_sub_cancel→r8,add_sub_cancel_left→Nq,beq→wu,ble→oU,blt→gD,eq_of_beq_eq_true→Nr,le_of_ble_eq_true→ua,le_refl→cB,le_trans→gd,lt_of_lt_of_le→r9,lt_or_ge→fg,lt_succ_self→ub,min_eq_left→oV,mul_le_mul_right→sc,or_lt_two_pow→En,pow_lt_pow_right→zI,succ_mul→sd,testBit_or→Nu,testBit_two_pow→Nv,zero_add→gW,zero_mul→Eo
open Option renaming bind_some→Nz,getD_some→zJ,isSome_iff_exists→oX,map_eq_some_iff→oY,map_some→mg
open Option.some renaming injEq→fQ
open Prod renaming fst→mO
open Prod.mk renaming injEq→se
open UInt8 renaming ofNat→j6,toNat_inj→kX,toNat_lt→iV,toNat_ofNat'→Ep
open Go.Proofs.Tryz
open Go.RowKit

namespace Go.Hb
theorem ab {p:Prop} (h:p:=by omega):p:=h
theorem aj {p:Prop} (h:p:=by kernel_rfl):p:=h
theorem az {p:Prop} (h:p:=by decide):p:=h
theorem aa {α:Sort _} {a:α} :a=a:=rfl
end Go.Hb
section
namespace Go.Hb
structure Fm where
 n:Nat
 D:List Deferred
 F:List Nat
 r:Option Nat
def dB (σ:Nat→Value) (d:Nat) (v:Value):Nat→Value:=fun i=>cond (wu i d) v<|σ i
def iN (σ:Nat→Value):Option Nat→Value→Nat→Value
 | some d,v=>dB σ d v
 | none,_=>σ
def act (N:Fm) (σ:Nat→Value):Act:=⟨((j5 N.n).map σ).toArray,N.D⟩
def ev (N:Fm) (σ:Nat→Value):Operand→Value
 | .tmp t=>cond (gD t N.n) (σ t) undef
 | .const v=>v
 | .global g=> .pointer<|some ⟨g,0,none⟩
 | .func f=> .func (.func f) #[] #[]
theorem o6 (N:Fm) (σ:Nat→Value) (t:Nat):(act N σ).tmps[t]? =if t < N.n then some (σ t) else none:=by
 simp only [act,List.getElem?_toArray,im]
 split
 · rename_i h; rw [zA h]; rfl
 · rename_i h; rw [tV (by simpa using h)]; rfl
theorem hU (N:Fm) (σ:Nat→Value):(act N σ).eval=ev N σ:=by
 funext x
 cases x with
 | tmp t=>
   simp only [Act.eval,ev,DI,o6]
   by_cases h:t < N.n
   · rw [if_pos h,show gD t N.n=true from by simpa using h]; rfl
   · rw [if_neg h,show gD t N.n=false from by cases hx:gD t N.n <;> simp_all [gD,Nat.ble_eq] <;> omega]; rfl
 | _=>rfl
theorem wO {a b:Act} (hd:a.defers=b.defers) (q:∀ i:Nat,a.tmps[i]? =b.tmps[i]?):a=b:=by
 cases a; cases b
 simp only at hd q
 subst hd
 congr 1
 exact Mc q
theorem jH (N:Fm) (σ:Nat→Value) (dst:Option Nat) (v:Value):(act N σ).put dst v=act N (iN σ dst v):=by
 cases dst with
 | none=>rfl
 | some d=>
   refine wO aa fun i=> ?_
   have A:((act N σ).put (some d) v).tmps=(act N σ).tmps.setIfInBounds d v:=rfl
   rw [A,DJ,o6,o6]
   have hs:(act N σ).tmps.size=N.n:=by simp [act]
   simp only [iN,dB]
   by_cases q:i=d
   · subst q
     rw [hs]
     have a:wu i i=true :=by simp
     by_cases h:i < N.n
     · rw [if_pos rfl,if_pos h,if_pos h,a]; rfl
     · rw [if_pos rfl,if_neg h,if_neg h]
   · rw [if_neg (fun e=>q e.symm)]
     have a:wu i d=false :=by
      cases hx:wu i d
      · rfl
      · exact absurd (Nr hx) q
     rw [a]; rfl
theorem nU {σ:Nat→Value} {i:Nat} {v:Value} (h:σ i=v):dB σ i v=σ:=by
 funext j
 unfold dB
 cases hx:wu j i
 · rfl
 · have :=Nr hx; subst this; exact h.symm
def lift (N:Fm) (Q:Exit→(Nat→Value)→World→Prop):Exit→Act→World→Prop
 | .panic c,a,w=> ∃ σ,a=act N σ∧∀ q,(∀ i∈N.F,q i=σ i)→Q (.panic c) q w
 | .outgrown,_,_=>False
 | e,a,w=> ∃ σ,a=act N σ∧Q e σ w
def fe:Option Nat→Fence
 | none=>jj
 | some l=>jj.inRound l
theorem Bj (r:Option Nat):(fe r).round=r:=by cases r <;> rfl
theorem xH (r:Option Nat) (f:FuncId):(fe r).fn f:=by cases r <;> trivial
theorem uC (r:Option Nat):(fe r).depth=none:=by cases r <;> rfl
theorem Hd {r:Option Nat} {n:Nat} {P:Program} {f:FuncId} {args:Array Value} {w:World} {R:Ending→World→Prop} (h:Calls P f args w R):CallsIn (fe r) n P f args w R:=by
 cases r
 · exact callsIn_wide.2 h
 · exact (callsIn_wide (n:=n)).2 h
theorem Bk {r:Option Nat} {n:Nat} {P:Program} {row:String} {args:Array Value} {w:World} {R:Value→World→Prop} (h:Rows P row args w R):RowsIn (fe r) n P row args w R:=fun c cs _=>by
 obtain ⟨v,w',a,hs⟩:=h c cs
 refine ⟨v,w',a,?_⟩
 cases r
 · exact stepsIn_wide.2 hs
 · exact stepsIn_wide.2 hs
def Jx (ops:List Oper):Bool:=ops.all fun o=>match o.op with | .defer _=>false | _=>true
def th (r:Option Nat) (ops:List Oper):Bool:=match r with | none=>true | some _=>Jx ops
theorem VN {l:List Oper} (h:Jx l=true):∀ o∈l,∀ c,o.op≠.defer c:=fun o a c e=>by
 have :=ma.1 h o a
 rw [e] at this
 cases this
theorem Ce {r:Option Nat} {P:Program} {ops:Array Oper} {Q:Exit→Act→World→Prop} (C:¬LetsOut Q) (E:th r ops.toList=true):∀ (l:List Nat) (a:Act) (w:World),wpOps P ops Q l a w→wpOpsIn (fe r) 0 P ops Q l a w:=by
 intro l
 induction l with
 | nil=>exact fun _ _ h=>h
 | cons i l A=>
   intro a w h
   simp only [wpOps] at h
   simp only [wpOpsIn]
   cases ho:ops[i]? with
   | none=>simp only [ho] at h ⊢; exact A a w h
   | some o=>
     simp only [ho] at h ⊢
     by_cases hw:qP o (yielded ops a.tmps)=true
     · rw [if_pos hw] at h ⊢
       rcases h with h | h
       · refine ⟨fun f _=>xH r f,?_⟩
         rw [Bj]
         have G:o.semAt r a.eval=execOp a.eval o:=by
          cases r with
          | none=>rfl
          | some k=>exact Oper.semAt_eq _ _ _<|VN E o<|vK.2<|Array.mem_of_getElem? ho
         rw [G]
         unfold jZ at h
         generalize (execOp a.eval o).run P w=x at h
         cases x with
         | ok n w'=>
           cases n <;> simp only [kV,qO] at h ⊢ <;>
            first
             | exact A _ _ h
             | (refine ⟨fun q=>(by rw [uC] at q; cases q),CallsIn.mono (Hd h) fun e w'' he=> ?_⟩
                cases e <;> first | exact A _ _ he | exact he)
             | exact ⟨fun q=>(by rw [uC] at q; cases q),RowsIn.mono (Bk h) fun v w'' he=>A _ _ he⟩
         | halt x w'=>cases x <;> simp only [kV,qO] at h ⊢ <;> exact h
       · exact absurd h.2 C
     · rw [if_neg hw] at h ⊢
       exact ⟨fun f _=>xH r f,A _ _ h⟩
def dQ (P:Program) (N:Fm) (c:Code) (Q:Exit→(Nat→Value)→World→Prop) (σ:Nat→Value) (w:World):Prop :=
 c.wpIn (fe N.r) 0 P (lift N Q) (act N σ) w
def eM (P:Program) (N:Fm) (ops:Array Oper) (Q:Exit→(Nat→Value)→World→Prop) (l:List Oper) (σ:Nat→Value) (w:World):Prop :=
 wpList P ops (lift N Q) l (act N σ) w
def lM (K:(Nat→Value)→World→Prop) (Q:Exit→(Nat→Value)→World→Prop):Exit→(Nat→Value)→World→Prop
 | .normal,σ,w=>K σ w
 | e,σ,w=>Q e σ w
def qw (id:Nat) (Q:Exit→(Nat→Value)→World→Prop):Exit→(Nat→Value)→World→Prop
 | .exit a,σ,w=>if a=id then Q .normal σ w else Q (.exit a) σ w
 | e,σ,w=>Q e σ w
section
variable {P:Program} {N:Fm} {Q:Exit→(Nat→Value)→World→Prop} {σ:Nat→Value} {w:World} {K:(Nat→Value)→World→Prop}
theorem Vd {Q A:Exit→(Nat→Value)→World→Prop} (h:∀ e σ w,Q e σ w→A e σ w) (e:Exit) (a:Act) (w:World):lift N Q e a w→lift N A e a w:=by
 cases e <;> first | exact fun h=>h.elim | exact fun ⟨σ,i,q⟩=>⟨σ,i,h _ _ _ q⟩ | exact fun ⟨σ,i,q⟩=>⟨σ,i,fun E C=>h _ _ _<|q E C⟩
theorem Y8 {a:Exit→(Nat→Value)→World→Prop} {c:Code} (h:∀ e σ w,Q e σ w→a e σ w) (i:dQ P N c Q σ w):dQ P N c a σ w:=
 wpIn_mono i (Vd h)
theorem tn (h:K σ w):lM K Q .normal σ w:=h
theorem te (id:Nat) (h:Q (.exit id) σ w):lM K Q (.exit id) σ w:=h
theorem tr (h:Q .ret σ w):lM K Q .ret σ w:=h
theorem bn {id:Nat} (h:Q .normal σ w):qw id Q .normal σ w:=h
theorem be {id:Nat} (h:Q .normal σ w):qw id Q (.exit id) σ w:=by simpa only [qw,if_true] using h
theorem mV {id a:Nat} (i:a≠id) (h:Q (.exit a) σ w):qw id Q (.exit a) σ w:=by simpa only [qw,if_neg i] using h
theorem br {id:Nat} (h:Q .ret σ w):qw id Q .ret σ w:=h
theorem sq {x y:Code} (h:∀ K:(Nat→Value)→World→Prop,(∀ σ w,dQ P N y Q σ w→K σ w)→dQ P N x (lM K Q) σ w):dQ P N (.seq x y) Q σ w:=by
 refine wpIn_seq<|wpIn_mono (h (fun σ w=>dQ P N y Q σ w) fun _ _ h=>h) ?_
 intro e a w i
 cases e with
 | normal=>obtain ⟨σ,rfl,q⟩:=i; exact q
 | panic c=>exact i
 | outgrown=>exact i
 | _=>obtain ⟨σ,rfl,q⟩:=i; exact ⟨σ,rfl,q⟩
theorem ej {x y:Code} (a:(Nat→Value)→World→Prop) (h:dQ P N x (lM a Q) σ w) (hk:∀ σ w,a σ w→dQ P N y Q σ w):dQ P N (.seq x y) Q σ w:=
 sq fun _ q=>Y8 (fun e _ _ i=>by cases e <;> first | exact q _ _ (hk _ _ i) | exact i) h
theorem ct {c:Operand} {x y:Code} (a:ev N σ c= .bool true) (h:dQ P N x Q σ w):dQ P N (.cond c x y) Q σ w:=
 wpIn_cond_true (by rw [hU]; exact a) h
theorem cf {c:Operand} {x y:Code} (a:ev N σ c= .bool false) (h:dQ P N y Q σ w):dQ P N (.cond c x y) Q σ w:=
 wpIn_cond_false (by rw [hU]; exact a) h
theorem cb {c:Operand} {x y:Code} {b:Bool} (a:ev N σ c= .bool b) (q:b=true→dQ P N x Q σ w) (i:b=false→dQ P N y Q σ w):dQ P N (.cond c x y) Q σ w:=by
 cases b
 · exact cf a<|i aa
 · exact ct a<|q aa
theorem cd {c:Operand} {x y:Code} {p:Prop} [Decidable p] (a:ev N σ c= .bool (decide p)) (q:p→dQ P N x Q σ w) (i:¬p→dQ P N y Q σ w):dQ P N (.cond c x y) Q σ w:=
 cb a (fun h=>q<|of_decide_eq_true h) (fun h=>i<|of_decide_eq_false h)
theorem aM {id:Nat} {c:Code} (h:dQ P N c (qw id Q) σ w):dQ P N (.block id c) Q σ w:=by
 refine wpIn_block<|wpIn_mono h ?_
 intro e a w q
 cases e with
 | panic c=>exact q
 | outgrown=>exact q
 | exit A=>
   obtain ⟨σ,rfl,i⟩:=q
   simp only [qw,Exit.inBlock] at i ⊢
   split
   · rename_i e; rw [if_pos e] at i; exact ⟨σ,rfl,i⟩
   · rename_i e; rw [if_neg e] at i; exact ⟨σ,rfl,i⟩
 | _=>obtain ⟨σ,rfl,i⟩:=q; exact ⟨σ,rfl,i⟩
theorem ext {id:Nat} (h:Q (.exit id) σ w):dQ P N (.exit id) Q σ w:=wpIn_exit ⟨σ,rfl,h⟩
theorem aO (h:Q .normal σ w):dQ P N .skip Q σ w:=wpIn_skip ⟨σ,rfl,h⟩
theorem rt (h:Q .ret σ w):dQ P N .ret Q σ w:=wpIn_ret ⟨σ,rfl,h⟩
theorem fx {c:Code} {v:Value} (i:Nat) (h:σ i=v) (a:dQ P N c Q (dB σ i v) w):dQ P N c Q σ w:=by rw [nU h] at a; exact a
theorem lp {c:Code} (E:Nat→(Nat→Value)→World→Prop) (n:Nat) (Y:E n σ w)
 (h:∀ n σ w,E n σ w→dQ P N c (lM (fun aj w'=> ∃ m,m < n∧E m aj w') Q) σ w):dQ P N (.loop c) Q σ w:=by
 intro b k cs ag I J
 have key:∀ n σ w,E n σ w→
  ∃ e G w',lift N Q e G w'∧ArrivesIn (Machine.fenced P<|fe N.r) P (lone (b.atR (act N σ) (.code c:: .inLoop c::k)) cs w) b k cs e G w':=by
  intro n
  induction n using Nat.strongRecOn with
  | _ n ah=>
    intro σ w Z
    obtain ⟨e,M,C,A,i⟩:=h n σ w Z b (.inLoop c::k) cs ag I J
    cases e with
    | normal=>
      obtain ⟨a,rfl,m,hm,ab⟩:=A
      obtain ⟨V,O,ai,ae,ac⟩:=ah m hm a C ab
      exact ⟨V,O,ai,ae,.of_steps (StepsIn.trans i<|.one (fenced_calm I J aa) stepR_inLoop) ac⟩
    | exit id=>obtain ⟨a,rfl,q⟩:=A; exact ⟨.exit id,act N a,C,⟨a,rfl,q⟩,.pass (x:= .inLoop c) rfl (fun _ _=> .inl<|by simp) i⟩
    | goto l=>obtain ⟨a,rfl,q⟩:=A; exact ⟨.goto l,act N a,C,⟨a,rfl,q⟩,.pass (x:= .inLoop c) rfl (fun _ _=> .inl<|by simp) i⟩
    | ret=>obtain ⟨a,rfl,q⟩:=A; exact ⟨.ret,act N a,C,⟨a,rfl,q⟩,.pass (x:= .inLoop c) rfl (fun _ _=> .inl<|by simp) i⟩
    | panic U=>exact ⟨.panic U,M,C,A,.pass (x:= .inLoop c) rfl (fun _ _=> .inl<|by simp) i⟩
    | outgrown=>exact A.elim
 obtain ⟨e,G,w',q,i⟩:=key _ σ w Y
 exact ⟨e,G,w',q,.of_steps (.one (fenced_calm I J aa) stepR_loop) i⟩
def dR (P:Program) (N:Fm) (o:Oper) (σ:Nat→Value) (w:World) (K:(Nat→Value)→World→Prop):Prop :=
 jZ P o (act N σ) w (fun a w=> ∃ σ,a=act N σ∧K σ w) (fun _ _ _=>False)
theorem YI {o:Oper} {a:Act} {K q:Act→World→Prop} {Q:Exit→Act→World→Prop} (h:∀ a w,K a w→q a w)
 (r:Result Next) (i:o.upon P a K (fun _ _ _=>False) r):o.upon P a q Q r:=by
 cases r with
 | ok n w'=>
   cases n <;> simp only [kV] at i ⊢ <;>
    first
     | exact h _ _ i
     | exact lN i (fun e w'' he=>by
      cases e with
      | returned v=>exact h _ _ he
      | panicked c=>exact he.elim
      | outgrown=>obtain ⟨_,_,A⟩:=he; exact A.elim)
     | exact Rows.mono i fun _ _ he=>h _ _ he
 | halt x w'=>cases x <;> simp only [kV] at i ⊢
theorem tD {K:(Nat→Value)→World→Prop} {i:Act→World→Prop} {Q:Exit→Act→World→Prop} {o:Oper} (h:dR P N o σ w K) (hk:∀ σ w,K σ w→i (act N σ) w):o.wp P (act N σ) w i Q:=by
 unfold dR at h
 unfold jZ at*
 exact YI (fun a w ⟨σ,A,q⟩=>by subst A; exact hk _ _ q) _ h
theorem LW {K a:(Nat→Value)→World→Prop} {o:Oper} (h:dR P N o σ w K) (hk:∀ σ w,K σ w→a σ w):dR P N o σ w a:=
 tD h (fun σ w i=>⟨σ,rfl,hk σ w i⟩)
variable {ops:Array Oper} {rest:List Oper} {d:Nat} {op:Op} {ty:TypeId} {pos :String} {af:Array Edge} {d':Option Nat} {v:Value} {o:Oper}
theorem zb (a:qP o (yielded ops (act N σ).tmps)=true) (h:dR P N o σ w (fun σ w=>eM P N ops Q rest σ w)):eM P N ops Q (o::rest) σ w:=by
 unfold eM wpList
 rw [if_pos a]
 exact .inl<|tD h fun _ _ hk=>hk
theorem nW {K:(Nat→Value)→World→Prop} {w':World} (a:(execOp (ev N σ) o).run P w= .ok (.value v) w') (hk:K (iN σ o.dst v) w'):dR P N o σ w K:=by
 unfold dR jZ
 rw [hU,a]
 exact ⟨_,jH ..,hk⟩
theorem jO (o:Oper) (a:o.guard=none) (y:Nat→Option Bool):qP o y=true :=by simp [qP,a]
def jW (ops:Array Oper) (j:Nat):Option Nat:=(ops[j]?).bind (·.dst)
theorem pQ {j t:Nat} {want b:Bool} (i:o.guard=some (j,want)) (a:jW ops j=some t) (q:gD t N.n=true) (A:σ t= .bool b):
 qP o (yielded ops (act N σ).tmps)=(b==want):=by
 have h1:yielded ops (act N σ).tmps j=some b:=by
  unfold yielded
  unfold jW at a
  rw [a]
  simp only [Nz,o6]
  rw [if_pos (r9 (ub t)<|ua q),A]
 simp only [qP,i,h1]
 cases b <;> cases want <;> rfl
theorem LP {j t:Nat} {want:Bool} (i:o.guard=some (j,want)) (a:jW ops j=some t) (q:gD t N.n=true) (A:σ t=undef):
 qP o (yielded ops (act N σ).tmps)=false :=by
 have h1:yielded ops (act N σ).tmps j=none:=by
  unfold yielded
  unfold jW at a
  rw [a]
  simp only [Nz,o6]
  rw [if_pos (r9 (ub t)<|ua q),A]; rfl
 simp only [qP,i,h1]
 rfl
theorem p (h:(execOp (ev N σ) ⟨some d,op,ty,pos,af,none⟩).run P w= .ok (.value v) w) (k:eM P N ops Q rest (dB σ d v) w):
 eM P N ops Q (⟨some d,op,ty,pos,af,none⟩::rest) σ w:=
 zb (jO _ rfl _) (nW h k)
theorem pg {j t:Nat} {want:Bool} (a:jW ops j=some t) (i:gD t N.n=true) (q:σ t= .bool want)
 (h:(execOp (ev N σ) ⟨some d,op,ty,pos,af,some (j,want)⟩).run P w= .ok (.value v) w) (k:eM P N ops Q rest (dB σ d v) w):
 eM P N ops Q (⟨some d,op,ty,pos,af,some (j,want)⟩::rest) σ w:=
 zb (by rw [pQ rfl a i q]; cases want <;> rfl) (nW h k)
theorem sk {j t:Nat} {want b:Bool} (i:jW ops j=some t) (q:gD t N.n=true) (A:σ t= .bool b) (a:(b==want)=false)
 (k:eM P N ops Q rest (dB σ d undef) w):eM P N ops Q (⟨some d,op,ty,pos,af,some (j,want)⟩::rest) σ w:=by
 unfold eM wpList
 rw [if_neg (by rw [pQ rfl i q A,a]; simp),jH]
 exact k
theorem yN {j t:Nat} {want:Bool} (a:jW ops j=some t) (i:gD t N.n=true) (q:σ t=undef)
 (k:eM P N ops Q rest (dB σ d undef) w):eM P N ops Q (⟨some d,op,ty,pos,af,some (j,want)⟩::rest) σ w:=by
 unfold eM wpList
 rw [if_neg (by rw [LP rfl a i q]; simp),jH]
 exact k
theorem e (h:dR P N ⟨d',op,ty,pos,af,none⟩ σ w (fun σ w=>eM P N ops Q rest σ w)):eM P N ops Q (⟨d',op,ty,pos,af,none⟩::rest) σ w:=
 zb (jO _ rfl _) h
theorem eg {j t:Nat} {want:Bool} (a:jW ops j=some t) (i:gD t N.n=true) (q:σ t= .bool want)
 (h:dR P N ⟨d',op,ty,pos,af,some (j,want)⟩ σ w (fun σ w=>eM P N ops Q rest σ w)):eM P N ops Q (⟨d',op,ty,pos,af,some (j,want)⟩::rest) σ w:=
 zb (by rw [pQ rfl a i q]; cases want <;> rfl) h
theorem nl (h:Q .normal σ w):eM P N ops Q [] σ w:=⟨σ,rfl,h⟩
theorem Co:¬LetsOut (lift N Q):=fun ⟨_,_,h⟩=>h
theorem rg {id:Nat} {l:List Oper} (a:th N.r l=true) (h:eM P N l.toArray Q l σ w):dQ P N (.region id l.toArray false) Q σ w:=by
 refine wpIn_region<|Ce Co a _ _ _ ?_
 have h1:=wpOps_eq_wpList (P:=P) (ops:=l.toArray) (Q:=lift N Q) l 0 fun j=>by simp
 rw [List.range_eq_range',oa,h1]
 exact h
theorem gs {l:List Oper} {t:Nat} {q:Prop} [Decidable q] (h:σ t= .bool (decide q)) (A:q→eM P N ops Q l (dB σ t<|.bool true) w) (i:¬q→eM P N ops Q l (dB σ t<|.bool false) w):eM P N ops Q l σ w:=by
 by_cases a:q
 · have :=A a; rwa [nU (by rw [h,decide_eq_true a])] at this
 · have :=i a; rwa [nU (by rw [h,decide_eq_false a])] at this
theorem gb {l:List Oper} {t:Nat} {b:Bool} (h:σ t= .bool b) (i:b=true→eM P N ops Q l (dB σ t<|.bool true) w) (a:b=false→eM P N ops Q l (dB σ t<|.bool false) w):eM P N ops Q l σ w:=by
 cases b
 · have :=a rfl; rwa [nU h] at this
 · have :=i rfl; rwa [nU h] at this
def fI (P:Program) (N:Fm) (ops:Array Oper) (Q:Exit→(Nat→Value)→World→Prop) (S:World→Prop) (fuel:Nat) (bc:Array Bool) (σ:Nat→Value) (w:World):Prop :=
 wpAnyH P .any ops (lift N Q) S fuel bc (act N σ) w
variable {S:World→Prop} {fuel:Nat} {bc:Array Bool}
theorem EU {id:Nat} {l:List Oper} (a:th N.r l=true) (hm:P.follows .mixedOrders=true) (h:wpAny P .any l.toArray (lift N Q) l.toArray.size (tJ l.toArray.size false) (act N σ) w.drew):dQ P N (.region id l.toArray true) Q σ w:=by
 refine wpIn_region_draw fun t=>Ce Co a _ _ _ ?_
 simp only [Region.schedule,hm,Bool.true_or,if_true]
 exact wpAny_sound _ t _ _ _ h
theorem bM {id:Nat} {l:List Oper} (S:World→Prop) (a:th N.r l=true) (hm:P.follows .mixedOrders=true) (i:S w.drew) (h:fI P N l.toArray Q S l.length (tJ l.length false) σ w.drew):dQ P N (.region id l.toArray true) Q σ w:=
 EU a hm (wpAny_of_held _ _ _ _<|by rw [oa]; exact h)
def CI (F:List Nat) (d:Option Nat):Bool:=match d with | some d=> !(F.contains d) | none=>true
def ja (F:List Nat) (ops:Array Oper) (bc:Array Bool) (i:Nat):Bool:=
 Region.noSelect ops && Region.free .any ops bc i && (jr .any ops bc).contains i && CI F ((ops[i]?).bind (·.dst))
theorem oC {d:Option Nat} {v:Value} (hd:CI N.F d=true) (c:List PanicEntry) (a:Act) (w:World):lift N Q (.panic c) (a.put d v) w→lift N Q (.panic c) a w:=by
 rintro ⟨σ,q,h⟩
 cases d with
 | none=>exact ⟨σ,q,h⟩
 | some d=>
   have J:a.tmps.size=N.n:=by
    have :=congrArg (fun x:Act=>x.tmps.size) q
    simpa [Act.put,act] using this
   have C:a.defers=N.D:=congrArg (fun x:Act=>x.defers) q
   have E:∀ i:Nat,i≠d→a.tmps[i]? =if i < N.n then some (σ i) else none:=fun i hi=>by
    have h1:(a.put (some d) v).tmps[i]? =a.tmps[i]? :=by
     show (a.tmps.setIfInBounds d v)[i]? =_
     rw [DJ,if_neg (fun e=>hi e.symm)]
    rw [← h1,q,o6]
   refine ⟨fun i=>if i < N.n then a.tmps.getD i undef else σ i,wO C fun i=> ?_,fun I A=>h I fun i hi=> ?_⟩
   · rw [o6]
     by_cases h1:i < N.n
     · rw [if_pos h1,if_pos h1,DI,zi ab]; rfl
     · rw [if_neg h1,tH ab]
   · have G:i≠d:=by
      rintro rfl
      simp only [CI,zk,List.contains_eq_mem,decide_eq_false_iff_not] at hd
      exact hd hi
     rw [A i hi]
     by_cases h1:i < N.n
     · simp only [if_pos h1]
       rw [DI,E i G,if_pos h1]; rfl
     · simp only [if_neg h1]
theorem hp (i:Nat) (hi:ops[i]? =some ⟨some d,op,ty,pos,af,none⟩) (q:ja N.F ops bc i=true)
 (C:∀ w,S w→(execOp (ev N σ) ⟨some d,op,ty,pos,af,none⟩).run P w= .ok (.value v) w) (A:S w)
 (k:fI P N ops Q S fuel (bc.setIfInBounds i true) (dB σ d v) w):fI P N ops Q S (fuel+1) bc σ w:=by
 simp only [ja,gU] at q
 refine wpAnyH_take hi q.1.1.1 q.1.1.2 q.1.2 (fun c a w=>oC (by have :=q.2; rwa [hi] at this) c a w) (.inl ⟨jO _ rfl _,fun w A=> ?_⟩) A ?_ (v:=v)
 · rw [hU]; exact C w A
 · rw [jH]; exact k
theorem la (i:Nat) {j t:Nat} {want:Bool} (hi:ops[i]? =some ⟨some d,op,ty,pos,af,some (j,want)⟩) (q:ja N.F ops bc i=true)
 (C:jW ops j=some t) (E:gD t N.n=true) (G:σ t= .bool want)
 (I:∀ w,S w→(execOp (ev N σ) ⟨some d,op,ty,pos,af,some (j,want)⟩).run P w= .ok (.value v) w) (A:S w)
 (k:fI P N ops Q S fuel (bc.setIfInBounds i true) (dB σ d v) w):fI P N ops Q S (fuel+1) bc σ w:=by
 simp only [ja,gU] at q
 refine wpAnyH_take hi q.1.1.1 q.1.1.2 q.1.2 (fun c a w=>oC (by have :=q.2; rwa [hi] at this) c a w) (.inl ⟨by rw [pQ aa C E G]; cases want <;> rfl,fun w A=> ?_⟩) A ?_ (v:=v)
 · rw [hU]; exact I w A
 · rw [jH]; exact k
theorem oB (i:Nat) {j t:Nat} {want b:Bool} (hi:ops[i]? =some ⟨some d,op,ty,pos,af,some (j,want)⟩) (q:ja N.F ops bc i=true)
 (E:jW ops j=some t) (G:gD t N.n=true) (I:σ t= .bool b) (C:(b==want)=false) (A:S w)
 (k:fI P N ops Q S fuel (bc.setIfInBounds i true) (dB σ d undef) w):fI P N ops Q S (fuel+1) bc σ w:=by
 simp only [ja,gU] at q
 refine wpAnyH_take hi q.1.1.1 q.1.1.2 q.1.2 (fun c a w=>oC (by have :=q.2; rwa [hi] at this) c a w) (.inr ⟨by rw [pQ aa E G I,C],aa⟩) A ?_ (v:=undef)
 rw [jH]; exact k
theorem lZ (i:Nat) {j t:Nat} {want:Bool} (hi:ops[i]? =some ⟨some d,op,ty,pos,af,some (j,want)⟩) (q:ja N.F ops bc i=true)
 (C:jW ops j=some t) (E:gD t N.n=true) (G:σ t=undef) (A:S w)
 (k:fI P N ops Q S fuel (bc.setIfInBounds i true) (dB σ d undef) w):fI P N ops Q S (fuel+1) bc σ w:=by
 simp only [ja,gU] at q
 refine wpAnyH_take hi q.1.1.1 q.1.1.2 q.1.2 (fun c a w=>oC (by have :=q.2; rwa [hi] at this) c a w) (.inr ⟨LP aa C E G,aa⟩) A ?_ (v:=undef)
 rw [jH]; exact k
def lj (ops:Array Oper) (bc:Array Bool) (i:Nat):Bool:=(jr .any ops bc)== [i]
theorem he (i:Nat) (hi:ops[i]? =some ⟨d',op,ty,pos,af,none⟩) (a:lj ops bc i=true)
 (h:dR P N ⟨d',op,ty,pos,af,none⟩ σ w (fun σ w=>S w∧fI P N ops Q S fuel (bc.setIfInBounds i true) σ w)):fI P N ops Q S (fuel+1) bc σ w:=by
 refine wpAnyH_all (rs:= [i]) (by simpa [lj] using a) (by simp) ?_
 intro k hk
 obtain rfl :k=i:=by simpa using hk
 unfold wpOp
 simp only [hi]
 rw [if_pos (jO _ rfl _)]
 exact .inl<|tD h fun _ _ hk=>hk
theorem lY (i:Nat) {j t:Nat} {want:Bool} (hi:ops[i]? =some ⟨d',op,ty,pos,af,some (j,want)⟩) (q:lj ops bc i=true)
 (a:jW ops j=some t) (A:gD t N.n=true) (C:σ t= .bool want)
 (h:dR P N ⟨d',op,ty,pos,af,some (j,want)⟩ σ w (fun σ w=>S w∧fI P N ops Q S fuel (bc.setIfInBounds i true) σ w)):fI P N ops Q S (fuel+1) bc σ w:=by
 refine wpAnyH_all (rs:= [i]) (by simpa [lj] using q) (by simp) ?_
 intro k hk
 obtain rfl :k=i:=by simpa using hk
 unfold wpOp
 simp only [hi]
 rw [if_pos (by rw [pQ rfl a A C]; cases want <;> rfl)]
 exact .inl<|tD h fun _ _ hk=>hk
theorem hn (a:(jr .any ops bc).isEmpty=true) (h:Q .normal σ w):fI P N ops Q S fuel bc σ w:=
 wpAnyH_done (by simpa using a) ⟨σ,rfl,h⟩ fuel
theorem iH {t:Nat} {q:Prop} [Decidable q] (h:σ t= .bool (decide q)) (A:q→fI P N ops Q S fuel bc (dB σ t<|.bool true) w) (i:¬q→fI P N ops Q S fuel bc (dB σ t<|.bool false) w):fI P N ops Q S fuel bc σ w:=by
 by_cases a:q
 · have :=A a; rwa [nU (by rw [h,decide_eq_true a])] at this
 · have :=i a; rwa [nU (by rw [h,decide_eq_false a])] at this
theorem yg {t:Nat} {b:Bool} (h:σ t= .bool b) (i:b=true→fI P N ops Q S fuel bc (dB σ t<|.bool true) w) (a:b=false→fI P N ops Q S fuel bc (dB σ t<|.bool false) w):fI P N ops Q S fuel bc σ w:=by
 cases b
 · have :=a rfl; rwa [nU h] at this
 · have :=i rfl; rwa [nU h] at this
end
def bo (P:Program) (f:FuncId) (args:Array Value) (w:World) (R:Value→World→Prop):Prop :=
 Calls P f args w fun e w'=> ∃ v,e= .returned v∧R v w'
theorem bo.mono {P:Program} {f:FuncId} {args:Array Value} {w:World} {R R':Value→World→Prop} (h:bo P f args w R) (i:∀ v w',R v w'→R' v w'):bo P f args w R':=
 lN h fun _ _ ⟨v,he,a⟩=>⟨v,he,i _ _ a⟩
def mG (args:List Value):Nat→Value:=fun i=>args.getD i undef
def fin (P:Program) (fn:Func) (N:Fm) (R:Value→World→Prop):Exit→(Nat→Value)→World→Prop
 | .normal,σ,w=> ∃ v,(results fn (act N σ).tmps).run P w= .ok v w∧R v w
 | .ret,σ,w=> ∃ v,(results fn (act N σ).tmps).run P w= .ok v w∧R v w
 | _,_,_=>False
theorem enter {P:Program} {f:FuncId} {N:Nat} {fn:Func} {c:Code} {args:List Value} {w:World} {R:Value→World→Prop} (M:P.funcs[f]? =some fn) (J:fn.body=some c)
 (G:fn.ntmps=N) (hn:oU args.length N=true) (h:dQ P ⟨N,[],[],none⟩ c (fin P fn ⟨N,[],[],none⟩ R) (mG args) w):bo P f args.toArray w R:=by
 subst G
 refine calls_of_wp M J ?_
 have I:({tmps:=args.toArray++tJ (fn.ntmps - args.toArray.size) undef,defers:= []} :Act)=act ⟨fn.ntmps,[],[],none⟩ (mG args):=by
  have O:args.length≤fn.ntmps:=by simpa using hn
  refine wO aa fun i=> ?_
  rw [o6]
  simp only [mG,cV,oa]
  by_cases h1:i < args.length
  · rw [Array.getElem?_append_left (by simpa using h1),if_pos ab]
    simp [h1]
  · rw [Array.getElem?_append_right (by simpa using h1)]
    simp only [oa,Array.getElem?_replicate]
    by_cases h2:i < fn.ntmps
    · rw [if_pos ab,if_pos h2,tV ab]; rfl
    · rw [if_neg ab,if_neg h2]
 rw [I]
 refine Code.wp_mono ?_<|wpIn_wide.1 h
 intro e a w q
 cases e with
 | normal=>obtain ⟨σ,rfl,v,E,C⟩:=q; exact ⟨rfl,v,E,v,rfl,C⟩
 | ret=>obtain ⟨σ,rfl,v,E,C⟩:=q; exact ⟨rfl,v,E,v,rfl,C⟩
 | exit id=>obtain ⟨σ,rfl,A⟩:=q; exact A.elim
 | goto l=>obtain ⟨σ,rfl,A⟩:=q; exact A.elim
 | panic c=>obtain ⟨σ,rfl,A⟩:=q; exact (A σ fun _ _=>rfl).elim
 | outgrown=>exact q.elim
section
variable {P:Program} {N:Fm} {σ:Nat→Value} {w:World} {fn:Func} {R:Value→World→Prop}
theorem mI (t:Nat):(act N σ).tmps.getD t undef=ev N σ (.tmp t):=by
 rw [← hU]; rfl
theorem f0 (h:fn.results= #[]) (a:R (.tuple #[]) w):fin P fn N R .normal σ w:=⟨_,results_none h _ _ _,a⟩
theorem rk (h:fn.results= #[]) (a:R (.tuple #[]) w):fin P fn N R .ret σ w:=⟨_,results_none h _ _ _,a⟩
theorem f1 {t:Nat} {v:Value} (h:fn.results= #[.tmp t]) (i:ev N σ (.tmp t)=v) (a:R v w):fin P fn N R .ret σ w:=
 ⟨v,by rw [results_tmp h,mI,i],a⟩
theorem f2 {t u:Nat} {v a:Value} (h:fn.results= #[.tmp t,.tmp u]) (q:ev N σ (.tmp t)=v) (hu:ev N σ (.tmp u)=a) (i:R (.tuple #[v,a]) w):fin P fn N R .ret σ w:=
 ⟨_,by rw [results_tmp2 h,mI,mI,q,hu],i⟩
theorem f3 {t u s:Nat} {v a i:Value} (h:fn.results= #[.tmp t,.tmp u,.tmp s]) (A:ev N σ (.tmp t)=v) (hu:ev N σ (.tmp u)=a) (hs:ev N σ (.tmp s)=i) (q:R (.tuple #[v,a,i]) w):fin P fn N R .ret σ w:=by
 refine ⟨_,?_,q⟩
 simp only [results,h]
 subst A hu hs
 simp only [← mI]
 simp [wi]
theorem f4 {t u s r:Nat} {v a i v3:Value} (h:fn.results= #[.tmp t,.tmp u,.tmp s,.tmp r]) (C:ev N σ (.tmp t)=v) (hu:ev N σ (.tmp u)=a) (hs:ev N σ (.tmp s)=i) (A:ev N σ (.tmp r)=v3) (q:R (.tuple #[v,a,i,v3]) w):fin P fn N R .ret σ w:=by
 refine ⟨_,?_,q⟩
 simp only [results,h]
 subst C hu hs A
 simp only [← mI]
 simp [wi]
end
attribute [irreducible] eM dQ fI dR
end Go.Hb
namespace Go.Hb
def aQ (h:Array Obj) (b off :Nat):Option Value:=
 match h[b]? with
 | some (.cells c _ _)=>c[off]?
 | _=>none
theorem nz (w:World) (b off :Nat):w.cell? ⟨b,off,none⟩=aQ w.heap b off :=by
 unfold World.cell? aQ
 simp only
 split <;> simp_all
theorem a7 {h:Array Obj} {b off :Nat} {c:Array Value} {t:TypeId} {f:Nat×Nat} (a:h[b]? =some (.cells c t f)):aQ h b off =c[off]? :=by
 simp only [aQ,a]
theorem Qn {h:Array Obj} {b off :Nat} {v:Value} (a:aQ h b off =some v):b < h.size:=by
 unfold aQ at a
 rcases fg b h.size with q | i
 · exact q
 · simp [tH i] at a
structure Md (F:Nat→Prop) (w w':World):Prop where
 os:w'.os=w.os
 output:w'.output=w.output
 size:w.heap.size≤w'.heap.size
 cz:∀ k,k < w.heap.size→¬F k→w'.heap[k]? =w.heap[k]?
abbrev Wk (w w':World):Prop :=Md (fun _=>False) w w'
theorem Md.refl (F:Nat→Prop) (w:World):Md F w w:=⟨rfl,rfl,cB _,fun _ _ _=>rfl⟩
theorem Md.drew {F:Nat→Prop} {w w':World} (h:Md F w w'):Md F w w'.drew:=⟨h.os,h.output,h.size,h.cz⟩
theorem Md.mono {F G:Nat→Prop} {w w':World} (h:Md F w w') (i:∀ k,k < w.heap.size→F k→G k):Md G w w':=
 ⟨h.os,h.output,h.size,fun k hk q=>h.cz k hk fun a=>q<|i k hk a⟩
theorem Md.trans {F:Nat→Prop} {a b c:World} (h:Md F a b) (i:Md F b c):Md F a c:=
 ⟨i.os.trans h.os,i.output.trans h.output,gd h.size i.size,fun k hk q=>(i.cz k (r9 hk h.size) q).trans<|h.cz k hk q⟩
theorem Md.trans' {F G:Nat→Prop} {a b c:World} (h:Md F a b) (i:Md G b c) (A:∀ k,k < a.heap.size→G k→F k):Md F a c:=
 ⟨i.os.trans h.os,i.output.trans h.output,gd h.size i.size,
  fun k hk q=>(i.cz k (r9 hk h.size) fun x=>q<|A k hk x).trans (h.cz k hk q)⟩
theorem Md.aM {F:Nat→Prop} {w w':World} (h:Md F w w') {k:Nat} {o:Obj} (hk:w.heap[k]? =some o) (a:¬F k):w'.heap[k]? =some o:=
 (h.cz k (cQ.1 hk).1 a).trans hk
theorem Md.aQ {F:Nat→Prop} {w w':World} (h:Md F w w') {b off :Nat} {v:Value} (a:Hb.aQ w.heap b off =some v) (i:¬F b):Hb.aQ w'.heap b off =some v:=by
 have :=h.cz b (Qn a) i
 unfold Hb.aQ at*
 rw [this]; exact a
theorem Wk.aQ {w w':World} (h:Wk w w') {b off :Nat} {v:Value} (a:Hb.aQ w.heap b off =some v):Hb.aQ w'.heap b off =some v:=Md.aQ h a id
theorem Wk.aM {w w':World} (h:Wk w w') {k:Nat} {o:Obj} (hk:w.heap[k]? =some o):w'.heap[k]? =some o:=Md.aM h hk id
structure Nw (w w':World):Prop where
 md:Wk w w'
 size:w'.heap.size=w.heap.size+1
theorem CC (w:World) (o:Obj):Nw w {w with heap:=w.heap.push o} :=
 ⟨⟨rfl,rfl,by simp,fun k hk _=>by show (w.heap.push o)[k]? =_; rw [Array.getElem?_push,if_neg ab]⟩,by simp⟩
def dz (P:Program) (t:TypeId):Option (Option Nat):=
 match P.underlying t with
 | some (.struct _) | some (.array _ _)=>((P.info? t).map (·.size)).map some
 | some _=>some none
 | none=>none
def bW (P:Program) (s f:Nat):Option Nat:=
 match P.underlying s with
 | some (.struct fs)=>match fs[f]? with
   | some fd=>match P.info? fd.type with
     | some i=>if i.size=0 then none else some fd.offset
     | none=>none
   | none=>none
 | _=>none
def gv (P:Program) (t:TypeId):Option Nat:=
 match P.underlying t with
 | some (.slice e)=>(P.info? e).map (·.size)
 | _=>none
section
variable {P:Program} {N:Fm} {σ:Nat→Value} {w:World} {dst:Option Nat} {ty:TypeId} {pos :String} {af:Array Edge} {g:Option (Nat×Bool)} {x y z:Operand}
theorem eC {t:TypeId} {d:TypeDesc} (h:P.underlying t=some d) (w:World):(underlying t).run P w= .ok d w:=by
 simp [underlying,h]
theorem jg {t:TypeId} {i:TypeInfo} (h:P.info? t=some i) (w:World):(typeInfo t).run P w= .ok i w:=by
 simp [typeInfo,h]
theorem mv:(execOp (ev N σ) ⟨dst,.move x,ty,pos,af,g⟩).run P w= .ok (.value<|ev N σ x) w:=rfl
theorem aB:(execOp (ev N σ) ⟨dst,.assign x,ty,pos,af,g⟩).run P w= .ok (.value<|ev N σ x) w:=rfl
theorem aU (v:Value) (h:ev N σ x=v):(execOp (ev N σ) ⟨dst,.move x,ty,pos,af,g⟩).run P w= .ok (.value v) w:=by rw [← h]; rfl
theorem cO (v:Value) (h:ev N σ x=v):(execOp (ev N σ) ⟨dst,.assign x,ty,pos,af,g⟩).run P w= .ok (.value v) w:=by rw [← h]; rfl
theorem bB {c:Operand} (a:ev N σ c= .bool true):(execOp (ev N σ) ⟨dst,.pick c x y,ty,pos,af,g⟩).run P w= .ok (.value<|ev N σ x) w:=by
 simp [execOp,a,asBool]
theorem bq {c:Operand} (a:ev N σ c= .bool false):(execOp (ev N σ) ⟨dst,.pick c x y,ty,pos,af,g⟩).run P w= .ok (.value<|ev N σ y) w:=by
 simp [execOp,a,asBool]
theorem nc {a:Addr} (i:ev N σ x= .pointer (some a)):(execOp (ev N σ) ⟨dst,.nilCheck x,ty,pos,af,g⟩).run P w= .ok (.value<|.pointer<|some a) w:=by
 simp [execOp,i]
theorem xt {i:Nat} {vs:Array Value} {v:Value} (q:ev N σ x= .tuple vs) (a:vs[i]? =some v):(execOp (ev N σ) ⟨dst,.extract x i,ty,pos,af,g⟩).run P w= .ok (.value v) w:=by
 simp [execOp,q,Instr.extract,a]
theorem fa {s f n b off :Nat} (a:bW P s f=some n) (C:ev N σ x= .pointer (some ⟨b,off,none⟩)):
 (execOp (ev N σ) ⟨dst,.fieldAddr s x f,ty,pos,af,g⟩).run P w= .ok (.value<|.pointer<|some ⟨b,off+n,none⟩) w:=by
 unfold bW at a
 split at a
 · rename_i fs hu
   split at a
   · rename_i fd A
     split at a
     · rename_i i hi
       split at a
       · cases a
       · rename_i E
         cases a
         have q:(⟨b,off,none⟩:Addr).add fd.offset=⟨b,off+fd.offset,none⟩:=by unfold zl; split <;> simp_all
         simp [execOp,Instr.fieldAt,eC hu,A,C,qN,fieldPlace,sizeOf,jg hi,E,q]
     · cases a
   · cases a
 · cases a
theorem ld {t b off :Nat} {v:Value} (hu:dz P t=some none) (q:ev N σ x= .pointer (some ⟨b,off,none⟩)) (a:aQ w.heap b off =some v):
 (execOp (ev N σ) ⟨dst,.load t x,ty,pos,af,g⟩).run P w= .ok (.value v) w:=by
 have i:w.cell? ⟨b,off,none⟩=some v:=by rw [nz]; exact a
 unfold dz at hu
 cases hd:P.underlying t with
 | none=>rw [hd] at hu; cases hu
 | some d=>
   rw [hd] at hu
   cases d <;> first
    | (simp only [oY] at hu; obtain ⟨_,_,h⟩:=hu; cases h; done)
    | simp [execOp,MD,q,qN,loadVar,isAgg,eC hd,run_load,i]
theorem ml (b off j:Nat):(⟨b,off,none⟩:Addr).add j=⟨b,off+j,none⟩:=by
 unfold zl; split <;> simp_all
theorem c8 {t n b off :Nat} {cs:List Value} (hu:dz P t=some (some n)) (E:ev N σ x= .pointer (some ⟨b,off,none⟩)) (C:cs.length=n)
 (q:∀ j,j < n→aQ w.heap b (off+j)=cs[j]?):
 (execOp (ev N σ) ⟨dst,.load t x,ty,pos,af,g⟩).run P w= .ok (.value<|.agg cs.toArray) w:=by
 have A:(loadCells ⟨b,off,none⟩ n).run P w= .ok cs.toArray w:=by
  subst C
  refine run_loadCells_list (P:=P) w ⟨b,off,none⟩ cs fun j v a=> ?_
  rw [ml,nz]
  exact (q j (List.getElem?_eq_some_iff.1 a).1).trans a
 unfold dz at hu
 cases hd:P.underlying t with
 | none=>rw [hd] at hu; cases hu
 | some d=>
   rw [hd] at hu
   cases hi:P.info? t with
   | none=>simp [Program.underlying,hi] at hd
   | some i=>
     rw [hi] at hu
     cases d <;> first
      | (cases hu; done)
      | (simp only [mg,fQ] at hu; subst hu
         simp [execOp,MD,E,qN,loadVar,isAgg,eC hd,sizeOf,jg hi,A])
theorem ia {t n b off len cap:Nat} {k:IntKind} {i:Int} (he:gv P t=some n) (q:ev N σ x= .slice (some ⟨b,off,none⟩) len cap) (A:ev N σ y= .int k i) (a:0≤i∧i < len):
 (execOp (ev N σ) ⟨dst,.indexAddr t x y,ty,pos,af,g⟩).run P w= .ok (.value<|.pointer<|some ⟨b,off+i.toNat*n,none⟩) w:=by
 unfold gv at he
 cases hd:P.underlying t with
 | none=>rw [hd] at he; cases he
 | some d=>
   rw [hd] at he
   cases d <;> first | (cases he; done) | skip
   rename_i e
   cases hi:P.info? e with
   | none=>simp [hi] at he
   | some j=>
     simp only [hi,mg,fQ] at he
     subst he
     simp [execOp,Instr.indexAt,q,A,asIntOf,eC hd,a.1,a.2,sizeOf,jg hi,ml]
def gp (a:Option Addr) (cap l n:Nat):Option Addr:=if cap=l then a else a.map (·.add (l*n))
theorem De {t n len cap:Nat} {a:Option Addr} {lo hi:Option Value} {l h:Nat} (he:gv P t=some n) (C:ev N σ x= .slice a len cap)
 (A:(oQ true len cap lo hi none).run P w= .ok (l,h,cap) w) (i q:Option Operand) (E:i.map (ev N σ)=lo) (G:q.map (ev N σ)=hi):
 (execOp (ev N σ) ⟨dst,.slice t x i q none,ty,pos,af,g⟩).run P w= .ok (.value<|.slice (gp a cap l n) (h - l)<|cap - l) w:=by
 unfold gv at he
 cases hd:P.underlying t with
 | none=>rw [hd] at he; cases he
 | some d=>
   rw [hd] at he
   cases d <;> first | (cases he; done) | skip
   rename_i e
   cases hi':P.info? e with
   | none=>simp [hi'] at he
   | some j=>
     simp only [hi',mg,fQ] at he
     subst he
     simp [execOp,rW,vO,C,E,G,eC hd,A,sizeOf,jg hi',gp]
theorem vu {t n len cap:Nat} {a:Option Addr} {k:IntKind} {i:Int} (he:gv P t=some n) (A:ev N σ x= .slice a len cap) (C:ev N σ z= .int k i) (q:0≤i∧i≤cap):
 (execOp (ev N σ) ⟨dst,.slice t x none (some z) none,ty,pos,af,g⟩).run P w= .ok (.value<|.slice a i.toNat cap) w:=by
 have :=De (dst:=dst) (ty:=ty) (pos :=pos) (af:=af) (g:=g) (w:=w) (lo:=none) (hi:=some<|.int k i) (l:=0) (h:=i.toNat) he A
  (by simp [oQ,rX,asIntOf,q.1,q.2]) none (some z) rfl (by simp [C])
 rw [this]
 have hs:gp a cap 0 n=a:=by
  unfold gp; split
  · rfl
  · cases a <;> simp [zl]
 rw [hs]; rfl
theorem vv {t n len cap:Nat} {a:Option Addr} {k:IntKind} {i:Int} (he:gv P t=some n) (A:ev N σ x= .slice a len cap) (C:ev N σ y= .int k i) (q:0≤i∧i≤len):
 (execOp (ev N σ) ⟨dst,.slice t x (some y) none none,ty,pos,af,g⟩).run P w= .ok (.value<|.slice (gp a cap i.toNat n) (len - i.toNat)<|cap - i.toNat) w:=
 De (lo:=some<|.int k i) (hi:=none) he A
  (by simp [oQ,rX,asIntOf,q.1,q.2]) (some y) none (by simp [C]) rfl
theorem XH {t n len cap:Nat} {a:Option Addr} {k k':IntKind} {i j:Int} (he:gv P t=some n) (A:ev N σ x= .slice a len cap) (C:ev N σ y= .int k i) (E:ev N σ z= .int k' j) (q:0≤i∧i≤j∧j≤cap):
 (execOp (ev N σ) ⟨dst,.slice t x (some y) (some z) none,ty,pos,af,g⟩).run P w= .ok (.value<|.slice (gp a cap i.toNat n) (j.toNat - i.toNat)<|cap - i.toNat) w:=by
 have h1:0≤j:=ab
 have h2:i≤(j.toNat:Int):=ab
 refine De (lo:=some<|.int k i) (hi:=some<|.int k' j) he A ?_ (some y) (some z) (by simp [C])<|by simp [E]
 simp only [oQ,rX,asIntOf,vU,zq,vT,D7,q.1,h1,q.2.2,h2,and_self,if_true]
theorem bX {n:Int} (h: -9223372036854775808≤n∧n≤9223372036854775807):zo.wrap n=n:=IntWalk.i64_in n h
theorem tF {n:Int} (h:0≤n∧n≤255):pV.wrap n=n:=IntWalk.u8_in n h
theorem oN {n:Int} (h:0≤n∧n≤18446744073709551615):eK.wrap n=n:=IntWalk.u64_in n h
theorem iv {k:IntKind} {a b:Int} (h:a=b):jk k a=jk k b:=by rw [h]
theorem ad {t C:TypeId} {k:IntKind} {a b:Int} (q:ev N σ x= .int k a) (A:ev N σ y= .int k b) (i:k.wrap (a+b)=a+b):
 (execOp (ev N σ) ⟨dst,.binOp .add t x y C,ty,pos,af,g⟩).run P w= .ok (.value<|.int k<|a+b) w:=by
 simp [execOp,q,A,eqGuard,binOp,vQ,i]
theorem bG {t C:TypeId} {k:IntKind} {a b:Int} (v:Int) (q:ev N σ x= .int k a) (A:ev N σ y= .int k b) (i:k.wrap (a+b)=v):
 (execOp (ev N σ) ⟨dst,.binOp .add t x y C,ty,pos,af,g⟩).run P w= .ok (.value<|.int k v) w:=by
 subst i; simp [execOp,q,A,eqGuard,binOp,vQ]
theorem dN {t C:TypeId} {k:IntKind} {a b:Int} (v:Int) (q:ev N σ x= .int k a) (A:ev N σ y= .int k b) (i:k.wrap (a - b)=v):
 (execOp (ev N σ) ⟨dst,.binOp .sub t x y C,ty,pos,af,g⟩).run P w= .ok (.value<|.int k v) w:=by
 subst i; simp [execOp,q,A,eqGuard,binOp,vQ]
theorem oE {t C:TypeId} {k:IntKind} {a b:Int} (v:Int) (q:ev N σ x= .int k a) (A:ev N σ y= .int k b) (i:k.wrap (a*b)=v):
 (execOp (ev N σ) ⟨dst,.binOp .mul t x y C,ty,pos,af,g⟩).run P w= .ok (.value<|.int k v) w:=by
 subst i; simp [execOp,q,A,eqGuard,binOp,vQ]
theorem bl {a:Int} {n:Nat} (h:a=n) (hn:n≤9223372036854775807):zo.wrap a=(n:Int):=by rw [h]; exact bX ab
theorem bv {p q:Prop} [Decidable p] [Decidable q] (h:p↔q):bT (decide p)=bT (decide q):=by rw [decide_eq_decide.2 h]
theorem sb {t C:TypeId} {k:IntKind} {a b:Int} (q:ev N σ x= .int k a) (A:ev N σ y= .int k b) (i:k.wrap (a - b)=a - b):
 (execOp (ev N σ) ⟨dst,.binOp .sub t x y C,ty,pos,af,g⟩).run P w= .ok (.value<|.int k<|a - b) w:=by
 simp [execOp,q,A,eqGuard,binOp,vQ,i]
theorem qE {t E:TypeId} {k:IntKind} {a b:Int} (v:Int) (A:ev N σ x= .int k a) (C:ev N σ y= .int k b) (i:0≤a∧0 < b) (q:k.wrap (a / b)=v):
 (execOp (ev N σ) ⟨dst,.binOp .quo t x y E,ty,pos,af,g⟩).run P w= .ok (.value<|.int k v) w:=by
 have :a.tdiv b=a / b:=Int.tdiv_eq_ediv_of_nonneg i.1
 subst q; simp [execOp,A,C,eqGuard,binOp,Op.intDiv,show b≠0 from by omega,this]
theorem lt {t A:TypeId} {k:IntKind} {a b:Int} (i:ev N σ x= .int k a) (q:ev N σ y= .int k b):
 (execOp (ev N σ) ⟨dst,.binOp .lss t x y A,ty,pos,af,g⟩).run P w= .ok (.value<|.bool<|decide (a < b)) w:=by
 simp [execOp,i,q,eqGuard,binOp,tN]
theorem le {t A:TypeId} {k:IntKind} {a b:Int} (i:ev N σ x= .int k a) (q:ev N σ y= .int k b):
 (execOp (ev N σ) ⟨dst,.binOp .leq t x y A,ty,pos,af,g⟩).run P w= .ok (.value<|.bool<|decide (a≤b)) w:=by
 simp [execOp,i,q,eqGuard,binOp,tN]
theorem gt {t A:TypeId} {k:IntKind} {a b:Int} (i:ev N σ x= .int k a) (q:ev N σ y= .int k b):
 (execOp (ev N σ) ⟨dst,.binOp .gtr t x y A,ty,pos,af,g⟩).run P w= .ok (.value<|.bool<|decide (b < a)) w:=by
 simp [execOp,i,q,eqGuard,binOp,tN]
theorem ge {t A:TypeId} {k:IntKind} {a b:Int} (i:ev N σ x= .int k a) (q:ev N σ y= .int k b):
 (execOp (ev N σ) ⟨dst,.binOp .geq t x y A,ty,pos,af,g⟩).run P w= .ok (.value<|.bool<|decide (b≤a)) w:=by
 simp [execOp,i,q,eqGuard,binOp,tN]
theorem bI {t A:TypeId} {k:IntKind} {a b:Int} (i:ev N σ x= .int k a) (q:ev N σ y= .int k b):
 (execOp (ev N σ) ⟨dst,.binOp .eql t x y A,ty,pos,af,g⟩).run P w= .ok (.value<|.bool<|decide (a=b)) w:=by
 simp [execOp,i,q,eqGuard,binOp,tN]
 rw [tK]; simp
theorem dj {t A:TypeId} {k:IntKind} {a b:Int} (i:ev N σ x= .int k a) (q:ev N σ y= .int k b):
 (execOp (ev N σ) ⟨dst,.binOp .neq t x y A,ty,pos,af,g⟩).run P w= .ok (.value<|.bool<|decide (a≠b)) w:=by
 simp [execOp,i,q,eqGuard,binOp,tN]
 rw [tK]; simp
theorem no {t:TypeId} {b:Bool} (a:ev N σ x= .bool b):(execOp (ev N σ) ⟨dst,.unOp .not t x,ty,pos,af,g⟩).run P w= .ok (.value<|.bool<|!b) w:=by
 simp [execOp,a,DZ]
theorem E1 {t C:TypeId} {k:IntKind} {a b v:Int} (q:ev N σ x= .int k a) (A:ev N σ y= .int k b) (i:k.wrap (gq k.bits a ||| gq k.bits b).toNat=v):
 (execOp (ev N σ) ⟨dst,.binOp .or t x y C,ty,pos,af,g⟩).run P w= .ok (.value<|.int k v) w:=by
 subst i; simp [execOp,q,A,eqGuard,binOp,vR]
theorem fD {t C:TypeId} {k:IntKind} {a b v:Int} (q:ev N σ x= .int k a) (A:ev N σ y= .int k b) (i:k.wrap (gq k.bits a &&& gq k.bits b).toNat=v):
 (execOp (ev N σ) ⟨dst,.binOp .and t x y C,ty,pos,af,g⟩).run P w= .ok (.value<|.int k v) w:=by
 subst i; simp [execOp,q,A,eqGuard,binOp,vR]
theorem shr {t C:TypeId} {k E:IntKind} {a b v:Int} (q:ev N σ x= .int k a) (A:ev N σ y= .int E b) (G:0≤b) (i:a.fdiv (2 ^ min b.toNat k.bits)=v):
 (execOp (ev N σ) ⟨dst,.binOp .shr t x y C,ty,pos,af,g⟩).run P w= .ok (.value<|.int k v) w:=by
 have :¬b < 0:=ab
 simp [execOp,q,A,eqGuard,binOp,Op.shift,this,i]
theorem shl {t C:TypeId} {k E:IntKind} {a b v:Int} (q:ev N σ x= .int k a) (A:ev N σ y= .int E b) (G:0≤b) (i:k.wrap (a*2 ^ min b.toNat k.bits)=v):
 (execOp (ev N σ) ⟨dst,.binOp .shl t x y C,ty,pos,af,g⟩).run P w= .ok (.value<|.int k v) w:=by
 have :¬b < 0:=ab
 simp [execOp,q,A,eqGuard,binOp,Op.shift,this,i]
theorem y7 (m:Nat) (h:m < 256):((j6 m).toNat:Int)=(m:Int):=by
 simp [Nat.mod_eq_of_lt h]
theorem cv {t u:TypeId} {k k':IntKind} {n:Int} (hu:P.underlying u=some (.int k')) (a:(P.underlying t).isSome=true) (i:ev N σ x= .int k n):
 (execOp (ev N σ) ⟨dst,.convert t u x,ty,pos,af,g⟩).run P w= .ok (.value<|.int k'<|k'.wrap n) w:=by
 obtain ⟨d,hd⟩:=oX.1 a
 cases d <;> simp [execOp,i,convert,eC hu,eC hd,Conv.intToInt]
theorem lG {t u:TypeId} {k k':IntKind} {n v:Int} (hu:P.underlying u=some (.int k')) (i:(P.underlying t).isSome=true) (q:ev N σ x= .int k n) (a:k'.wrap n=v):
 (execOp (ev N σ) ⟨dst,.convert t u x,ty,pos,af,g⟩).run P w= .ok (.value<|.int k' v) w:=by
 rw [cv hu i q,a]
theorem xp {t u:TypeId} {k k':IntKind} {n:Int} (hu:P.underlying u=some (.int k')) (i:(P.underlying t).isSome=true) (q:ev N σ x= .int k n) (a:k'.wrap n=n):
 (execOp (ev N σ) ⟨dst,.convert t u x,ty,pos,af,g⟩).run P w= .ok (.value<|.int k' n) w:=by
 rw [cv hu i q,a]
theorem Sz (d:Nat) {t e:TypeId} {a:Option Addr} (hu:P.underlying t=some (.pointer e)):(tM (d+1) t (.pointer a)<|.pointer none).run P w= .ok a.isNone w:=by
 cases a <;> simp [tM,eC hu]
theorem G3 {t e:TypeId} {a:Option Addr} (hu:P.underlying t=some (.pointer e)):(DX t (.pointer a)<|.pointer none).run P w= .ok a.isNone w:=Sz 9999 hu
theorem m4 {t A e:TypeId} {a:Option Addr} (hu:P.underlying t=some (.pointer e)) (i:ev N σ x= .pointer a) (q:ev N σ y= .pointer none):
 (execOp (ev N σ) ⟨dst,.binOp .eql t x y A,ty,pos,af,g⟩).run P w= .ok (.value<|.bool a.isNone) w:=by
 have h:(binOp .eql t (.pointer a)<|.pointer none).run P w= .ok (.bool a.isNone) w:=by
  simp only [binOp]; simp [G3 hu]
 simp [execOp,i,q,eqGuard,h]
theorem yu {t A e:TypeId} {a:Option Addr} (hu:P.underlying t=some (.pointer e)) (i:ev N σ x= .pointer a) (q:ev N σ y= .pointer none):
 (execOp (ev N σ) ⟨dst,.binOp .neq t x y A,ty,pos,af,g⟩).run P w= .ok (.value<|.bool a.isSome) w:=by
 have h:(binOp .neq t (.pointer a)<|.pointer none).run P w= .ok (.bool a.isSome) w:=by
  simp only [binOp]; simp [G3 hu]
 simp [execOp,i,q,eqGuard,h]
theorem Sx (d:Nat) {t:TypeId} {a b:Bool} (hu:P.underlying t=some .bool):(tM (d+1) t (.bool a)<|.bool b).run P w= .ok (a==b) w:=by
 simp [tM,eC hu]
theorem Sy {t:TypeId} {a b:Bool} (hu:P.underlying t=some .bool):(DX t (.bool a)<|.bool b).run P w= .ok (a==b) w:=Sx 9999 hu
theorem G2 {t A:TypeId} {a b:Bool} (hu:P.underlying t=some .bool) (i:ev N σ x= .bool a) (q:ev N σ y= .bool b):
 (execOp (ev N σ) ⟨dst,.binOp .eql t x y A,ty,pos,af,g⟩).run P w= .ok (.value<|.bool<|decide (a=b)) w:=by
 have h:(binOp .eql t (.bool a)<|.bool b).run P w= .ok (.bool<|decide (a=b)) w:=by
  simp only [binOp]; simp [Sy hu]; cases a <;> cases b <;> rfl
 simp [execOp,i,q,eqGuard,h]
def str (l:List UInt8):Value:= .string ⟨⟨l⟩⟩
theorem cy {t:TypeId} {l:List UInt8} {at_:Array TypeId} (i:P.underlying t=some .string) (a:at_= #[t]) (q:ev N σ x=str l):
 (execOp (ev N σ) ⟨dst,.call ⟨.builtin .len,#[x],at_⟩,ty,pos,af,g⟩).run P w= .ok (.value<|.int .i64 l.length) w:=by
 subst a
 simp [execOp,resolve,invoke,builtin,Mp,eC i,q,str,goInt]
 rfl
theorem bK {t e:TypeId} {a:Option Addr} {n c:Nat} {at_:Array TypeId} (q:P.underlying t=some (.slice e)) (i:at_= #[t]) (A:ev N σ x= .slice a n c):
 (execOp (ev N σ) ⟨dst,.call ⟨.builtin .len,#[x],at_⟩,ty,pos,af,g⟩).run P w= .ok (.value<|.int .i64 n) w:=by
 subst i
 simp [execOp,resolve,invoke,builtin,Mp,eC q,A,goInt]
theorem mn {k:IntKind} {a b:Int} {at_:Array TypeId} (i:ev N σ x= .int k a) (q:ev N σ y= .int k b):
 (execOp (ev N σ) ⟨dst,.call ⟨.builtin .min,#[x,y],at_⟩,ty,pos,af,g⟩).run P w= .ok (.value<|.int k<|min a b) w:=by
 have :(if b < a then b else a)=min a b:=ab
 simp [execOp,resolve,invoke,builtin,Builtin.min_,Builtin.min2,i,q,this]
theorem UO {t:TypeId} {l:List UInt8} {k:IntKind} {i:Int} (C:P.underlying t=some .string) (E:ev N σ x=str l) (G:ev N σ y= .int k i) (q:0≤i∧i < l.length):
 (execOp (ev N σ) ⟨dst,.index t x y,ty,pos,af,g⟩).run P w= .ok (.value<|.int .u8 ((l.getD i.toNat 0).toNat:Int)) w:=by
 have hs:(⟨⟨l⟩⟩:ByteArray)[i.toNat]? =some (l.getD i.toNat 0):=by
  have a:i.toNat < l.length:=ab
  have A:i.toNat < (⟨⟨l⟩⟩:ByteArray).size:=a
  rw [getElem?_pos (⟨⟨l⟩⟩:ByteArray) i.toNat A]
  simp [cV,a,ByteArray.getElem_eq_getElem_data]
 simp [execOp,Instr.index,E,G,asIntOf,str,eC C,q.1,hs]
theorem Dd (l:List UInt8) (a b:Nat):Value.string ((⟨⟨l⟩⟩:ByteArray).extract a b)=str ((l.take b).drop a):=by
 unfold str
 congr 1
 apply ByteArray.ext
 simp [ByteArray.data_extract,List.extract_eq_take_drop,r5]
theorem jd (n:Nat) {t:TypeId} {l:List UInt8} {k:IntKind} (a:P.underlying t=some .string) (i:ev N σ x=str l) (q:ev N σ y= .int k (n:Int)) (h:n < l.length):
 (execOp (ev N σ) ⟨dst,.index t x y,ty,pos,af,g⟩).run P w= .ok (.value<|.int .u8 ((l.getD n 0).toNat:Int)) w:=UO a i q ⟨ab,ab⟩
theorem eQ {n:Nat} {t:TypeId} {l:List UInt8} {k:IntKind} (a:P.underlying t=some .string) (i:ev N σ x=str l) (q:ev N σ y= .int k (n:Int)) (h:n < l.length):
 (execOp (ev N σ) ⟨dst,.index t x y,ty,pos,af,g⟩).run P w= .ok (.value<|.int .u8 ((l.getD n 0).toNat:Int)) w:=jd n a i q h
theorem l6 {t:TypeId} {l:List UInt8} {k k':IntKind} {a b:Int} (q:P.underlying t=some .string) (A:ev N σ x=str l) (C:ev N σ y= .int k a) (E:ev N σ z= .int k' b) (i:0≤a∧a≤b∧b≤l.length):
 (execOp (ev N σ) ⟨dst,.slice t x (some y) (some z) none,ty,pos,af,g⟩).run P w= .ok (.value<|str<|(l.take b.toNat).drop a.toNat) w:=by
 have h1:b≤((⟨⟨l⟩⟩:ByteArray).size:Nat):=i.2.2
 have h2:0≤b:=ab
 have h3:a≤(b.toNat:Nat):=ab
 simp [execOp,rW,vO,oQ,rX,A,C,E,asIntOf,str,eC q,i.1,h1,h2]
 rw [if_pos ab]
 exact congrArg (fun v=>D3 (DW v) w)<|Dd l a.toNat b.toNat
theorem rM {t:TypeId} {l:List UInt8} {k':IntKind} {b:Int} (i:P.underlying t=some .string) (q:ev N σ x=str l) (A:ev N σ z= .int k' b) (a:0≤b∧b≤l.length):
 (execOp (ev N σ) ⟨dst,.slice t x none (some z) none,ty,pos,af,g⟩).run P w= .ok (.value<|str<|l.take b.toNat) w:=by
 have h1:b≤((⟨⟨l⟩⟩:ByteArray).size:Nat):=a.2
 have :=Dd l 0 b.toNat
 simp only [vY] at this
 simp [execOp,rW,vO,oQ,rX,q,A,asIntOf,str,eC i,a.1,h1]
 exact MQ this
theorem l7 {t:TypeId} {l:List UInt8} {k:IntKind} {a:Int} (q:P.underlying t=some .string) (A:ev N σ x=str l) (C:ev N σ y= .int k a) (i:0≤a∧a≤l.length):
 (execOp (ev N σ) ⟨dst,.slice t x (some y) none none,ty,pos,af,g⟩).run P w= .ok (.value<|str<|l.drop a.toNat) w:=by
 have h1:a≤((⟨⟨l⟩⟩:ByteArray).size:Nat):=i.2
 have :=Dd l a.toNat l.length
 simp only [List.take_length] at this
 simp [execOp,rW,vO,oQ,rX,A,C,asIntOf,str,eC q,i.1,h1]
 exact MQ this
theorem Lm (l:List UInt8):(⟨⟨l⟩⟩:ByteArray).toList=l:=Lib.toList_data ⟨⟨l⟩⟩
theorem cc {t q:TypeId} {l m:List UInt8} (a:ev N σ x=str l) (i:ev N σ y=str m) (h:l.length+m.length≤9223372036854775807):
 (execOp (ev N σ) ⟨dst,.binOp .add t x y q,ty,pos,af,g⟩).run P w= .ok (.value<|str<|l++m) w:=by
 have h1:¬(((⟨⟨l⟩⟩:ByteArray).size+(⟨⟨m⟩⟩:ByteArray).size:Nat):Int) > zo.max:=by
  have :zo.max=9223372036854775807:=az
  rw [this]
  show ¬((l.length+m.length:Nat):Int) > _
  omega
 have h2:(⟨⟨l⟩⟩:ByteArray)++(⟨⟨m⟩⟩:ByteArray)=⟨⟨l++m⟩⟩:=by
  apply ByteArray.ext; simp
 simp only [execOp,a,i,str,eqGuard,binOp,DY]
 rw [if_neg h1,h2]
 rfl
theorem dW {t q:TypeId} {l m:List UInt8} (a:ev N σ x=str l) (i:ev N σ y=str m):
 (execOp (ev N σ) ⟨dst,.binOp .eql t x y q,ty,pos,af,g⟩).run P w= .ok (.value<|.bool<|decide (l=m)) w:=by
 simp only [execOp,a,i,str,eqGuard,binOp,DY,Lm]
 show D3 (DW<|.bool<|l==m) w=_
 rw [show (l==m)=decide (l=m) from by rw [tK]; simp]
theorem oG {t q:TypeId} {l m:List UInt8} (a:ev N σ x=str l) (i:ev N σ y=str m):
 (execOp (ev N σ) ⟨dst,.binOp .neq t x y q,ty,pos,af,g⟩).run P w= .ok (.value<|.bool<|decide (l≠m)) w:=by
 simp only [execOp,a,i,str,eqGuard,binOp,DY,Lm]
 show D3 (DW<|.bool<|!(l==m)) w=_
 rw [show (!(l==m))=decide (l≠m) from by rw [tK]; simp]
theorem mf {fn:Fn} {first captured:Array Operand} :(execOp (ev N σ) ⟨dst,.makeFunc fn first captured,ty,pos,af,g⟩).run P w= .ok (.value<|.func fn (first.map<|ev N σ)<|captured.map<|ev N σ) w:=rfl
theorem Jk {fn:Fn} {first captured:Array Operand} :(execOp (ev N σ) ⟨dst,.makeFunc fn first captured,ty,pos,af,g⟩).run P w= .ok (.value<|.func fn (first.toList.map<|ev N σ).toArray (captured.toList.map<|ev N σ).toArray) w:=by
 rw [mf,← nk,← nk]
end
end Go.Hb
namespace Go.Hb
def bO (h:Array Obj) (b:Nat) (L:List Value):Prop := ∃ e,h[b]? =some (.cells L.toArray e (0,0))
theorem bO.aQ {h:Array Obj} {b:Nat} {L:List Value} (a:bO h b L) (j:Nat):Hb.aQ h b j=L[j]? :=by
 obtain ⟨e,a⟩:=a
 rw [a7 a]; simp
theorem bO.bE {h:Array Obj} {b:Nat} {L:List Value} (a:bO h b L) (j:Nat):Hb.aQ h b (0 +j)=L[j]? :=by
 rw [gW,a.aQ]
theorem Md.B {F:Nat→Prop} {w w':World} (h:Md F w w') {b:Nat} {L:List Value} (a:bO w.heap b L) (i:¬F b):bO w'.heap b L:=
 let ⟨e,a⟩:=a; ⟨e,h.aM a i⟩
theorem Wk.B {w w':World} (h:Wk w w') {b:Nat} {L:List Value} (a:bO w.heap b L):bO w'.heap b L:=Md.B h a id
theorem bO.lt {h:Array Obj} {b:Nat} {L:List Value} (a:bO h b L):b < h.size:=let ⟨_,a⟩:=a; (cQ.1 a).1
def bk (a:Option Addr):Nat:=match a with | some ad=>ad.block | none=>0
def fo (a:Option Addr):Nat:=match a with | some ad=>ad.off | none=>0
structure aJ (h:Array Obj) (a:Option Addr) (xs:List Value):Prop where
 ok:xs≠[]→a=some ⟨bk a,fo a,none⟩
 aQ:∀ j u,xs[j]? =some u→Hb.aQ h (bk a) (fo a+j)=some u
theorem aJ.nil (h:Array Obj) (a:Option Addr):aJ h a []:=⟨fun h=>absurd rfl h,fun _ _ hu=>by simp at hu⟩
theorem aJ.md {F:Nat→Prop} {w w':World} {a:Option Addr} {xs:List Value} (i:aJ w.heap a xs) (h:Md F w w') (q:xs≠[]→¬F (bk a)):aJ w'.heap a xs:=
 ⟨i.ok,fun j u hu=>h.aQ (i.aQ j u hu)<|q<|by rintro rfl; simp at hu⟩
theorem aJ.wk {w w':World} {a:Option Addr} {xs:List Value} (i:aJ w.heap a xs) (h:Wk w w'):aJ w'.heap a xs:=i.md h fun _ x=>x
theorem aJ.take {h:Array Obj} {a:Option Addr} {xs:List Value} (i:aJ h a xs) (n:Nat):aJ h a (xs.take n):=
 ⟨fun q=>i.ok (by rintro rfl; simp at q),fun j u hu=>i.aQ j u<|by rw [oS] at hu; split at hu; exact hu; cases hu⟩
theorem aJ.dZ {h:Array Obj} {b:Nat} {L:List Value} (a:bO h b L):aJ h (some ⟨b,0,none⟩) L:=
 ⟨fun _=>rfl,fun j u hu=>by show Hb.aQ h b (0 +j)=_; rw [gW,a.aQ]; exact hu⟩
theorem aJ.gL {h:Array Obj} {a:Option Addr} {xs:List Value} (q:aJ h a xs) {i:Nat} {u:Value} (hu:xs[i]? =some u):Hb.aQ h (bk a) (fo a+i*1)=some u:=by
 rw [Nat.mul_one]; exact q.aQ i u hu
def cg (h:Array Obj) (a:Option Addr) (l:List (List UInt8)):Prop :=aJ h a<|l.map str
theorem cg.get {h:Array Obj} {a:Option Addr} {l:List (List UInt8)} (hs:cg h a l) {i:Nat} (hi:i < l.length):Hb.aQ h (bk a) (fo a+i*1)=some (str<|l.getD i []):=
 aJ.gL hs (by simp [cV,hi])
theorem cg.wk {w w':World} {a:Option Addr} {l:List (List UInt8)} (hs:cg w.heap a l) (h:Wk w w'):cg w'.heap a l:=aJ.wk hs h
theorem bS {α:Type} {f:α→Value} {l:List α} (h:0 < l.length):l.map f≠[]:=by
 cases l with
 | nil=>simp at h
 | cons x l=>simp
def Zy (k:IntKind) (h:Array Obj) (a:Option Addr) (l:List Int):Prop :=aJ h a<|l.map<|jk k
def fY (P:Program) (t e size bytes:Nat):Bool:=
 match P.underlying t with
 | some (.slice a)=>a==e && match P.info? e with
   | some i=>i.size==size && i.bytes==bytes && gD 0 size && match i.zero with
     | some z=>z.cells.size==size
     | none=>false
   | none=>false
 | _=>false
theorem rL {P:Program} {t e size bytes:Nat} (h:fY P t e size bytes=true):
 P.underlying t=some (.slice e)∧∃ i z,P.info? e=some i∧i.zero=some z∧i.size=size∧i.bytes=bytes∧z.cells.size=size∧0 < size:=by
 unfold fY at h
 split at h
 · rename_i q hu
   simp only [gU,beq_iff_eq] at h
   obtain ⟨rfl,h⟩:=h
   split at h
   · rename_i i hi
     simp only [gU,beq_iff_eq] at h
     obtain ⟨⟨⟨h1,h2⟩,h3⟩,h4⟩:=h
     split at h4
     · rename_i z a
       exact ⟨hu,i,z,hi,a,h1,h2,by simpa using h4,r9 (ub 0)<|ua h3⟩
     · cases h4
   · cases h
 · cases h
def eo (P:Program) (t:TypeId):Option Nat:=(P.info? t).map (·.size)
def zeroOf (P:Program) (t:TypeId):Option (Option<|List Value):=(P.info? t).map fun i=>i.zero.map fun z=>z.cells.toList
def bm (P:Program) (f:FuncId):Prop := ∀ args w,(callFunc f args).run P w= .ok (.enter f args) w
theorem Qm {P:Program} {f:FuncId} {fn:Func} (i:P.funcs[f]? =some fn) (hn:(fn.name== "runtime.NumGoroutine")=false) (a:fn.body.isNone=false):bm P f:=by
 intro args w
 have h1:¬((fn.name== "runtime.NumGoroutine")=true):=by rw [hn]; simp
 have h2:¬(fn.body.isNone=true):=by rw [a]; simp
 simp only [callFunc,vU,run_program,vT,i]
 rw [if_neg h1,if_neg h2]
 rfl
section
variable {P:Program} {N:Fm} {σ:Nat→Value} {w:World} {dst:Option Nat} {ty:TypeId} {pos :String} {af:Array Edge} {g:Option (Nat×Bool)} {x y z:Operand} {K:(Nat→Value)→World→Prop}
theorem Y9 {o:Oper} {f:FuncId} {L:List Value} {R:Value→World→Prop} (q:(execOp (ev N σ) o).run P w= .ok (.enter f L.toArray) w) (i:bo P f L.toArray w R)
 (k:∀ v w',R v w'→K (iN σ o.dst v) w'):dR P N o σ w K:=by
 unfold dR jZ
 rw [hU,q]
 refine lN i fun e w' ⟨v,he,a⟩=> ?_
 subst he
 exact ⟨_,jH ..,k v w' a⟩
theorem cl {f:FuncId} {args:Array Operand} {a:Array TypeId} {L:List Value} {R:Value→World→Prop} (q:bm P f) (A:bo P f L.toArray w R) (i:args.toList.map (ev N σ)=L)
 (k:∀ v w',R v w'→K (iN σ dst v) w'):dR P N ⟨dst,.call ⟨.value (.func f),args,a⟩,ty,pos,af,g⟩ σ w K:=by
 refine Y9 (f:=f) ?_ A k
 have :args.map (ev N σ)=L.toArray:=by rw [← i,← nk]
 simp [execOp,resolve,ev,qM,invoke,this,q L.toArray w]
theorem oL {o:Oper} {ob:Obj} {v:Nat→Value} (a:(execOp (ev N σ) o).run P w= .ok (.value<|v w.heap.size) {w with heap:=w.heap.push ob})
 (k:∀ b w',b=w.heap.size→Nw w w'→w'.heap[b]? =some ob→K (iN σ o.dst<|v b) w'):dR P N o σ w K:=
 nW a (k _ _ rfl (CC w ob) (by simp))
theorem al {e:TypeId} {q:List Value} (a:zeroOf P e=some (some q)) (k:∀ b w',b=w.heap.size→Nw w w'→bO w'.heap b q→K (iN σ dst<|.pointer<|some ⟨b,0,none⟩) w'):
 dR P N ⟨dst,.alloc e,ty,pos,af,g⟩ σ w K:=by
 refine oL (v:=fun b=> .pointer<|some ⟨b,0,none⟩) (ob:= .cells q.toArray e (0,0)) ?_ fun b w' h1 h2 h3=>k b w' h1 h2 ⟨e,h3⟩
 unfold zeroOf at a
 simp only [oY] at a
 obtain ⟨i,hi,zv,A,rfl⟩:=a
 simp [execOp,MA,zeroValue,jg hi,A,newVar,newRow]
theorem fi {e:TypeId} {q:List Value} (a:zeroOf P e=some (some q)) (k:∀ b w',b=w.heap.size→Nw w w'→w'.heap[b]? =some (.cells q.toArray e (0,0))→K (iN σ dst<|.pointer<|some ⟨b,0,none⟩) w'):
 dR P N ⟨dst,.alloc e,ty,pos,af,g⟩ σ w K:=by
 refine oL (v:=fun b=> .pointer<|some ⟨b,0,none⟩) (ob:= .cells q.toArray e (0,0)) ?_ k
 unfold zeroOf at a
 simp only [oY] at a
 obtain ⟨i,hi,zv,A,rfl⟩:=a
 simp [execOp,MA,zeroValue,jg hi,A,newVar,newRow]
theorem bx {e:TypeId} {v:Value} {L:List Value} (i:ev N σ x=v) (a:v.cells.toList=L) (k:∀ b w',b=w.heap.size→Nw w w'→bO w'.heap b L→K (iN σ dst<|.pointer<|some ⟨b,0,none⟩) w'):
 dR P N ⟨dst,.box e x,ty,pos,af,g⟩ σ w K:=by
 subst a
 refine oL (v:=fun b=> .pointer<|some ⟨b,0,none⟩) (ob:= .cells v.cells e (0,0)) ?_ fun b w' h1 h2 h3=>k b w' h1 h2 ⟨e,h3⟩
 simp [execOp,Instr.box,i,newVar,newRow]
theorem uY {t:TypeId} (k:∀ b w',b=w.heap.size→Nw w w'→w'.heap[b]? =some (.map #[] 0)→K (iN σ dst<|.map<|some b) w'):dR P N ⟨dst,.makeMap t none,ty,pos,af,g⟩ σ w K:=by
 refine oL (v:=fun b=> .map<|some b) ?_ k
 simp [execOp,Instr.makeMap]
theorem mW {t e:TypeId} {size bytes:Nat} (q:fY P t e size bytes=true)
 (k:∀ b w',b=w.heap.size→Nw w w'→(∀ B,B≤b→w'.ownsRow B e size (.slice (some ⟨b,0,none⟩) 0 0) 0 [])→K (iN σ dst<|.slice (some ⟨b,0,none⟩) 0 0) w'):dR P N ⟨dst,.buildSlice t 0 #[],ty,pos,af,g⟩ σ w K:=by
 refine oL (v:=fun b=> .slice (some ⟨b,0,none⟩) 0 0) (ob:= .cells #[] e (0,0)) ?_ fun b w' h1 h2 h3=>k b w' h1 h2 fun B a=>⟨by simp,.inr ⟨b,0,#[],aa,a,h3,cB _,by simp [maxLen],by simp,by simp⟩⟩
 obtain ⟨hu,i,zv,hi,A,h1,h2,h3,h4⟩:=rL q
 simp [execOp,DR,eC hu,sizeOf,jg hi,oP,newRow]
 congr 2
 exact Array.eq_empty_of_size_eq_zero<|by simp
theorem Ou {t e:TypeId} {size bytes:Nat} {v:Value} {L:List Value} (G:fY P t e size bytes=true) (hs:oU size 1000=true) (J:ev N σ x=v) (I:v.cells.size=size)
 (A:v.cells.toList=L) (k:∀ b w',b=w.heap.size→Nw w w'→w'.heap[b]? =some (.cells L.toArray e (0,0))→K (iN σ dst<|.slice (some ⟨b,0,none⟩) 1 1) w'):dR P N ⟨dst,.buildSlice t 1 #[(0,x)],ty,pos,af,g⟩ σ w K:=by
 subst A
 refine oL (v:=fun b=> .slice (some ⟨b,0,none⟩) 1 1) (ob:= .cells v.cells e (0,0)) ?_ fun b w' h1 h2 h3=>k b w' h1 h2<|by simpa using h3
 obtain ⟨hu,i,zv,hi,M,h1,h2,h3,h4⟩:=rL G
 have U:size≤1000:=by simpa using hs
 have C:oP (fun i=>some (i*size,size)) ((tI size).map (zv.cells[· % zv.cells.size]!)) [(0,v)]=some v.cells:=by
  have a:((tI size).map (zv.cells[· % zv.cells.size]!)).size=size:=by simp
  generalize (tI size).map (zv.cells[· % zv.cells.size]!)=cs at a
  simp only [oP,I]
  rw [if_neg (by rw [a]; simp)]
  congr 1
  have key:∀ (l:List Value) (m:Nat) (cs:Array Value),m+l.length≤cs.size→∀ j,((l.zipIdx m).foldl (fun (cs:Array Value) (c,j)=>cs.setIfInBounds (0 *size+j) c) cs)[j]? =if j < m then cs[j]? else if j < m+l.length then l[j - m]? else cs[j]? :=by
   intro l
   induction l with
   | nil=>intro m cs hm j; simp; intro h1 h2; omega
   | cons c l O=>
     intro m cs hm j
     simp only [Nn,r6,cT] at hm ⊢
     rw [O (m+1) _ (by simp; omega)]
     simp only [Eo,gW,DJ]
     by_cases h1:j < m
     · rw [if_pos ab,if_pos h1,if_neg ab]
     · rw [if_neg h1]
       by_cases h2:j=m
       · subst h2
         rw [if_pos ab,if_pos rfl,if_pos ab,if_pos ab]
         simp
       · rw [if_neg ab]
         by_cases h3:j < m+1 +l.length
         · rw [if_pos h3,if_pos ab]
           obtain ⟨q,E⟩:∃ q,j - m=q+1:=⟨j - m - 1,ab⟩
           rw [E,M5,show j - (m+1)=q from by omega]
         · rw [if_neg h3,if_neg ab,if_neg ab]
  apply Mc
  intro j
  have :=key v.cells.toList 0 cs (by simp; omega) j
  rw [show (v.cells.zipIdx.foldl (fun (cs:Array Value) (c,j)=>cs.setIfInBounds (0 *size+j) c) cs)=((v.cells.toList.zipIdx 0).foldl (fun (cs:Array Value) (c,j)=>cs.setIfInBounds (0 *size+j) c) cs) from by
   rw [← Array.foldl_toList]; simp [Array.toList_zipIdx]]
  rw [this]
  simp only [Nat.not_lt_zero,if_false,gW,Nat.sub_zero,vJ,DK]
  split
  · rfl
  · rw [tH ab,tH ab]
 simp only [execOp,DR,vU,eC hu,vT,sizeOf,jg hi,zq,h1,Nat.one_mul,D7,zeroValue,M,List.map_toArray,tW,List.map_nil,J,C]
 rw [if_neg (by rw [show (2:Nat) ^ 24=16777216 from rfl]; omega),if_neg ab]
 simp [newRow]
theorem E4 {t e:TypeId} {size bytes:Nat} {v:Value} {L:List Value} (i:fY P t e size bytes=true) (hs:oU size 1000=true) (A:ev N σ x=v) (q:v.cells.size=size)
 (a:v.cells.toList=L) (k:∀ b w',b=w.heap.size→Nw w w'→bO w'.heap b L→K (iN σ dst<|.slice (some ⟨b,0,none⟩) 1 1) w'):dR P N ⟨dst,.buildSlice t 1 #[(0,x)],ty,pos,af,g⟩ σ w K:=
 Ou i hs A q a fun b w' h1 h2 h3=>k b w' h1 h2 ⟨_,h3⟩
theorem qB {v:Value} (h:v.oneCell'=true):v.cells= #[v]:=by cases v <;> first | rfl | (cases h; done)
theorem Hf {loc:Nat→Option (Nat×Nat)} (A:∀ i,loc i=some (i*1,1)):∀ (rest pre a:List Value),a.length=rest.length→rest.all gC=true→
 oP loc (pre++a).toArray ((rest.zipIdx pre.length).map fun q=>(q.2,q.1))=some (pre++rest).toArray
 | [],pre,a,hl,_=>by
   rw [fS hl]; rfl
 | v::r,pre,a,hl,h1=>by
   cases a with
   | nil=>simp at hl
   | cons z a=>
     rw [tS,gU] at h1
     have E:=qB h1.1
     have C:=Hf A r (pre++ [v]) a (by simpa using hl) h1.2
     simp only [Nn,tW,oP,A,E]
     rw [if_neg (by simp)]
     simp only [bL,e5,dF,List.singleton_append] at C
     rw [← C]
     simp
theorem sE {t e bytes n:Nat} {ps:Array (Nat×Operand)} {L:List Value} (C:fY P t e 1 bytes=true) (hp:ps.toList.map (fun p=>(p.1,ev N σ p.2))=(L.zipIdx 0).map fun q=>(q.2,q.1)) (h1:L.all gC=true) (hn:L.length=n) (hs:(oU n 1000 && gD 0 n)=true)
 (k:∀ b w',b=w.heap.size→Nw w w'→w'.heap[b]? =some (.cells L.toArray e (0,0))→K (iN σ dst<|.slice (some ⟨b,0,none⟩) n n) w'):dR P N ⟨dst,.buildSlice t n ps,ty,pos,af,g⟩ σ w K:=by
 subst hn
 refine oL (v:=fun b=> .slice (some ⟨b,0,none⟩) L.length L.length) (ob:= .cells L.toArray e (0,0)) ?_ k
 obtain ⟨hu,i,zv,hi,E,a,h2,h3,h4⟩:=rL C
 simp only [gU] at hs
 have I:L.length≤1000:=by simpa using hs.1
 have J:0 < L.length:=by have :=ua hs.2; omega
 have A:oP (fun i=>some (i*1,1)) ((tI<|L.length*1).map (zv.cells[· % zv.cells.size]!)) (ps.toList.map fun p=>(p.1,ev N σ p.2))=some L.toArray:=by
  rw [hp]
  have G:((tI<|L.length*1).map (zv.cells[· % zv.cells.size]!)).toList.length=L.length:=by simp
  have :=Hf (loc:=fun i=>some (i*1,1)) (fun _=>rfl) L [] ((tI<|L.length*1).map (zv.cells[· % zv.cells.size]!)).toList G h1
  rw [pY,pY,Mh] at this
  exact this
 simp only [execOp,DR,vU,eC hu,vT,sizeOf,jg hi,zq,a,D7,zeroValue,E,nk,A]
 rw [if_neg (by rw [show (2:Nat) ^ 24=16777216 from rfl]; omega),if_neg ab]
 simp [newRow]
theorem fU {t e:TypeId} {bytes:Nat} {v:Value} (a:fY P t e 1 bytes=true) (i:ev N σ x=v) (h1:v.oneCell'=true)
 (k:∀ b w',b=w.heap.size→Nw w w'→bO w'.heap b [v]→K (iN σ dst<|.slice (some ⟨b,0,none⟩) 1 1) w'):dR P N ⟨dst,.buildSlice t 1 #[(0,x)],ty,pos,af,g⟩ σ w K:=
 E4 a rfl i (by rw [qB h1]; rfl) (by rw [qB h1]) k
theorem kK {t e:TypeId} {size bytes:Nat} {L:List Value} (i:fY P t e size bytes=true) (hs:oU size 1000=true) (q:ev N σ x= .agg L.toArray) (a:L.length=size)
 (k:∀ b w',b=w.heap.size→Nw w w'→bO w'.heap b L→K (iN σ dst<|.slice (some ⟨b,0,none⟩) 1 1) w'):dR P N ⟨dst,.buildSlice t 1 #[(0,x)],ty,pos,af,g⟩ σ w K:=
 E4 i hs q (by simpa [tR] using a) (by simp [tR]) k
theorem iY {e:TypeId} {L:List Value} (a:ev N σ x= .agg L.toArray) (k:∀ b w',b=w.heap.size→Nw w w'→bO w'.heap b L→K (iN σ dst<|.pointer<|some ⟨b,0,none⟩) w'):
 dR P N ⟨dst,.box e x,ty,pos,af,g⟩ σ w K:=bx a (by simp [tR]) k
theorem ot {e:TypeId} {L:List Value} (a:ev N σ x= .agg L.toArray) (k:∀ b w',b=w.heap.size→Nw w w'→w'.heap[b]? =some (.cells L.toArray e (0,0))→K (iN σ dst<|.pointer<|some ⟨b,0,none⟩) w'):
 dR P N ⟨dst,.box e x,ty,pos,af,g⟩ σ w K:=by
 refine oL (v:=fun b=> .pointer<|some ⟨b,0,none⟩) (ob:= .cells L.toArray e (0,0)) ?_ fun b w' h1 h2 h3=>k b w' h1 h2 h3
 simp [execOp,Instr.box,a,newVar,newRow,tR]
theorem uh {l:List Value} (h:l.all gC=true):∀ u∈l,u.oneCell'=true :=ma.1 h
theorem cJ {t b off :Nat} {e:TypeId} {L:List Value} {v:Value} (q:eo P t=some 1) (U:ev N σ x= .pointer (some ⟨b,off,none⟩)) (V:ev N σ y=v) (h1:v.oneCell'=true) (a:w.heap[b]? =some (.cells L.toArray e (0,0))) (J:off < L.length)
 (k:∀ w',Md (fun k=>k=b) w w'→w'.heap[b]? =some (.cells (L.set off v).toArray e (0,0))→K σ w'):dR P N ⟨none,.store t x y,ty,pos,af,g⟩ σ w K:=by
 have C:v.cells= #[v]:=by cases v <;> first | rfl | (cases h1; done)
 have E:w.cell? ⟨b,off,none⟩=some L[off]:=by rw [nz,a7 a]; simp [J]
 have G:w.frozen? ⟨b,off,none⟩=false :=by simp only [World.frozen?,show w.heap[b]? =_ from a]; simp
 unfold eo at q
 simp only [oY] at q
 obtain ⟨i,hi,hs⟩:=q
 have A:(⟨b,off,none⟩:Addr).add 0=⟨b,off,none⟩:=rfl
 have M:(execOp (ev N σ) ⟨none,.store t x y,ty,pos,af,g⟩).run P w= .ok .skip (w.setCell ⟨b,off,none⟩ v):=by
  simp [execOp,DV,U,V,qN,storeVar,C,sizeOf,jg hi,hs,storeCells,A,run_store P w _ v _ h1,E,G]
 unfold dR jZ
 rw [hU,M]
 refine ⟨σ,aa,k _ ⟨aa,aa,by simp [zx],fun k _ hk=> ?_⟩ ?_⟩
 · exact Below.heap_setCell w _ v k hk
 · have I:=(cQ.1 a).1
   have O:w.heap[b]= .cells L.toArray e (0,0):=(cQ.1 a).2
   simp only [zx]
   rw [zi (by simpa using I),Array.getElem_modify]
   simp [O,List.setIfInBounds_toArray]
theorem st {t b off :Nat} {L:List Value} {v:Value} (C:eo P t=some 1) (q:ev N σ x= .pointer (some ⟨b,off,none⟩)) (A:ev N σ y=v) (h1:v.oneCell'=true) (a:bO w.heap b L) (i:off < L.length)
 (k:∀ w',Md (fun k=>k=b) w w'→bO w'.heap b (L.set off v)→K σ w'):dR P N ⟨none,.store t x y,ty,pos,af,g⟩ σ w K:=
 let ⟨_,a⟩:=a
 cJ C q A h1 a i fun w' h1 h2=>k w' h1 ⟨_,h2⟩
theorem fZ {t b off n:Nat} {e:TypeId} {L vs:List Value} (a:eo P t=some n) (C:ev N σ x= .pointer (some ⟨b,off,none⟩)) (E:ev N σ y= .agg vs.toArray) (hn:vs.length=n) (h1:vs.all gC=true) (q:w.heap[b]? =some (.cells L.toArray e (0,0))) (G:off+n≤L.length)
 (k:∀ w',Md (fun k=>k=b) w w'→w'.heap[b]? =some (.cells (L.take off++vs++L.drop (off+n)).toArray e (0,0))→K σ w'):dR P N ⟨none,.store t x y,ty,pos,af,g⟩ σ w K:=by
 unfold eo at a
 simp only [oY] at a
 obtain ⟨i,hi,hs⟩:=a
 have bM:=run_storeCells_at P b off e vs 0 L.toArray w q (by simp; omega)<|uh h1
 have A:(execOp (ev N σ) ⟨none,.store t x y,ty,pos,af,g⟩).run P w= .ok .skip (w.setRow b (L.take off++vs++L.drop (off+n)).toArray):=by
  simp [execOp,DV,C,E,qN,storeVar,tR,sizeOf,jg hi,hs,hn,bM]
 unfold dR jZ
 rw [hU,A]
 exact ⟨σ,aa,k _ ⟨aa,aa,by simp,fun k _ hk=>setRow_other w b k _ hk⟩<|setRow_heap w b _ _ e _ q⟩
theorem da {t b off n:Nat} {L vs:List Value} (q:eo P t=some n) (C:ev N σ x= .pointer (some ⟨b,off,none⟩)) (E:ev N σ y= .agg vs.toArray) (hn:vs.length=n) (h1:vs.all gC=true) (a:bO w.heap b L) (G:off+n≤L.length)
 (k:∀ w',Md (fun k=>k=b) w w'→bO w'.heap b (L.take off++vs++L.drop (off+n))→K σ w'):dR P N ⟨none,.store t x y,ty,pos,af,g⟩ σ w K:=by
 obtain ⟨e,a⟩:=a
 unfold eo at q
 simp only [oY] at q
 obtain ⟨i,hi,hs⟩:=q
 have bM:=run_storeCells_at P b off e vs 0 L.toArray w a (by simp; omega)<|uh h1
 have A:(execOp (ev N σ) ⟨none,.store t x y,ty,pos,af,g⟩).run P w= .ok .skip (w.setRow b (L.take off++vs++L.drop (off+n)).toArray):=by
  simp [execOp,DV,C,E,qN,storeVar,tR,sizeOf,jg hi,hs,hn,bM]
 unfold dR jZ
 rw [hU,A]
 exact ⟨σ,aa,k _ ⟨aa,aa,by simp,fun k _ hk=>setRow_other w b k _ hk⟩ ⟨e,setRow_heap w b _ _ e _ a⟩⟩
theorem N5 {t ty e:TypeId} {i:TypeInfo} {zv:Value} {B n m c:Nat} {v U:Value} {xs news:List Value} {ad:Addr} {w':World} (hu:P.underlying t=some (.slice e)) (hi:P.info? e=some i) (O:i.zero=some zv) (ae:zv.cells.size=i.size) (aa:0 < i.size)
 (C:w.ownsRow B e i.size v n xs) (A:news.length=m*i.size) (E:∀ j u,news[j]? =some u→w.cell? (ad.add j)=some u) (h1:∀ u∈news,u.oneCell'=true) (I:n+m≤maxLen) (G:(n+m)*i.bytes≤140737488355328)
 (a:(zm #[t,t] ty #[v,.slice (some ad) m c]).run P w= .ok U w'):∀ k,U.ownBlock=some k→v.ownBlock=some k∨w.heap.size≤k:=by
 intro k hk
 have ag:n+m≤9223372036854775807:=by unfold maxLen at I; omega
 rcases C.2 with ⟨rfl,rfl⟩ | ⟨q,cap,cur,rfl,ai,Z,ak,aj,V,al⟩
 · have ac:xs= []:=fS<|by simpa using C.1
   subst ac
   obtain ⟨v2,am,J,h2,_,_⟩:=run_append_own (P:=P) w w.heap.size t ty e i zv i.size i.bytes hu hi O rfl rfl ae aa _ 0 [] (dx w w.heap.size e i.size) ad m c news A E h1 I G (cB _)
   rw [a] at J
   cases J
   exact .inr (by
    rcases h2.2 with ⟨h,_⟩ | ⟨g2,_,_,h,ah,_⟩
    · rw [h] at hk; simp [iU] at hk
    · rw [h] at hk; simp only [iU,fQ] at hk; omega)
 · by_cases M:n+m≤cap
   · have Y:n*i.size+news.length≤cur.size:=by rw [A,V,← Nat.add_mul]; exact sc _ M
     rw [run_append_room (P:=P) w t ty e i hu hi q n cap cur Z ad m c news A E h1 M Y] at a
     cases a
     exact .inl hk
   · have holds:∀ j u,xs[j]? =some u→w.cell? ((⟨q,0,none⟩:Addr).add j)=some u:=C.cells (g:=q) rfl
     rw [run_append_grow (P:=P) w t ty e i zv hu hi O ⟨q,0,none⟩ n cap xs C.1 holds ad m c news A E ab ab (growslice_fits ab G)] at a
     cases a
     simp only [iU,fQ] at hk
     exact .inr ab
theorem ap {t e size bytes B n m c:Nat} {v:Value} {xs news:List Value} {a:Option Addr} (aj:fY P t e size bytes=true) (A:w.ownsRow B e size v n xs) (V:ev N σ x=v) (ab:B≤w.heap.size)
 (Y:ev N σ y= .slice a m c) (I:aJ w.heap a news) (C:news.length=m*size) (h1:news.all gC=true) (E:(n+m)*bytes≤140737488355328) (am:n+m≤9223372036854775807)
 (k:∀ q w',w'.ownsRow B e size q (n+m) (xs++news)→Md (fun k=>v.ownBlock=some k) w w'→(q= .slice none 0 0↔v= .slice none 0 0∧m=0)→(∀ k,q.ownBlock=some k→v.ownBlock=some k∨w.heap.size≤k)→K (iN σ dst q) w'):
 dR P N ⟨dst,.call ⟨.builtin .append,#[x,y],#[t,t]⟩,ty,pos,af,g⟩ σ w K:=by
 obtain ⟨hu,i,zv,hi,Z,hs,G,aa,O⟩:=rL aj
 have J:n+m≤maxLen:=by unfold maxLen; omega
 by_cases hm:news= []
 · subst hm
   have ag:m=0:=by
    rcases Nat.mul_eq_zero.1 (C.symm.trans rfl) with h | h
    · exact h
    · omega
   subst ag
   have ai:(zm #[t,t] ty #[v,.slice a 0 c]).run P w= .ok v w:=by
    rcases A.2 with ⟨rfl,rfl⟩ | ⟨al,cap,cur,rfl,_,_,hle,_⟩
    · cases a <;> simp [zm,eC hu,sizeOf,jg hi,Mo,Mn,loadCells,loadCellsFrom]
    · cases a <;> simp [zm,eC hu,sizeOf,jg hi,Mo,Mn,loadCells,loadCellsFrom,hle,storeCells]
   refine nW (w':=w) (v:=v) ?_<|k v w (by simpa using A) (Md.refl _ _) (by simp) fun _ h=> .inl h
   simp [execOp,resolve,invoke,builtin,V,Y,ai]
 · have ac:=I.ok hm
   have M:∀ j u,news[j]? =some u→w.cell? ((⟨bk a,fo a,none⟩:Addr).add j)=some u:=fun j u hu=>by rw [ml,nz]; exact I.aQ j u hu
   obtain ⟨q,w',U,h2,h3,h4⟩:=run_append_own (P:=P) w B t ty e i zv size bytes hu hi Z hs G aa O v n xs A ⟨bk a,fo a,none⟩ m c news C M (uh h1) J E ab
   subst hs G
   have ae:=N5 hu hi Z aa O A C M (uh h1) J E U
   refine nW (w':=w') (v:=q) ?_<|k q w' h2 ⟨h3.os,h3.output,h3.size,fun k hk ah=>h3.block k hk fun e=>ah e.symm⟩ h4 ae
   have ak:ev N σ y= .slice (some ⟨bk a,fo a,none⟩) m c:=Y.trans<|congrArg (fun a=>bR a m c) ac
   simp [execOp,resolve,invoke,builtin,V,ak,U]
theorem ba {t n len cap:Nat} {k:IntKind} {i:Int} {a:Option Addr} (he:gv P t=some n) (A:ev N σ x= .slice a len cap) (C:ev N σ y= .int k i) (q:0≤i∧i < len) (E:a=some ⟨bk a,fo a,none⟩):
 (execOp (ev N σ) ⟨dst,.indexAddr t x y,ty,pos,af,g⟩).run P w= .ok (.value<|.pointer<|some ⟨bk a,fo a+i.toNat*n,none⟩) w:=
 ia he (by rw [A]; congr 1) C q
end
theorem cX {F:Nat→Prop} {w w':World} {B e size n:Nat} {v:Value} {xs:List Value} (h:w.ownsRow B e size v n xs) (hm:Md F w w') (i:∀ k,v.ownBlock=some k→¬F k):w'.ownsRow B e size v n xs:=by
 refine ⟨h.1,?_⟩
 rcases h.2 with hn | ⟨g,cap,cur,rfl,a,q,rest⟩
 · exact .inl hn
 · exact .inr ⟨g,cap,cur,aa,a,hm.aM q (i g aa),rest⟩
section
variable {P:Program} {N:Fm} {σ:Nat→Value} {w:World} {dst:Option Nat} {ty:TypeId} {pos :String} {af:Array Edge} {g:Option (Nat×Bool)} {x y z:Operand} {K:(Nat→Value)→World→Prop}
theorem tt {t B e size n cap off j:Nat} {a:Option Addr} {xs:List Value} {u:Value} (V:w.ownsRow B e size (.slice a n cap) n xs) (ac:eo P t=some 1) (Z:ev N σ x= .pointer (some ⟨bk a,off,none⟩)) (ab:ev N σ y=u) (h1:u.oneCell'=true)
 (M:off =fo a+j) (U:j < n*size)
 (k:∀ w',Md (fun k=>(bR a n cap).ownBlock=some k) w w'→w'.ownsRow B e size (.slice a n cap) n (xs.set j u)→K σ w'):dR P N ⟨none,.store t x y,ty,pos,af,g⟩ σ w K:=by
 obtain ⟨A,h⟩:=V
 rcases h with ⟨h,rfl⟩ | ⟨i,cp,cur,h,C,J,hle,I,q,Y⟩
 · simp at U
 · simp only [mL,true_and] at h
   obtain ⟨rfl,rfl⟩:=h
   have O:off =j:=by rw [M]; simp [fo]
   subst O
   have hlen:off < cur.toList.length:=by
    have :=sc size hle
    rw [vJ,q]; omega
   refine cJ (L:=cur.toList) ac Z ab h1 (show w.heap[i]? =_ by simpa using J) hlen fun w' G E=>k w' (G.mono fun k _ hk=>by subst hk; rfl) ⟨by simpa using A,.inr ⟨i,cap,_,aa,C,E,hle,I,by simpa using q,?_⟩⟩
   rw [← Y]
   simp only
   rw [List.take_set]
end
theorem eU {w:World} {B e size n:Nat} {v:Value} {xs:List Value} (h:w.ownsRow B e size v n xs):v.oneCell'=true :=by
 rcases h.2 with ⟨rfl,_⟩ | ⟨g,cap,cur,rfl,_⟩ <;> rfl
theorem cC {w:World} {B e size n:Nat} {v:Value} {xs:List Value} (h:w.ownsRow B e size v n xs):∃ a cap,v= .slice a n cap:=by
 rcases h.2 with ⟨rfl,rfl⟩ | ⟨g,cap,cur,rfl,_⟩
 · exact ⟨_,_,aa⟩
 · exact ⟨_,_,aa⟩
theorem mA {w:World} {B B' e q size J n I:Nat} {v A:Value} {xs M:List Value} (h:w.ownsRow B e size v n xs) (C:w.ownsRow B' q J A I M) (G:e≠q) {k:Nat} (hk:v.ownBlock=some k):A.ownBlock≠some k:=by
 intro i
 rcases h.2 with ⟨rfl,_⟩ | ⟨g,cap,cur,rfl,_,E,_⟩
 · simp [iU] at hk
 · rcases C.2 with ⟨rfl,_⟩ | ⟨V,O,U,rfl,_,a,_⟩
   · simp [iU] at i
   · simp only [iU,fQ] at hk i
     subst hk i
     rw [E] at a
     simp only [fQ,vP] at a
     exact G a.2.1
theorem aW {w w':World} {B e size n:Nat} {v:Value} {xs:List Value} (h:w.ownsRow B e size v n xs) (hm:Wk w w'):w'.ownsRow B e size v n xs:=cX h hm fun _ _ x=>x
theorem dG {w:World} {B e size n:Nat} {v:Value} {xs:List Value} (h:w.ownsRow B e size v n xs) {k:Nat} (hk:v.ownBlock=some k):B≤k∧k < w.heap.size:=h.lt k hk
theorem Wk.own {a w w':World} {B e size n:Nat} {v:Value} {xs:List Value} (h:Wk a w) (i:w.ownsRow B e size v n xs) (hm:Md (fun k=>v.ownBlock=some k) w w') (A:a.heap.size≤B):Wk a w':=
 Md.trans' h hm (fun k hk q=>by have :=(dG i q).1; omega)
theorem ti {w:World} {B e size n:Nat} {v:Value} {xs:List Value} (h:w.ownsRow B e size v n xs):∃ a cap,v= .slice a n cap∧aJ w.heap a xs∧n≤cap∧(∀ k,v.ownBlock=some k→a=some ⟨k,0,none⟩∧B≤k∧k < w.heap.size)∧(v.ownBlock=none→xs= []):=by
 rcases h.2 with ⟨rfl,rfl⟩ | ⟨g,cap,cur,rfl,q,i,hle,_,_,A⟩
 · have :xs= []:=fS<|by simpa using h.1
   subst this
   exact ⟨none,0,aa,aJ.nil _ _,cB _,fun k hk=>by simp [iU] at hk,fun _=>rfl⟩
 · refine ⟨_,cap,aa,⟨fun _=>rfl,fun j u hu=> ?_⟩,hle,fun k hk=> ?_,fun hk=>by simp [iU] at hk⟩
   · show aQ w.heap g (0 +j)=_
     rw [gW,a7 i]
     rw [← A,oS] at hu
     split at hu
     · simpa using hu
     · cases hu
   · simp only [iU,fQ] at hk; subst hk
     exact ⟨aa,q,(cQ.1 i).1⟩
theorem a8 {w:World} {B e size n cap:Nat} {a:Option Addr} {xs:List Value} (h:w.ownsRow B e size (.slice a n cap) n xs):n≤cap∧aJ w.heap a xs:=by
 obtain ⟨A,C,i,q,hle,_⟩:=ti h
 simp only [mL,true_and] at i
 obtain ⟨rfl,rfl⟩:=i
 exact ⟨hle,q⟩
theorem ew {w:World} {B B' e size n:Nat} {v:Value} {xs:List Value} (h:w.ownsRow B e size v n xs) (a:B'≤B):w.ownsRow B' e size v n xs:=by
 refine ⟨h.1,?_⟩
 rcases h.2 with h | ⟨g,cap,cur,h1,h2,r⟩
 · exact .inl h
 · exact .inr ⟨g,cap,cur,h1,gd a h2,r⟩
theorem aJ.drop {h:Array Obj} {a:Option Addr} {xs:List Value} (i:aJ h a xs) {cap k size:Nat} (C:xs.length≤cap*size):aJ h (gp a cap k size) (xs.drop<|k*size):=by
 unfold gp
 by_cases hk:cap=k
 · rw [if_pos hk,gV (by rw [← hk]; exact C)]; exact aJ.nil _ _
 · rw [if_neg hk]
   by_cases q:xs= []
   · subst q; rw [List.drop_nil]; exact aJ.nil _ _
   · have A:=i.ok q
     rw [A]
     simp only [mg,ml]
     refine ⟨fun _=>rfl,fun j u hu=> ?_⟩
     rw [qV] at hu
     have :=i.aQ _ _ hu
     show Hb.aQ h (bk a) (fo a+k*size+j)=_
     rw [No]; exact this
theorem V9 {w:World} {B e size n cap:Nat} {a:Option Addr} {xs:List Value} (h:w.ownsRow B e size (.slice a n cap) n xs) (q:xs≠[]):B≤bk a∧bk a < w.heap.size:=by
 obtain ⟨A,C,i,_,_,h1,h2⟩:=ti h
 simp only [mL,true_and] at i
 obtain ⟨rfl,rfl⟩:=i
 cases hk:(bR a n cap).ownBlock with
 | none=>exact absurd (h2 hk) q
 | some k=>
   obtain ⟨rfl,h3,h4⟩:=h1 k hk
   exact ⟨h3,h4⟩
section
variable {P:Program} {N:Fm} {σ:Nat→Value} {w:World} {dst:Option Nat} {ty:TypeId} {pos :String} {af:Array Edge} {g:Option (Nat×Bool)} {x y z:Operand} {K:(Nat→Value)→World→Prop}
end
end Go.Hb
namespace Go.Hb
section
variable {P:Program} {md:rY} {ops:Array Oper} {Q:Exit→Act→World→Prop} {S:World→Prop} {r:Nat}
def pR (P:Program) (md:rY) (ops:Array Oper) (Q:Exit→Act→World→Prop) (S:World→Prop) (r:Nat):Nat→Array Bool→Act→World→Prop
 | 0,bc,a,w=>jr md ops bc= []∧Q .normal a w
 | fuel+1,bc,a,w=>
   (jr md ops bc= []→Q .normal a w)∧
   ∀ i∈jr md ops bc,wpOp P ops Q i (fun q w'=>((bc.setIfInBounds i true).getD r false =false→S w')∧pR P md ops Q S r fuel (bc.setIfInBounds i true) q w') a w
theorem LS:∀ (fuel:Nat) (bc:Array Bool) (a:Act) (w:World),pR P md ops Q S r fuel bc a w→wpAny P md ops Q fuel bc a w
 | 0,_,_,_,h=>h
 | fuel+1,_,_,_,h=>⟨h.1,fun i hi=>wpOp_mono (fun q w' A=>LS fuel _ q w' A.2)<|h.2 i hi⟩
theorem Y5 {i:Nat} {E:Oper} {v:Value} (hi:ops[i]? =some E) (ai:∀ (j:Nat) (o:Oper) cs b,ops[j]? =some o→o.op≠.select cs b)
 (al:∀ c a w,Q (.panic c) (a.put E.dst v) w→Q (.panic c) a w) (av:∀ o,ops[r]? =some o→∃ x∈o.after,j0 md x=true∧x.on=i) (ao:i≠r):
 ∀ (fuel:Nat) (bc:Array Bool) (a:Act) (w:World),
   (∀ j A,ops[j]? =some A→j≠i→bc.getD j true =false→(∀ x∈A.after,j0 md x=true→x.on≠i)→E.apart ops A=true)→
   i∈jr md ops bc→YieldsIf P ops S E v a→S w→bc.getD r false =false→
   pR P md ops Q S r fuel (bc.setIfInBounds i true) (a.put E.dst v) w→pR P md ops Q S r (fuel+1) bc a w:=by
 intro fuel
 induction fuel with
 | zero=>
   intro bc a w _ C M G _ H
   refine ⟨fun h=>(by rw [h] at C; cases C),fun j I=> ?_⟩
   by_cases q:j=i
   · subst q; exact M.wpOp hi G ⟨fun _=>G,H⟩
   · have :=ready_mono I q
     rw [H.1] at this
     cases this
 | succ fuel aw=>
   intro bc a w Z C M G ae H
   refine ⟨fun h=>(by rw [h] at C; cases C),fun j I=> ?_⟩
   by_cases q:j=i
   · subst q; exact M.wpOp hi G ⟨fun _=>G,H⟩
   · have h1:=H.2 j<|ready_mono I q
     obtain ⟨ac,A,J,am⟩:=mem_ready.1 I
     have ah:∀ x∈A.after,j0 md x=true→x.on≠i:=fun x V U heq=>by
      have h1:=am x V U
      have Y:=(mem_ready.1 C).1
      rw [heq] at h1
      rcases fg i bc.size with O | O
      · simp [O] at Y h1; rw [Y] at h1; cases h1
      · simp [tH O] at h1
     have ab:j≠r:=by
      rintro rfl
      obtain ⟨x,V,U,au⟩:=av A J
      exact ah x V U au
     have aq:(bc.setIfInBounds j true).getD r false =false :=by rw [getD_set_ne false ab]; exact ae
     have ag:((bc.setIfInBounds i true).setIfInBounds j true).getD r false =false :=by rw [getD_set_ne false ab,getD_set_ne false ao]; exact ae
     have h2:=wpOp_putIf J (Z j A J q ac ah) (fun cs b=>ai i E cs b hi) (fun cs b=>ai j A cs b J) al M h1
     have an:∀ k ok,ops[k]? =some ok→k≠i→(bc.setIfInBounds j true).getD k true =false→
      (∀ x∈ok.after,j0 md x=true→x.on≠i)→E.apart ops ok=true :=fun k ok hk ap aj ar=>by
      refine Z k ok hk ap ?_ ar
      by_cases aa:j=k
      · subst aa; exact ac
      · rw [getD_set_ne true aa] at aj; exact aj
     refine wpOp_mono (fun ak w' h3=>⟨fun _=>h3.2.1 ag,aw (bc.setIfInBounds j true) ak w' an (ready_mono C<|Ne.symm q) h3.1 (h3.2.1 ag) aq ?_⟩) h2
     rw [DL _ _ q]
     exact h3.2.2
end
section
variable {P:Program} {N:Fm} {ops:Array Oper} {Q:Exit→(Nat→Value)→World→Prop} {σ:Nat→Value} {w:World} {S:World→Prop} {r fuel:Nat} {bc:Array Bool}
 {d':Option Nat} {d:Nat} {op:Op} {ty:TypeId} {pos :String} {af:Array Edge} {v:Value}
def iO (P:Program) (N:Fm) (ops:Array Oper) (Q:Exit→(Nat→Value)→World→Prop) (S:World→Prop) (r fuel:Nat) (bc:Array Bool) (σ:Nat→Value) (w:World):Prop :=
 pR P .any ops (lift N Q) S r fuel bc (act N σ) w
theorem eS {id:Nat} {l:List Oper} (S:World→Prop) (r:Nat) (a:th N.r l=true) (hm:P.follows .mixedOrders=true) (i:S w.drew) (h:iO P N l.toArray Q S r l.length (tJ l.length false) σ w.drew):dQ P N (.region id l.toArray true) Q σ w:=by
 exact EU a hm<|LS _ _ _ _<|by rw [oa]; exact h
def H2 (F:List Nat) (ops:Array Oper) (bc:Array Bool) (r i:Nat):Bool:=
 ja F ops bc i && !(bc.getD r false) && i !=r && (match ops[r]? with | some o=>o.after.toList.any (fun x=>j0 .any x && x.on==i) | none=>false)
theorem lq (i:Nat) (hi:ops[i]? =some ⟨some d,op,ty,pos,af,none⟩) (A:H2 N.F ops bc r i=true)
 (J:∀ w,S w→(execOp (ev N σ) ⟨some d,op,ty,pos,af,none⟩).run P w= .ok (.value v) w) (q:S w)
 (k:iO P N ops Q S r fuel (bc.setIfInBounds i true) (dB σ d v) w):iO P N ops Q S r (fuel+1) bc σ w:=by
 simp only [H2,ja,gU,zk,bne_iff_ne,ne_eq] at A
 obtain ⟨⟨⟨⟨⟨⟨C,E⟩,hf3⟩,hfF⟩,hf4⟩,hf5⟩,hf6⟩:=A
 rw [hi] at hfF
 refine Y5 hi (D2 C) (fun c a w=>oC hfF c a w) (fun o G=> ?_) hf5 fuel bc _ w (D1 hi E) (by simpa using hf3) (.inl ⟨jO _ rfl _,fun w q=> ?_⟩) q hf4 ?_ (v:=v)
 · rw [G] at hf6
   simp only [MU,gU,beq_iff_eq] at hf6
   obtain ⟨x,I,h1,h2⟩:=hf6
   exact ⟨x,vK.1 I,h1,h2⟩
 · rw [hU]; exact J w q
 · rw [jH]; exact k
theorem IU (i:Nat) (hi:ops[i]? =some ⟨d',op,ty,pos,af,none⟩) (A:lj ops bc i=true)
 (h:dR P N ⟨d',op,ty,pos,af,none⟩ σ w (fun σ w=>((bc.setIfInBounds i true).getD r false =false→S w)∧iO P N ops Q S r fuel (bc.setIfInBounds i true) σ w)):iO P N ops Q S r (fuel+1) bc σ w:=by
 have a:jr .any ops bc= [i]:=by simpa [lj] using A
 refine ⟨fun q=>absurd (a ▸ q) (by simp),fun k hk=> ?_⟩
 rw [a] at hk
 obtain rfl :k=i:=by simpa using hk
 unfold wpOp
 simp only [hi]
 rw [if_pos (jO _ rfl _)]
 exact .inl<|tD h fun _ _ hk=>hk
theorem gQ (i:Nat) (hi:ops[i]? =some ⟨d',op,ty,pos,af,none⟩) (a:lj ops bc i=true)
 (h:dR P N ⟨d',op,ty,pos,af,none⟩ σ w (fun σ w=>S w∧iO P N ops Q S r fuel (bc.setIfInBounds i true) σ w)):iO P N ops Q S r (fuel+1) bc σ w:=
 IU i hi a (LW h fun _ _ hk=>⟨fun _=>hk.1,hk.2⟩)
theorem dK (i:Nat) (hi:ops[i]? =some ⟨d',op,ty,pos,af,none⟩) (A:lj ops bc i=true) (q:(bc.setIfInBounds i true).getD r false =true)
 (h:dR P N ⟨d',op,ty,pos,af,none⟩ σ w (fun σ w=>iO P N ops Q S r fuel (bc.setIfInBounds i true) σ w)):iO P N ops Q S r (fuel+1) bc σ w:=
 IU i hi A (LW h fun _ _ hk=>⟨fun a=>absurd (a.symm.trans q) ei,hk⟩)
theorem eR (i:(jr .any ops bc).isEmpty=true) (h:Q .normal σ w):iO P N ops Q S r fuel bc σ w:=by
 have a:jr .any ops bc= []:=by simpa using i
 cases fuel with
 | zero=>exact ⟨a,σ,rfl,h⟩
 | succ fuel=>exact ⟨fun _=>⟨σ,rfl,h⟩,by rw [a]; simp⟩
attribute [irreducible] iO
end
end Go.Hb
namespace Go.Hb
section
variable {P:Program} {md:rY} {ops:Array Oper} {Q:Exit→Act→World→Prop} {S:World→Prop} {r:Nat}
inductive qX (md:rY) (ops:Array Oper) (i:Nat):Nat→Prop
 | one {r o e} :ops[r]? =some o→e∈o.after→j0 md e=true→e.on=i→qX md ops i r
 | more {r o e} :ops[r]? =some o→e∈o.after→j0 md e=true→qX md ops i e.on→qX md ops i r
def sg (md:rY) (ops:Array Oper) (bc:Array Bool):Prop := ∀ (j:Nat) (o:Oper),ops[j]? =some o→bc.getD j false =true→∀ e∈o.after,j0 md e=true→bc.getD e.on false =true
theorem H6 {bc:Array Bool} {j k:Nat} (h:bc.getD k false =true):(bc.setIfInBounds j true).getD k false =true :=by
 by_cases e:j=k
 · subst e
   by_cases a:j < bc.size
   · simp [a]
   · simp [a] at h
 · rw [getD_set_ne false e]; exact h
theorem sg.set {bc:Array Bool} {j:Nat} (h:sg md ops bc) (C:j∈jr md ops bc):sg md ops (bc.setIfInBounds j true):=by
 intro k o hk q e he i
 obtain ⟨_,G,E,A⟩:=mem_ready.1 C
 by_cases a:j=k
 · subst a
   rw [E] at hk; cases hk
   exact H6<|A e he i
 · rw [getD_set_ne false a] at q
   exact H6<|h k o hk q e he i
theorem qX.bc {bc:Array Bool} {i r:Nat} (hd:qX md ops i r) (A:sg md ops bc) (a:∀ o,ops[r]? =some o→∀ e∈o.after,j0 md e=true→bc.getD e.on false =true):bc.getD i false =true :=by
 induction hd with
 | one h1 h2 h3 h4=>rw [← h4]; exact a _ h1 _ h2 h3
 | more h1 h2 h3 _ E=>exact E fun o C e he q=>A _ o C (a _ h1 _ h2 h3) e he q
theorem Y4 {i:Nat} {C:Oper} {v:Value} (hi:ops[i]? =some C) (aj:∀ (j:Nat) (o:Oper) cs b,ops[j]? =some o→o.op≠.select cs b)
 (am:∀ c a w,Q (.panic c) (a.put C.dst v) w→Q (.panic c) a w) (hd:qX md ops i r) (ap:i≠r):
 ∀ (fuel:Nat) (bc:Array Bool) (a:Act) (w:World),sg md ops bc→
   (∀ j E,ops[j]? =some E→j≠i→bc.getD j true =false→(∀ x∈E.after,j0 md x=true→x.on≠i)→C.apart ops E=true)→
   i∈jr md ops bc→YieldsIf P ops S C v a→S w→bc.getD r false =false→
   pR P md ops Q S r fuel (bc.setIfInBounds i true) (a.put C.dst v) w→pR P md ops Q S r (fuel+1) bc a w:=by
 intro fuel
 induction fuel with
 | zero=>
   intro bc a w _ _ A M G _ H
   refine ⟨fun h=>(by rw [h] at A; cases A),fun j I=> ?_⟩
   by_cases q:j=i
   · subst q; exact M.wpOp hi G ⟨fun _=>G,H⟩
   · have :=ready_mono I q
     rw [H.1] at this
     cases this
 | succ fuel ax=>
   intro bc a w Y Z A M G ag H
   refine ⟨fun h=>(by rw [h] at A; cases A),fun j I=> ?_⟩
   by_cases q:j=i
   · subst q; exact M.wpOp hi G ⟨fun _=>G,H⟩
   · have h1:=H.2 j<|ready_mono I q
     obtain ⟨ae,E,J,V⟩:=mem_ready.1 I
     have aa:bc.getD i false =false :=by
      have U:=(mem_ready.1 A).1
      rcases fg i bc.size with O | O
      · simpa [O] using U
      · simp [O] at U
     have av:∀ x∈E.after,j0 md x=true→x.on≠i:=fun x aw an heq=>by
      have h1:=V x aw an
      rw [heq,aa] at h1; cases h1
     have ac:j≠r:=by
      rintro rfl
      have :=hd.bc Y fun o ai=>by rw [J] at ai; cases ai; exact V
      rw [aa] at this; cases this
     have ar:(bc.setIfInBounds j true).getD r false =false :=by rw [getD_set_ne false ac]; exact ag
     have ah:((bc.setIfInBounds i true).setIfInBounds j true).getD r false =false :=by rw [getD_set_ne false ac,getD_set_ne false ap]; exact ag
     have h2:=wpOp_putIf J (Z j E J q ae av) (fun cs b=>aj i C cs b hi) (fun cs b=>aj j E cs b J) am M h1
     have ao:∀ k ok,ops[k]? =some ok→k≠i→(bc.setIfInBounds j true).getD k true =false→
      (∀ x∈ok.after,j0 md x=true→x.on≠i)→C.apart ops ok=true :=fun k ok hk aq ak au=>by
      refine Z k ok hk aq ?_ au
      by_cases ab:j=k
      · subst ab; exact ae
      · rw [getD_set_ne true ab] at ak; exact ak
     refine wpOp_mono (fun al w' h3=>⟨fun _=>h3.2.1 ah,ax (bc.setIfInBounds j true) al w' (Y.set I) ao (ready_mono A<|Ne.symm q) h3.1 (h3.2.1 ah) ar ?_⟩) h2
     rw [DL _ _ q]
     exact h3.2.2
theorem Y6 {i:Nat} {C:Oper} {v:Value} (hi:ops[i]? =some C) (ae:∀ (j:Nat) (o:Oper) cs b,ops[j]? =some o→o.op≠.select cs b)
 (ai:∀ c a w,Q (.panic c) (a.put C.dst v) w→Q (.panic c) a w) (O:i≠r):
 ∀ (fuel:Nat) (bc:Array Bool) (a:Act) (w:World),
   (∀ j E,ops[j]? =some E→j≠i→bc.getD j true =false→(∀ x∈E.after,j0 md x=true→x.on≠i)→C.apart ops E=true)→
   i∈jr md ops bc→YieldsIf P ops (fun _=>True) C v a→(bc.getD r false =false→S w)→
   pR P md ops Q S r fuel (bc.setIfInBounds i true) (a.put C.dst v) w→pR P md ops Q S r (fuel+1) bc a w:=by
 intro fuel
 induction fuel with
 | zero=>
   intro bc a w _ A I M H
   refine ⟨fun h=>(by rw [h] at A; cases A),fun j G=> ?_⟩
   by_cases q:j=i
   · subst q; exact I.wpOp hi trivial ⟨fun h=>M (by rw [getD_set_ne false O] at h; exact h),H⟩
   · have :=ready_mono G q
     rw [H.1] at this
     cases this
 | succ fuel ar=>
   intro bc a w Z A I M H
   refine ⟨fun h=>(by rw [h] at A; cases A),fun j G=> ?_⟩
   by_cases q:j=i
   · subst q; exact I.wpOp hi trivial ⟨fun h=>M (by rw [getD_set_ne false O] at h; exact h),H⟩
   · have h1:=H.2 j<|ready_mono G q
     obtain ⟨ac,E,U,aj⟩:=mem_ready.1 G
     have am:bc.getD i false =false :=by
      have V:=(mem_ready.1 A).1
      rcases fg i bc.size with J | J
      · simpa [J] using V
      · simp [J] at V
     have ap:∀ x∈E.after,j0 md x=true→x.on≠i:=fun x aq ak heq=>by
      have h1:=aj x aq ak
      rw [heq,am] at h1; cases h1
     have h2:=wpOp_putIf U (Z j E U q ac ap) (fun cs b=>ae i C cs b hi) (fun cs b=>ae j E cs b U) ai I h1
     have al:∀ k ok,ops[k]? =some ok→k≠i→(bc.setIfInBounds j true).getD k true =false→
      (∀ x∈ok.after,j0 md x=true→x.on≠i)→C.apart ops ok=true :=fun k ok hk an ag ao=>by
      refine Z k ok hk an ?_ ao
      by_cases ab:j=k
      · subst ab; exact ac
      · rw [getD_set_ne true ab] at ag; exact ag
     have Y:(bc.setIfInBounds i true).setIfInBounds j true =(bc.setIfInBounds j true).setIfInBounds i true :=DL _ _ fun e=>q e.symm
     have aa:(bc.setIfInBounds j true).getD r false =false→((bc.setIfInBounds i true).setIfInBounds j true).getD r false =false :=fun h=>by rw [Y,getD_set_ne false O]; exact h
     refine wpOp_mono (fun ah w' h3=>⟨fun h=>h3.2.1 (aa h),ar (bc.setIfInBounds j true) ah w' al (ready_mono A<|Ne.symm q) h3.1 (fun h=>h3.2.1<|aa h) ?_⟩) h2
     rw [← Y]
     exact h3.2.2
end
section
variable {P:Program} {N:Fm} {ops:Array Oper} {Q:Exit→(Nat→Value)→World→Prop} {σ:Nat→Value} {w:World} {S:World→Prop} {r fuel:Nat} {bc:Array Bool}
 {d:Nat} {op:Op} {ty:TypeId} {pos :String} {af:Array Edge} {v:Value}
def xw (ops:Array Oper) (i:Nat):Nat→Nat→Bool
 | 0,_=>false
 | f+1,r=>match ops[r]? with | some o=>o.after.toList.any (fun e=>j0 .any e && (e.on==i || xw ops i f e.on)) | none=>false
theorem RR {i:Nat} :∀ (f r:Nat),xw ops i f r=true→qX .any ops i r:=by
 intro f
 induction f with
 | zero=>intro r h; cases h
 | succ f A=>
   intro r h
   rw [xw] at h
   split at h
   · rename_i o q
     simp only [MU,gU,DO,beq_iff_eq] at h
     obtain ⟨e,he,a,h⟩:=h
     rcases h with h | h
     · exact .one q (vK.1 he) a h
     · exact .more q (vK.1 he) a<|A _ h
   · cases h
def AV (ops:Array Oper) (bc:Array Bool):Bool:=(j5 ops.size).all fun j=> !bc.getD j false || match ops[j]? with | some o=>o.after.toList.all (fun e=> !j0 .any e || bc.getD e.on false) | none=>true
theorem QN (h:AV ops bc=true):sg .any ops bc:=by
 intro j o a q e he i
 unfold AV at h
 rw [ma] at h
 have h1:=h j<|tY.2 (cQ.1 a).1
 rw [q,a] at h1
 simp only [Bool.not_true,Bool.false_or,ma,DO,zk] at h1
 rcases h1 e (vK.2 he) with h2 | h2
 · rw [i] at h2; cases h2
 · exact h2
def BR (F:List Nat) (ops:Array Oper) (bc:Array Bool) (r i:Nat):Bool:=ja F ops bc i && !(bc.getD r false) && i !=r && AV ops bc && xw ops i ops.size r
def x8 (F:List Nat) (ops:Array Oper) (bc:Array Bool) (r i:Nat):Bool:=ja F ops bc i && i !=r
theorem kD (i:Nat) (hi:ops[i]? =some ⟨some d,op,ty,pos,af,none⟩) (A:BR N.F ops bc r i=true)
 (G:∀ w,S w→(execOp (ev N σ) ⟨some d,op,ty,pos,af,none⟩).run P w= .ok (.value v) w) (q:S w)
 (k:iO P N ops Q S r fuel (bc.setIfInBounds i true) (dB σ d v) w):iO P N ops Q S r (fuel+1) bc σ w:=by
 simp only [BR,ja,gU,zk,bne_iff_ne,ne_eq] at A
 obtain ⟨⟨⟨⟨⟨⟨⟨C,E⟩,hf3⟩,hfF⟩,hf4⟩,hf5⟩,hf6⟩,hf7⟩:=A
 rw [hi] at hfF
 unfold iO at*
 refine Y4 hi (D2 C) (fun c a w=>oC hfF c a w) (RR _ _ hf7) hf5 fuel bc _ w (QN hf6) (D1 hi E) (by simpa using hf3) (.inl ⟨jO _ rfl _,fun w q=> ?_⟩) q hf4 ?_ (v:=v)
 · rw [hU]; exact G w q
 · rw [jH]; exact k
theorem dA (i:Nat) (hi:ops[i]? =some ⟨some d,op,ty,pos,af,none⟩) (q:x8 N.F ops bc r i=true)
 (G:∀ w,(execOp (ev N σ) ⟨some d,op,ty,pos,af,none⟩).run P w= .ok (.value v) w) (A:bc.getD r false =false→S w)
 (k:iO P N ops Q S r fuel (bc.setIfInBounds i true) (dB σ d v) w):iO P N ops Q S r (fuel+1) bc σ w:=by
 simp only [x8,ja,gU,bne_iff_ne,ne_eq] at q
 obtain ⟨⟨⟨⟨C,E⟩,hf3⟩,hfF⟩,hf5⟩:=q
 rw [hi] at hfF
 unfold iO at*
 refine Y6 hi (D2 C) (fun c a w=>oC hfF c a w) hf5 fuel bc _ w (D1 hi E) (by simpa using hf3) (.inl ⟨jO _ rfl _,fun w _=> ?_⟩) A ?_ (v:=v)
 · rw [hU]; exact G w
 · rw [jH]; exact k
end
end Go.Hb
namespace Go.Hb
def LC:Nat→Nat→List UInt8
 | 0,n=> [j6 n]
 | f+1,n=>if n < 128 then [j6 n] else j6 (n % 128 +128)::LC f (n / 128)
def YF (n:Nat):List UInt8:=LC n n
def frame:List (List UInt8)→List UInt8
 | []=> []
 | r::l=>YF r.length++(r++frame l)
theorem fH {α:Type} (l:List α) (i:Nat) (d:α) (h:i < l.length):l.take (i+1)=l.take i++ [l.getD i d]:=by
 rw [List.take_succ_eq_append_getElem h]; simp [cV,h]
end Go.Hb
namespace Go.Hb
def U8 (l:List UInt8):List Value:=l.map fun b=>jk .u8 b.toNat
theorem wH (l:List UInt8):(U8 l).length=l.length:=by simp [U8]
theorem wz (a b:List UInt8):U8 (a++b)=U8 a++U8 b:=by simp [U8]
theorem NO (l:List UInt8):(U8 l).all gC=true :=by
 rw [ma]
 intro u hu
 simp only [U8,oT] at hu
 obtain ⟨b,_,rfl⟩:=hu
 rfl
def xd (P:Program) (t e u:TypeId):Bool:=
 fY P t e 1 1 && (match P.underlying e with | some (.int .u8)=>true | _=>false) && (match P.underlying u with | some .string=>true | _=>false) &&
  (match P.info? e with | some i=>(match i.zero with | some (.int .u8 0)=>true | _=>false) | none=>false)
theorem Ow {P:Program} {t e u:TypeId} (h:xd P t e u=true):
 fY P t e 1 1=true∧P.underlying e=some (.int .u8)∧P.underlying u=some .string∧∃ i,P.info? e=some i∧i.zero=some (.int .u8 0):=by
 simp only [xd,gU] at h
 obtain ⟨⟨⟨h1,h2⟩,h3⟩,h4⟩:=h
 refine ⟨h1,?_,?_,?_⟩
 · split at h2
   · rename_i h; exact h
   · cases h2
 · split at h3
   · rename_i h; exact h
   · cases h3
 · split at h4
   · rename_i i hi
     split at h4
     · rename_i h; exact ⟨i,hi,h⟩
     · cases h4
   · cases h4
section
variable {P:Program} {N:Fm} {σ:Nat→Value} {w:World} {dst:Option Nat} {ty:TypeId} {pos :String} {af:Array Edge} {g:Option (Nat×Bool)} {x y z:Operand} {K:(Nat→Value)→World→Prop}
theorem foldl_push (l:List UInt8) (r:ByteArray):(l.map fun b=>(b.toNat:Int)).foldl (fun r n=>r.push<|j6 n.toNat) r=⟨r.data++l.toArray⟩:=by
 induction l generalizing r with
 | nil=>simp
 | cons b l a=>
   simp only [tW,r6]
   rw [a]
   apply ByteArray.ext
   simp [ByteArray.push]
theorem mZ {t e u n c:Nat} {a:Option Addr} {l:List UInt8} (h:xd P t e u=true) (I:ev N σ x= .slice a n c) (i:aJ w.heap a (U8 l)) (q:l.length=n):
 (execOp (ev N σ) ⟨dst,.convert t u x,ty,pos,af,g⟩).run P w= .ok (.value<|str l) w:=by
 obtain ⟨h1,h2,h3,_⟩:=Ow h
 obtain ⟨hu,_⟩:=rL h1
 have C:(Ms<|.slice a n c).run P w= .ok (str l) w:=by
  by_cases he:l= []
  · subst he
    cases a with
    | none=>simp [Ms,str]; rfl
    | some a=>
      subst q
      have :=run_bytesToString (P:=P) w a 0 c []<|by simp [loadCells,loadCellsFrom]
      exact this.trans aa
  · have A:=i.ok<|by simpa [U8] using he
    have G:(loadCells ⟨bk a,fo a,none⟩ n).run P w= .ok ((l.map fun b=>(b.toNat:Int)).map<|jk .u8).toArray w:=by
     subst q
     have :=run_loadCells_list (P:=P) w ⟨bk a,fo a,none⟩ (U8 l) fun j v E=>by
      rw [ml,nz]
      exact i.aQ j v E
     rw [wH] at this
     rw [this]
     simp [U8]
    rw [A,run_bytesToString w _ n c _ G,foldl_push]
    simp [str,ByteArray.empty,ByteArray.emptyWithCapacity]
    rfl
 simp [execOp,I,run_convert_bytes_string w t u e a n c hu h2 h3,C]
theorem YM {at_:Array TypeId} {v:Value} {a:Option Addr} {n c:Nat} (i:ev N σ x= .slice a n c) (h:a=none∨c≠0):
 (execOp (ev N σ) ⟨dst,.call ⟨.builtin .unsafeSliceData,#[x],at_⟩,ty,pos,af,g⟩).run P w= .ok (.value<|.pointer a) w:=by
 have _:=v
 have :(Builtin.unsafeSliceData_ at_ ty #[.slice a n c]).run P w= .ok (.pointer a) w:=by
  cases a with
  | none=>exact Lib.run_unsafeSliceData_nil w at_ ty n c
  | some a=>exact Lib.run_unsafeSliceData_row w at_ ty a n c<|h.resolve_left<|by simp
 simp [execOp,resolve,invoke,builtin,i,this]
def ptrTo (P:Program) (i e:TypeId):Bool:=match P.underlying i with | some (.pointer a)=>a==e && P.cellsOf e==1 | _=>false
theorem YN {C it e B n c:Nat} {a:Option Addr} {l:List UInt8} {xs:List Value} (hp:ptrTo P C e=true) (I:ev N σ x= .pointer a) (J:ev N σ y= .int .i64 n) (A:w.ownsRow B e 1 (.slice a n c) n xs)
 (ah:xs=U8 l) (ai:n≤9223372036854775807)
 (k:∀ w',Md (fun k=>(bR a n c).ownBlock=some k) w w'→w'.heap.size=w.heap.size→K (iN σ dst<|str l) w'):
 dR P N ⟨dst,.call ⟨.builtin .unsafeString,#[x,y],#[C,it]⟩,ty,pos,af,g⟩ σ w K:=by
 subst ah
 have i:l.length=n:=by have :=A.1; simpa [U8] using this
 unfold ptrTo at hp
 split at hp
 case h_2=>cases hp
 rename_i E hu
 simp only [gU,beq_iff_eq] at hp
 obtain ⟨rfl,O⟩:=hp
 by_cases he:l= []
 · subst he
   obtain rfl :n=0:=i.symm
   refine nW (w':=w) (v:=str []) ?_<|k w (Md.refl _ _) aa
   simp [execOp,resolve,invoke,builtin,I,J,Lib.run_unsafeString_none]
   rfl
 · rcases A.2 with ⟨h,M⟩ | ⟨q,cap,cur,h,_,V,hle,_,ag,aj⟩
   · subst M; simp only [List.length_eq_zero_iff] at i; exact absurd i he
   · simp only [mL,true_and] at h
     obtain ⟨rfl,rfl⟩:=h
     have ae:w.shape? q=some (E,cur.size):=by simp [Ed,V]
     have ac:=Lib.run_unsafeString_row (P:=P) w C it ty E hu O q cur.size ae l he (by rw [i,ag]; omega) ab (fun j u hu=>by
      obtain ⟨ad,cp,G,U,_,hk,_⟩:=ti A
      simp only [mL,true_and] at G
      obtain ⟨rfl,rfl⟩:=G
      rw [ml,nz]
      exact U.aQ j _ (by simp [U8,hu]))
     refine nW (w':=w.freeze ⟨q,0,none⟩ l.length) (v:=str l) ?_ (k _ ⟨?_,?_,?_,?_⟩ ?_)
     · simp [execOp,resolve,invoke,builtin,I,J,← i,ac,str]
     · unfold vW; split <;> rfl
     · unfold vW; split <;> rfl
     · unfold vW; split <;> simp
     · intro k hk Y
       have Z:k≠q:=fun e=>Y<|by simp [iU,e]
       unfold vW
       split
       · rfl
       · simp only [Array.getElem?_modify]; rw [if_neg (fun e=>Z e.symm)]
     · unfold vW; split <;> simp
def vG (P:Program) (q up e n:Nat):Bool:=
 (match P.underlying q with | some (.pointer a)=>a==e | _=>false) && (match P.underlying up with | some .unsafePointer=>true | _=>false) && P.cellsOf e==n && gD 0 n && (match P.info? e with | some i=>i.size==n | _=>false)
theorem LF {P:Program} {a up e n:Nat} (h:vG P a up e n=true):P.underlying a=some (.pointer e)∧P.underlying up=some .unsafePointer∧P.cellsOf e=n∧0 < n∧∃ i,P.info? e=some i∧i.size=n:=by
 simp only [vG,gU] at h
 obtain ⟨⟨⟨⟨h1,h2⟩,h3⟩,h4⟩,h5⟩:=h
 refine ⟨?_,?_,by simpa using h3,r9 (ub 0) (ua h4),?_⟩
 · split at h1
   · rename_i h; simp only [beq_iff_eq] at h1; rw [h,h1]
   · cases h1
 · split at h2
   · rename_i h; exact h
   · cases h2
 · split at h5
   · rename_i i hi; exact ⟨i,hi,by simpa using h5⟩
   · cases h5
theorem Ys {a up e n b:Nat} {L:List Value} (h:vG P a up e n=true) (G:ev N σ x= .pointer (some ⟨b,0,none⟩)) (q:w.heap[b]? =some (.cells L.toArray e (0,0))) (A:L.length=n):
 (execOp (ev N σ) ⟨dst,.convert a up x,ty,pos,af,g⟩).run P w= .ok (.value<|.pointer<|some ⟨b,0,none⟩) w:=by
 obtain ⟨h1,h2,h3,h4,i,hi,hs⟩:=LF h
 have E:w.shape? b=some (e,L.length):=by simp [Ed,q]
 have C:¬n=0:=ab
 simp [execOp,G,convert,eC h1,eC h2,Mu,Mt,viewAt,E,cellsIn,A,sizeOf,jg hi,hs,C]
theorem Tl {q up e n b:Nat} {L:List Value} (h:vG P q up e n=true) (I:ev N σ x= .pointer (some ⟨b,0,none⟩)) (A:w.heap[b]? =some (.cells L.toArray e (0,0))) (C:L.length=n):
 (execOp (ev N σ) ⟨dst,.convert up q x,ty,pos,af,g⟩).run P w= .ok (.value<|.pointer<|some ⟨b,0,none⟩) w:=by
 obtain ⟨h1,h2,h3,h4,i,hi,hs⟩:=LF h
 have G:w.shape? b=some (e,L.length):=by simp [Ed,A]
 have a:¬n=0:=ab
 have E:liesAt P P.depth e (L.length / P.cellsOf e) 0 e 1=true :=by
  have hd:P.depth=(2 *(P.types.size+Made.depth)+1)+1:=rfl
  rw [hd]
  simp only [liesAt,DO]
  left
  rw [hd]
  simp [rowAt,h3,a,C,sameLayout,Nat.div_self h4]
 simp [execOp,I,convert,eC h1,eC h2,Mu,Mt,viewAt,G,variablesAt,sizeOf,jg hi,hs,a,E]
theorem VG {t C e:TypeId} {a:Addr} (hu:P.underlying t=some (.pointer e)) (hs:(P.info? e).isSome=true) (q:ev N σ x= .pointer (some a)) (A:ev N σ y= .pointer (some a)):
 (execOp (ev N σ) ⟨dst,.binOp .neq t x y C,ty,pos,af,g⟩).run P w= .ok (.value<|.bool false) w:=by
 obtain ⟨i,hi⟩:=oX.1 hs
 have he:∀ d,(tM (d+1) t (.pointer<|some a)<|.pointer<|some a).run P w= .ok true w:=by
  intro d
  simp [tM,eC hu,sizeOf,jg hi,sameAddr]
 have h:(binOp .neq t (.pointer<|some a)<|.pointer<|some a).run P w= .ok (.bool false) w:=by
  have :=he 9999
  simp only [binOp]
  have h2:(DX t (.pointer<|some a)<|.pointer<|some a).run P w= .ok true w:=this
  simp [h2]
 simp [execOp,q,A,eqGuard,h]
theorem Q4 {f:FuncId} {args:Array Operand} {a:Array TypeId} {v:Value} (q:∀ v w,(callFunc f #[v]).run P w= .ok (.value v) w) (i:args.toList.map (ev N σ)= [v]):
 (execOp (ev N σ) ⟨dst,.call ⟨.value (.func f),args,a⟩,ty,pos,af,g⟩).run P w= .ok (.value v) w:=by
 have :args.map (ev N σ)= #[v]:=by rw [← zj,nk,i]
 simp [execOp,resolve,ev,qM,invoke,this,q]
structure Bd (T e:TypeId) (w:World) (b:Nat) (buf:Value) (l:List UInt8):Prop where
 aM:∃ pa,w.heap[b]? =some (.cells [zt pa,buf].toArray T (0,0))∧(pa=none∨pa=some ⟨b,0,none⟩)
 own:w.ownsRow (b+1) e 1 buf l.length (U8 l)
 nil:buf= .slice none 0 0↔l= []
def BF (b:Nat) (a:Value) (k:Nat):Prop :=k=b∨a.ownBlock=some k
end
theorem Bd.lt {T e b:Nat} {w:World} {a:Value} {l:List UInt8} (h:Bd T e w b a l):b < w.heap.size:=let ⟨_,h,_⟩:=h.aM; (cQ.1 h).1
theorem Bd.jm {T e b:Nat} {w:World} {a:Value} {l:List UInt8} (h:Bd T e w b a l) {k:Nat} (hk:BF b a k):b≤k∧k < w.heap.size:=by
 rcases hk with rfl | hk
 · exact ⟨cB _,h.lt⟩
 · have :=h.own.lt k hk; omega
theorem Bd.md {T e b:Nat} {F:Nat→Prop} {w w':World} {a:Value} {l:List UInt8} (h:Bd T e w b a l) (hm:Md F w w') (i:∀ k,BF b a k→¬F k):Bd T e w' b a l:=by
 obtain ⟨⟨q,h1,h2⟩,h3,h4⟩:=h
 exact ⟨⟨q,hm.aM h1 (i b<|.inl aa),h2⟩,cX h3 hm (fun k hk=>i k<|.inr hk),h4⟩
end Go.Hb
namespace Go.Hb
def gS (P:Program) (t:TypeId):Option (List (Nat×Nat)×List Value):=
 match P.info? t,P.underlying t with
 | some it,some (.struct fields)=>
   match it.zero,fields.toList.mapM (fun f=>(P.info? f.type).map fun i=>(f.offset,i.size)) with
   | some z,some pl=>some (pl,z.cells.toList)
   | _,_=>none
 | _,_=>none
def vc (pl:List (Nat×Nat)):List Value→List (Nat×Value)→Option (List Value)
 | a,[]=>some a
 | a,(i,v)::r=>match pl[i]? with
   | some (off,s)=>if (s==1 && v.oneCell' && gD off a.length)=true then vc pl (a.set off v) r else none
   | none=>none
theorem Wy {pl:List (Nat×Nat)} {a L:List Value} {ps:List (Nat×Value)} (h:vc pl a ps=some L):oP (pl.toArray[·]?) a.toArray ps=some L.toArray:=by
 induction ps generalizing a with
 | nil=>simp only [vc,fQ] at h; subst h; rfl
 | cons p ps E=>
   obtain ⟨i,v⟩:=p
   simp only [vc] at h
   split at h
   · rename_i off s hs
     split at h
     · rename_i q
       simp only [gU,beq_iff_eq] at q
       obtain ⟨⟨rfl,h1⟩,ho⟩:=q
       have G:off < a.length:=ua ho
       have C:v.cells= #[v]:=qB h1
       have A:pl.toArray[i]? =some (off,1):=by simpa using hs
       simp only [oP,A,C]
       rw [if_neg (by simp; omega),← E h]
       simp
     · cases h
   · cases h
theorem oz {α:Type} {f:α→List Value} {m:Nat} (i:∀ a,(f a).length=m) (l:List α):(l.flatMap f).length=l.length*m:=by
 induction l with
 | nil=>simp
 | cons x l q=>simp [q,i,sd,Nat.add_comm]
theorem Bt {α:Type} {f:α→List Value} {m:Nat} (i:∀ a,(f a).length=m) {l:List α} {j c:Nat} {a:α} (h:l[j]? =some a) (q:c < m):(l.flatMap f)[j*m+c]? =(f a)[c]? :=by
 induction l generalizing j with
 | nil=>simp at h
 | cons x l A=>
   cases j with
   | zero=>
     simp only [List.getElem?_cons_zero,fQ] at h; subst h
     rw [Eo,gW,qU,me (by rw [i]; exact q)]
   | succ j=>
     simp only [M5] at h
     rw [qU,mN (by rw [i,sd]; omega),i,show (j+1)*m+c - m=j*m+c from by rw [sd]; omega]
     exact A h
theorem fw {α:Type} {f:α→List Value} {m:Nat} (q:∀ a,(f a).length=m) {h:Array Obj} {a:Option Addr} {l:List α} {i:Nat} {e:α} (C:aJ h a (l.flatMap f)) (E:l[i]? =some e):∀ j,j < m→Hb.aQ h (bk a) (fo a+i*m+j)=(f e)[j]? :=by
 intro j A
 have h1:=Bt q E A
 have h2:j < (f e).length:=by rw [q]; exact A
 rw [cD h2] at h1 ⊢
 rw [No]; exact C.aQ _ _ h1
theorem Bu {α:Type} {f:α→List Value} {m:Nat} (i:∀ a,(f a).length=m) (hm:0 < m) {l:List α} (h:0 < l.length):l.flatMap f≠[]:=by
 intro e
 have :=oz i l
 rw [e] at this
 have :0 < l.length*m:=Nat.mul_pos h hm
 simp at*; omega
theorem HC {α:Type} {f:α→List Value} {m:Nat} (i:∀ a,(f a).length=m) {l:List α} {j:Nat} (x:α) (h:j < l.length):(l.set j x).flatMap f=(l.flatMap f).take (j*m)++f x++(l.flatMap f).drop (j*m+m):=by
 induction l generalizing j with
 | nil=>simp at h
 | cons y l q=>
   cases j with
   | zero=>
     simp only [List.set_cons_zero,qU,Eo,oc,pY,gW]
     rw [MV,MX (by rw [i]; exact cB _),i]; simp
   | succ j=>
     simp only [cT] at h
     rw [List.set_cons_succ,qU,q ab,qU,wo,MV,i,eN (l:=f y) (by rw [i,sd]; omega),MX (l:=f y) (by rw [i,sd]; omega),
      show (j+1)*m - m=j*m from by rw [sd]; omega,show (j+1)*m+m - m=j*m+m from by rw [sd]; omega]
     simp
theorem HB {α:Type} {f:α→List Value} (i:∀ a,(f a).all gC=true) (l:List α):(l.flatMap f).all gC=true :=by
 simp only [List.all_flatMap,ma]; intro x _; exact ma.1<|i x
section
variable {P:Program} {N:Fm} {σ:Nat→Value} {w:World} {dst:Option Nat} {ty:TypeId} {pos :String} {af:Array Edge} {g:Option (Nat×Bool)} {x y z:Operand} {K:(Nat→Value)→World→Prop}
theorem cU {t:TypeId} {parts:Array (Nat×Operand)} {pl:List (Nat×Nat)} {a L:List Value} {ps:List (Nat×Value)} (h:gS P t=some (pl,a)) (hp:parts.toList.map (fun p=>(p.1,ev N σ p.2))=ps) (i:vc pl a ps=some L):
 (execOp (ev N σ) ⟨dst,.build t parts,ty,pos,af,g⟩).run P w= .ok (.value<|.agg L.toArray) w:=by
 unfold gS at h
 split at h
 · rename_i it fields hi hu
   split at h
   · rename_i z C A hm
     simp only [fQ,se] at h
     obtain ⟨rfl,rfl⟩:=h
     have q:P.built t (parts.map fun p=>(p.1,ev N σ p.2)).toList=some L.toArray:=by
      have :=Wy i
      simp only [Mh] at this
      simp only [Program.built,hi,hu,A,hm,nk,hp]; exact this
     simp [execOp,run_build w t _ _ q]
   · cases h
 · cases h
end
end Go.Hb
namespace Go.Hb
section
variable {P:Program} {N:Fm} {σ:Nat→Value} {w:World} {dst:Option Nat} {ty:TypeId} {pos :String} {af:Array Edge} {g:Option (Nat×Bool)} {x y z:Operand} {K:(Nat→Value)→World→Prop}
theorem Vq {zv:Value} (h1:zv.oneCell'=true) (n:Nat):madeCells zv.cells n=(km n zv).toArray:=by
 rw [qB h1]
 apply Array.ext
 · simp [madeCells]
 · intro i h2 h3
   simp [madeCells,Nat.mod_one]
theorem VC {t e bytes n:Nat} {G E:IntKind} {zv:Value} (O:fY P t e 1 bytes=true) (a:zeroOf P e=some (some [zv])) (h1:zv.oneCell'=true) (U:ev N σ x= .int G n) (V:ev N σ y= .int E n) (Z:bytes*n≤281474976710656) (q:n≤maxLen)
 (k:∀ b w',b=w.heap.size→Nw w w'→(∀ B,B≤b→w'.ownsRow B e 1 (.slice (some ⟨b,0,none⟩) n n) n (km n zv))→K (iN σ dst<|.slice (some ⟨b,0,none⟩) n n) w'):dR P N ⟨dst,.makeSlice t x y,ty,pos,af,g⟩ σ w K:=by
 obtain ⟨hu,i,I,hi,C,hs,M,ae,ac⟩:=rL O
 have Y:I.cells= #[zv]:=by
  unfold zeroOf at a
  simp only [hi,C,mg,fQ] at a
  exact zj.1<|by simpa using a
 refine oL (v:=fun b=> .slice (some ⟨b,0,none⟩) n n) (ob:= .cells (km n zv).toArray e (0,0)) ?_ fun b w' h2 h3 h4=>k b w' h2 h3 fun B J=>⟨by simp,.inr ⟨b,n,_,aa,J,h4,cB _,q,by simp,by simp⟩⟩
 have A:=run_make (P:=P) w t e i I hu hi C G E n n ab (Int.le_refl _) (by rw [M,← Int.natCast_mul]; omega)<|by unfold maxLen at q; omega
 rw [Y,hs,Nat.mul_one,mM,show madeCells #[zv] n=(km n zv).toArray by rw [← Vq h1,qB h1]] at A
 simp [execOp,U,V,A]
end
end Go.Hb
namespace Go.Hb
section
variable {P:Program} {N:Fm} {σ:Nat→Value} {w:World} {dst:Option Nat} {ty:TypeId} {pos :String} {af:Array Edge} {g:Option (Nat×Bool)} {x y z:Operand}
theorem QC {t n len cap i:Nat} {a:Option Addr} {k k':IntKind} (he:gv P t=some n) (C:ev N σ x= .slice a len cap) (E:ev N σ y= .int k (i:Nat)) (G:ev N σ z= .int k' (i:Nat)) (h:i≤cap):
 (execOp (ev N σ) ⟨dst,.slice t x none (some y) (some z),ty,pos,af,g⟩).run P w= .ok (.value<|.slice a i i) w:=by
 have q:(0:Int)≤(i:Int):=ab
 unfold gv at he
 cases hd:P.underlying t with
 | none=>rw [hd] at he; cases he
 | some d=>
   rw [hd] at he
   cases d <;> first | (cases he; done) | skip
   rename_i e
   cases hi':P.info? e with
   | none=>simp [hi'] at he
   | some j=>
     have A:(if i=0 then a else a.map (·.add 0))=a:=by
      split
      · rfl
      · cases a <;> simp [zl]
     simp only [execOp,rW,vO,C,E,G,mg,Option.map_none,oQ,rX,asIntOf]
     simp [eC hd,jg hi',sizeOf,q,A]
     intro I; omega
end
end Go.Hb
namespace Go.Hb
def qY (h:Array Obj) (b:Nat) (kvs:List (Value×Value)):Prop := ∃ es clock,h[b]? =some (.map es clock)∧es.toList.map (fun e=>(e.key,e.val))=kvs
theorem qY.md {F:Nat→Prop} {w w':World} {b:Nat} {kvs:List (Value×Value)} (h:qY w.heap b kvs) (hm:Md F w w') (a:¬F b):qY w'.heap b kvs:=
 let ⟨es,c,h1,h2⟩:=h; ⟨es,c,hm.aM h1 a,h2⟩
structure wy (P:Program) (k:TypeId) (isK:Value→Prop):Prop where
 check:∀ em w v,isK v→(tL em 10000 k v).run P w= .ok () w
 find:∀ w x es,isK x→(∀ e∈es,isK e.key)→
  ((zn k x es).run P w= .ok none w∧∀ e∈es,e.key≠x)∨∃ j e,(zn k x es).run P w= .ok (some (j,e.val)) w∧es[j]? =some e∧e.key=x
theorem Qs {P:Program} {k:TypeId} {em:Bool} {n:Nat} {a:List UInt8} (hk:P.underlying k=some .string) (w:World):(tL em (n+1) k<|str a).run P w= .ok () w:=by
 simp only [str,tL,vU,eC hk,vT,zq]
def zeroV (P:Program) (e:TypeId):Option Value:=(P.info? e).bind (·.zero)
theorem zf {P:Program} {e:TypeId} {z:Value} (h:zeroV P e=some z) (w:World):(zeroValue e).run P w= .ok z w:=by
 unfold zeroV at h
 simp only [Option.bind_eq_some_iff] at h
 obtain ⟨i,hi,a⟩:=h
 simp [zeroValue,jg hi,a]
section
variable {P:Program} {N:Fm} {σ:Nat→Value} {w:World} {dst:Option Nat} {ty:TypeId} {pos :String} {af:Array Edge} {g:Option (Nat×Bool)} {x y z:Operand} {K:(Nat→Value)→World→Prop}
variable {t k e:TypeId} {isK:Value→Prop} {b:Nat} {kvs:List (Value×Value)} {kx v:Value}
theorem Bf {es:Array MapEntry} (h:es.toList.map (fun e=>(e.key,e.val))=kvs) (hk:∀ p∈kvs,isK p.1):∀ e∈es.toList,isK e.key:=fun e he=>hk (e.key,e.val)<|by rw [← h]; exact wj he
theorem run_getObj_map {es:Array MapEntry} {c:Nat} (a:w.heap[b]? =some (.map es c)):(getObj b).run P w= .ok (.map es c) w:=by
 simp [getObj,Sem.run,a]
theorem VP {kvs:List (Value×Value)} (hn:(kvs.map mO).Nodup) {kx v a:Value} (h1:(kx,v)∈kvs) (h2:(kx,a)∈kvs):v=a:=by
 induction kvs with
 | nil=>simp at h1
 | cons p kvs i=>
   simp only [tW,Nd] at hn
   rcases gr.1 h1 with h1 | h1
   · rcases gr.1 h2 with h2 | h2
     · rw [← h1] at h2; cases h2; rfl
     · rw [← h1] at hn; exact absurd (wj (f:=mO) h2) hn.1
   · rcases gr.1 h2 with h2 | h2
     · rw [← h2] at hn; exact absurd (wj (f:=mO) h1) hn.1
     · exact i hn.2 h1 h2
theorem Vh {ok:Bool} (G:P.underlying t=some (.map k e)) (i:wy P k isK) (hm:qY w.heap b kvs) (hk:∀ p∈kvs,isK p.1) (J:ev N σ x= .map (some b)) (M:ev N σ y=kx) (hi:isK kx) (hn:(kvs.map mO).Nodup) (a:(kx,v)∈kvs):
 (execOp (ev N σ) ⟨dst,.lookup t x y ok,ty,pos,af,g⟩).run P w= .ok (.value (if ok then .tuple #[v,.bool true] else v)) w:=by
 obtain ⟨es,c,E,he⟩:=hm
 rcases i.find w kx es.toList hi (Bf he hk) with ⟨_,h2⟩ | ⟨j,q,h1,h2,h3⟩
 · rw [← he] at a
   obtain ⟨A,C,h4⟩:=oT.1 a
   cases h4
   exact absurd aa<|h2 A C
 · have I:(kx,q.val)∈kvs:=by rw [← he,← h3]; exact wj (f:=fun e:MapEntry=>(e.key,e.val))<|iP h2
   have :=VP hn a I
   subst this
   cases ok <;> simp [execOp,ME,eC G,J,M,run_getObj_map E,i.check _ w kx hi,h1]
theorem Vi {ok:Bool} {zv:Value} (A:P.underlying t=some (.map k e)) (G:zeroV P e=some zv) (a:wy P k isK) (hm:qY w.heap b kvs) (hk:∀ p∈kvs,isK p.1) (C:ev N σ x= .map (some b)) (E:ev N σ y=kx) (hi:isK kx) (hn:∀ v,(kx,v)∉kvs):
 (execOp (ev N σ) ⟨dst,.lookup t x y ok,ty,pos,af,g⟩).run P w= .ok (.value (if ok then .tuple #[zv,.bool false] else zv)) w:=by
 obtain ⟨es,c,q,he⟩:=hm
 rcases a.find w kx es.toList hi (Bf he hk) with ⟨h1,_⟩ | ⟨j,i,h1,h2,h3⟩
 · cases ok <;> simp [execOp,ME,eC A,C,E,run_getObj_map q,a.check _ w kx hi,h1,zf G]
 · exact absurd (by rw [← he,← h3]; exact wj (f:=fun e:MapEntry=>(e.key,e.val))<|iP h2)<|hn i.val
end
end Go.Hb
namespace Go.Hb
def tag (w:World) (k:Nat):Nat:=match w.heap[k]? with | some (.cells _ t _)=>t+2 | some (.map _ _)=>1 | _=>0
theorem dw {w:World} {k t:Nat} {cs:Array Value} {z:Nat×Nat} (h:w.heap[k]? =some (.cells cs t z)):tag w k=t+2:=by unfold tag; rw [h]
theorem Yh {w:World} {k:Nat} {kvs:List (Value×Value)} (h:qY w.heap k kvs):tag w k=1:=by
 obtain ⟨es,c,h,_⟩:=h
 unfold tag; rw [h]
theorem Dq {w:World} {B e size n k:Nat} {v:Value} {xs:List Value} (h:w.ownsRow B e size v n xs) (hk:v.ownBlock=some k):tag w k=e+2:=by
 rcases h.2 with ⟨rfl,_⟩ | ⟨g,cap,cur,rfl,_,a,_⟩
 · simp [iU] at hk
 · simp only [iU,fQ] at hk; subst hk
   exact dw a
def TF (w:World) (L:List Nat) (F:Nat→Prop):Prop := ∀ k,F k→L.contains (tag w k)=true
theorem TF.no {w:World} {L:List Nat} {F:Nat→Prop} (h:TF w L F) {k t:Nat} (i:tag w k=t) (a:L.contains t=false):¬F k:=fun hk=>by
 have :=h k hk
 rw [i,a] at this; cases this
theorem TF.or {w:World} {L:List Nat} {F G:Nat→Prop} (h:TF w L F) (a:TF w L G):TF w L (fun k=>F k∨G k):=fun k hk=>by
 rcases hk with hk | hk
 · exact h k hk
 · exact a k hk
theorem TF.eq {w:World} {L:List Nat} {b t:Nat} (i:tag w b=t) (a:L.contains t=true):TF w L (fun k=>k=b):=fun k hk=>by
 subst hk; rw [i]; exact a
theorem TF.own {w:World} {L:List Nat} {B e size n:Nat} {v:Value} {xs:List Value} (h:w.ownsRow B e size v n xs) (a:L.contains (e+2)=true):TF w L (fun k=>v.ownBlock=some k):=fun k hk=>by
 rw [Dq h hk]; exact a
theorem Md.gA {F:Nat→Prop} {w w':World} {L:List Nat} {k t:Nat} {cs:Array Value} {z:Nat×Nat} (hm:Md F w w') (a:TF w L F) (h:w.heap[k]? =some (.cells cs t z)) (i:L.contains (t+2)=false):w'.heap[k]? =some (.cells cs t z):=hm.aM h<|a.no (dw h) i
theorem cj {F:Nat→Prop} {w w':World} {L:List Nat} {B e size n:Nat} {v:Value} {xs:List Value} (h:w.ownsRow B e size v n xs) (hm:Md F w w') (a:TF w L F) (i:L.contains (e+2)=false):w'.ownsRow B e size v n xs:=cX h hm fun _ hk=>a.no (Dq h hk) i
theorem Md.tag {F:Nat→Prop} {w w':World} (hm:Md F w w') {k:Nat} (hk:k < w.heap.size) (a:¬F k):Hb.tag w' k=Hb.tag w k:=by
 unfold Hb.tag; rw [hm.cz k hk a]
end Go.Hb
end
section
namespace Go.Hb
open Go.ChangeShapes Go.WideShapes Go.ChangeAt
theorem Wk.frame {w w':World} (h:Wk w w') (may:MemPlace→Prop):w.keptBut w' may:=by
 refine ⟨h.os,h.output,fun i hi=> ?_⟩
 rw [h.cz i hi id]
 split <;> simp_all
theorem Wk.same {w w':World} (h:Wk w w') {p:MemPlace} (hp:p.block < w.heap.size):w.sameAt w' p:=by
 cases p with
 | cell b o=>exact World.cell?_of_block (w:=w)<|h.cz b hp id
 | map b=>exact h.cz b hp id
section
variable {H:Type} {enc:TypeId×Value→H} {P:Program} {W W':World}
theorem Lp (C:laidOutB P=true) (hk:Wk W W'):∀ (i:List TypeId) (vs:List Value) (A:List (DataW H)) (ps:List MemPlace),i.all (fun t=>P.readableRec t && decide (t < P.types.size))=true→(∀ x∈ps,x.block < W.heap.size)→
 Mv enc P W 0 (fun _=>true) true i vs A ps→Mv enc P W' 0 (fun b=>decide (b < W.heap.size)) true i vs A ps
 | [],[],[],_,_,_,h=>h
 | t::i,v::vs,d::A,_,hp,hlt,⟨p,q,h1,h2,he⟩=>by
   subst he
   rw [tS,gU,gU] at hp
   exact ⟨p,q,WideElems.Trod_stays C hp.1.1 (of_decide_eq_true hp.1.2) h1 (fun x a=>hk.same<|hlt x<|M9 _ a) (fun x a=>decide_eq_true<|hlt x<|M9 _ a),
    Lp C hk i vs A q hp.2 (fun x a=>hlt x<|List.mem_append_right _ a) h2,rfl⟩
 | [],_::_,_,_,_,_,h=>h.elim
 | [],[],_::_,_,_,_,h=>h.elim
 | _::_,[],_,_,_,_,h=>h.elim
 | _::_,_::_,[],_,_,_,h=>h.elim
theorem WQ {f:FuncId} {fn:Func} {s:ChangeSpec} {args:Array Value} {a gs:List (DataW H)} {before:List MemPlace} {tb:TypeId} (A:DataW.Whole enc P fn.params.toList s.vars false W args.toList a gs before) (E:s.vars= [])
 (hs:s.fn H (a++gs)= {results:= [.lit (.bool true)],args:=a}) (O:fn.resultTypes= #[tb]) (I:P.underlying tb=some .bool) (J:laidOutB P=true) (hp:fn.params.toList.all (fun t=>P.readableRec t && decide (t < P.types.size))=true)
 (h:bo P f args W (fun v w'=>v= .bool true∧Wk W w')):Calls P f args W fun e W'=> ∃ v,e= .returned v∧s.post enc P fn false true false false W args v W':=by
 refine lN h fun e W' ⟨v,he,U,hk⟩=>⟨v,he,?_⟩
 subst U
 have C:=A
 obtain ⟨p,q,G,i,rfl,_,_⟩:=A
 rw [E] at i
 obtain ⟨rfl,rfl⟩:=trodVars_none i
 have M:∀ x∈p,x.block < W.heap.size:=fun x V=>C.lt x<|by simpa using V
 refine ⟨_,_,_,[],p,[],C,?_,?_,?_,hk.frame _,fun h=>by cases h⟩
 · rw [hs,O]
   exact trodAll_cons_mk (shut_bool I _) trodAll_mk0
 · rw [hs]
   exact Lp J hk _ _ _ _ hp M G
 · rw [hs,E]; rfl
end
end Go.Hb
namespace Go.Hb
open Go.Proofs.YtffmhpaepdkabaaGreatDoor
theorem Ov {H:Type} {l:List (DataW H)} (hk:Rows.uptoSmall H l=true):Rows.uptoBulkAll l≤1048576:=of_decide_eq_true hk
end Go.Hb
namespace Go.Hb
open Go.Proofs.YtffmhpaepdkabaaGreatDoor Go.ChangeShapes Go.WideShapes Go.ChangeAt
structure Es (P:Program) (t:TypeId) (m:Nat) {X:Type} (R:World→List Value→X→Prop) (B:X→Nat):Prop where
 cells:P.cellsOf t=m
 op:∀ {H:Type} (enc:TypeId×Value→H) (W:World) (fuel:Nat) (cs:List Value) (d:DataW H) (p:List MemPlace),DataW.trod enc P W 0 (fun _=>true) true fuel t cs=some (d,p)→cs.length=m∧∃ x,R W cs x∧B x≤Rows.uptoBulk d
section
variable {P:Program} {t t0 t1 e:TypeId} {m m0 m1:Nat} {X X0 X1:Type} {R:World→List Value→X→Prop} {B:X→Nat} {R0:World→List Value→X0→Prop} {B0:X0→Nat} {R1:World→List Value→X1→Prop} {B1:X1→Nat}
theorem V1 {k:IntKind} (i:P.underlying t=some (.int k)) (a:P.cellsOf t=1):Es P t 1 (fun _ cs (x:Int)=>cs= [.int k x]∧(Lit.int k x).wf=true) (fun _=>1) where
 cells:=a
 op enc W fuel cs d p h:=by
  obtain ⟨n,rfl,q,hw⟩:=DataW.trod_int i h
  cases q
  exact ⟨aa,n,⟨aa,hw⟩,by simp [Rows.uptoBulk]⟩
theorem JI (i:P.underlying t=some .string) (a:P.cellsOf t=1):Es P t 1 (fun _ cs (x:List UInt8)=>cs= [str x]) (fun x=>x.length+1) where
 cells:=a
 op enc W fuel cs d p h:=by
  obtain ⟨s,rfl,q,hw⟩:=DataW.trod_string i h
  cases q
  exact ⟨aa,s.data.toList,aa,by simp [Rows.uptoBulk]⟩
end
end Go.Hb
end
namespace Go.Hb
theorem drop_cons {α:Type} {l:List α} {i:Nat} (d:α) (h:i < l.length):l.drop i=l.getD i d::l.drop (i+1):=by
 rw [List.drop_eq_getElem_cons h]; simp [cV,h]
theorem vt {α:Type} {l:List α} {k i:Nat} (d:α) (hk:k≤i) (hi:i < l.length):(l.take<|i+1).drop k=(l.take i).drop k++ [l.getD i d]:=by
 rw [fH l i d hi,List.drop_append_of_le_length (by rw [dT]; omega)]
def m7 (b:UInt8):Bool:=b==32 || b==9
theorem qq (b:UInt8):m7 b=decide (b.toNat=32∨b.toNat=9):=by
 unfold m7
 have h:∀ x:UInt8,(b==x)=decide (b.toNat=x.toNat):=fun x=>by
  by_cases a:b=x
  · subst a; simp
  · have :b.toNat≠x.toNat:=fun h=>a<|kX.1 h
    simp [a,this]
 rw [h,h]
 simp [Bool.decide_or]
def cH:List UInt8→List UInt8→List (List UInt8)
 | cur,[]=>if cur= [] then [] else [cur]
 | cur,b::r=>if m7 b then (if cur= [] then cH [] r else cur::cH [] r) else cH (cur++ [b]) r
theorem By:cH [] []= []:=by simp [cH]
theorem HE {cur:List UInt8} (h:cur≠[]):cH cur []= [cur]:=by simp [cH,h]
theorem xO {b:UInt8} {r:List UInt8} (h:m7 b=true):cH [] (b::r)=cH [] r:=by simp [cH,h]
theorem HD {cur:List UInt8} {b:UInt8} {r:List UInt8} (h:m7 b=true) (a:cur≠[]):cH cur (b::r)=cur::cH [] r:=by simp [cH,h,a]
theorem Bx {cur:List UInt8} {b:UInt8} {r:List UInt8} (h:m7 b=false):cH cur (b::r)=cH (cur++ [b]) r:=by simp [cH,h]
theorem Bw:∀ (l cur x:List UInt8),x∈cH cur l→x≠[]∧x.length≤cur.length+l.length:=by
 intro l
 induction l with
 | nil=>
   intro cur x h
   unfold cH at h
   split at h
   · cases h
   · simp only [j4] at h; subst h; exact ⟨by assumption,by simp⟩
 | cons b r a=>
   intro cur x h
   unfold cH at h
   split at h
   · split at h
     · have :=a [] x h; simp only [cT,ga] at*; exact ⟨this.1,ab⟩
     · rcases gr.1 h with rfl | h
       · exact ⟨by assumption,by simp⟩
       · have :=a [] x h; simp only [cT,ga] at*; exact ⟨this.1,ab⟩
   · have :=a _ x h; simp only [cT,bL,ga] at*; exact ⟨this.1,ab⟩
theorem uE:∀ (l cur:List UInt8),(cH cur l).length≤l.length+1:=by
 intro l
 induction l with
 | nil=>intro cur; unfold cH; split <;> simp
 | cons b r a=>
   intro cur
   unfold cH
   split
   · split
     · have :=a []; simp only [cT]; omega
     · have :=a []; simp only [cT]; omega
   · have :=a (cur++ [b]); simp only [cT]; omega
theorem Bv {cur l:List UInt8} {i:Nat} (a:cur≠[]) (h:l.length≤i∨m7 (l.getD i 0)=true):cH cur (l.drop i)=cur::cH [] (l.drop i):=by
 by_cases hi:i < l.length
 · have q:=h.resolve_left ab
   rw [drop_cons 0 hi,HD q a,xO q]
 · rw [gV ab,HE a,By]
def kY (l:List UInt8) (i:Nat) (a:Int) (cur:List UInt8):Prop :=(a= -1∧cur= [])∨(∃ k:Nat,a=k∧k < i∧i≤l.length∧cur=(l.take i).drop k)
theorem kY.no {l:List UInt8} {i:Nat} :kY l i (-1) []:= .inl ⟨rfl,rfl⟩
theorem kY.neg {l cur:List UInt8} {i:Nat} {a:Int} (h:kY l i a cur) (q:a < 0):a= -1∧cur= []:=by
 rcases h with h | ⟨k,rfl,_⟩
 · exact h
 · omega
theorem kY.pos {l cur:List UInt8} {i:Nat} {a:Int} (h:kY l i a cur) (q:¬a < 0):(0≤a∧a < i)∧cur=(l.take i).drop a.toNat∧cur≠[]:=by
 rcases h with ⟨rfl,_⟩ | ⟨k,rfl,h1,h2,rfl⟩
 · omega
 · refine ⟨ab,by simp,fun e=> ?_⟩
   have :=congrArg jy e
   simp only [fP,dT,ga] at this
   omega
theorem kY.begin {l:List UInt8} {i:Nat} (hi:i < l.length):kY l (i+1) i [l.getD i 0]:=by
 refine .inr ⟨i,aa,ab,ab,?_⟩
 rw [vt 0 (cB i) hi,gV (by rw [dT]; omega),pY]
theorem kY.more {l cur:List UInt8} {i:Nat} {a:Int} (h:kY l i a cur) (q:¬a < 0) (hi:i < l.length):kY l (i+1) a (cur++ [l.getD i 0]):=by
 rcases h with ⟨rfl,_⟩ | ⟨k,rfl,h1,h2,rfl⟩
 · omega
 · exact .inr ⟨k,aa,ab,ab,(vt 0 ab hi).symm⟩
def jK (l:List UInt8):List UInt8:=if 0 < l.length∧l.getD (l.length - 1) 0=13 then l.take (l.length - 1) else l
theorem GQ (l:List UInt8):(jK l).length≤l.length:=by unfold jK; split <;> simp
theorem GR {l:List UInt8} (h:0 < l.length) (h1:l.getD (l.length - 1) 0=13):jK l=l.take (l.length - 1):=if_pos ⟨h,h1⟩
theorem A9 {l:List UInt8} (h:¬(0 < l.length∧l.getD (l.length - 1) 0=13)):jK l=l:=if_neg h
theorem IV {l:List UInt8} (h:0 < l.length):l.drop (l.length - 1)= [l.getD (l.length - 1) 0]:=by
 rw [drop_cons 0 ab,gV ab]
def fX:List UInt8→List UInt8→List (List UInt8)
 | cur,[]=>if cur= [] then [] else [jK cur]
 | cur,b::r=>if b=10 then jK cur::fX [] r else fX (cur++ [b]) r
theorem Cs:fX [] []= []:=by simp [fX]
theorem I6 {cur:List UInt8} (h:cur≠[]):fX cur []= [jK cur]:=by simp [fX,h]
theorem I7 (cur r:List UInt8):fX cur (10::r)=jK cur::fX [] r:=by simp [fX]
theorem Cr {cur:List UInt8} {b:UInt8} {r:List UInt8} (h:b≠10):fX cur (b::r)=fX (cur++ [b]) r:=by simp [fX,h]
theorem Cq:∀ (l cur:List UInt8),(fX cur l).length≤l.length+1:=by
 intro l
 induction l with
 | nil=>intro cur; unfold fX; split <;> simp
 | cons b r a=>
   intro cur
   unfold fX
   split
   · have :=a []; simp only [cT]; omega
   · have :=a (cur++ [b]); simp only [cT]; omega
theorem Vk (l:List UInt8):(fX [] l).length≤l.length:=by
 cases l with
 | nil=>simp [fX]
 | cons b r=>
   unfold fX
   split
   · have :=Cq r []
     have h2:∀ m:List UInt8,(fX [] m).length≤m.length:=by
      intro m
      induction m with
      | nil=>simp [fX]
      | cons c m a=>
        unfold fX
        split
        · simp only [cT]; omega
        · have :=Cq m ([]++ [c]); simp only [cT]; omega
     have :=h2 r
     simp only [cT]; omega
   · have :=Cq r ([]++ [b]); simp only [cT]; omega
theorem Vl:∀ (l cur x:List UInt8),x∈fX cur l→x.length≤cur.length+l.length:=by
 intro l
 induction l with
 | nil=>
   intro cur x h
   unfold fX at h
   split at h
   · cases h
   · simp only [j4] at h; subst h; have :=GQ cur; simp only [ga]; omega
 | cons b r a=>
   intro cur x h
   unfold fX at h
   split at h
   · rcases gr.1 h with rfl | h
     · have :=GQ cur; omega
     · have :=a [] x h; simp only [cT,ga] at*; omega
   · have :=a _ x h; simp only [cT,bL,ga] at*; omega
def e8 (c:UInt8) (l:List UInt8):Int:=if l.idxOf c < l.length then (l.idxOf c:Int) else -1
theorem IK {c:UInt8} {l:List UInt8} (h:e8 c l < 0):¬l.idxOf c < l.length:=fun h1=>by unfold e8 at h; rw [if_pos h1] at h; omega
theorem rr {c:UInt8} {l:List UInt8} (h:¬e8 c l < 0):e8 c l=l.idxOf c∧l.idxOf c < l.length:=by
 unfold e8 at*
 by_cases h1:l.idxOf c < l.length
 · exact ⟨if_pos h1,h1⟩
 · rw [if_neg h1] at h; omega
def mo (c:UInt8) (l:List UInt8):List UInt8:=if e8 c l < 0 then l else l.take (l.idxOf c)
def nC (c:UInt8) (l:List UInt8):List UInt8:=if e8 c l < 0 then [] else l.drop (l.idxOf c+1)
theorem Ro (c:UInt8) (l:List UInt8):(mo c l).length≤l.length:=by unfold mo; split <;> simp; omega
theorem Rs {c:UInt8} {l:List UInt8} (h:l≠[]):(nC c l).length < l.length:=by
 have :=lx.2 h
 unfold nC; split <;> simp <;> omega
theorem Vj:∀ (l cur:List UInt8),l.idxOf 10 < l.length→fX cur l=jK (cur++l.take (l.idxOf 10))::fX [] (l.drop<|l.idxOf 10 +1):=by
 intro l
 induction l with
 | nil=>intro cur h; simp at h
 | cons b r q=>
   intro cur h
   by_cases a:b=10
   · subst a
     rw [Eh,I7,oc,ek,gW,List.drop_one,List.tail_cons]
   · have i:(b::r).idxOf 10=r.idxOf 10 +1:=by rw [wa,beq_eq_false_iff_ne.2 a]; rfl
     rw [i] at h ⊢
     simp only [cT] at h
     rw [Cr a,q _ ab,p4,vX,dF]
     rfl
theorem Vm:∀ (l cur:List UInt8),¬l.idxOf 10 < l.length→cur++l≠[]→fX cur l= [jK (cur++l)]:=by
 intro l
 induction l with
 | nil=>intro cur _ h; rw [ek] at h ⊢; exact I6 h
 | cons b r q=>
   intro cur h h1
   by_cases a:b=10
   · subst a; rw [Eh] at h; simp at h
   · have i:(b::r).idxOf 10=r.idxOf 10 +1:=by rw [wa,beq_eq_false_iff_ne.2 a]; rfl
     rw [i] at h
     simp only [cT] at h
     rw [Cr a,q _ ab (by simp),dF]
     rfl
theorem Vn {l:List UInt8} (h:l≠[]):fX [] l=jK (mo 10 l)::fX [] (nC 10 l):=by
 by_cases h1:e8 10 l < 0
 · rw [Vm l [] (IK h1) (by simpa using h)]
   unfold mo nC
   rw [if_pos h1,if_pos h1,Cs,pY]
 · rw [Vj l [] (rr h1).2]
   unfold mo nC
   rw [if_neg h1,if_neg h1,pY]
def gy (s p:List UInt8):List UInt8:=if s.take p.length=p then s.drop p.length else s
def qz:List UInt8:= [239,187,191]
def td (s:List UInt8):Bool:=decide (s.take 3=qz)
def kU (s:List UInt8):List UInt8:=gy s qz
theorem y8 (s:List UInt8):(kU s).length≤s.length:=by unfold kU gy; split <;> simp
theorem YH {s:List UInt8} (h:td s=true):kU s=s.drop 3:=if_pos<|of_decide_eq_true h
theorem YG {s:List UInt8} (h:td s=false):kU s=s:=if_neg<|of_decide_eq_false h
theorem Vs {s:List UInt8} (h:td s=true):3≤s.length:=by
 have h1:=congrArg jy<|of_decide_eq_true h
 rw [dT] at h1
 have :qz.length=3:=rfl
 omega
theorem yr (s:List UInt8):td s=decide (3≤s.length∧(s.getD 0 0).toNat=239∧(s.getD 1 0).toNat=187∧(s.getD 2 0).toNat=191):=by
 unfold td
 refine decide_eq_decide.2 ?_
 match s with
 | []=>simp [qz]
 | [a]=>simp [qz]
 | [a,b]=>simp [qz]
 | a::b::c::r=>
   have h:∀ (x:UInt8) (n:Nat),n < 256→(x=j6 n↔x.toNat=n):=fun x n hn=>by
    constructor
    · rintro rfl; simp; omega
    · intro h; apply kX.1; simp; omega
   have h1:=h a 239 az
   have h2:=h b 187 az
   have h3:=h c 191 az
   simp only [qz,p4,oc,List.cons.injEq,and_true,cT,lO,List.getD_cons_succ]
   constructor
   · rintro ⟨i,q,A⟩; exact ⟨ab,h1.1 i,h2.1 q,h3.1 A⟩
   · rintro ⟨_,i,q,A⟩; exact ⟨h1.2 i,h2.2 q,h3.2 A⟩
def bJ (t:List UInt8):List (List UInt8):=fX []<|kU t
theorem nL (t:List UInt8):(bJ t).length≤t.length:=gd (Vk _)<|y8 t
theorem Cp {t x:List UInt8} (h:x∈bJ t):x.length≤t.length:=by
 have :=Vl _ _ _ h
 have :=y8 t
 simp only [ga] at*; omega
def vm (f:List UInt8):Bool:=decide ((f.getD 0 0).toNat=35)
def nK (f:List (List UInt8)):List (List UInt8):=f.takeWhile fun x=> !vm x
def lg (l:List UInt8) (n:Nat):List (Nat×List (List UInt8)):=if nK (cH [] l)= [] then [] else [(n,nK (cH [] l))]
def ll (n:Nat):List (List UInt8)→List (Nat×List (List UInt8))
 | []=> []
 | l::r=>lg l n++ll (n+1) r
def bQ (t:List UInt8):List (Nat×List (List UInt8)):=ll 1<|bJ t
theorem nb (l:List UInt8):∀ (i:List (List UInt8)) (n:Nat),ll n (i++ [l])=ll n i++lg l (n+i.length):=by
 intro i
 induction i with
 | nil=>intro n; simp [ll]
 | cons a i q=>intro n; rw [Ee,ll,q,ll,cT,dF,show n+1 +i.length=n+(i.length+1) from by omega]
theorem C4:∀ (i:List (List UInt8)) (n:Nat),(ll n i).length≤i.length:=by
 intro i
 induction i with
 | nil=>intro n; simp [ll]
 | cons a i q=>
   intro n
   have :=q<|n+1
   unfold ll lg
   rw [bL]
   split <;> simp only [ga,cT] <;> omega
theorem yG (t:List UInt8):(bQ t).length≤t.length:=gd (C4 _ _)<|nL t
theorem yj {f:List (List UInt8)} :∀ {j:Nat},j≤f.length→(∀ i,i < j→vm (f.getD i [])=false)→(j=f.length∨vm (f.getD j [])=true)→nK f=f.take j:=by
 induction f with
 | nil=>intro j A _ _; rw [Nk]; rfl
 | cons a f C=>
   intro j A h1 h2
   cases j with
   | zero=>
     rcases h2 with h2 | h2
     · simp at h2
     · simp only [lO] at h2
       simp [nK,h2]
   | succ j=>
     have q:=h1 0 ab
     simp only [lO] at q
     have :=C (j:=j) (by simpa using A) (fun i hi=>by simpa using h1 (i+1) ab)<|by simpa using h2
     unfold nK at*
     rw [List.takeWhile_cons,q]
     simp only [Bool.not_false,if_true,p4]
     rw [this]
theorem UY {f:List (List UInt8)} {x:List UInt8} (h:x∈nK f):x∈f:=(Nj _).subset h
theorem UX (f:List (List UInt8)):(nK f).length≤f.length:=(Nj _).length_le
theorem Xa:∀ (i:List (List UInt8)) (n:Nat) (r:Nat×List (List UInt8)),r∈ll n i→n≤r.1∧r.1 < n+i.length∧r.2≠[]∧∃ l∈i,r.2=nK (cH [] l):=by
 intro i
 induction i with
 | nil=>intro n r h; cases h
 | cons a i A=>
   intro n r h
   rw [ll] at h
   rcases jz.1 h with h | h
   · unfold lg at h
     split at h
     · cases h
     · simp only [j4] at h; subst h
       exact ⟨by simp,by simp,by assumption,a,by simp,aa⟩
   · obtain ⟨h1,h2,h3,l,q,h4⟩:=A _ _ h
     exact ⟨ab,by simp only [cT]; omega,h3,l,by simp [q],h4⟩
theorem yH {t:List UInt8} {r:Nat×List (List UInt8)} (h:r∈bQ t):1≤r.1∧r.1≤t.length∧r.2≠[]∧r.2.length≤t.length+1∧∀ x∈r.2,x≠[]∧x.length≤t.length:=by
 obtain ⟨h1,h2,h3,l,i,h4⟩:=Xa _ _ _ h
 have A:=nL t
 have q:=Cp i
 refine ⟨h1,ab,h3,?_,fun x a=> ?_⟩
 · rw [h4]; have :=UX (cH [] l); have :=uE l []; omega
 · rw [h4] at a
   have :=Bw _ _ _<|UY a
   simp only [ga] at this
   exact ⟨this.1,ab⟩
def qk (b:UInt8):Bool:=decide (48≤b.toNat∧b.toNat≤57)
def eO (s:List UInt8):Nat:=s.foldl (fun n b=>n*10 +(b.toNat - 48)) 0
theorem m3 {s:List UInt8} {i:Nat} (h:i < s.length):eO (s.take<|i+1)=eO (s.take i)*10 +((s.getD i 0).toNat - 48):=by
 rw [fH s i 0 h]; unfold eO; rw [Eg]; rfl
theorem Tj:∀ (s:List UInt8) (n:Nat),n≤s.foldl (fun n b=>n*10 +(b.toNat - 48)) n:=by
 intro s
 induction s with
 | nil=>intro n; exact cB _
 | cons b s a=>intro n; refine gd ?_ (a _); show n≤n*10 +(b.toNat - 48); omega
theorem RI (s:List UInt8) (i:Nat):eO (s.take i)≤eO s:=by
 have :eO s=(s.drop i).foldl (fun n b=>n*10 +(b.toNat - 48)) (eO<|s.take i):=by
  unfold eO; rw [← Eg,List.take_append_drop]
 rw [this]; exact Tj _ _
def qu (s:List UInt8):Prop :=s= []∨(1 < s.length∧(s.getD 0 0).toNat=48)
def A5 (s:List UInt8):Prop := ∀ i,i < s.length→qk (s.getD i 0)=true
open Classical in
noncomputable def eb (s:List UInt8) (most:Int):Nat×Int:=if qu s∨¬A5 s∨most < eO s then (0,13) else (eO s,0)
theorem yx {s:List UInt8} {most:Int} (h:qu s):eb s most=(0,13):=if_pos<|.inl h
theorem yw {s:List UInt8} {most:Int} {i:Nat} (h:i < s.length) (h1:qk (s.getD i 0)=false):eb s most=(0,13):=if_pos<|.inr<|.inl fun hd=>by rw [hd i h] at h1; cases h1
theorem VQ {s:List UInt8} {most:Int} (h:most < eO s):eb s most=(0,13):=if_pos<|.inr<|.inr h
theorem u7 {s:List UInt8} {most:Int} (i:Nat) (h:most < eO (s.take i)):eb s most=(0,13):=VQ<|by have :=RI s i; omega
theorem Cy {s:List UInt8} {most:Int} (h:¬qu s) (h1:A5 s) (h2:¬most < eO s):eb s most=(eO s,0):=if_neg<|by rintro (a | a | a) <;> first | exact h a | exact a h1 | exact h2 a
theorem JA (s:List UInt8) (most:Int):(eb s most=(0,13))∨(eb s most=(eO s,0)∧(eO s:Int)≤most):=by
 unfold eb
 split
 · exact .inl aa
 · rename_i h; exact .inr ⟨rfl,by have :¬most < eO s:=fun a=>h (.inr<|.inr a); omega⟩
theorem qA (s:List UInt8) (most:Int):(eb s most).2=0→((eb s most).1:Int)≤most:=by
 rcases JA s most with h | ⟨h,h1⟩ <;> rw [h]
 · intro h; cases h
 · intro _; exact h1
theorem A4 {b:UInt8} (h:qk b=true):48≤b.toNat∧b.toNat≤57:=of_decide_eq_true h
theorem xx {b:UInt8} (h:¬(48≤b.toNat∧b.toNat≤57)):qk b=false :=decide_eq_false h
theorem IL {x:UInt8} :∀ {l:List UInt8} {i:Nat},i < l.length→(∀ j,j < i→l.getD j 0≠x)→l.getD i 0=x→e8 x l=(i:Nat):=by
 have key:∀ (l:List UInt8) (i:Nat),i < l.length→(∀ j,j < i→l.getD j 0≠x)→l.getD i 0=x→l.idxOf x=i:=by
  intro l
  induction l with
  | nil=>intro i h; simp at h
  | cons b l q=>
    intro i h h1 h2
    cases i with
    | zero=>have a:b=x:=h2
            subst a; simp
    | succ i=>
      have a:b≠x:=h1 0<|Nat.succ_pos _
      rw [wa,show (b==x)=false from by simpa using a]
      have :=q i (by simpa using h) (fun j A=>h1 (j+1) ab) h2
      rw [this]; rfl
 intro l i h h1 h2
 unfold e8
 rw [key l i h h1 h2,if_pos h]
theorem IM {x:UInt8} {l:List UInt8} (h:∀ j,j < l.length→l.getD j 0≠x):e8 x l= -1:=by
 unfold e8
 rw [if_neg]
 intro h1
 have hm:=List.idxOf_lt_length_iff.1 h1
 obtain ⟨j,a,e⟩:=zE.1 hm
 exact h j a<|by rw [cV,cD a]; exact e
end Go.Hb
section
namespace Go.Hb
theorem pM {h:Array Obj} {a:Option Addr} {l:List UInt8} {i:Nat} (q:aJ h a (U8 l)) (hi:i < l.length):Hb.aQ h (bk a) (fo a+i*1)=some (.int .u8 (l.getD i 0).toNat):=by
 refine q.gL ?_
 unfold U8
 rw [im,cD hi,cV,cD hi]; rfl
theorem YD {h:Array Obj} {a:Option Addr} {l:List UInt8} (i:aJ h a (U8 l)) (n:Nat):aJ h a (U8<|l.take n):=by
 have :=i.take n
 unfold U8 at*
 rwa [List.map_take]
theorem pN {l:List UInt8} (h:0 < l.length):U8 l≠[]:=by
 intro e
 have :=congrArg jy e
 rw [wH,ga] at this
 omega
theorem qD {w:World} {B e:Nat} {v:Value} {l:List UInt8} {x:UInt8} (h:w.ownsRow B e 1 v (l.length+1) (U8 l++ [.int .u8 x.toNat])):w.ownsRow B e 1 v (l++ [x]).length (U8<|l++ [x]):=by
 rw [bL,wz]; exact h
theorem mB {w:World} {B e:Nat} {v:Value} {l:List (List UInt8)} {x:List UInt8} (h:w.ownsRow B e 1 v (l.length+1) (l.map str++ [str x])):w.ownsRow B e 1 v (l++ [x]).length ((l++ [x]).map str):=by
 rw [bL,iq]; exact h
abbrev Rw:Type :=Nat×List (List UInt8)
def yK (q:Nat×Value):List Value:= [.int .i64 q.1,q.2]
def kF (l:List (Nat×Value)):List Value:=l.flatMap yK
theorem C9 (a b:List (Nat×Value)):kF (a++b)=kF a++kF b:=by simp [kF]
theorem Kt (l:List (Nat×Value)):(kF l).length=l.length*2:=oz (f:=yK) (m:=2) (fun _=>rfl) l
theorem lK {l:List (Nat×Value)} (h:0 < l.length):kF l≠[]:=Bu (f:=yK) (m:=2) (fun _=>rfl) az h
theorem lL {h:Array Obj} {ad:Option Addr} {vs:List (Nat×Value)} {i:Nat} {q:Nat×Value} (a:aJ h ad (kF vs)) (A:vs[i]? =some q):∀ j,j < 2→Hb.aQ h (bk ad) (fo ad+i*2 +j)= [jk .i64 q.1,q.2][j]? :=
 fw (f:=yK) (m:=2) (fun _=>rfl) a A
def Tg (w:World) (B e n:Nat) (v:Value) (xs:List Value):Prop :=
 ∃ a cp,v= .slice a n cp∧n≤cp∧(xs= []∨∃ b cur z,a=some ⟨b,0,none⟩∧B≤b∧w.heap[b]? =some (.cells cur e z)∧∀ (j:Nat) u,xs[j]? =some u→cur[j]? =some u)
theorem Tg.jN {w:World} {B e size n:Nat} {v:Value} {xs:List Value} (h:w.ownsRow B e size v n xs):Tg w B e n v xs:=by
 have a:=h
 rcases h.2 with ⟨rfl,rfl⟩ | ⟨g,cap,cur,rfl,i,q,_,_,_,A⟩
 · exact ⟨none,0,aa,cB _,.inl<|fS<|by simpa using h.1⟩
 · refine ⟨_,cap,aa,(a8 a).1,.inr ⟨g,cur,_,aa,i,q,fun j u hu=> ?_⟩⟩
   rw [← A,oS] at hu
   split at hu
   · simpa using hu
   · cases hu
theorem Tg.cells {w:World} {B e n:Nat} {v:Value} {xs:List Value} (h:Tg w B e n v xs):∃ a cp,v= .slice a n cp∧aJ w.heap a xs:=by
 obtain ⟨a,cp,rfl,_,h | ⟨b,cur,z,rfl,_,i,q⟩⟩:=h
 · subst h; exact ⟨a,cp,rfl,aJ.nil _ _⟩
 · refine ⟨_,cp,aa,fun _=>rfl,fun j u hu=> ?_⟩
   show Hb.aQ w.heap b (0 +j)=_
   rw [gW,a7 i]; exact q j u hu
theorem Tg.cM {w:World} {B e n cp:Nat} {a:Option Addr} {xs:List Value} (h:Tg w B e n (.slice a n cp) xs):n≤cp∧aJ w.heap a xs:=by
 obtain ⟨E,G,q,i,I⟩:=id h
 obtain ⟨a2,c2,A,C⟩:=h.cells
 cases q; cases A
 exact ⟨i,C⟩
theorem Tg.slice {w:World} {B e n:Nat} {v:Value} {xs:List Value} (h:Tg w B e n v xs):∃ a cp,v= .slice a n cp:=let ⟨a,cp,hv,_⟩:=h; ⟨a,cp,hv⟩
theorem Tg.md {F:Nat→Prop} {w w':World} {B e n:Nat} {v:Value} {xs:List Value} (h:Tg w B e n v xs) (hm:Md F w w') (A:∀ k,F k→∀ cur z,w.heap[k]?≠some (.cells cur e z)):Tg w' B e n v xs:=by
 obtain ⟨a,cp,rfl,q,h | ⟨b,cur,z,rfl,C,i,E⟩⟩:=h
 · exact ⟨a,cp,aa,q,.inl h⟩
 · exact ⟨_,cp,aa,q,.inr ⟨b,cur,z,aa,C,by rw [hm.cz b (cQ.1 i).1 (fun hk=>A b hk cur z i)]; exact i,E⟩⟩
theorem Tg.wk {w w':World} {B e n:Nat} {v:Value} {xs:List Value} (h:Tg w B e n v xs) (hm:Wk w w'):Tg w' B e n v xs:=h.md hm fun _ hk=>hk.elim
theorem Tg.clip {w:World} {B e n k cp i:Nat} {a:Option Addr} {xs:List Value} (h:Tg w B e n (.slice a n cp) xs) (hk:k≤i):Tg w B e k (.slice a k i) (xs.take k):=by
 obtain ⟨I,J,A,_,q⟩:=h
 simp only [mL,true_and] at A
 obtain ⟨rfl,rfl⟩:=A
 refine ⟨a,i,aa,hk,?_⟩
 rcases q with rfl | ⟨b,cur,z,C,E,G,q⟩
 · exact .inl Nk
 · exact .inr ⟨b,cur,z,C,E,G,fun j u hu=>q j u<|by rw [oS] at hu; split at hu; exact hu; cases hu⟩
theorem ij {w:World} {B e i size n:Nat} {v:Value} {xs:List Value} (h:w.ownsRow B e size v n xs) (A:e≠i):∀ k,v.ownBlock=some k→∀ cur z,w.heap[k]?≠some (.cells cur i z):=by
 intro k hk cur z a
 rcases h.2 with ⟨rfl,_⟩ | ⟨g,cap,C,rfl,_,q,_⟩
 · simp [iU] at hk
 · simp only [iU,fQ] at hk
   subst hk
   rw [q] at a
   simp only [fQ,vP] at a
   exact A a.2.1
theorem fu {w:World} {b e i:Nat} {cs:Array Value} {y:Nat×Nat} (h:w.heap[b]? =some (.cells cs e y)) (q:e≠i):∀ k,k=b→∀ cur z,w.heap[k]?≠some (.cells cur i z):=by
 rintro k rfl cur z a
 rw [h] at a
 simp only [fQ,vP] at a
 exact q a.2.1
def gZ (w:World) (B e:Nat) (vs:List (Nat×Value)) (rs:List Rw):Prop :=vs.length=rs.length∧∀ (i:Nat) q r,vs[i]? =some q→rs[i]? =some r→q.1=r.1∧Tg w B e r.2.length q.2 (r.2.map str)
theorem gZ.nil (w:World) (B e:Nat):gZ w B e [] []:=⟨rfl,fun i q r a=>by simp at a⟩
theorem gZ.md {F:Nat→Prop} {w w':World} {B e:Nat} {vs:List (Nat×Value)} {rs:List Rw} (h:gZ w B e vs rs) (hm:Md F w w') (a:∀ k,F k→∀ cur z,w.heap[k]?≠some (.cells cur e z)):gZ w' B e vs rs:=
 ⟨h.1,fun i q r h1 h2=>⟨(h.2 i q r h1 h2).1,(h.2 i q r h1 h2).2.md hm a⟩⟩
theorem gZ.wk {w w':World} {B e:Nat} {vs:List (Nat×Value)} {rs:List Rw} (h:gZ w B e vs rs) (hm:Wk w w'):gZ w' B e vs rs:=h.md hm fun _ hk=>hk.elim
theorem gZ.snoc {w:World} {B e n:Nat} {vs:List (Nat×Value)} {rs:List Rw} {v:Value} {r:List (List UInt8)} (a:gZ w B e vs rs) (A:Tg w B e r.length v (r.map str)):gZ w B e (vs++ [(n,v)]) (rs++ [(n,r)]):=by
 refine ⟨by rw [bL,bL,a.1]; rfl,fun i C E h1 h2=> ?_⟩
 have q:=a.1
 by_cases hi:i < vs.length
 · rw [me hi] at h1
   rw [me ab] at h2
   exact a.2 i C E h1 h2
 · rw [mN ab] at h1
   rw [mN ab,← q] at h2
   cases hj:i - vs.length with
   | zero=>rw [hj] at h1 h2; cases h1; cases h2; exact ⟨rfl,A⟩
   | succ j=>rw [hj] at h1; simp at h1
theorem Tg.mono {w:World} {B B' e n:Nat} {v:Value} {xs:List Value} (h:Tg w B e n v xs) (i:B'≤B):Tg w B' e n v xs:=by
 obtain ⟨a,cp,A,q,C⟩:=h
 exact ⟨a,cp,A,q,C.imp id fun ⟨b,cur,z,h1,h2,h3⟩=>⟨b,cur,z,h1,gd i h2,h3⟩⟩
theorem gZ.mono {w:World} {B B' e:Nat} {vs:List (Nat×Value)} {rs:List Rw} (h:gZ w B e vs rs) (a:B'≤B):gZ w B' e vs rs:=⟨h.1,fun i q r h1 h2=>⟨(h.2 i q r h1 h2).1,(h.2 i q r h1 h2).2.mono a⟩⟩
end Go.Hb
end
section
set_option linter.unusedSectionVars false
namespace Go.Hb
open Go.Sort (swp insInner insOuter insertionSort siftDown heapBuild heapPop heapSort scanUp scanDown partLoop partEqLoop partition partitionEqual scanSorted shiftDown shiftUp partialIns partialInsertionSort reverseLoop reverseRange choosePivot breakPatterns breakStep pdq Hint)
def LE {α:Type} (f:α→Value) (d:Array α):List Value:=d.toList.map f
section
variable {α:Type} [Inhabited α] {f:α→Value}
theorem uV (d:Array α):(LE f d).length=d.size:=by simp [LE]
theorem cx {d:Array α} (h:0 < d.size):LE f d≠[]:=by
 intro e; have :=congrArg jy e; rw [uV,ga] at this; omega
theorem IX {d:Array α} {i:Nat} (h:i < d.size):(LE f d)[i]? =some (f d[i]!):=by
 unfold LE
 rw [im,DK,zi h,getElem!_pos d i h]; rfl
theorem dI {h:Array Obj} {a:Option Addr} {d:Array α} {i:Nat} (q:aJ h a (LE f d)) (hi:i < d.size):Hb.aQ h (bk a) (fo a+i*1)=some (f d[i]!):=q.gL<|IX hi
theorem U6 (d:Array α) (i:Nat) (v:α):(LE f d).set i (f v)=LE f (d.setIfInBounds i v):=by
 unfold LE; rw [DM,List.map_set]
theorem fM {w:World} {B e n:Nat} {v:Value} {d:Array α} (h:w.ownsRow B e 1 v n (LE f d)):d.size=n:=by
 have :=h.1; rw [uV] at this; omega
end
section
variable {P:Program} {N:Fm} {σ:Nat→Value} {w:World} {ty:TypeId} {pos :String} {af:Array Edge} {g:Option (Nat×Bool)} {x y:Operand} {K:(Nat→Value)→World→Prop}
theorem gx {α:Type} [Inhabited α] {f:α→Value} {t B e n cap:Nat} {a:Option Addr} {d:Array α} {u:α} (i:Nat) (q:w.ownsRow B e 1 (.slice a n cap) n (LE f d)) (E:eo P t=some 1) (A:ev N σ x= .pointer (some ⟨bk a,fo a+i*1,none⟩)) (C:ev N σ y=f u) (h1:(f u).oneCell'=true)
 (G:i < n) (k:∀ w',Md (fun k=>(bR a n cap).ownBlock=some k) w w'→w'.ownsRow B e 1 (.slice a n cap) n (LE f<|d.setIfInBounds i u)→K σ w'):dR P N ⟨none,.store t x y,ty,pos,af,g⟩ σ w K:=
 tt q E A C h1 (j:=i) ab ab fun w' h1 h2=>k w' h1<|by rw [← U6]; exact h2
end
section
variable {α:Type} [Inhabited α] {lt:α→α→Bool} {d:Array α}
theorem UD {a j:Nat} (h:a < j) (h1:lt d[j]! d[j - 1]! =true):insInner lt a j d=insInner lt a (j - 1) (swp d j<|j - 1):=by
 cases j with
 | zero=>omega
 | succ j=>simp only [r8] at*; rw [insInner,if_pos (by simp [h1]; omega)]
theorem UF {a j:Nat} (h:¬a < j):insInner lt a j d=d:=by
 cases j with
 | zero=>rfl
 | succ j=>rw [insInner,if_neg (by simp; omega)]
theorem UE {a j:Nat} (h1:lt d[j]! d[j - 1]! =false):insInner lt a j d=d:=by
 cases j with
 | zero=>rfl
 | succ j=>simp only [r8] at*; rw [insInner,if_neg (by simp [h1])]
theorem II {a b i:Nat} (h:i < b):insOuter lt a b i d=insOuter lt a b (i+1) (insInner lt a i d):=by rw [insOuter,if_pos h]
theorem UC {a b i:Nat} (h:¬i < b):insOuter lt a b i d=d:=by rw [insOuter,if_neg h]
theorem XD {hi first r:Nat} (h:¬2 *r+1 < hi):siftDown lt hi first r d=d:=by rw [siftDown,dif_pos ab]
theorem XE {hi first r:Nat} (h:2 *r+1 +1 < hi) (h1:lt d[first+(2 *r+1)]! d[first+(2 *r+1)+1]! =true):
 siftDown lt hi first r d=if (!lt d[first+r]! d[first+(2 *r+2)]!)=true then d else siftDown lt hi first (2 *r+2) (swp d (first+r)<|first+(2 *r+2)):=by
 rw [siftDown,dif_neg ab,if_pos (by simp [h1]; omega),dif_pos ab]
theorem KC {hi first r:Nat} (a:2 *r+1 < hi) (h:¬2 *r+1 +1 < hi∨lt d[first+(2 *r+1)]! d[first+(2 *r+1)+1]! =false):
 siftDown lt hi first r d=if (!lt d[first+r]! d[first+(2 *r+1)]!)=true then d else siftDown lt hi first (2 *r+1) (swp d (first+r)<|first+(2 *r+1)):=by
 rw [siftDown,dif_neg ab,if_neg (by rcases h with h | h <;> simp [h] <;> omega)]
theorem TZ {hi first k:Nat} (h:0 < k):heapBuild lt hi first k d=heapBuild lt hi first (k - 1) (siftDown lt hi first (k - 1) d):=by
 cases k with
 | zero=>omega
 | succ k=>rfl
theorem T0 {hi first :Nat} :heapBuild lt hi first 0 d=d:=rfl
theorem Uo {first k:Nat} (h:0 < k):heapPop lt first k d=heapPop lt first (k - 1) (siftDown lt (k - 1) first 0 (swp d first (first+(k - 1)))):=by
 cases k with
 | zero=>omega
 | succ k=>rfl
theorem Dw {p:α→Bool} {i j:Nat} (h:i≤j) (h1:p d[i]! =true):scanUp p d j i=scanUp p d j (i+1):=by
 rw [scanUp]; simp [h,h1]
theorem tz {p:α→Bool} {i j:Nat} (h:¬i≤j∨p d[i]! =false):scanUp p d j i=i:=by
 rw [scanUp]; rcases h with h | h <;> simp [h]
theorem A6 {p:α→Bool} {i j:Nat} (a:0 < j) (h:i≤j) (h1:p d[j]! =true):scanDown p d i j=scanDown p d i (j - 1):=by
 cases j with
 | zero=>omega
 | succ j=>rw [scanDown]; simp [h,h1]
theorem sO {p:α→Bool} {i j:Nat} (h:¬i≤j∨p d[j]! =false):scanDown p d i j=j:=by
 cases j with
 | zero=>rfl
 | succ j=>rw [scanDown]; rcases h with h | h <;> simp [h]
theorem XT {b i:Nat} (h:i < b) (h1:lt d[i]! d[i - 1]! =false):scanSorted lt d b i=scanSorted lt d b (i+1):=by
 rw [scanSorted]; simp [h,h1]
theorem KR {b i:Nat} (h:¬i < b∨lt d[i]! d[i - 1]! =true):scanSorted lt d b i=i:=by
 rw [scanSorted]; rcases h with h | h <;> simp [h]
theorem Xq {j:Nat} (h:0 < j) (h1:lt d[j]! d[j - 1]! =true):shiftDown lt j d=shiftDown lt (j - 1) (swp d j<|j - 1):=by
 cases j with
 | zero=>omega
 | succ j=>simp only [r8] at*; rw [shiftDown]; simp [h1]
theorem Ku {j:Nat} (h:¬0 < j∨lt d[j]! d[j - 1]! =false):shiftDown lt j d=d:=by
 cases j with
 | zero=>rfl
 | succ j=>simp only [r8] at*; rw [shiftDown]; rcases h with h | h <;> first | omega | simp [h]
theorem Ya {b j:Nat} (h:j < b) (h1:lt d[j]! d[j - 1]! =true):shiftUp lt b j d=shiftUp lt b (j+1) (swp d j<|j - 1):=by
 rw [shiftUp]; simp [h,h1]
theorem Lb {b j:Nat} (h:¬j < b∨lt d[j]! d[j - 1]! =false):shiftUp lt b j d=d:=by
 rw [shiftUp]; rcases h with h | h <;> simp [h]
theorem WR {i j:Nat} (h:i < j):reverseLoop i j d=reverseLoop (i+1) (j - 1) (swp d i j):=by rw [reverseLoop,if_pos h]
theorem WS {i j:Nat} (h:¬i < j):reverseLoop i j d=d:=by rw [reverseLoop,if_neg h]
theorem JS {a i j i2 q:Nat} (h1:scanUp (fun x=>lt x d[a]!) d j i=i2) (h2:scanDown (fun x=> !lt x d[a]!) d i2 j=q) (hi:i≤i2) (A:q≤j):
 partLoop lt a i j d=if i2 > q then (q,d) else if (q - 1)+1 - (i2+1) < j+1 - i then partLoop lt a (i2+1) (q - 1) (swp d i2 q) else (q,d):=by
 rw [partLoop]; simp only [h1,h2]; split <;> first | rfl | (split <;> rfl)
theorem JL {a i j i2 q:Nat} (h1:scanUp (fun x=> !lt d[a]! x) d j i=i2) (h2:scanDown (fun x=>lt d[a]! x) d i2 j=q):
 partEqLoop lt a i j d=if i2 > q then (i2,d) else if (q - 1)+1 - (i2+1) < j+1 - i then partEqLoop lt a (i2+1) (q - 1) (swp d i2 q) else (i2,d):=by
 rw [partEqLoop]; simp only [h1,h2]; split <;> first | rfl | (split <;> rfl)
end
def ca (x y:Nat):Bool:=decide (x < y)
theorem uW:Go.Sort.SWO ca:=⟨fun x=>by simp [ca],fun x y z=>by simp only [ca,decide_eq_true_eq]; omega,fun x y z=>by simp only [ca,decide_eq_false_iff_not]; omega⟩
def bg (n:Nat):Value:= .int .u16 n
section
variable {P:Program} {N:Fm} {σ:Nat→Value} {w:World} {dst:Option Nat} {ty:TypeId} {pos :String} {af:Array Edge} {g:Option (Nat×Bool)} {x y:Operand}
theorem Ab {t C:TypeId} {k:IntKind} {a b v:Int} (q:ev N σ x= .int k a) (A:ev N σ y= .int k b) (i:k.wrap (gq k.bits a ^^^ gq k.bits b).toNat=v):
 (execOp (ev N σ) ⟨dst,.binOp .xor t x y C,ty,pos,af,g⟩).run P w= .ok (.value<|.int k v) w:=by
 subst i; simp [execOp,q,A,eqGuard,binOp,vR]
end
theorem LB (x:Int):0≤eK.wrap x∧eK.wrap x < 18446744073709551616:=by
 have h:eK.wrap x=x % 18446744073709551616:=by
  simp [IntKind.wrap,IntKind.bits,IntKind.signed]
 rw [h]; omega
theorem N4 (r:Int) (m:Nat) (hm:0 < m∧m≤1099511627776):∃ o:Nat,o≤m - 1∧eK.wrap (gq eK.bits r &&& gq eK.bits ((m:Int) - 1)).toNat=(o:Int):=by
 refine ⟨(gq eK.bits r &&& gq eK.bits ((m:Int) - 1)).toNat,?_,?_⟩
 · rw [Mj]
   refine gd Nat.and_le_right ?_
   have h1:(m:Int) - 1=((m - 1:Nat):Int):=ab
   rw [h1,pU]
   have h2:(eK.bits:Nat)=64:=rfl
   rw [h2]
   omega
 · exact oN (by have :=(gq eK.bits r &&& gq eK.bits ((m:Int) - 1)).isLt; have h2:(eK.bits:Nat)=64:=aa; rw [h2] at this ⊢; omega)
def kQ (n:Nat):Nat:=if n=0 then 0 else Nat.log2 n+1
theorem I1:∀ n:Fin 256,n.val≠0→n.val < 2 ^ kQ n.val∧2 ^ kQ n.val≤2 *n.val∧kQ n.val≤8:=by decide+kernel
theorem yo {n:Nat} (h:n < 256):kQ n≤8:=by
 rcases Nat.eq_zero_or_pos n with rfl | a
 · decide
 · exact (I1 ⟨n,h⟩<|by simp; omega).2.2
theorem Va {n:Nat} (h:n < 256) (a:0 < n):n < 2 ^ kQ n∧2 ^ kQ n≤2 *n:=by
 have :=I1 ⟨n,h⟩<|by simp; omega
 exact ⟨this.1,this.2.1⟩
end Go.Hb
end
namespace Go.Hb
def iD:List Nat→List Nat
 | []=> []
 | [x]=> [x]
 | x::y::l=>if x=y then iD (y::l) else x::iD (y::l)
theorem RH (x y:Nat):∀ l:List Nat,iD (l++ [x,y])=if x=y then iD (l++ [x]) else iD (l++ [x])++ [y]:=by
 intro l
 induction l with
 | nil=>by_cases h:x=y <;> simp [iD,h]
 | cons a l i=>
   cases l with
   | nil=>by_cases h:a=x <;> by_cases h2:x=y <;> simp_all [iD]
   | cons b l=>
     simp only [Ee] at i ⊢
     rw [iD,i,iD]
     by_cases h:a=b <;> by_cases h2:x=y <;> simp [h,h2]
theorem GF (x:Nat):∀ l:List Nat,x∈iD l↔x∈l:=by
 intro l
 induction l with
 | nil=>simp [iD]
 | cons a l i=>
   cases l with
   | nil=>simp [iD]
   | cons b l=>
     rw [iD]
     by_cases h:a=b
     · subst h; rw [if_pos rfl,i]; simp
     · rw [if_neg h,gr,i,gr (a:=x) (b:=a)]
theorem RG:∀ l:List Nat,l.Pairwise (·≤·)→(iD l).Pairwise (· < ·):=by
 intro l
 induction l with
 | nil=>intro _; exact List.Pairwise.nil
 | cons a l q=>
   intro h
   cases l with
   | nil=>simp [iD]
   | cons b l=>
     rw [pZ] at h
     rw [iD]
     by_cases h1:a=b
     · rw [if_pos h1]; exact q h.2
     · rw [if_neg h1,pZ]
       refine ⟨fun y i=> ?_,q h.2⟩
       have i:=(GF y _).1 i
       have h2:=h.1 b<|by simp
       rcases gr.1 i with rfl | i
       · omega
       · have :=(pZ.1 h.2).1 y i; omega
theorem WY:∀ l m:List Nat,l.Pairwise (· < ·)→m.Pairwise (· < ·)→(∀ x,x∈l↔x∈m)→l=m:=by
 intro l
 induction l with
 | nil=>
   intro m _ _ h
   cases m with
   | nil=>rfl
   | cons y m=>have :=(h y).2 (by simp); cases this
 | cons a l A=>
   intro m q hm h
   cases m with
   | nil=>have :=(h a).1 (by simp); cases this
   | cons y m=>
     rw [pZ] at q hm
     have e:a=y:=by
      have h1:=(h a).1<|by simp
      have h2:=(h y).2<|by simp
      rcases gr.1 h1 with h1 | h1
      · exact h1
      · rcases gr.1 h2 with h2 | h2
        · exact h2.symm
        · have :=q.1 y h2; have :=hm.1 a h1; omega
     subst e
     congr 1
     refine A m q.2 hm.2 fun x=> ?_
     constructor
     · intro i
       have :=q.1 x i
       rcases gr.1 ((h x).1<|tX _ i) with h1 | h1
       · omega
       · exact h1
     · intro i
       have :=hm.1 x i
       rcases gr.1 ((h x).2<|tX _ i) with h1 | h1
       · omega
       · exact h1
def mu (x:Nat):List Nat→List Nat
 | []=> [x]
 | y::l=>if x < y then x::y::l else if x=y then y::l else y::mu x l
def kh (l:List Nat):List Nat:=l.foldr mu []
theorem IH (x y:Nat):∀ l:List Nat,y∈mu x l↔y=x∨y∈l:=by
 intro l
 induction l with
 | nil=>simp [mu]
 | cons a l i=>
   rw [mu]
   split
   · simp
   · split
     · rename_i h; subst h; simp
     · rw [gr,i,gr]
       constructor <;> (rintro (h | h | h) <;> simp [h])
theorem UB (x:Nat):∀ l:List Nat,l.Pairwise (· < ·)→(mu x l).Pairwise (· < ·):=by
 intro l
 induction l with
 | nil=>intro _; simp [mu]
 | cons a l A=>
   intro h
   rw [mu]
   rw [pZ] at h
   split
   · rename_i q
     rw [pZ,pZ]
     exact ⟨fun y i=>by rcases gr.1 i with rfl | i; exact q; have :=h.1 y i; omega,h⟩
   · split
     · rw [pZ]; exact h
     · rw [pZ]
       exact ⟨fun y i=>by rcases (IH x y l).1 i with rfl | i; omega; exact h.1 y i,A h.2⟩
theorem CE (x:Nat):∀ l:List Nat,x∈kh l↔x∈l:=by
 intro l
 induction l with
 | nil=>simp [kh]
 | cons a l i=>show x∈mu a (kh l)↔_; rw [IH,i,gr]
theorem CF:∀ l:List Nat,(kh l).Pairwise (· < ·):=by
 intro l
 induction l with
 | nil=>exact List.Pairwise.nil
 | cons a l i=>exact UB a _ i
theorem CG {l m:List Nat} (hm:m.Pairwise (· < ·)) (h:∀ x,x∈m↔x∈l):m=kh l:=WY _ _ hm (CF l) fun x=>by rw [h,CE]
theorem VX {l:List Nat} (h:l.Pairwise (· < ·)):kh l=l:=(CG h fun _=>Iff.rfl).symm
theorem UA (x:Nat):∀ l:List Nat,(mu x l).length≤l.length+1:=by
 intro l
 induction l with
 | nil=>simp [mu]
 | cons a l i=>rw [mu]; split <;> (try split) <;> simp only [cT] <;> omega
theorem VW:∀ l:List Nat,(kh l).length≤l.length:=by
 intro l
 induction l with
 | nil=>simp [kh]
 | cons a l i=>have :=UA a (kh l); show (mu a<|kh l).length≤_; simp only [cT]; omega
theorem tw (d:Array Nat):d.toList.length=d.size:=by simp
theorem vB (d:Array Nat) (i:Nat):d.toList.getD i 0=d[i]! :=by
 rw [cV,DK]
 by_cases h:i < d.size
 · rw [zi h,getElem!_pos d i h]; rfl
 · rw [tH ab,getElem!_neg d i h]; rfl
theorem y0 {d:Array Nat} {i:Nat} (h:i < d.size):d.toList.take (i+1)=d.toList.take i++ [d[i]!]:=by
 rw [fH d.toList i 0 (by simpa using h),vB]
theorem xv {d:Array Nat} {q:Nat} (h1:1≤q) (h:q < d.size):iD (d.toList.take<|q+1)=if d[q - 1]! =d[q]! then iD (d.toList.take q) else iD (d.toList.take q)++ [d[q]!]:=by
 obtain ⟨q,rfl⟩:∃ k,q=k+1:=⟨q - 1,ab⟩
 rw [y0 h,y0 ab,dF,r8]
 exact RH _ _ _
theorem XM {d:Array Nat} (h:tO ca 0 d.size d):d.toList.Pairwise (·≤·):=by
 rw [List.pairwise_iff_getElem]
 intro i j hi a q
 have :=h i j (Nat.zero_le _) q<|by simpa using a
 rw [← vB,← vB,cV,cV,cD hi,cD a] at this
 simp only [ca,decide_eq_false_iff_not,zJ] at this
 omega
theorem XK {l:List Nat} {d:Array Nat} (hp:Go.Sort.PermIn 0 l.length l.toArray d) (hs:tO ca 0 l.length d):iD d.toList=kh l:=by
 have a:d.size=l.length:=by rw [hp.1]; simp
 have i:d.toList.Perm l:=by
  have :=hp.2.2
  rw [show (d.extract 0 l.length).toList=d.toList from by rw [Array.toList_extract]; simp [eN (show d.toList.length≤l.length by simp [a])]] at this
  simpa using this
 exact CG (RG _<|XM<|by rw [a]; exact hs) fun x=>by rw [GF]; exact i.mem_iff
theorem xy {d d2:Array Nat} {k j:Nat} (h:d.toList.drop k=d2.toList.drop k) (hk:k≤j):d[j]! =d2[j]! :=by
 have :=congrArg (fun l=>l.getD (j - k) 0) h
 simp only [cV,qV,show k+(j - k)=j from by omega] at this
 rw [← vB,← vB]; simpa [cV] using this
theorem set_drop {d:Array Nat} {k m v:Nat} (h:k < m):(d.setIfInBounds k v).toList.drop m=d.toList.drop m:=by
 rw [DM,List.drop_set,if_pos h]
theorem Da {d:Array Nat} {k v:Nat} (h:k < d.size):(d.setIfInBounds k v).toList.take (k+1)=d.toList.take k++ [v]:=by
 rw [DM,List.set_eq_take_append_cons_drop,if_pos (by simpa using h),wo,dT,vJ,oV ab,Nq,eN (by rw [dT]; omega)]
 rfl
theorem Cl {h:Array Obj} {a:Option Addr} {d:Array Nat} {i j:Nat} {f:Nat→Value} (q:aJ h a ((LE f d).drop i)) (hi:i+j < d.size):Hb.aQ h (bk a) (fo a+j*1)=some (f d[i+j]!):=by
 refine q.gL ?_
 rw [qV]; exact IX hi
theorem Cm {d:Array Nat} {i:Nat} {f:Nat→Value} (h:i < d.size):(LE f d).drop i≠[]:=by
 intro e; have :=congrArg jy e; rw [fP,uV,ga] at this; omega
def jh (b:UInt8):Bool:=decide (33≤b.toNat∧b.toNat≤126∧b.toNat≠47∧b.toNat≠44∧b.toNat≠35)
noncomputable def eI (kind:Nat) (s:List UInt8):Nat:=
 if kind=1 then (if s.length=1∧jh (s.getD 0 0)=true then (s.getD 0 0).toNat else 0)
 else if kind=2 then (if s.length=2∧jh (s.getD 0 0)=true∧jh (s.getD 1 0)=true then 256 *(s.getD 0 0).toNat+(s.getD 1 0).toNat else 0)
 else (eb s 65535).1
def fG (c:UInt8):List UInt8→List UInt8→List (List UInt8)
 | acc,[]=> [acc]
 | acc,b::l=>if b=c then acc::fG c [] l else fG c (acc++ [b]) l
theorem XP (c:UInt8):∀ (l acc:List UInt8),(fG c acc l).length≤l.length+1:=by
 intro l
 induction l with
 | nil=>intro acc; simp [fG]
 | cons b l a=>
   intro acc; rw [fG]; split
   · have :=a []; simp only [cT]; omega
   · have :=a (acc++ [b]); simp only [cT]; omega
theorem XQ (c:UInt8):∀ (l acc x:List UInt8),x∈fG c acc l→x.length≤acc.length+l.length:=by
 intro l
 induction l with
 | nil=>intro acc x h; simp only [fG,j4] at h; subst h; simp
 | cons b l a=>
   intro acc x h
   rw [fG] at h
   split at h
   · rcases gr.1 h with rfl | h
     · simp
     · have :=a [] x h; simp only [ga,cT] at*; omega
   · have :=a _ x h; rw [bL,e5] at this; simp only [cT]; omega
def pd (k:Nat):Nat→List UInt8→List (List UInt8)
 | 0,_=> []
 | f+1,s=>if s= [] then [] else s.take k::pd k f (s.drop k)
def chunks (k:Nat) (s:List UInt8):List (List UInt8):=pd k s.length s
theorem Qu {k:Nat} (hk:0 < k):∀ (f g:Nat) (s:List UInt8),s.length≤f→s.length≤g→pd k f s=pd k g s:=by
 intro f
 induction f with
 | zero=>intro g s h _; obtain rfl :=fS (by omega :s.length=0); cases g <;> simp [pd]
 | succ f a=>
   intro g s h1 h2
   cases g with
   | zero=>obtain rfl :=fS (by omega :s.length=0); simp [pd]
   | succ g=>
     rw [pd,pd]
     by_cases hs:s= []
     · simp [hs]
     · have i:=lx.2 hs
       rw [if_neg hs,if_neg hs,a g (s.drop k) (by rw [fP]; omega) (by rw [fP]; omega)]
theorem xk (k:Nat):chunks k []= []:=rfl
theorem xj {k:Nat} {s:List UInt8} (hk:0 < k) (hs:s≠[]):chunks k s=s.take k::chunks k (s.drop k):=by
 have a:=lx.2 hs
 unfold chunks
 obtain ⟨m,hm⟩:∃ m,s.length=m+1:=⟨s.length - 1,ab⟩
 rw [hm,pd,if_neg hs,Qu hk m (s.drop k).length (s.drop k) (by rw [fP]; omega) (cB _)]
theorem Qx {k:Nat} (hk:0 < k):∀ (n:Nat) (s:List UInt8),s.length≤n→(chunks k s).length≤s.length:=by
 intro n
 induction n with
 | zero=>intro s h; obtain rfl :=fS (by omega :s.length=0); simp [xk]
 | succ n a=>
   intro s h
   by_cases hs:s= []
   · subst hs; simp [xk]
   · have i:=lx.2 hs
     rw [xj hk hs,cT]
     have :=a (s.drop k)<|by rw [fP]; omega
     rw [fP] at this; omega
theorem Qy {k:Nat} (hk:0 < k):∀ (n:Nat) (s x:List UInt8),s.length≤n→x∈chunks k s→x.length≤s.length:=by
 intro n
 induction n with
 | zero=>intro s x h a; obtain rfl :=fS (by omega :s.length=0); cases a
 | succ n i=>
   intro s x h a
   by_cases hs:s= []
   · subst hs; cases a
   · have q:=lx.2 hs
     rw [xj hk hs] at a
     rcases gr.1 a with rfl | a
     · rw [dT]; omega
     · have :=i (s.drop k) x (by rw [fP]; omega) a
       rw [fP] at this; omega
def dH (kind:Nat) (s:List UInt8):List (List UInt8):=if kind=3 then fG 44 [] s else chunks kind s
theorem JQ {kind:Nat} {s:List UInt8} (hk:0 < kind):(dH kind s).length≤s.length+1:=by
 unfold dH; split
 · exact XP _ _ _
 · have :=Qx hk s.length s (cB _); omega
theorem JR {kind:Nat} {s x:List UInt8} (hk:0 < kind) (h:x∈dH kind s):x.length≤s.length:=by
 unfold dH at h; split at h
 · have :=XQ _ _ _ _ h; simpa using this
 · exact Qy hk _ _ _ (cB _) h
noncomputable def ea (kind:Nat) (s:List UInt8):List Nat×Nat:=
 if s= [] then ([],31) else if ∃ x∈dH kind s,eI kind x=0 then ([],31) else if 64 < (dH kind s).length then ([],32) else (kh ((dH kind s).map<|eI kind),0)
noncomputable def gN (kind:Nat) (s:List UInt8):Nat×Nat:=if eI kind s=0 then (0,31) else (eI kind s,0)
theorem Hr (kind:Nat) (s:List UInt8):eI kind s < 65536:=by
 unfold eI
 have a:=iV<|s.getD 0 0
 have h1:=iV<|s.getD 1 0
 split
 · split <;> omega
 · split
   · split <;> omega
   · unfold eb; split
     · exact Nat.zero_lt_succ _
     · rename_i h; simp only; omega
theorem tE {n:Int} (h:0≤n∧n≤65535):oR.wrap n=n:=IntWalk.u16_in n h
theorem Xv {x:Nat} (h:x < 256):oR.wrap ((x:Int)*2 ^ min (8:Int).toNat oR.bits)=((256 *x:Nat):Int):=by
 have h2:((x:Int)*2 ^ min (8:Int).toNat oR.bits)=((256 *x:Nat):Int):=by
  show (x:Int)*256=_
  omega
 rw [h2]; exact tE ab
theorem V7 {x y:Nat} (h:x < 256) (A:y < 256):oR.wrap (gq oR.bits ((256 *x:Nat):Int) ||| gq oR.bits ((y:Nat):Int)).toNat=((256 *x+y:Nat):Int):=by
 have h1:(gq oR.bits ((256 *x:Nat):Int) ||| gq oR.bits ((y:Nat):Int)).toNat=256 *x+y:=by
  have q:(oR.bits:Nat)=16:=rfl
  rw [Mk,pU,pU,q]
  have a:(((256 *x:Nat):Int) % ((2 ^ 16:Nat):Int)).toNat=2 ^ 8 *x:=ab
  have i:(((y:Nat):Int) % ((2 ^ 16:Nat):Int)).toNat=y:=ab
  rw [a,i,← Nat.two_pow_add_eq_or_of_lt (show y < 2 ^ 8 by omega)]
 rw [h1]; exact tE ab
theorem Jz (s:List UInt8):(eb s 65535).1≤65535:=by
 unfold eb; split
 · exact Nat.zero_le _
 · simp only; omega
theorem Qw (s:List UInt8) (i k:Nat):(s.take (min ((i+k:Nat):Int) (s.length:Int)).toNat).drop (i:Int).toNat=(s.drop i).take k:=by
 rw [mM,show (min ((i+k:Nat):Int) (s.length:Int)).toNat=min (i+k) s.length from by omega,r5]
 by_cases h:i+k≤s.length
 · rw [oV h,Nq]
 · rw [Nat.min_eq_right ab,eN (by rw [fP]; omega),eN (by rw [fP]; omega)]
theorem KP (c:UInt8):∀ (l acc:List UInt8),l.idxOf c < l.length→fG c acc l=(acc++l.take (l.idxOf c))::fG c [] (l.drop<|l.idxOf c+1):=by
 intro l
 induction l with
 | nil=>intro acc h; simp at h
 | cons b l i=>
   intro acc h
   rw [fG]
   by_cases a:b=c
   · subst a; rw [if_pos rfl]; simp
   · rw [if_neg a]
     have hi:(b::l).idxOf c=l.idxOf c+1:=by rw [wa,show (b==c)=false from by simpa using a]; rfl
     rw [hi] at h ⊢
     simp only [cT] at h
     rw [i _ ab]
     simp [dF]
theorem XR (c:UInt8):∀ (l acc:List UInt8),¬c∈l→fG c acc l= [acc++l]:=by
 intro l
 induction l with
 | nil=>intro acc _; simp [fG]
 | cons b l a=>
   intro acc h
   rw [gr,not_or] at h
   rw [fG,if_neg (fun e=>h.1 e.symm),a _ h.2]; simp
theorem Dh (c:UInt8):∀ (l acc:List UInt8),(fG c acc l).length=l.count c+1:=by
 intro l
 induction l with
 | nil=>intro acc; simp [fG]
 | cons b l i=>
   intro acc
   rw [fG]
   by_cases a:b=c
   · subst a; rw [if_pos rfl,cT,i]; simp
   · rw [if_neg a,i,List.count_cons_of_ne a]
theorem Ru {c:UInt8} {l:List UInt8} (h:l.idxOf c < l.length):(l.drop<|l.idxOf c+1).count c+1=l.count c:=by
 have h1:=Dh c l []
 rw [KP c l [] h,cT,Dh] at h1
 omega
def bP (n:Nat):Value:= .int .i64 n
theorem yq {α:Type} {f:α→Value} {h:Array Obj} {a:Option Addr} {l:List α} {i:Nat} (d:α) (q:aJ h a (l.map f)) (hi:i < l.length):Hb.aQ h (bk a) (fo a+i*1)=some (f<|l.getD i d):=by
 refine q.gL ?_
 rw [im,cD hi,cV,cD hi]; rfl
def p6 (l out:List Nat) (last:Int):Prop :=out.Pairwise (· < ·)∧∀ x,x∈out↔x∈l∧(x:Int)≤last
def k0 (l:List Nat) (last:Int) (i:Nat) (nx:Int):Prop :=(nx= -1∧∀ j,j < i→((l.getD j 0:Nat):Int)≤last)∨(∃ m∈l,nx=(m:Nat)∧last < nx∧∀ j,j < i→last < ((l.getD j 0:Nat):Int)→nx≤((l.getD j 0:Nat):Int))
theorem p6.nil (l:List Nat):p6 l [] (-1):=⟨List.Pairwise.nil,fun x=>by simp; omega⟩
theorem k0.nil (l:List Nat) (last:Int):k0 l last 0 (-1):= .inl ⟨rfl,fun j a=>by omega⟩
theorem yz {i:Nat} {q:Nat→Prop} (h:∀ j,j < i→q j) (h1:q i):∀ j,j < i+1→q j:=fun j a=>by
 rcases fg j i with h2 | h2
 · exact h j h2
 · rw [show j=i by omega]; exact h1
theorem k0.skip {l:List Nat} {last nx:Int} {i:Nat} (h:k0 l last i nx) (h1:((l.getD i 0:Nat):Int)≤last∨(¬nx < 0∧nx≤((l.getD i 0:Nat):Int))):k0 l last (i+1) nx:=by
 rcases h with ⟨h2,h3⟩ | ⟨m,hm,h2,h3,h4⟩
 · exact .inl ⟨h2,yz h3 ab⟩
 · exact .inr ⟨m,hm,h2,h3,yz h4 ab⟩
theorem k0.take {l:List Nat} {last nx:Int} {i:Nat} (h:k0 l last i nx) (hi:i < l.length) (h1:last < ((l.getD i 0:Nat):Int)) (h2:nx < 0∨((l.getD i 0:Nat):Int) < nx):k0 l last (i+1) ((l.getD i 0:Nat):Int):=by
 refine .inr ⟨l.getD i 0,?_,aa,h1,?_⟩
 · rw [cV,cD hi]; exact M7 hi
 · rcases h with ⟨_,h4⟩ | ⟨m,_,h3,_,h5⟩
   · exact yz (fun j a q=>by have :=h4 j a; omega) ab
   · exact yz (fun j a q=>by have :=h5 j a q; omega) ab
theorem k0.done {l out:List Nat} {last nx:Int} (h:k0 l last l.length nx) (hu:p6 l out last) (hn:nx < 0):out=kh l:=by
 refine CG hu.1 fun x=> ?_
 rw [hu.2]
 refine ⟨fun h1=>h1.1,fun h1=>⟨h1,?_⟩⟩
 rcases h with ⟨_,h3⟩ | ⟨m,_,h3,_,_⟩
 · obtain ⟨j,a,rfl⟩:=zE.1 h1
   have :=h3 j a
   rwa [cV,cD a] at this
 · omega
theorem k0.more {l out:List Nat} {last nx:Int} (h:k0 l last l.length nx) (hu:p6 l out last) (hn:¬nx < 0):∃ m,m∈l∧nx=((m:Nat):Int)∧last < nx∧p6 l (out++ [m]) nx:=by
 rcases h with ⟨h2,_⟩ | ⟨m,hm,h2,h3,h4⟩
 · omega
 · refine ⟨m,hm,h2,h3,?_,fun x=> ?_⟩
   · rw [List.pairwise_append]
     exact ⟨hu.1,List.pairwise_singleton _ _,fun a E b i=>by rw [j4] at i; subst i; have :=((hu.2 a).1 E).2; omega⟩
   · rw [jz,hu.2,j4]
     constructor
     · rintro (⟨h5,A⟩ | rfl)
       · exact ⟨h5,ab⟩
       · exact ⟨hm,ab⟩
     · rintro ⟨h5,A⟩
       by_cases C:(x:Int)≤last
       · exact .inl ⟨h5,C⟩
       · right
         obtain ⟨j,q,rfl⟩:=zE.1 h5
         have :=h4 j q
         rw [cV,cD q] at this
         simp only [zJ] at this
         omega
end Go.Hb
section
namespace Go.Hb
def iR (b:UInt8):Bool:=decide (33≤b.toNat∧b.toNat≠127)
def gu (w:List UInt8):Bool:=w.all iR
def pP (w:List UInt8):Bool:=decide (1≤w.length∧w.length≤64∧gu w=true)
theorem dV {α:Type} {l:List α} {i:Nat} {d:α} (h:i < l.length):l.getD i d∈l:=by
 rw [cV,cD h]; exact M7 h
theorem nM {α:Type} {l:List α} {x:α} (d:α) (h:x∈l):∃ i,i < l.length∧l.getD i d=x:=by
 obtain ⟨i,hi,rfl⟩:=zE.1 h
 exact ⟨i,hi,by rw [cV,cD hi]; rfl⟩
theorem EO {α:Type} {f:α→Bool} {l:List α} {i:Nat} (d:α) (h:i < l.length) (h1:f (l.getD i d)=false):l.all f=false :=by
 rw [List.all_eq_false]; exact ⟨_,dV h,by rw [h1]; exact ei⟩
theorem EP {α:Type} {f:α→Bool} {l:List α} (d:α) (h:∀ i,i < l.length→f (l.getD i d)=true):l.all f=true :=by
 rw [ma]; intro x a; obtain ⟨i,hi,rfl⟩:=nM d a; exact h i hi
theorem sG {w:List UInt8} {i:Nat} (h:i < w.length) (h1:iR (w.getD i 0)=false):gu w=false :=EO 0 h h1
theorem uk {w:List UInt8} (h:∀ i,i < w.length→iR (w.getD i 0)=true):gu w=true :=EP 0 h
theorem OA (b:UInt8):gu [b]=iR b:=by unfold gu; simp
def rj (b:UInt8):Bool:=decide (b.toNat=92∨b.toNat=47∨b.toNat=35)
abbrev lC:Type :=List UInt8×List UInt8×Bool×Nat
def J0 (r:lC):Value:= .tuple #[str r.1,str r.2.1,.bool r.2.2.1,.int .i64 r.2.2.2]
def jo:List UInt8→List UInt8→lC
 | acc,[]=>(acc,[],false,0)
 | acc,[b]=>if b.toNat=47 then (acc,[],true,0) else if b.toNat=92 then ([],[],false,20) else (acc++ [b],[],false,0)
 | acc,b::c::l=>if b.toNat=47 then (acc,c::l,true,0) else if b.toNat=92 then (if rj c=true then jo (acc++ [c]) l else ([],[],false,20)) else jo (acc++ [b]) (c::l)
theorem ze (acc:List UInt8):jo acc []=(acc,[],false,0):=by simp [jo]
theorem DE {acc l:List UInt8} {b:UInt8} (h:b.toNat=47):jo acc (b::l)=(acc,l,true,0):=by
 cases l <;> simp [jo,h]
theorem DB {acc:List UInt8} {b:UInt8} (h:b.toNat=92):jo acc [b]=([],[],false,20):=by simp [jo,h]
theorem DC {acc l:List UInt8} {b c:UInt8} (h:b.toNat=92) (a:rj c=false):jo acc (b::c::l)=([],[],false,20):=by simp [jo,h,a]
theorem vI {acc l:List UInt8} {b c:UInt8} (h:b.toNat=92) (a:rj c=true):jo acc (b::c::l)=jo (acc++ [c]) l:=by simp [jo,h,a]
theorem DD {acc l:List UInt8} {b:UInt8} (h:¬b.toNat=47) (h1:¬b.toNat=92):jo acc (b::l)=jo (acc++ [b]) l:=by
 cases l <;> simp [jo,h,h1]
theorem Zb (n:Nat):∀ (l acc:List UInt8),l.length≤n→(jo acc l).1.length≤acc.length+l.length∧(jo acc l).2.1.length≤l.length:=by
 induction n with
 | zero=>intro l acc h; obtain rfl :=fS (by omega :l.length=0); rw [ze]; exact ⟨by simp,by simp⟩
 | succ n a=>
   intro l acc h
   cases l with
   | nil=>rw [ze]; exact ⟨by simp,by simp⟩
   | cons b l=>
     simp only [cT] at h ⊢
     by_cases h1:b.toNat=47
     · rw [DE h1]; exact ⟨by simp only; omega,by simp only; omega⟩
     · by_cases h2:b.toNat=92
       · cases l with
         | nil=>rw [DB h2]; exact ⟨by simp,by simp⟩
         | cons c l=>
           simp only [cT] at h ⊢
           cases hc:rj c
           · rw [DC h2 hc]; exact ⟨by simp,by simp⟩
           · rw [vI h2 hc]
             have :=a l (acc++ [c]) ab
             rw [bL,e5] at this
             omega
       · rw [DD h1 h2]
         have :=a l (acc++ [b]) ab
         rw [bL,e5] at this
         omega
def bA (f:List UInt8):lC:=jo [] f
theorem rQ (f:List UInt8):(bA f).1.length≤f.length∧(bA f).2.1.length≤f.length:=by
 have :=Zb f.length f []<|cB _
 simpa [bA] using this
def lets (s:List UInt8):List UInt8:=s.foldl (fun a b=>if b∈a then a else a++ [b]) []
def letE (s:List UInt8):List UInt8×Nat:=if s= []∨gu s=false then ([],21) else (lets s,0)
theorem qy {s:List UInt8} {i:Nat} (h:i < s.length):lets (s.take<|i+1)=if s.getD i 0∈lets (s.take i) then lets (s.take i) else lets (s.take i)++ [s.getD i 0]:=by
 unfold lets
 rw [fH s i 0 h,Eg]; rfl
theorem Cn (s:List UInt8):(lets s).length≤s.length:=by
 have key:∀ (s a:List UInt8),(s.foldl (fun a b=>if b∈a then a else a++ [b]) a).length≤a.length+s.length:=by
  intro s
  induction s with
  | nil=>intro a; simp
  | cons b s i=>
    intro a
    rw [r6,cT]
    split
    · have :=i a; omega
    · have :=i (a++ [b]); rw [bL,e5] at this; omega
 have :=key s []
 simpa [lets] using this
def marksOf (a:List UInt8):List Value:=(j5 256).map fun k=> .bool<|decide (j6 k∈a)
theorem Jb (a:List UInt8):(marksOf a).length=256:=by simp [marksOf]
theorem Vu (a:List UInt8) (b:UInt8):(marksOf a)[b.toNat]? =some (.bool<|decide (b∈a)):=by
 have :=iV b
 unfold marksOf
 rw [im,zA ab]
 simp
theorem Vw (a:List UInt8) (b:UInt8):(marksOf a).set b.toNat (.bool true)=marksOf (a++ [b]):=by
 apply pW
 intro k
 rw [kW,Jb]
 unfold marksOf
 rw [im,im]
 by_cases hk:k < 256
 · rw [zA hk]
   simp only [mg]
   have he:(j6 k=b)↔b.toNat=k:=by
    constructor
    · rintro rfl; simp; omega
    · rintro rfl; simp
   by_cases h:b.toNat=k
   · have h2:=he.2 h
     simp [h,hk,h2]
   · have h2:¬j6 k=b:=fun e=>h<|he.1 e
     simp [h,h2]
 · have :(j5 256)[k]? =none:=tV<|by simp; omega
   have i:=iV b
   rw [this]
   simp; omega
theorem Vv:marksOf []=km 256 (.bool false):=by
 unfold marksOf
 apply pW
 intro k
 rw [im,List.getElem?_replicate]
 by_cases hk:k < 256
 · rw [zA hk]; simp [hk]
 · rw [tV (by simp; omega)]; simp [hk]
theorem Bd.new {T e b:Nat} {w:World} (h:w.heap[b]? =some (.cells [zt none,.slice none 0 0].toArray T (0,0))):Bd T e w b (.slice none 0 0) []:=
 ⟨⟨none,h,.inl rfl⟩,dx _ _ _ _,by simp⟩
theorem Bd.step {T e b:Nat} {a w w':World} {i:Value} {l:List UInt8} (h:Bd T e w b i l) (q:Wk a w) (A:Md (BF b i) w w') (E:a.heap.size≤b):Wk a w':=
 Md.trans' q A fun k hk C=>by have :=h.jm C; omega
theorem Bd.Dm {T e b:Nat} {a w w':World} {i:Value} {l:List UInt8} (h:Bd T e w b i l) (q:Wk a w) (A:Md (fun k=>i.ownBlock=some k) w w') (E:a.heap.size≤b):Wk a w':=
 Md.trans' q A fun k hk C=>by have :=h.jm (.inr C); omega
end Go.Hb
end
section
set_option linter.unusedSimpArgs false
namespace Go.Hb
def qe (g:Nat→Bool):Nat→Nat
 | 0=>0
 | n+1=>qe g n ||| (if g n=true then 2 ^ n else 0)
theorem Oi (g:Nat→Bool):∀ n,qe g n < 2 ^ n:=by
 intro n
 induction n with
 | zero=>exact Nat.zero_lt_one
 | succ n a=>
   rw [qe]
   refine En (Nat.lt_trans a<|zI az<|ub n) ?_
   split
   · exact zI az<|ub n
   · exact Nat.two_pow_pos _
theorem uj (g:Nat→Bool) (j:Nat):∀ n,(qe g n).testBit j=(decide (j < n) && g j):=by
 intro n
 induction n with
 | zero=>simp [qe]
 | succ n q=>
   rw [qe,Nu,q]
   by_cases i:j=n
   · subst i
     cases h:g j <;> simp [Nat.testBit_two_pow_self]
   · have a:(if g n=true then 2 ^ n else 0).testBit j=false :=by
      split
      · rw [Nv]; simp; omega
      · simp
     rw [a,Ml]
     congr 1
     exact decide_eq_decide.2 ab
theorem xa {g:Nat→Bool} {x:Nat} (i:x < 2 ^ 64) (h:∀ j,j < 64→x.testBit j=g j):x=qe g 64:=by
 refine Nat.eq_of_testBit_eq fun j=> ?_
 rw [uj]
 by_cases a:j < 64
 · rw [h j a,decide_eq_true a,vM]
 · rw [decide_eq_false a,Bool.false_and]
   exact Nat.testBit_lt_two_pow<|r9 i<|Nat.pow_le_pow_right az ab
def eZ (f:UInt8→Bool) (k:Nat):Nat:=qe (fun j=>f<|j6<|64 *k+j) 64
def eL (f:UInt8→Bool):List Value:= [.int .u64 (eZ f 0),.int .u64 (eZ f 1),.int .u64 (eZ f 2),.int .u64 (eZ f 3)]
theorem tC (f:UInt8→Bool) (k:Nat):eZ f k < 18446744073709551616:=Oi _ 64
theorem xn (f:UInt8→Bool):(eL f).length=4:=rfl
theorem Gc (f:UInt8→Bool):(eL f).all gC=true :=rfl
theorem AW (f:UInt8→Bool) {k:Nat} (h:k < 4):(eL f)[k]? =some (.int .u64<|eZ f k):=by
 match k,h with
 | 0,_=>rfl
 | 1,_=>rfl
 | 2,_=>rfl
 | 3,_=>rfl
theorem AX:eL (fun _=>false)= [.int .u64 0,.int .u64 0,.int .u64 0,.int .u64 0]:=by
 have :∀ k,eZ (fun _=>false) k=0:=fun k=>(xa (x:=0) az fun j _=>by simp).symm
 unfold eL; simp only [this]; rfl
theorem Ac (b:UInt8) {k j:Nat} (hk:k < 4) (i:j < 64):j6 (64 *k+j)=b↔k=b.toNat / 64∧j=b.toNat % 64:=by
 have a:=iV b
 constructor
 · rintro rfl
   simp only [Ep]
   omega
 · rintro ⟨h1,h2⟩
   refine kX.1 ?_
   simp only [Ep]
   omega
theorem Y3 (f:UInt8→Bool) (b:UInt8) {k:Nat} (hk:k < 4):eZ (fun x=>f x || decide (x=b)) k=if k=b.toNat / 64 then eZ f k ||| 2 ^ (b.toNat % 64) else eZ f k:=by
 split
 · rename_i h
   refine (xa (En (tC f k)<|zI az ab) fun j a=> ?_).symm
   rw [Nu,Nv]
   have h1:(eZ f k).testBit j=f (j6<|64 *k+j):=by unfold eZ; rw [uj,decide_eq_true a,vM]
   rw [h1]
   congr 1
   exact decide_eq_decide.2<|by rw [Ac b hk a]; omega
 · rename_i h
   refine (xa (tC f k) fun j a=> ?_).symm
   have h1:(eZ f k).testBit j=f (j6<|64 *k+j):=by unfold eZ; rw [uj,decide_eq_true a,vM]
   show _=(f (j6<|64 *k+j) || decide (j6 (64 *k+j)=b))
   rw [h1,decide_eq_false (by rw [Ac b hk a]; omega),Ml]
theorem QW (f:UInt8→Bool) (b:UInt8):(eL f).set (b.toNat / 64) (.int .u64 ((eZ f (b.toNat / 64) ||| 2 ^ (b.toNat % 64):Nat):Int))=eL (fun x=>f x || decide (x=b)):=by
 have a:=iV b
 apply pW
 intro k
 rw [kW,xn]
 by_cases hk:k < 4
 · rw [AW _ hk,AW _ hk,Y3 f b hk]
   by_cases h:b.toNat / 64=k
   · subst h; simp [show b.toNat / 64 < 4 by omega]
   · rw [if_neg h,if_neg (fun e=>h e.symm)]
 · rw [tV (by rw [xn]; omega),tV (by rw [xn]; omega)]
   simp; omega
theorem Y2 (f:UInt8→Bool) (b:UInt8):decide ((((eZ f (b.toNat / 64) / 2 ^ (b.toNat % 64)) % 2:Nat):Int)=1)=f b:=by
 have a:=iV b
 have h1:(eZ f<|b.toNat / 64).testBit (b.toNat % 64)=f b:=by
  unfold eZ
  rw [uj,decide_eq_true (Nat.mod_lt _ az),vM,(Ac b (k:=b.toNat / 64) (j:=b.toNat % 64) ab<|Nat.mod_lt _ az).2 ⟨rfl,rfl⟩]
 rw [← h1,Nat.testBit_eq_decide_div_mod_eq]
 exact decide_eq_decide.2 ab
theorem ET (b:UInt8):pV.wrap (gq pV.bits (b.toNat:Int) &&& gq pV.bits 63).toNat=((b.toNat % 64:Nat):Int):=by
 have h:∀ r:Fin 256,pV.wrap (gq pV.bits ((r.val:Nat):Int) &&& gq pV.bits 63).toNat=((r.val % 64:Nat):Int):=by decide+kernel
 exact h ⟨b.toNat,iV b⟩
theorem KB (b:UInt8):(b.toNat:Int).fdiv (2 ^ min (6:Int).toNat pV.bits)=((b.toNat / 64:Nat):Int):=by
 have h:∀ r:Fin 256,((r.val:Nat):Int).fdiv (2 ^ min (6:Int).toNat pV.bits)=((r.val / 64:Nat):Int):=by decide+kernel
 exact h ⟨b.toNat,iV b⟩
theorem Xu {m:Nat} (h:m < 64):eK.wrap ((1:Int)*2 ^ min ((m:Nat):Int).toNat eK.bits)=((2 ^ m:Nat):Int):=by
 have h2:(eK.bits:Nat)=64:=rfl
 rw [mM,h2,oV ab,Int.one_mul]
 have h3:(2:Nat) ^ m < 2 ^ 64:=zI az h
 have h4:((2:Int) ^ m)=((2 ^ m:Nat):Int):=by simp
 rw [h4]
 obtain ⟨x,a⟩:∃ x:Nat,2 ^ m=x:=⟨_,rfl⟩
 rw [a] at h3 ⊢; exact oN ab
theorem V6 {x y:Nat} (i:x < 2 ^ 64) (q:y < 2 ^ 64):eK.wrap (gq eK.bits (x:Int) ||| gq eK.bits (y:Int)).toNat=((x ||| y:Nat):Int):=by
 have a:(eK.bits:Nat)=64:=rfl
 have h1:(gq eK.bits (x:Int) ||| gq eK.bits (y:Int)).toNat=x ||| y:=by
  rw [Mk,pU,pU,a]
  congr 1 <;> omega
 rw [h1]
 have :=En i q
 obtain ⟨z,A⟩:∃ z:Nat,x ||| y=z:=⟨_,rfl⟩
 rw [A] at this ⊢; exact oN ab
theorem XC (x:Nat) {m:Nat} (h:m < 64):(x:Int).fdiv (2 ^ min ((m:Nat):Int).toNat eK.bits)=((x / 2 ^ m:Nat):Int):=by
 have h2:(eK.bits:Nat)=64:=rfl
 rw [mM,h2,oV ab]
 rw [show ((2:Int) ^ m)=((2 ^ m:Nat):Int) by simp,Int.fdiv_eq_ediv_of_nonneg _ (Int.natCast_nonneg _)]; rfl
theorem N3 {x:Nat} (i:x < 2 ^ 64):eK.wrap (gq eK.bits (x:Int) &&& gq eK.bits 1).toNat=((x % 2:Nat):Int):=by
 have a:(eK.bits:Nat)=64:=rfl
 have h1:(gq eK.bits (x:Int) &&& gq eK.bits 1).toNat=x % 2:=by
  rw [Mj,pU,pU,a,show ((x:Int) % ((2 ^ 64:Nat):Int)).toNat=x by omega]
  exact Nat.and_one_is_mod x
 rw [h1]; exact oN ab
section
variable {P:Program} {N:Fm} {σ:Nat→Value} {w:World} {dst:Option Nat} {ty:TypeId} {pos :String} {af:Array Edge} {g:Option (Nat×Bool)} {x:Operand}
theorem xo {t:TypeId} {k:Nat} {f:UInt8→Bool} (A:ev N σ x= .int .u64 (eZ f k)):(execOp (ev N σ) ⟨dst,.unOp .xor t x,ty,pos,af,g⟩).run P w= .ok (.value<|.int .u64<|eZ (fun y=> !f y) k) w:=by
 have q:=tC f k
 have h1:eK.wrap (gq eK.bits eK.max ^^^ gq eK.bits (eZ f k:Int)).toNat=(eZ (fun y=> !f y) k:Int):=by
  have i:(eK.bits:Nat)=64:=rfl
  have h2:(gq eK.bits eK.max ^^^ gq eK.bits (eZ f k:Int)).toNat=eZ (fun y=> !f y) k:=by
   rw [BitVec.toNat_xor,pU,pU,i,show (eK.max % ((2 ^ 64:Nat):Int)).toNat=2 ^ 64 - 1 from by decide,show ((eZ f k:Int) % ((2 ^ 64:Nat):Int)).toNat=eZ f k by omega]
   refine xa (Nat.xor_lt_two_pow az q) fun j a=> ?_
   rw [Nat.testBit_xor,Nat.testBit_two_pow_sub_one,decide_eq_true a,Bool.true_xor]
   congr 1
   unfold eZ; rw [uj,decide_eq_true a,vM]
  rw [h2]; have :=tC (fun y=> !f y) k; exact oN ab
 have h3:(vR .xor eK eK.max (eZ f k:Int)).run P w= .ok (.int .u64<|eZ (fun y=> !f y) k) w:=by
  simp only [vR]
  rw [← h1]; rfl
 have h4:(DZ .xor<|.int eK (eZ f k:Int)).run P w= .ok (.int .u64<|eZ (fun y=> !f y) k) w:=by
  simp only [DZ]
  exact h3
 simp [execOp,A,h4]
end
def cE (t:List UInt8) (b:UInt8):Bool:=
 if t.length=1 then decide (t.getD 0 0=46∨t.getD 0 0=b)
 else if t.getD 1 0=94 then !decide (b∈(t.take<|t.length - 1).drop 2)
 else decide (b∈(t.take<|t.length - 1).drop 1)
def iz:List UInt8→Option (List UInt8×List UInt8)
 | []=>none
 | b::l=>if b=91 then (if l.idxOf 93 < l.length∧l.idxOf 93≠0∧¬(l.idxOf 93=1∧l.getD 0 0=94) then some (b::l.take (l.idxOf 93 +1),l.drop (l.idxOf 93 +1)) else none) else some ([b],l)
theorem AQ {s t r:List UInt8} (h:iz s=some (t,r)):r.length < s.length:=by
 cases s with
 | nil=>cases h
 | cons b l=>
   simp only [iz] at h
   split at h
   · split at h
     · simp only [fQ,se] at h
       obtain ⟨_,rfl⟩:=h
       rw [fP,cT]; omega
     · cases h
   · simp only [fQ,se] at h
     obtain ⟨_,rfl⟩:=h
     simp
def lW:Nat→List UInt8→Option (List<|List UInt8)
 | 0,s=>if s= [] then some [] else none
 | f+1,s=>if s= [] then some [] else match iz s with
   | none=>none
   | some (t,r)=>(lW f r).map (t:: ·)
theorem Rm:∀ (f g:Nat) (s:List UInt8),s.length≤f→s.length≤g→lW f s=lW g s:=by
 intro f
 induction f with
 | zero=>intro g s h _; obtain rfl :=fS (by omega :s.length=0); cases g <;> simp [lW]
 | succ f a=>
   intro g s h1 h2
   cases g with
   | zero=>obtain rfl :=fS (by omega :s.length=0); simp [lW]
   | succ g=>
     rw [lW,lW]
     split
     · rfl
     · cases hc:iz s with
       | none=>rfl
       | some q=>
         obtain ⟨t,r⟩:=q
         have :=AQ hc
         simp only
         rw [a g r ab ab]
def mm (s:List UInt8):Option (List<|List UInt8):=lW s.length s
theorem Ri:mm []=some []:=rfl
theorem Rk {s t r:List UInt8} (h:iz s=some (t,r)):mm s=(mm r).map (t:: ·):=by
 have a:=AQ h
 unfold mm
 obtain ⟨m,hm⟩:∃ m,s.length=m+1:=⟨s.length - 1,ab⟩
 have hs:s≠[]:=fun e=>by rw [e] at hm; simp at hm
 rw [hm,lW,if_neg hs,h]
 simp only
 rw [Rm m r.length r ab (cB _)]
theorem Rj {s:List UInt8} (hs:s≠[]) (h:iz s=none):mm s=none:=by
 unfold mm
 have a:=lx.2 hs
 obtain ⟨m,hm⟩:∃ m,s.length=m+1:=⟨s.length - 1,ab⟩
 rw [hm,lW,if_neg hs,h]
def di (s:List UInt8):List (List UInt8)×Nat:=
 if s= []∨512 < s.length then ([],40) else if s= [46] then ([],0) else match mm s with
  | none=>([],41)
  | some xs=>if 16 < xs.length then ([],42) else (xs,0)
def ko (s:List UInt8) (i:Nat) (a:List (List UInt8)):Prop :=mm s=(mm<|s.drop i).map (a++ ·)
theorem ko.start (s:List UInt8):ko s 0 []:=by
 unfold ko; rw [vY]; cases mm s <;> simp
theorem ko.step {s t r:List UInt8} {i j:Nat} {a:List (List UInt8)} (h:ko s i a) (q:iz (s.drop i)=some (t,r)) (A:r=s.drop j):ko s j (a++ [t]):=by
 subst A
 unfold ko at*
 rw [h,Rk q]
 cases mm (s.drop j) <;> simp
theorem ko.bad {s:List UInt8} {i:Nat} {a:List (List UInt8)} (h:ko s i a) (hi:i < s.length) (q:iz (s.drop i)=none):mm s=none:=by
 unfold ko at h
 rw [h,Rj (fun e=>by have :=congrArg jy e; rw [fP,ga] at this; omega) q]; rfl
theorem ko.done {s:List UInt8} {i:Nat} {a:List (List UInt8)} (h:ko s i a) (hi:s.length≤i):mm s=some a:=by
 unfold ko at h
 rw [h,gV hi,Ri]; simp
theorem F6 {b:UInt8} {l:List UInt8} (h:b≠91):iz (b::l)=some ([b],l):=by simp [iz,h]
theorem AR {b:UInt8} {l:List UInt8} (a:b=91) (h:l.idxOf 93 < l.length) (h1:l.idxOf 93≠0) (h2:¬(l.idxOf 93=1∧l.getD 0 0=94)):iz (b::l)=some (b::l.take (l.idxOf 93 +1),l.drop (l.idxOf 93 +1)):=by
 simp only [iz]; rw [if_pos a,if_pos ⟨h,h1,h2⟩]
theorem xm {b:UInt8} {l:List UInt8} (a:b=91) (h:¬(l.idxOf 93 < l.length∧l.idxOf 93≠0∧¬(l.idxOf 93=1∧l.getD 0 0=94))):iz (b::l)=none:=by
 simp only [iz]; rw [if_pos a,if_neg h]
def lU (f:UInt8→Bool) (i:Nat):List UInt8:=((j5 i).map j6).filter f
def bytesOf (f:UInt8→Bool):List UInt8:=lU f 256
theorem sF (f:UInt8→Bool) (i:Nat):lU f (i+1)=lU f i++(if f (j6 i)=true then [j6 i] else []):=by
 unfold lU
 rw [List.range_succ,iq,List.filter_append]
 congr 1
 cases h:f (j6 i) <;> simp [h]
theorem qg (f:UInt8→Bool) (i:Nat):(lU f i).length≤i:=by
 unfold lU
 refine gd (zB _ _) ?_
 simp
theorem E9 (f:UInt8→Bool) (b:UInt8):b∈bytesOf f↔f b=true :=by
 unfold bytesOf lU
 rw [List.mem_filter]
 refine ⟨fun h=>h.2,fun h=>⟨?_,h⟩⟩
 rw [oT]
 exact ⟨b.toNat,tY.2 (iV b),by simp⟩
theorem Ox (f:UInt8→Bool):(bytesOf f).Nodup:=by
 unfold bytesOf lU
 refine List.Nodup.sublist List.filter_sublist ?_
 rw [Nf,List.pairwise_map]
 refine Zx ?_<|Nf.1 List.nodup_range
 intro a b i q A e
 have h1:=tY.1 i
 have h2:=tY.1 q
 have :=congrArg UInt8.toNat e
 simp only [Ep] at this
 omega
theorem Oz (f:UInt8→Bool):∀ i,(lU f i).length+(lU (fun b=> !f b) i).length=i:=by
 intro i
 induction i with
 | zero=>rfl
 | succ i a=>
   rw [sF,sF,bL,bL]
   cases h:f (j6 i) <;> simp [h] <;> omega
theorem E8 {f g:UInt8→Bool} (h:∀ b,f b=g b):bytesOf f=bytesOf g:=by rw [show f=g from funext h]
def gR (f:UInt8→Bool):List UInt8:=
 if (bytesOf f).length=256 then [46]
 else if (bytesOf f).length=1∧(bytesOf f).getD 0 0≠46∧(bytesOf f).getD 0 0≠91 then bytesOf f
 else if f 93=true then [91,94]++bytesOf (fun b=> !f b)++ [93]
 else [91]++((bytesOf f).filter (fun b=>decide (b≠94))++(if 94∈bytesOf f then [94] else []))++ [93]
def l5 (ps:List (List UInt8)):List UInt8:=if ps= [] then [46] else ps.flatMap fun t=>gR<|cE t
theorem Db (f:UInt8→Bool):(gR f).length≤300:=by
 have h1:=qg f 256
 have h2:=qg (fun b=> !f b) 256
 unfold gR
 split
 · simp
 · split
   · unfold bytesOf; omega
   · split
     · simp only [bL,cT,ga]; unfold bytesOf; omega
     · have h3:=zB (fun b=>decide (b≠94))<|bytesOf f
       have h4:(if 94∈bytesOf f then [(94:UInt8)] else []).length≤1:=by split <;> simp
       simp only [bL,cT,ga]
       have h5:(bytesOf f).length≤256:=h1
       omega
theorem Uq {l:List UInt8} (hn:l.Nodup) {c:UInt8} (h:l.idxOf c < l.length):l.take (l.idxOf c)++l.drop (l.idxOf c+1)=l.filter (fun b=>decide (b≠c)):=by
 induction l with
 | nil=>simp at h
 | cons b l q=>
   rw [Nd] at hn
   by_cases a:b=c
   · subst a
     simp only [Eh,oc,pY,gW,vX,vY]
     rw [List.filter_cons_of_neg (by simp)]
     exact (MZ.2 fun x i=>by simp; rintro rfl; exact hn.1 i).symm
   · have e:(b::l).idxOf c=l.idxOf c+1:=by rw [wa,show (b==c)=false from by simpa using a]; rfl
     rw [e] at h ⊢
     simp only [cT] at h
     rw [p4,vX,Ee,q hn.2 ab,List.filter_cons_of_pos (by simpa using a)]
theorem Jy {l:List UInt8} {c:UInt8} (h:¬c∈l):l.filter (fun b=>decide (b≠c))=l:=
 MZ.2 fun x a=>by simp; rintro rfl; exact h a
def k6 (ps:List (List UInt8)):List Value:=ps.flatMap fun t=>eL<|cE t
theorem QV (a b:List (List UInt8)):k6 (a++b)=k6 a++k6 b:=by simp [k6]
end Go.Hb
end
