/-
  Walks and plain laws that the law rests on, laid together. No conditions but those that each theorem names.
-/
import Derived.WalkKit
import Derived.OrdersHeld
import Derived.TacticsIn
import Derived.Lib.Strings
import Derived.Lib.UnsafeStr
import Derived.Laws.MakeOwn
import Derived.Laws.StructEq
import Derived.SliceStrings
import Derived.Carry
import Derived.JoinedCond
import Derived.ProofKit
import Derived.OpenShut
import Derived.Test.YtchkamdekbbgeaaGreatDoorRows
import Derived.Sort.AssemblyPlain
import Derived.RangeFuncFrom
import Derived.RangeFuncLeaves
import Derived.Recover
import Derived.Laws.OwnMore
import Derived.Lib.Bytealg
import Derived.Lib.SliceRun
import Derived.OrdersIn
import Derived.Maps.RangeRun
import Derived.Test.YtchkamdekbbgeaaGreatDoorChecked
import Derived.Shelf.Slices.In.SortAlone
import Derived.Shelf.Slices.In.SortNone
import Derived.Sort.OwnSortedInts
import Derived.Sort.EveryDepth
import Derived.Shelf.SlSortCmp.NoneTotal
set_option linter.unusedVariables false
open Array renaming ext_getElem?→IM,getD_eq_getD_getElem?→B2,getElem?_eq_getElem→xS,getElem?_eq_none→p7,getElem?_eq_some_iff→bT,getElem?_setIfInBounds→B3,getElem?_toList→uL,length_toList→uM,mem_toList_iff→uN,range→ph,replicate→sL,setIfInBounds_comm→B4,toArray_toList→xT,toList_append→IP,toList_inj→xV,toList_map→lJ,toList_setIfInBounds→B6
open BitVec renaming ofInt→fE,toNat_and→IS,toNat_ofInt→pj,toNat_or→IT
open Bool renaming and_eq_true→gp,eq_iff_iff→p8,noConfusion→c7,not_eq_true'→xY,or_eq_true→B7,or_false→IV,true_and→uO
open Except.ok renaming injEq→qT
open Go.Addr renaming add→xZ
open Go.Builtin renaming append_→x2,firstCells→IW,lenOf→IX,len_→IY
open Go.Calls renaming mono→j7
open Go.Conv renaming bytesToString→I1,seenAt→I2,unsafePointer→I3
open Go.DataW renaming TrodAll→I4
open Go.Deferred renaming ofValue→pn
open Go.Fence renaming wide→ij
open Go.Instr renaming alloc→I7,buildSlice→Ca,checkKey→nC,fill→l9,findKey→qW,loadAt→Jb,lookup→Jc,slice→uQ,sliceAt→qY,sliceBound→qZ,sliceBounds→ox,storeAt→Cf,sureAddr→p9
open Go.IntKind renaming i64→x3,u16→oy,u64→dR,u8→po
open Go.Next renaming value→Cg
open Go.Obj.cells renaming injEq→uR
open Go.Op renaming equal→Ch,equalIn→pw,intArith→uS,intBits→uT,intCmp→sM,stringOp→Ci,unary→Cj
open Go.Oper renaming upon→kr,uponIn→qa,wp→ji
open Go.Region renaming Mode→q4,binds→js,free_spec→Ck,noSelect_spec→Cl,ready→iF,wanted→qc
open Go.Result renaming andThen_ok→nD,ok→Cm
open Go.Sem renaming run_bind→nE,run_ite→Cq,run_pure→q6
open Go.Sort renaming SortedIn→sN
open Go.Value renaming bool→bU,cells→sQ,int→fL,oneCell'→eQ,ownBlock→gH,pointer→x5,slice→bC
open Go.Value.slice renaming injEq→ma
open Go.Value.string renaming inj→Jp
open Go.World renaming freeze→uY,ownsRow_nil→eh,setCell→x8,shape?→Cw
open Int renaming toNat_natCast→jL
open List.Pairwise renaming imp_of_mem→XE
open List renaming all_cons→x9,all_eq_true→kP,any_eq_true→ya,append_assoc→ea,append_nil→eu,cons_append→Cx,drop_append→Ju,drop_eq_nil_of_le→lK,drop_of_length_le→Jw,drop_succ_cons→uZ,drop_take→yd,drop_zero→u6,eq_nil_of_length_eq_zero→gq,ext_getElem?→oz,filter_eq_self→yg,flatMap_cons→jt,foldl_append→CB,foldl_cons→sT,getD_cons_zero→mJ,getD_eq_getElem?_getD→cU,getElem?_append_left→mK,getElem?_append_right→nK,getElem?_cons_succ→JB,getElem?_drop→CC,getElem?_eq_getElem→bX,getElem?_eq_none→sU,getElem?_map→fF,getElem?_range→yi,getElem?_set→kt,getElem?_take→oA,idxOf_cons→u7,idxOf_cons_self→CE,length→mL,length_append→bJ,length_cons→bS,length_drop→gI,length_filter_le→mM,length_nil→gJ,length_pos_iff→mN,length_singleton→iG,length_take→eE,mapM_toArray→vd,map_append→gV,map_cons→mO,mem_append_left→sW,mem_cons→ew,mem_cons_of_mem→nM,mem_iff_getElem→JJ,mem_map→gW,mem_map_of_mem→ra,mem_of_getElem?→fU,mem_range→nP,mem_singleton→gK,nil_append→oB,nodup_cons→ri,nodup_iff_pairwise_ne→JK,pairwise_cons→nQ,range→fM,replicate→jM,size_toArray→nR,takeWhile_sublist→JO,take_append→vf,take_nil→JR,take_of_length_le→fu,take_succ_cons→sZ,take_zero→pB,zipIdx_cons→yt
open Nat renaming add_assoc→JT,add_sub_cancel→s5,add_sub_cancel_left→JW,beq→vj,ble→mP,blt→fV,eq_of_beq_eq_true→JY,le_of_ble_eq_true→qi,le_refl→cj,le_trans→dS,lt_of_lt_of_le→rk,lt_or_ge→jk,lt_succ_self→s6,min_eq_left→oC,mul_le_mul_right→oD,or_lt_two_pow→CI,pow_lt_pow_right→yu,succ_mul→nT,testBit_or→J0,testBit_two_pow→Ka,zero_add→fN,zero_mul→CJ
open Option renaming bind_some→pC,isSome_iff_exists→me,map_eq_some_iff→mg,map_some→ky
open Option.some renaming injEq→fO
open Prod renaming fst→gr
open Prod.mk renaming injEq→vl
open UInt8 renaming ofNat→j9,toNat_inj→rp,toNat_lt→jN,toNat_ofNat'→CK
open Go.Proofs.Tryz
open Go.RowKit

namespace Go.Hb
theorem ab {p:Prop} (h:p:=by omega):p:=h
theorem ag {p:Prop} (h:p:=by kernel_rfl):p:=h
theorem aw {p:Prop} (h:p:=by decide):p:=h
theorem aa {α:Sort _} {a:α} :a=a:=rfl
end Go.Hb
section
namespace Go.Hb
structure Fm where
 n:Nat
 D:List Deferred
 F:List Nat
 r:Option Nat
def c6 (σ:Nat→Value) (d:Nat) (v:Value):Nat→Value:=fun i=>cond (vj i d) v<|σ i
def fq (σ:Nat→Value):Option Nat→Value→Nat→Value
 | some d,v=>c6 σ d v
 | none,_=>σ
def act (N:Fm) (σ:Nat→Value):Act:=⟨((fM N.n).map σ).toArray,N.D⟩
def ev (N:Fm) (σ:Nat→Value):Operand→Value
 | .tmp t=>cond (fV t N.n) (σ t) undef
 | .const v=>v
 | .global g=> .pointer<|some ⟨g,0,none⟩
 | .func f=> .func (.func f) #[] #[]
theorem oL (N:Fm) (σ:Nat→Value) (t:Nat):(act N σ).tmps[t]? =if t < N.n then some (σ t) else none:=by
 simp only [act,List.getElem?_toArray,fF]
 split
 · rename_i h; rw [yi h]; rfl
 · rename_i h; rw [sU (by simpa using h)]; rfl
theorem gh (N:Fm) (σ:Nat→Value):(act N σ).eval=ev N σ:=by
 funext x
 cases x with
 | tmp t=>
   simp only [Act.eval,ev,B2,oL]
   by_cases h:t < N.n
   · rw [if_pos h,show fV t N.n=true from by simpa using h]; rfl
   · rw [if_neg h,show fV t N.n=false from by cases hx:fV t N.n <;> simp_all [fV,Nat.ble_eq] <;> omega]; rfl
 | _=>rfl
theorem vt {a b:Act} (hd:a.defers=b.defers) (c:∀ i:Nat,a.tmps[i]? =b.tmps[i]?):a=b:=by
 cases a; cases b
 simp only at hd c
 subst hd
 congr 1
 exact IM c
theorem jl (N:Fm) (σ:Nat→Value) (dst:Option Nat) (v:Value):(act N σ).put dst v=act N (fq σ dst v):=by
 cases dst with
 | none=>rfl
 | some d=>
   refine vt aa fun i=> ?_
   have C:((act N σ).put (some d) v).tmps=(act N σ).tmps.setIfInBounds d v:=rfl
   rw [C,B3,oL,oL]
   have hs:(act N σ).tmps.size=N.n:=by simp [act]
   simp only [fq,c6]
   by_cases A:i=d
   · subst A
     rw [hs]
     have c:vj i i=true :=by simp
     by_cases h:i < N.n
     · rw [if_pos rfl,if_pos h,if_pos h,c]; rfl
     · rw [if_pos rfl,if_neg h,if_neg h]
   · rw [if_neg (fun e=>A e.symm)]
     have c:vj i d=false :=by
      cases hx:vj i d
      · rfl
      · exact absurd (JY hx) A
     rw [c]; rfl
theorem o4 {σ:Nat→Value} {i:Nat} {v:Value} (h:σ i=v):c6 σ i v=σ:=by
 funext j
 unfold c6
 cases hx:vj j i
 · rfl
 · have :=JY hx; subst this; exact h.symm
def lift (N:Fm) (Q:Exit→(Nat→Value)→World→Prop):Exit→Act→World→Prop
 | .panic c,a,w=> ∃ σ,a=act N σ∧∀ A,(∀ i∈N.F,A i=σ i)→Q (.panic c) A w
 | .outgrown,_,_=>False
 | e,a,w=> ∃ σ,a=act N σ∧Q e σ w
def fe:Option Nat→Fence
 | none=>ij
 | some l=>ij.inRound l
theorem zM (r:Option Nat):(fe r).round=r:=by cases r <;> rfl
theorem vY (r:Option Nat) (f:FuncId):(fe r).fn f:=by cases r <;> trivial
theorem tM (r:Option Nat):(fe r).depth=none:=by cases r <;> rfl
theorem ET {r:Option Nat} {n:Nat} {P:Program} {f:FuncId} {args:Array Value} {w:World} {R:Ending→World→Prop} (h:Calls P f args w R):CallsIn (fe r) n P f args w R:=by
 cases r
 · exact callsIn_wide.2 h
 · exact (callsIn_wide (n:=n)).2 h
theorem zN {r:Option Nat} {n:Nat} {P:Program} {row:String} {args:Array Value} {w:World} {R:Value→World→Prop} (h:Rows P row args w R):RowsIn (fe r) n P row args w R:=fun c cs _=>by
 obtain ⟨v,w',A,hs⟩:=h c cs
 refine ⟨v,w',A,?_⟩
 cases r
 · exact stepsIn_wide.2 hs
 · exact stepsIn_wide.2 hs
def GN (ops:List Oper):Bool:=ops.all fun o=>match o.op with | .defer _=>false | _=>true
def sh (r:Option Nat) (ops:List Oper):Bool:=match r with | none=>true | some _=>GN ops
theorem TA {l:List Oper} (h:GN l=true):∀ o∈l,∀ c,o.op≠.defer c:=fun o A c e=>by
 have :=kP.1 h o A
 rw [e] at this
 cases this
theorem Ao {r:Option Nat} {P:Program} {ops:Array Oper} {Q:Exit→Act→World→Prop} (C:¬LetsOut Q) (E:sh r ops.toList=true):∀ (l:List Nat) (a:Act) (w:World),wpOps P ops Q l a w→wpOpsIn (fe r) 0 P ops Q l a w:=by
 intro l
 induction l with
 | nil=>exact fun _ _ h=>h
 | cons i l A=>
   intro a w h
   simp only [wpOps] at h
   simp only [wpOpsIn]
   cases ho:ops[i]? with
   | none=>simp only [ho] at h ⊢; exact A a w h
   | some o=>
     simp only [ho] at h ⊢
     by_cases hw:qc o (yielded ops a.tmps)=true
     · rw [if_pos hw] at h ⊢
       rcases h with h | h
       · refine ⟨fun f _=>vY r f,?_⟩
         rw [zM]
         have G:o.semAt r a.eval=execOp a.eval o:=by
          cases r with
          | none=>rfl
          | some k=>exact Oper.semAt_eq _ _ _<|TA E o<|uN.2<|Array.mem_of_getElem? ho
         rw [G]
         unfold ji at h
         generalize (execOp a.eval o).run P w=x at h
         cases x with
         | ok n w'=>
           cases n <;> simp only [kr,qa] at h ⊢ <;>
            first
             | exact A _ _ h
             | (refine ⟨fun c=>(by rw [tM] at c; cases c),CallsIn.mono (ET h) fun e w'' he=> ?_⟩
                cases e <;> first | exact A _ _ he | exact he)
             | exact ⟨fun c=>(by rw [tM] at c; cases c),RowsIn.mono (zN h) fun v w'' he=>A _ _ he⟩
         | halt x w'=>cases x <;> simp only [kr,qa] at h ⊢ <;> exact h
       · exact absurd h.2 C
     · rw [if_neg hw] at h ⊢
       exact ⟨fun f _=>vY r f,A _ _ h⟩
def di (P:Program) (N:Fm) (c:Code) (Q:Exit→(Nat→Value)→World→Prop) (σ:Nat→Value) (w:World):Prop :=
 c.wpIn (fe N.r) 0 P (lift N Q) (act N σ) w
def dX (P:Program) (N:Fm) (ops:Array Oper) (Q:Exit→(Nat→Value)→World→Prop) (l:List Oper) (σ:Nat→Value) (w:World):Prop :=
 wpList P ops (lift N Q) l (act N σ) w
def k9 (K:(Nat→Value)→World→Prop) (Q:Exit→(Nat→Value)→World→Prop):Exit→(Nat→Value)→World→Prop
 | .normal,σ,w=>K σ w
 | e,σ,w=>Q e σ w
def pR (id:Nat) (Q:Exit→(Nat→Value)→World→Prop):Exit→(Nat→Value)→World→Prop
 | .exit c,σ,w=>if c=id then Q .normal σ w else Q (.exit c) σ w
 | e,σ,w=>Q e σ w
section
variable {P:Program} {N:Fm} {Q:Exit→(Nat→Value)→World→Prop} {σ:Nat→Value} {w:World} {K:(Nat→Value)→World→Prop}
theorem SF {Q C:Exit→(Nat→Value)→World→Prop} (h:∀ e σ w,Q e σ w→C e σ w) (e:Exit) (a:Act) (w:World):lift N Q e a w→lift N C e a w:=by
 cases e <;> first | exact fun h=>h.elim | exact fun ⟨σ,c,A⟩=>⟨σ,c,h _ _ _ A⟩ | exact fun ⟨σ,c,A⟩=>⟨σ,c,fun G E=>h _ _ _<|A G E⟩
theorem Xh {A:Exit→(Nat→Value)→World→Prop} {c:Code} (h:∀ e σ w,Q e σ w→A e σ w) (C:di P N c Q σ w):di P N c A σ w:=
 wpIn_mono C (SF h)
theorem tn (h:K σ w):k9 K Q .normal σ w:=h
theorem te (id:Nat) (h:Q (.exit id) σ w):k9 K Q (.exit id) σ w:=h
theorem tr (h:Q .ret σ w):k9 K Q .ret σ w:=h
theorem bn {id:Nat} (h:Q .normal σ w):pR id Q .normal σ w:=h
theorem be {id:Nat} (h:Q .normal σ w):pR id Q (.exit id) σ w:=by simpa only [pR,if_true] using h
theorem nX {id c:Nat} (A:c≠id) (h:Q (.exit c) σ w):pR id Q (.exit c) σ w:=by simpa only [pR,if_neg A] using h
theorem br {id:Nat} (h:Q .ret σ w):pR id Q .ret σ w:=h
theorem sq {x y:Code} (h:∀ K:(Nat→Value)→World→Prop,(∀ σ w,di P N y Q σ w→K σ w)→di P N x (k9 K Q) σ w):di P N (.seq x y) Q σ w:=by
 refine wpIn_seq<|wpIn_mono (h (fun σ w=>di P N y Q σ w) fun _ _ h=>h) ?_
 intro e a w A
 cases e with
 | normal=>obtain ⟨σ,rfl,C⟩:=A; exact C
 | panic c=>exact A
 | outgrown=>exact A
 | _=>obtain ⟨σ,rfl,C⟩:=A; exact ⟨σ,rfl,C⟩
theorem e8 {x y:Code} (c:(Nat→Value)→World→Prop) (h:di P N x (k9 c Q) σ w) (hk:∀ σ w,c σ w→di P N y Q σ w):di P N (.seq x y) Q σ w:=
 sq fun _ C=>Xh (fun e _ _ A=>by cases e <;> first | exact C _ _ (hk _ _ A) | exact A) h
theorem ct {c:Operand} {x y:Code} (A:ev N σ c= .bool true) (h:di P N x Q σ w):di P N (.cond c x y) Q σ w:=
 wpIn_cond_true (by rw [gh]; exact A) h
theorem cf {c:Operand} {x y:Code} (A:ev N σ c= .bool false) (h:di P N y Q σ w):di P N (.cond c x y) Q σ w:=
 wpIn_cond_false (by rw [gh]; exact A) h
theorem cb {c:Operand} {x y:Code} {b:Bool} (A:ev N σ c= .bool b) (E:b=true→di P N x Q σ w) (C:b=false→di P N y Q σ w):di P N (.cond c x y) Q σ w:=by
 cases b
 · exact cf A<|C aa
 · exact ct A<|E aa
theorem cd {c:Operand} {x y:Code} {p:Prop} [Decidable p] (A:ev N σ c= .bool (decide p)) (E:p→di P N x Q σ w) (C:¬p→di P N y Q σ w):di P N (.cond c x y) Q σ w:=
 cb A (fun h=>E<|of_decide_eq_true h) (fun h=>C<|of_decide_eq_false h)
theorem az {id:Nat} {c:Code} (h:di P N c (pR id Q) σ w):di P N (.block id c) Q σ w:=by
 refine wpIn_block<|wpIn_mono h ?_
 intro e a w C
 cases e with
 | panic c=>exact C
 | outgrown=>exact C
 | exit E=>
   obtain ⟨σ,rfl,A⟩:=C
   simp only [pR,Exit.inBlock] at A ⊢
   split
   · rename_i e; rw [if_pos e] at A; exact ⟨σ,rfl,A⟩
   · rename_i e; rw [if_neg e] at A; exact ⟨σ,rfl,A⟩
 | _=>obtain ⟨σ,rfl,A⟩:=C; exact ⟨σ,rfl,A⟩
theorem ext {id:Nat} (h:Q (.exit id) σ w):di P N (.exit id) Q σ w:=wpIn_exit ⟨σ,rfl,h⟩
theorem aR (h:Q .normal σ w):di P N .skip Q σ w:=wpIn_skip ⟨σ,rfl,h⟩
theorem rt (h:Q .ret σ w):di P N .ret Q σ w:=wpIn_ret ⟨σ,rfl,h⟩
theorem fx {c:Code} {v:Value} (i:Nat) (h:σ i=v) (A:di P N c Q (c6 σ i v) w):di P N c Q σ w:=by rw [o4 h] at A; exact A
theorem lp {c:Code} (J:Nat→(Nat→Value)→World→Prop) (n:Nat) (ae:J n σ w)
 (h:∀ n σ w,J n σ w→di P N c (k9 (fun an w'=> ∃ m,m < n∧J m an w') Q) σ w):di P N (.loop c) Q σ w:=by
 intro b k cs ak V Y
 have key:∀ n σ w,J n σ w→
  ∃ e O w',lift N Q e O w'∧ArrivesIn (Machine.fenced P<|fe N.r) P (lone (b.atR (act N σ) (.code c:: .inLoop c::k)) cs w) b k cs e O w':=by
  intro n
  induction n using Nat.strongRecOn with
  | _ n al=>
    intro σ w ag
    obtain ⟨e,Z,I,G,C⟩:=h n σ w ag b (.inLoop c::k) cs ak V Y
    cases e with
    | normal=>
      obtain ⟨A,rfl,m,hm,ah⟩:=G
      obtain ⟨ad,ab,am,aj,ai⟩:=al m hm A I ah
      exact ⟨ad,ab,am,aj,.of_steps (StepsIn.trans C<|.one (fenced_calm V Y aa) stepR_inLoop) ai⟩
    | exit id=>obtain ⟨A,rfl,E⟩:=G; exact ⟨.exit id,act N A,I,⟨A,rfl,E⟩,.pass (x:= .inLoop c) rfl (fun _ _=> .inl<|by simp) C⟩
    | goto l=>obtain ⟨A,rfl,E⟩:=G; exact ⟨.goto l,act N A,I,⟨A,rfl,E⟩,.pass (x:= .inLoop c) rfl (fun _ _=> .inl<|by simp) C⟩
    | ret=>obtain ⟨A,rfl,E⟩:=G; exact ⟨.ret,act N A,I,⟨A,rfl,E⟩,.pass (x:= .inLoop c) rfl (fun _ _=> .inl<|by simp) C⟩
    | panic ac=>exact ⟨.panic ac,Z,I,G,.pass (x:= .inLoop c) rfl (fun _ _=> .inl<|by simp) C⟩
    | outgrown=>exact G.elim
 obtain ⟨e,O,w',E,C⟩:=key _ σ w ae
 exact ⟨e,O,w',E,.of_steps (.one (fenced_calm V Y aa) stepR_loop) C⟩
def cH (P:Program) (N:Fm) (o:Oper) (σ:Nat→Value) (w:World) (K:(Nat→Value)→World→Prop):Prop :=
 ji P o (act N σ) w (fun a w=> ∃ σ,a=act N σ∧K σ w) (fun _ _ _=>False)
theorem WI {o:Oper} {a:Act} {K C:Act→World→Prop} {Q:Exit→Act→World→Prop} (h:∀ a w,K a w→C a w)
 (r:Result Next) (A:o.upon P a K (fun _ _ _=>False) r):o.upon P a C Q r:=by
 cases r with
 | ok n w'=>
   cases n <;> simp only [kr] at A ⊢ <;>
    first
     | exact h _ _ A
     | exact j7 A (fun e w'' he=>by
      cases e with
      | returned v=>exact h _ _ he
      | panicked c=>exact he.elim
      | outgrown=>obtain ⟨_,_,E⟩:=he; exact E.elim)
     | exact Rows.mono A fun _ _ he=>h _ _ he
 | halt x w'=>cases x <;> simp only [kr] at A ⊢
theorem sE {K:(Nat→Value)→World→Prop} {c:Act→World→Prop} {Q:Exit→Act→World→Prop} {o:Oper} (h:cH P N o σ w K) (hk:∀ σ w,K σ w→c (act N σ) w):o.wp P (act N σ) w c Q:=by
 unfold cH at h
 unfold ji at*
 exact WI (fun a w ⟨σ,C,A⟩=>by subst C; exact hk _ _ A) _ h
theorem Iw {K c:(Nat→Value)→World→Prop} {o:Oper} (h:cH P N o σ w K) (hk:∀ σ w,K σ w→c σ w):cH P N o σ w c:=
 sE h (fun σ w A=>⟨σ,rfl,hk σ w A⟩)
variable {ops:Array Oper} {rest:List Oper} {d:Nat} {op:Op} {ty:TypeId} {pos :String} {af:Array Edge} {d':Option Nat} {v:Value} {o:Oper}
theorem xN (c:qc o (yielded ops (act N σ).tmps)=true) (h:cH P N o σ w (fun σ w=>dX P N ops Q rest σ w)):dX P N ops Q (o::rest) σ w:=by
 unfold dX wpList
 rw [if_pos c]
 exact .inl<|sE h fun _ _ hk=>hk
theorem lH {K:(Nat→Value)→World→Prop} {w':World} (c:(execOp (ev N σ) o).run P w= .ok (.value v) w') (hk:K (fq σ o.dst v) w'):cH P N o σ w K:=by
 unfold cH ji
 rw [gh,c]
 exact ⟨_,jl ..,hk⟩
theorem jg (o:Oper) (c:o.guard=none) (y:Nat→Option Bool):qc o y=true :=by simp [qc,c]
def jF (ops:Array Oper) (j:Nat):Option Nat:=(ops[j]?).bind (·.dst)
theorem o6 {j t:Nat} {want b:Bool} (A:o.guard=some (j,want)) (c:jF ops j=some t) (C:fV t N.n=true) (E:σ t= .bool b):
 qc o (yielded ops (act N σ).tmps)=(b==want):=by
 have h1:yielded ops (act N σ).tmps j=some b:=by
  unfold yielded
  unfold jF at c
  rw [c]
  simp only [pC,oL]
  rw [if_pos (rk (s6 t)<|qi C),E]
 simp only [qc,A,h1]
 cases b <;> cases want <;> rfl
theorem W4 {j t:Nat} {want:Bool} (A:o.guard=some (j,want)) (c:jF ops j=some t) (C:fV t N.n=true) (E:σ t=undef):
 qc o (yielded ops (act N σ).tmps)=false :=by
 have h1:yielded ops (act N σ).tmps j=none:=by
  unfold yielded
  unfold jF at c
  rw [c]
  simp only [pC,oL]
  rw [if_pos (rk (s6 t)<|qi C),E]; rfl
 simp only [qc,A,h1]
 rfl
theorem p (h:(execOp (ev N σ) ⟨some d,op,ty,pos,af,none⟩).run P w= .ok (.value v) w) (k:dX P N ops Q rest (c6 σ d v) w):
 dX P N ops Q (⟨some d,op,ty,pos,af,none⟩::rest) σ w:=
 xN (jg _ rfl _) (lH h k)
theorem pg {j t:Nat} {want:Bool} (c:jF ops j=some t) (A:fV t N.n=true) (C:σ t= .bool want)
 (h:(execOp (ev N σ) ⟨some d,op,ty,pos,af,some (j,want)⟩).run P w= .ok (.value v) w) (k:dX P N ops Q rest (c6 σ d v) w):
 dX P N ops Q (⟨some d,op,ty,pos,af,some (j,want)⟩::rest) σ w:=
 xN (by rw [o6 rfl c A C]; cases want <;> rfl) (lH h k)
theorem sk {j t:Nat} {want b:Bool} (A:jF ops j=some t) (C:fV t N.n=true) (E:σ t= .bool b) (c:(b==want)=false)
 (k:dX P N ops Q rest (c6 σ d undef) w):dX P N ops Q (⟨some d,op,ty,pos,af,some (j,want)⟩::rest) σ w:=by
 unfold dX wpList
 rw [if_neg (by rw [o6 rfl A C E,c]; simp),jl]
 exact k
theorem xo {j t:Nat} {want:Bool} (c:jF ops j=some t) (A:fV t N.n=true) (C:σ t=undef)
 (k:dX P N ops Q rest (c6 σ d undef) w):dX P N ops Q (⟨some d,op,ty,pos,af,some (j,want)⟩::rest) σ w:=by
 unfold dX wpList
 rw [if_neg (by rw [W4 rfl c A C]; simp),jl]
 exact k
theorem e (h:cH P N ⟨d',op,ty,pos,af,none⟩ σ w (fun σ w=>dX P N ops Q rest σ w)):dX P N ops Q (⟨d',op,ty,pos,af,none⟩::rest) σ w:=
 xN (jg _ rfl _) h
theorem eg {j t:Nat} {want:Bool} (c:jF ops j=some t) (A:fV t N.n=true) (C:σ t= .bool want)
 (h:cH P N ⟨d',op,ty,pos,af,some (j,want)⟩ σ w (fun σ w=>dX P N ops Q rest σ w)):dX P N ops Q (⟨d',op,ty,pos,af,some (j,want)⟩::rest) σ w:=
 xN (by rw [o6 rfl c A C]; cases want <;> rfl) h
theorem nl (h:Q .normal σ w):dX P N ops Q [] σ w:=⟨σ,rfl,h⟩
theorem AB:¬LetsOut (lift N Q):=fun ⟨_,_,h⟩=>h
theorem rg {id:Nat} {l:List Oper} (c:sh N.r l=true) (h:dX P N l.toArray Q l σ w):di P N (.region id l.toArray false) Q σ w:=by
 refine wpIn_region<|Ao AB c _ _ _ ?_
 have h1:=wpOps_eq_wpList (P:=P) (ops:=l.toArray) (Q:=lift N Q) l 0 fun j=>by simp
 rw [List.range_eq_range',nR,h1]
 exact h
theorem gs {l:List Oper} {t:Nat} {q:Prop} [Decidable q] (h:σ t= .bool (decide q)) (C:q→dX P N ops Q l (c6 σ t<|.bool true) w) (A:¬q→dX P N ops Q l (c6 σ t<|.bool false) w):dX P N ops Q l σ w:=by
 by_cases c:q
 · have :=C c; rwa [o4 (by rw [h,decide_eq_true c])] at this
 · have :=A c; rwa [o4 (by rw [h,decide_eq_false c])] at this
theorem gb {l:List Oper} {t:Nat} {b:Bool} (h:σ t= .bool b) (A:b=true→dX P N ops Q l (c6 σ t<|.bool true) w) (c:b=false→dX P N ops Q l (c6 σ t<|.bool false) w):dX P N ops Q l σ w:=by
 cases b
 · have :=c rfl; rwa [o4 h] at this
 · have :=A rfl; rwa [o4 h] at this
def fK (P:Program) (N:Fm) (ops:Array Oper) (Q:Exit→(Nat→Value)→World→Prop) (S:World→Prop) (fuel:Nat) (aW:Array Bool) (σ:Nat→Value) (w:World):Prop :=
 wpAnyH P .any ops (lift N Q) S fuel aW (act N σ) w
variable {S:World→Prop} {fuel:Nat} {aW:Array Bool}
theorem C6 {id:Nat} {l:List Oper} (c:sh N.r l=true) (hm:P.follows .mixedOrders=true) (h:wpAny P .any l.toArray (lift N Q) l.toArray.size (sL l.toArray.size false) (act N σ) w.drew):di P N (.region id l.toArray true) Q σ w:=by
 refine wpIn_region_draw fun t=>Ao AB c _ _ _ ?_
 simp only [Region.schedule,hm,Bool.true_or,if_true]
 exact wpAny_sound _ t _ _ _ h
theorem bR {id:Nat} {l:List Oper} (S:World→Prop) (c:sh N.r l=true) (hm:P.follows .mixedOrders=true) (A:S w.drew) (h:fK P N l.toArray Q S l.length (sL l.length false) σ w.drew):di P N (.region id l.toArray true) Q σ w:=
 C6 c hm (wpAny_of_held _ _ _ _<|by rw [nR]; exact h)
def A1 (F:List Nat) (d:Option Nat):Bool:=match d with | some d=> !(F.contains d) | none=>true
def iT (F:List Nat) (ops:Array Oper) (aW:Array Bool) (i:Nat):Bool:=
 Region.noSelect ops && Region.free .any ops aW i && (iF .any ops aW).contains i && A1 F ((ops[i]?).bind (·.dst))
theorem oX {d:Option Nat} {v:Value} (hd:A1 N.F d=true) (c:List PanicEntry) (a:Act) (w:World):lift N Q (.panic c) (a.put d v) w→lift N Q (.panic c) a w:=by
 rintro ⟨σ,A,h⟩
 cases d with
 | none=>exact ⟨σ,A,h⟩
 | some d=>
   have O:a.tmps.size=N.n:=by
    have :=congrArg (fun x:Act=>x.tmps.size) A
    simpa [Act.put,act] using this
   have E:a.defers=N.D:=congrArg (fun x:Act=>x.defers) A
   have G:∀ i:Nat,i≠d→a.tmps[i]? =if i < N.n then some (σ i) else none:=fun i hi=>by
    have h1:(a.put (some d) v).tmps[i]? =a.tmps[i]? :=by
     show (a.tmps.setIfInBounds d v)[i]? =_
     rw [B3,if_neg (fun e=>hi e.symm)]
    rw [← h1,A,oL]
   refine ⟨fun i=>if i < N.n then a.tmps.getD i undef else σ i,vt E fun i=> ?_,fun J C=>h J fun i hi=> ?_⟩
   · rw [oL]
     by_cases h1:i < N.n
     · rw [if_pos h1,if_pos h1,B2,xS ab]; rfl
     · rw [if_neg h1,p7 ab]
   · have I:i≠d:=by
      rintro rfl
      simp only [A1,xY,List.contains_eq_mem,decide_eq_false_iff_not] at hd
      exact hd hi
     rw [C i hi]
     by_cases h1:i < N.n
     · simp only [if_pos h1]
       rw [B2,G i I,if_pos h1]; rfl
     · simp only [if_neg h1]
theorem hp (i:Nat) (hi:ops[i]? =some ⟨some d,op,ty,pos,af,none⟩) (A:iT N.F ops aW i=true)
 (E:∀ w,S w→(execOp (ev N σ) ⟨some d,op,ty,pos,af,none⟩).run P w= .ok (.value v) w) (C:S w)
 (k:fK P N ops Q S fuel (aW.setIfInBounds i true) (c6 σ d v) w):fK P N ops Q S (fuel+1) aW σ w:=by
 simp only [iT,gp] at A
 refine wpAnyH_take hi A.1.1.1 A.1.1.2 A.1.2 (fun c a w=>oX (by have :=A.2; rwa [hi] at this) c a w) (.inl ⟨jg _ rfl _,fun w C=> ?_⟩) C ?_ (v:=v)
 · rw [gh]; exact E w C
 · rw [jl]; exact k
theorem n5 (i:Nat) {j t:Nat} {want:Bool} (hi:ops[i]? =some ⟨some d,op,ty,pos,af,some (j,want)⟩) (A:iT N.F ops aW i=true)
 (E:jF ops j=some t) (G:fV t N.n=true) (I:σ t= .bool want)
 (J:∀ w,S w→(execOp (ev N σ) ⟨some d,op,ty,pos,af,some (j,want)⟩).run P w= .ok (.value v) w) (C:S w)
 (k:fK P N ops Q S fuel (aW.setIfInBounds i true) (c6 σ d v) w):fK P N ops Q S (fuel+1) aW σ w:=by
 simp only [iT,gp] at A
 refine wpAnyH_take hi A.1.1.1 A.1.1.2 A.1.2 (fun c a w=>oX (by have :=A.2; rwa [hi] at this) c a w) (.inl ⟨by rw [o6 aa E G I]; cases want <;> rfl,fun w C=> ?_⟩) C ?_ (v:=v)
 · rw [gh]; exact J w C
 · rw [jl]; exact k
theorem n9 (i:Nat) {j t:Nat} {want b:Bool} (hi:ops[i]? =some ⟨some d,op,ty,pos,af,some (j,want)⟩) (A:iT N.F ops aW i=true)
 (G:jF ops j=some t) (I:fV t N.n=true) (J:σ t= .bool b) (E:(b==want)=false) (C:S w)
 (k:fK P N ops Q S fuel (aW.setIfInBounds i true) (c6 σ d undef) w):fK P N ops Q S (fuel+1) aW σ w:=by
 simp only [iT,gp] at A
 refine wpAnyH_take hi A.1.1.1 A.1.1.2 A.1.2 (fun c a w=>oX (by have :=A.2; rwa [hi] at this) c a w) (.inr ⟨by rw [o6 aa G I J,E],aa⟩) C ?_ (v:=undef)
 rw [jl]; exact k
def kM (ops:Array Oper) (aW:Array Bool) (i:Nat):Bool:=(iF .any ops aW)== [i]
theorem he (i:Nat) (hi:ops[i]? =some ⟨d',op,ty,pos,af,none⟩) (c:kM ops aW i=true)
 (h:cH P N ⟨d',op,ty,pos,af,none⟩ σ w (fun σ w=>S w∧fK P N ops Q S fuel (aW.setIfInBounds i true) σ w)):fK P N ops Q S (fuel+1) aW σ w:=by
 refine wpAnyH_all (rs:= [i]) (by simpa [kM] using c) (by simp) ?_
 intro k hk
 obtain rfl :k=i:=by simpa using hk
 unfold wpOp
 simp only [hi]
 rw [if_pos (jg _ rfl _)]
 exact .inl<|sE h fun _ _ hk=>hk
theorem lV (i:Nat) {j t:Nat} {want:Bool} (hi:ops[i]? =some ⟨d',op,ty,pos,af,some (j,want)⟩) (A:kM ops aW i=true)
 (c:jF ops j=some t) (C:fV t N.n=true) (E:σ t= .bool want)
 (h:cH P N ⟨d',op,ty,pos,af,some (j,want)⟩ σ w (fun σ w=>S w∧fK P N ops Q S fuel (aW.setIfInBounds i true) σ w)):fK P N ops Q S (fuel+1) aW σ w:=by
 refine wpAnyH_all (rs:= [i]) (by simpa [kM] using A) (by simp) ?_
 intro k hk
 obtain rfl :k=i:=by simpa using hk
 unfold wpOp
 simp only [hi]
 rw [if_pos (by rw [o6 rfl c C E]; cases want <;> rfl)]
 exact .inl<|sE h fun _ _ hk=>hk
theorem hn (c:(iF .any ops aW).isEmpty=true) (h:Q .normal σ w):fK P N ops Q S fuel aW σ w:=
 wpAnyH_done (by simpa using c) ⟨σ,rfl,h⟩ fuel
theorem kH {t:Nat} {q:Prop} [Decidable q] (h:σ t= .bool (decide q)) (C:q→fK P N ops Q S fuel aW (c6 σ t<|.bool true) w) (A:¬q→fK P N ops Q S fuel aW (c6 σ t<|.bool false) w):fK P N ops Q S fuel aW σ w:=by
 by_cases c:q
 · have :=C c; rwa [o4 (by rw [h,decide_eq_true c])] at this
 · have :=A c; rwa [o4 (by rw [h,decide_eq_false c])] at this
end
def bf (P:Program) (f:FuncId) (args:Array Value) (w:World) (R:Value→World→Prop):Prop :=
 Calls P f args w fun e w'=> ∃ v,e= .returned v∧R v w'
theorem bf.mono {P:Program} {f:FuncId} {args:Array Value} {w:World} {R R':Value→World→Prop} (h:bf P f args w R) (A:∀ v w',R v w'→R' v w'):bf P f args w R':=
 j7 h fun _ _ ⟨v,he,c⟩=>⟨v,he,A _ _ c⟩
def l7 (args:List Value):Nat→Value:=fun i=>args.getD i undef
def fin (P:Program) (fn:Func) (N:Fm) (R:Value→World→Prop):Exit→(Nat→Value)→World→Prop
 | .normal,σ,w=> ∃ v,(results fn (act N σ).tmps).run P w= .ok v w∧R v w
 | .ret,σ,w=> ∃ v,(results fn (act N σ).tmps).run P w= .ok v w∧R v w
 | _,_,_=>False
theorem enter {P:Program} {f:FuncId} {N:Nat} {fn:Func} {c:Code} {args:List Value} {w:World} {R:Value→World→Prop} (V:P.funcs[f]? =some fn) (O:fn.body=some c)
 (I:fn.ntmps=N) (hn:mP args.length N=true) (h:di P ⟨N,[],[],none⟩ c (fin P fn ⟨N,[],[],none⟩ R) (l7 args) w):bf P f args.toArray w R:=by
 subst I
 refine calls_of_wp V O ?_
 have J:({tmps:=args.toArray++sL (fn.ntmps - args.toArray.size) undef,defers:= []} :Act)=act ⟨fn.ntmps,[],[],none⟩ (l7 args):=by
  have Y:args.length≤fn.ntmps:=by simpa using hn
  refine vt aa fun i=> ?_
  rw [oL]
  simp only [l7,cU,nR]
  by_cases h1:i < args.length
  · rw [Array.getElem?_append_left (by simpa using h1),if_pos ab]
    simp [h1]
  · rw [Array.getElem?_append_right (by simpa using h1)]
    simp only [nR,Array.getElem?_replicate]
    by_cases h2:i < fn.ntmps
    · rw [if_pos ab,if_pos h2,sU ab]; rfl
    · rw [if_neg ab,if_neg h2]
 rw [J]
 refine Code.wp_mono ?_<|wpIn_wide.1 h
 intro e a w A
 cases e with
 | normal=>obtain ⟨σ,rfl,v,G,E⟩:=A; exact ⟨rfl,v,G,v,rfl,E⟩
 | ret=>obtain ⟨σ,rfl,v,G,E⟩:=A; exact ⟨rfl,v,G,v,rfl,E⟩
 | exit id=>obtain ⟨σ,rfl,C⟩:=A; exact C.elim
 | goto l=>obtain ⟨σ,rfl,C⟩:=A; exact C.elim
 | panic c=>obtain ⟨σ,rfl,C⟩:=A; exact (C σ fun _ _=>rfl).elim
 | outgrown=>exact A.elim
section
variable {P:Program} {N:Fm} {σ:Nat→Value} {w:World} {fn:Func} {R:Value→World→Prop}
theorem ny (t:Nat):(act N σ).tmps.getD t undef=ev N σ (.tmp t):=by
 rw [← gh]; rfl
theorem f0 (h:fn.results= #[]) (c:R (.tuple #[]) w):fin P fn N R .normal σ w:=⟨_,results_none h _ _ _,c⟩
theorem tK (h:fn.results= #[]) (c:R (.tuple #[]) w):fin P fn N R .ret σ w:=⟨_,results_none h _ _ _,c⟩
theorem f1 {t:Nat} {v:Value} (h:fn.results= #[.tmp t]) (A:ev N σ (.tmp t)=v) (c:R v w):fin P fn N R .ret σ w:=
 ⟨v,by rw [results_tmp h,ny,A],c⟩
theorem f2 {t u:Nat} {v c:Value} (h:fn.results= #[.tmp t,.tmp u]) (C:ev N σ (.tmp t)=v) (hu:ev N σ (.tmp u)=c) (A:R (.tuple #[v,c]) w):fin P fn N R .ret σ w:=
 ⟨_,by rw [results_tmp2 h,ny,ny,C,hu],A⟩
theorem f3 {t u s:Nat} {v c A:Value} (h:fn.results= #[.tmp t,.tmp u,.tmp s]) (E:ev N σ (.tmp t)=v) (hu:ev N σ (.tmp u)=c) (hs:ev N σ (.tmp s)=A) (C:R (.tuple #[v,c,A]) w):fin P fn N R .ret σ w:=by
 refine ⟨_,?_,C⟩
 simp only [results,h]
 subst E hu hs
 simp only [← ny]
 simp [vd]
theorem f4 {t u s r:Nat} {v c A v3:Value} (h:fn.results= #[.tmp t,.tmp u,.tmp s,.tmp r]) (G:ev N σ (.tmp t)=v) (hu:ev N σ (.tmp u)=c) (hs:ev N σ (.tmp s)=A) (E:ev N σ (.tmp r)=v3) (C:R (.tuple #[v,c,A,v3]) w):fin P fn N R .ret σ w:=by
 refine ⟨_,?_,C⟩
 simp only [results,h]
 subst G hu hs E
 simp only [← ny]
 simp [vd]
end
attribute [irreducible] dX di fK cH
end Go.Hb
namespace Go.Hb
def aJ (h:Array Obj) (b off :Nat):Option Value:=
 match h[b]? with
 | some (.cells c _ _)=>c[off]?
 | _=>none
theorem mT (w:World) (b off :Nat):w.cell? ⟨b,off,none⟩=aJ w.heap b off :=by
 unfold World.cell? aJ
 simp only
 split <;> simp_all
theorem aV {h:Array Obj} {b off :Nat} {c:Array Value} {t:TypeId} {f:Nat×Nat} (A:h[b]? =some (.cells c t f)):aJ h b off =c[off]? :=by
 simp only [aJ,A]
theorem M7 {h:Array Obj} {b off :Nat} {v:Value} (c:aJ h b off =some v):b < h.size:=by
 unfold aJ at c
 rcases jk b h.size with C | A
 · exact C
 · simp [p7 A] at c
structure Md (F:Nat→Prop) (w w':World):Prop where
 os:w'.os=w.os
 output:w'.output=w.output
 size:w.heap.size≤w'.heap.size
 dv:∀ k,k < w.heap.size→¬F k→w'.heap[k]? =w.heap[k]?
abbrev Wk (w w':World):Prop :=Md (fun _=>False) w w'
theorem Md.refl (F:Nat→Prop) (w:World):Md F w w:=⟨rfl,rfl,cj _,fun _ _ _=>rfl⟩
theorem Md.drew {F:Nat→Prop} {w w':World} (h:Md F w w'):Md F w w'.drew:=⟨h.os,h.output,h.size,h.dv⟩
theorem Md.mono {F G:Nat→Prop} {w w':World} (h:Md F w w') (A:∀ k,k < w.heap.size→F k→G k):Md G w w':=
 ⟨h.os,h.output,h.size,fun k hk C=>h.dv k hk fun c=>C<|A k hk c⟩
theorem Md.trans {F:Nat→Prop} {a b c:World} (h:Md F a b) (A:Md F b c):Md F a c:=
 ⟨A.os.trans h.os,A.output.trans h.output,dS h.size A.size,fun k hk C=>(A.dv k (rk hk h.size) C).trans<|h.dv k hk C⟩
theorem Md.trans' {F G:Nat→Prop} {a b c:World} (h:Md F a b) (A:Md G b c) (E:∀ k,k < a.heap.size→G k→F k):Md F a c:=
 ⟨A.os.trans h.os,A.output.trans h.output,dS h.size A.size,
  fun k hk C=>(A.dv k (rk hk h.size) fun x=>C<|E k hk x).trans (h.dv k hk C)⟩
theorem Md.az {F:Nat→Prop} {w w':World} (h:Md F w w') {k:Nat} {o:Obj} (hk:w.heap[k]? =some o) (c:¬F k):w'.heap[k]? =some o:=
 (h.dv k (bT.1 hk).1 c).trans hk
theorem Md.aJ {F:Nat→Prop} {w w':World} (h:Md F w w') {b off :Nat} {v:Value} (c:Hb.aJ w.heap b off =some v) (A:¬F b):Hb.aJ w'.heap b off =some v:=by
 have :=h.dv b (M7 c) A
 unfold Hb.aJ at*
 rw [this]; exact c
theorem Wk.aJ {w w':World} (h:Wk w w') {b off :Nat} {v:Value} (c:Hb.aJ w.heap b off =some v):Hb.aJ w'.heap b off =some v:=Md.aJ h c id
theorem Wk.az {w w':World} (h:Wk w w') {k:Nat} {o:Obj} (hk:w.heap[k]? =some o):w'.heap[k]? =some o:=Md.az h hk id
structure Nw (w w':World):Prop where
 md:Wk w w'
 size:w'.heap.size=w.heap.size+1
 one:∃ o,w'= {w with heap:=w.heap.push o}
theorem AW (w:World) (o:Obj):Nw w {w with heap:=w.heap.push o} :=
 ⟨⟨rfl,rfl,by simp,fun k hk _=>by show (w.heap.push o)[k]? =_; rw [Array.getElem?_push,if_neg ab]⟩,by simp,o,rfl⟩
def dt (P:Program) (t:TypeId):Option (Option Nat):=
 match P.underlying t with
 | some (.struct _) | some (.array _ _)=>((P.info? t).map (·.size)).map some
 | some _=>some none
 | none=>none
def cM (P:Program) (s f:Nat):Option Nat:=
 match P.underlying s with
 | some (.struct fs)=>match fs[f]? with
   | some fd=>match P.info? fd.type with
     | some i=>if i.size=0 then none else some fd.offset
     | none=>none
   | none=>none
 | _=>none
def gN (P:Program) (t:TypeId):Option Nat:=
 match P.underlying t with
 | some (.slice e)=>(P.info? e).map (·.size)
 | _=>none
section
variable {P:Program} {N:Fm} {σ:Nat→Value} {w:World} {dst:Option Nat} {ty:TypeId} {pos :String} {af:Array Edge} {g:Option (Nat×Bool)} {x y z:Operand}
theorem db {t:TypeId} {d:TypeDesc} (h:P.underlying t=some d) (w:World):(underlying t).run P w= .ok d w:=by
 simp [underlying,h]
theorem gS {t:TypeId} {i:TypeInfo} (h:P.info? t=some i) (w:World):(typeInfo t).run P w= .ok i w:=by
 simp [typeInfo,h]
theorem mv:(execOp (ev N σ) ⟨dst,.move x,ty,pos,af,g⟩).run P w= .ok (.value<|ev N σ x) w:=rfl
theorem aE:(execOp (ev N σ) ⟨dst,.assign x,ty,pos,af,g⟩).run P w= .ok (.value<|ev N σ x) w:=rfl
theorem aH (v:Value) (h:ev N σ x=v):(execOp (ev N σ) ⟨dst,.move x,ty,pos,af,g⟩).run P w= .ok (.value v) w:=by rw [← h]; rfl
theorem cg (v:Value) (h:ev N σ x=v):(execOp (ev N σ) ⟨dst,.assign x,ty,pos,af,g⟩).run P w= .ok (.value v) w:=by rw [← h]; rfl
theorem bO {c:Operand} (A:ev N σ c= .bool true):(execOp (ev N σ) ⟨dst,.pick c x y,ty,pos,af,g⟩).run P w= .ok (.value<|ev N σ x) w:=by
 simp [execOp,A,asBool]
theorem bG {c:Operand} (A:ev N σ c= .bool false):(execOp (ev N σ) ⟨dst,.pick c x y,ty,pos,af,g⟩).run P w= .ok (.value<|ev N σ y) w:=by
 simp [execOp,A,asBool]
theorem nc {a:Addr} (c:ev N σ x= .pointer (some a)):(execOp (ev N σ) ⟨dst,.nilCheck x,ty,pos,af,g⟩).run P w= .ok (.value<|.pointer<|some a) w:=by
 simp [execOp,c]
theorem xt {i:Nat} {vs:Array Value} {v:Value} (A:ev N σ x= .tuple vs) (c:vs[i]? =some v):(execOp (ev N σ) ⟨dst,.extract x i,ty,pos,af,g⟩).run P w= .ok (.value v) w:=by
 simp [execOp,A,Instr.extract,c]
theorem fa {s f n b off :Nat} (c:cM P s f=some n) (E:ev N σ x= .pointer (some ⟨b,off,none⟩)):
 (execOp (ev N σ) ⟨dst,.fieldAddr s x f,ty,pos,af,g⟩).run P w= .ok (.value<|.pointer<|some ⟨b,off+n,none⟩) w:=by
 unfold cM at c
 split at c
 · rename_i fs hu
   split at c
   · rename_i fd C
     split at c
     · rename_i i hi
       split at c
       · cases c
       · rename_i G
         cases c
         have A:(⟨b,off,none⟩:Addr).add fd.offset=⟨b,off+fd.offset,none⟩:=by unfold xZ; split <;> simp_all
         simp [execOp,Instr.fieldAt,db hu,C,E,p9,fieldPlace,sizeOf,gS hi,G,A]
     · cases c
   · cases c
 · cases c
theorem ld {t b off :Nat} {v:Value} (hu:dt P t=some none) (C:ev N σ x= .pointer (some ⟨b,off,none⟩)) (c:aJ w.heap b off =some v):
 (execOp (ev N σ) ⟨dst,.load t x,ty,pos,af,g⟩).run P w= .ok (.value v) w:=by
 have A:w.cell? ⟨b,off,none⟩=some v:=by rw [mT]; exact c
 unfold dt at hu
 cases hd:P.underlying t with
 | none=>rw [hd] at hu; cases hu
 | some d=>
   rw [hd] at hu
   cases d <;> first
    | (simp only [mg] at hu; obtain ⟨_,_,h⟩:=hu; cases h; done)
    | simp [execOp,Jb,C,p9,loadVar,isAgg,db hd,run_load,A]
theorem lO (b off j:Nat):(⟨b,off,none⟩:Addr).add j=⟨b,off+j,none⟩:=by
 unfold xZ; split <;> simp_all
theorem cE {t n b off :Nat} {cs:List Value} (hu:dt P t=some (some n)) (G:ev N σ x= .pointer (some ⟨b,off,none⟩)) (E:cs.length=n)
 (A:∀ j,j < n→aJ w.heap b (off+j)=cs[j]?):
 (execOp (ev N σ) ⟨dst,.load t x,ty,pos,af,g⟩).run P w= .ok (.value<|.agg cs.toArray) w:=by
 have C:(loadCells ⟨b,off,none⟩ n).run P w= .ok cs.toArray w:=by
  subst E
  refine run_loadCells_list (P:=P) w ⟨b,off,none⟩ cs fun j v c=> ?_
  rw [lO,mT]
  exact (A j (List.getElem?_eq_some_iff.1 c).1).trans c
 unfold dt at hu
 cases hd:P.underlying t with
 | none=>rw [hd] at hu; cases hu
 | some d=>
   rw [hd] at hu
   cases hi:P.info? t with
   | none=>simp [Program.underlying,hi] at hd
   | some i=>
     rw [hi] at hu
     cases d <;> first
      | (cases hu; done)
      | (simp only [ky,fO] at hu; subst hu
         simp [execOp,Jb,G,p9,loadVar,isAgg,db hd,sizeOf,gS hi,C])
theorem ia {t n b off len cap:Nat} {k:IntKind} {i:Int} (he:gN P t=some n) (A:ev N σ x= .slice (some ⟨b,off,none⟩) len cap) (C:ev N σ y= .int k i) (c:0≤i∧i < len):
 (execOp (ev N σ) ⟨dst,.indexAddr t x y,ty,pos,af,g⟩).run P w= .ok (.value<|.pointer<|some ⟨b,off+i.toNat*n,none⟩) w:=by
 unfold gN at he
 cases hd:P.underlying t with
 | none=>rw [hd] at he; cases he
 | some d=>
   rw [hd] at he
   cases d <;> first | (cases he; done) | skip
   rename_i e
   cases hi:P.info? e with
   | none=>simp [hi] at he
   | some j=>
     simp only [hi,ky,fO] at he
     subst he
     simp [execOp,Instr.indexAt,A,C,asIntOf,db hd,c.1,c.2,sizeOf,gS hi,lO]
def fD (a:Option Addr) (cap l n:Nat):Option Addr:=if cap=l then a else a.map (·.add (l*n))
theorem Bw {t n len cap:Nat} {a:Option Addr} {lo hi:Option Value} {l h:Nat} (he:gN P t=some n) (E:ev N σ x= .slice a len cap)
 (C:(ox true len cap lo hi none).run P w= .ok (l,h,cap) w) (c A:Option Operand) (G:c.map (ev N σ)=lo) (I:A.map (ev N σ)=hi):
 (execOp (ev N σ) ⟨dst,.slice t x c A none,ty,pos,af,g⟩).run P w= .ok (.value<|.slice (fD a cap l n) (h - l)<|cap - l) w:=by
 unfold gN at he
 cases hd:P.underlying t with
 | none=>rw [hd] at he; cases he
 | some d=>
   rw [hd] at he
   cases d <;> first | (cases he; done) | skip
   rename_i e
   cases hi':P.info? e with
   | none=>simp [hi'] at he
   | some j=>
     simp only [hi',ky,fO] at he
     subst he
     simp [execOp,qY,uQ,E,G,I,db hd,C,sizeOf,gS hi',fD]
theorem ux {t n len cap:Nat} {a:Option Addr} {k:IntKind} {i:Int} (he:gN P t=some n) (A:ev N σ x= .slice a len cap) (C:ev N σ z= .int k i) (c:0≤i∧i≤cap):
 (execOp (ev N σ) ⟨dst,.slice t x none (some z) none,ty,pos,af,g⟩).run P w= .ok (.value<|.slice a i.toNat cap) w:=by
 have :=Bw (dst:=dst) (ty:=ty) (pos :=pos) (af:=af) (g:=g) (w:=w) (lo:=none) (hi:=some<|.int k i) (l:=0) (h:=i.toNat) he A
  (by simp [ox,qZ,asIntOf,c.1,c.2]) none (some z) rfl (by simp [C])
 rw [this]
 have hs:fD a cap 0 n=a:=by
  unfold fD; split
  · rfl
  · cases a <;> simp [xZ]
 rw [hs]; rfl
theorem uy {t n len cap:Nat} {a:Option Addr} {k:IntKind} {i:Int} (he:gN P t=some n) (A:ev N σ x= .slice a len cap) (C:ev N σ y= .int k i) (c:0≤i∧i≤len):
 (execOp (ev N σ) ⟨dst,.slice t x (some y) none none,ty,pos,af,g⟩).run P w= .ok (.value<|.slice (fD a cap i.toNat n) (len - i.toNat)<|cap - i.toNat) w:=
 Bw (lo:=some<|.int k i) (hi:=none) he A
  (by simp [ox,qZ,asIntOf,c.1,c.2]) (some y) none (by simp [C]) rfl
theorem Vt {t n len cap:Nat} {a:Option Addr} {k A:IntKind} {i j:Int} (he:gN P t=some n) (C:ev N σ x= .slice a len cap) (E:ev N σ y= .int k i) (G:ev N σ z= .int A j) (c:0≤i∧i≤j∧j≤cap):
 (execOp (ev N σ) ⟨dst,.slice t x (some y) (some z) none,ty,pos,af,g⟩).run P w= .ok (.value<|.slice (fD a cap i.toNat n) (j.toNat - i.toNat)<|cap - i.toNat) w:=by
 have h1:0≤j:=ab
 have h2:i≤(j.toNat:Int):=ab
 refine Bw (lo:=some<|.int k i) (hi:=some<|.int A j) he C ?_ (some y) (some z) (by simp [E])<|by simp [G]
 simp only [ox,qZ,asIntOf,nE,q6,nD,Cq,c.1,h1,c.2.2,h2,and_self,if_true]
theorem cz {n:Int} (h: -9223372036854775808≤n∧n≤9223372036854775807):x3.wrap n=n:=IntWalk.i64_in n h
theorem BX {n:Int} (h:0≤n∧n≤255):po.wrap n=n:=IntWalk.u8_in n h
theorem ow {n:Int} (h:0≤n∧n≤18446744073709551615):dR.wrap n=n:=IntWalk.u64_in n h
theorem iv {k:IntKind} {a b:Int} (h:a=b):fL k a=fL k b:=by rw [h]
theorem ad {t E:TypeId} {k:IntKind} {a b:Int} (A:ev N σ x= .int k a) (C:ev N σ y= .int k b) (c:k.wrap (a+b)=a+b):
 (execOp (ev N σ) ⟨dst,.binOp .add t x y E,ty,pos,af,g⟩).run P w= .ok (.value<|.int k<|a+b) w:=by
 simp [execOp,A,C,eqGuard,binOp,uS,c]
theorem bK {t E:TypeId} {k:IntKind} {a b:Int} (v:Int) (A:ev N σ x= .int k a) (C:ev N σ y= .int k b) (c:k.wrap (a+b)=v):
 (execOp (ev N σ) ⟨dst,.binOp .add t x y E,ty,pos,af,g⟩).run P w= .ok (.value<|.int k v) w:=by
 subst c; simp [execOp,A,C,eqGuard,binOp,uS]
theorem dz {t E:TypeId} {k:IntKind} {a b:Int} (v:Int) (A:ev N σ x= .int k a) (C:ev N σ y= .int k b) (c:k.wrap (a - b)=v):
 (execOp (ev N σ) ⟨dst,.binOp .sub t x y E,ty,pos,af,g⟩).run P w= .ok (.value<|.int k v) w:=by
 subst c; simp [execOp,A,C,eqGuard,binOp,uS]
theorem qL {t E:TypeId} {k:IntKind} {a b:Int} (v:Int) (A:ev N σ x= .int k a) (C:ev N σ y= .int k b) (c:k.wrap (a*b)=v):
 (execOp (ev N σ) ⟨dst,.binOp .mul t x y E,ty,pos,af,g⟩).run P w= .ok (.value<|.int k v) w:=by
 subst c; simp [execOp,A,C,eqGuard,binOp,uS]
theorem bl {a:Int} {n:Nat} (h:a=n) (hn:n≤9223372036854775807):x3.wrap a=(n:Int):=by rw [h]; exact cz ab
theorem bv {p q:Prop} [Decidable p] [Decidable q] (h:p↔q):bU (decide p)=bU (decide q):=by rw [decide_eq_decide.2 h]
theorem sb {t E:TypeId} {k:IntKind} {a b:Int} (A:ev N σ x= .int k a) (C:ev N σ y= .int k b) (c:k.wrap (a - b)=a - b):
 (execOp (ev N σ) ⟨dst,.binOp .sub t x y E,ty,pos,af,g⟩).run P w= .ok (.value<|.int k<|a - b) w:=by
 simp [execOp,A,C,eqGuard,binOp,uS,c]
theorem pU {t G:TypeId} {k:IntKind} {a b:Int} (v:Int) (C:ev N σ x= .int k a) (E:ev N σ y= .int k b) (c:0≤a∧0 < b) (A:k.wrap (a / b)=v):
 (execOp (ev N σ) ⟨dst,.binOp .quo t x y G,ty,pos,af,g⟩).run P w= .ok (.value<|.int k v) w:=by
 have :a.tdiv b=a / b:=Int.tdiv_eq_ediv_of_nonneg c.1
 subst A; simp [execOp,C,E,eqGuard,binOp,Op.intDiv,show b≠0 from by omega,this]
theorem lt {t C:TypeId} {k:IntKind} {a b:Int} (c:ev N σ x= .int k a) (A:ev N σ y= .int k b):
 (execOp (ev N σ) ⟨dst,.binOp .lss t x y C,ty,pos,af,g⟩).run P w= .ok (.value<|.bool<|decide (a < b)) w:=by
 simp [execOp,c,A,eqGuard,binOp,sM]
theorem le {t C:TypeId} {k:IntKind} {a b:Int} (c:ev N σ x= .int k a) (A:ev N σ y= .int k b):
 (execOp (ev N σ) ⟨dst,.binOp .leq t x y C,ty,pos,af,g⟩).run P w= .ok (.value<|.bool<|decide (a≤b)) w:=by
 simp [execOp,c,A,eqGuard,binOp,sM]
theorem gt {t C:TypeId} {k:IntKind} {a b:Int} (c:ev N σ x= .int k a) (A:ev N σ y= .int k b):
 (execOp (ev N σ) ⟨dst,.binOp .gtr t x y C,ty,pos,af,g⟩).run P w= .ok (.value<|.bool<|decide (b < a)) w:=by
 simp [execOp,c,A,eqGuard,binOp,sM]
theorem ge {t C:TypeId} {k:IntKind} {a b:Int} (c:ev N σ x= .int k a) (A:ev N σ y= .int k b):
 (execOp (ev N σ) ⟨dst,.binOp .geq t x y C,ty,pos,af,g⟩).run P w= .ok (.value<|.bool<|decide (b≤a)) w:=by
 simp [execOp,c,A,eqGuard,binOp,sM]
theorem cx {t C:TypeId} {k:IntKind} {a b:Int} (c:ev N σ x= .int k a) (A:ev N σ y= .int k b):
 (execOp (ev N σ) ⟨dst,.binOp .eql t x y C,ty,pos,af,g⟩).run P w= .ok (.value<|.bool<|decide (a=b)) w:=by
 simp [execOp,c,A,eqGuard,binOp,sM]
 rw [p8]; simp
theorem gF {t C:TypeId} {k:IntKind} {a b:Int} (c:ev N σ x= .int k a) (A:ev N σ y= .int k b):
 (execOp (ev N σ) ⟨dst,.binOp .neq t x y C,ty,pos,af,g⟩).run P w= .ok (.value<|.bool<|decide (a≠b)) w:=by
 simp [execOp,c,A,eqGuard,binOp,sM]
 rw [p8]; simp
theorem no {t:TypeId} {b:Bool} (c:ev N σ x= .bool b):(execOp (ev N σ) ⟨dst,.unOp .not t x,ty,pos,af,g⟩).run P w= .ok (.value<|.bool<|!b) w:=by
 simp [execOp,c,Cj]
theorem Db {t E:TypeId} {k:IntKind} {a b v:Int} (A:ev N σ x= .int k a) (C:ev N σ y= .int k b) (c:k.wrap (fE k.bits a ||| fE k.bits b).toNat=v):
 (execOp (ev N σ) ⟨dst,.binOp .or t x y E,ty,pos,af,g⟩).run P w= .ok (.value<|.int k v) w:=by
 subst c; simp [execOp,A,C,eqGuard,binOp,uT]
theorem eL {t E:TypeId} {k:IntKind} {a b v:Int} (A:ev N σ x= .int k a) (C:ev N σ y= .int k b) (c:k.wrap (fE k.bits a &&& fE k.bits b).toNat=v):
 (execOp (ev N σ) ⟨dst,.binOp .and t x y E,ty,pos,af,g⟩).run P w= .ok (.value<|.int k v) w:=by
 subst c; simp [execOp,A,C,eqGuard,binOp,uT]
theorem shr {t E:TypeId} {k G:IntKind} {a b v:Int} (A:ev N σ x= .int k a) (C:ev N σ y= .int G b) (I:0≤b) (c:a.fdiv (2 ^ min b.toNat k.bits)=v):
 (execOp (ev N σ) ⟨dst,.binOp .shr t x y E,ty,pos,af,g⟩).run P w= .ok (.value<|.int k v) w:=by
 have :¬b < 0:=ab
 simp [execOp,A,C,eqGuard,binOp,Op.shift,this,c]
theorem shl {t E:TypeId} {k G:IntKind} {a b v:Int} (A:ev N σ x= .int k a) (C:ev N σ y= .int G b) (I:0≤b) (c:k.wrap (a*2 ^ min b.toNat k.bits)=v):
 (execOp (ev N σ) ⟨dst,.binOp .shl t x y E,ty,pos,af,g⟩).run P w= .ok (.value<|.int k v) w:=by
 have :¬b < 0:=ab
 simp [execOp,A,C,eqGuard,binOp,Op.shift,this,c]
theorem Ie (m:Nat) (h:m < 256):((j9 m).toNat:Int)=(m:Int):=by
 simp [Nat.mod_eq_of_lt h]
theorem cv {t u:TypeId} {k c:IntKind} {n:Int} (hu:P.underlying u=some (.int c)) (A:(P.underlying t).isSome=true) (C:ev N σ x= .int k n):
 (execOp (ev N σ) ⟨dst,.convert t u x,ty,pos,af,g⟩).run P w= .ok (.value<|.int c<|c.wrap n) w:=by
 obtain ⟨d,hd⟩:=me.1 A
 cases d <;> simp [execOp,C,convert,db hu,db hd,Conv.intToInt]
theorem n2 {t u:TypeId} {k c:IntKind} {n v:Int} (hu:P.underlying u=some (.int c)) (C:(P.underlying t).isSome=true) (E:ev N σ x= .int k n) (A:c.wrap n=v):
 (execOp (ev N σ) ⟨dst,.convert t u x,ty,pos,af,g⟩).run P w= .ok (.value<|.int c v) w:=by
 rw [cv hu C E,A]
theorem zo {t u:TypeId} {k c:IntKind} {n:Int} (hu:P.underlying u=some (.int c)) (C:(P.underlying t).isSome=true) (E:ev N σ x= .int k n) (A:c.wrap n=n):
 (execOp (ev N σ) ⟨dst,.convert t u x,ty,pos,af,g⟩).run P w= .ok (.value<|.int c n) w:=by
 rw [cv hu C E,A]
theorem P1 (d:Nat) {t e:TypeId} {a:Option Addr} (hu:P.underlying t=some (.pointer e)):(pw (d+1) t (.pointer a)<|.pointer none).run P w= .ok a.isNone w:=by
 cases a <;> simp [pw,db hu]
theorem P2 {t e:TypeId} {a:Option Addr} (hu:P.underlying t=some (.pointer e)):(Ch t (.pointer a)<|.pointer none).run P w= .ok a.isNone w:=P1 9999 hu
theorem iZ {t C e:TypeId} {a:Option Addr} (hu:P.underlying t=some (.pointer e)) (c:ev N σ x= .pointer a) (A:ev N σ y= .pointer none):
 (execOp (ev N σ) ⟨dst,.binOp .eql t x y C,ty,pos,af,g⟩).run P w= .ok (.value<|.bool a.isNone) w:=by
 have h:(binOp .eql t (.pointer a)<|.pointer none).run P w= .ok (.bool a.isNone) w:=by
  simp only [binOp]; simp [P2 hu]
 simp [execOp,c,A,eqGuard,h]
theorem PY (d:Nat) {t:TypeId} {a b:Bool} (hu:P.underlying t=some .bool):(pw (d+1) t (.bool a)<|.bool b).run P w= .ok (a==b) w:=by
 simp [pw,db hu]
theorem PZ {t:TypeId} {a b:Bool} (hu:P.underlying t=some .bool):(Ch t (.bool a)<|.bool b).run P w= .ok (a==b) w:=PY 9999 hu
theorem P0 {t C:TypeId} {a b:Bool} (hu:P.underlying t=some .bool) (c:ev N σ x= .bool a) (A:ev N σ y= .bool b):
 (execOp (ev N σ) ⟨dst,.binOp .eql t x y C,ty,pos,af,g⟩).run P w= .ok (.value<|.bool<|decide (a=b)) w:=by
 have h:(binOp .eql t (.bool a)<|.bool b).run P w= .ok (.bool<|decide (a=b)) w:=by
  simp only [binOp]; simp [PZ hu]; cases a <;> cases b <;> rfl
 simp [execOp,c,A,eqGuard,h]
def str (l:List UInt8):Value:= .string ⟨⟨l⟩⟩
theorem dC {t:TypeId} {l:List UInt8} {at_:Array TypeId} (A:P.underlying t=some .string) (c:at_= #[t]) (C:ev N σ x=str l):
 (execOp (ev N σ) ⟨dst,.call ⟨.builtin .len,#[x],at_⟩,ty,pos,af,g⟩).run P w= .ok (.value<|.int .i64 l.length) w:=by
 subst c
 simp [execOp,resolve,invoke,builtin,IY,db A,C,str,goInt]
 rfl
theorem bP {t e:TypeId} {a:Option Addr} {n c:Nat} {at_:Array TypeId} (C:P.underlying t=some (.slice e)) (A:at_= #[t]) (E:ev N σ x= .slice a n c):
 (execOp (ev N σ) ⟨dst,.call ⟨.builtin .len,#[x],at_⟩,ty,pos,af,g⟩).run P w= .ok (.value<|.int .i64 n) w:=by
 subst A
 simp [execOp,resolve,invoke,builtin,IY,db C,E,goInt]
theorem mn {k:IntKind} {a b:Int} {at_:Array TypeId} (c:ev N σ x= .int k a) (A:ev N σ y= .int k b):
 (execOp (ev N σ) ⟨dst,.call ⟨.builtin .min,#[x,y],at_⟩,ty,pos,af,g⟩).run P w= .ok (.value<|.int k<|min a b) w:=by
 have :(if b < a then b else a)=min a b:=ab
 simp [execOp,resolve,invoke,builtin,Builtin.min_,Builtin.min2,c,A,this]
theorem mx {k:IntKind} {a b:Int} {at_:Array TypeId} (c:ev N σ x= .int k a) (A:ev N σ y= .int k b):
 (execOp (ev N σ) ⟨dst,.call ⟨.builtin .max,#[x,y],at_⟩,ty,pos,af,g⟩).run P w= .ok (.value<|.int k<|max a b) w:=by
 have :(if b > a then b else a)=max a b:=ab
 simp [execOp,resolve,invoke,builtin,Builtin.max_,Builtin.max2,c,A,this]
theorem Sd {t:TypeId} {l:List UInt8} {k:IntKind} {i:Int} (E:P.underlying t=some .string) (G:ev N σ x=str l) (I:ev N σ y= .int k i) (A:0≤i∧i < l.length):
 (execOp (ev N σ) ⟨dst,.index t x y,ty,pos,af,g⟩).run P w= .ok (.value<|.int .u8 ((l.getD i.toNat 0).toNat:Int)) w:=by
 have hs:(⟨⟨l⟩⟩:ByteArray)[i.toNat]? =some (l.getD i.toNat 0):=by
  have c:i.toNat < l.length:=ab
  have C:i.toNat < (⟨⟨l⟩⟩:ByteArray).size:=c
  rw [getElem?_pos (⟨⟨l⟩⟩:ByteArray) i.toNat C]
  simp [cU,c,ByteArray.getElem_eq_getElem_data]
 simp [execOp,Instr.index,G,I,asIntOf,str,db E,A.1,hs]
theorem Bv (l:List UInt8) (a b:Nat):Value.string ((⟨⟨l⟩⟩:ByteArray).extract a b)=str ((l.take b).drop a):=by
 unfold str
 congr 1
 apply ByteArray.ext
 simp [ByteArray.data_extract,List.extract_eq_take_drop,yd]
theorem nj (n:Nat) {t:TypeId} {l:List UInt8} {k:IntKind} (c:P.underlying t=some .string) (A:ev N σ x=str l) (C:ev N σ y= .int k (n:Int)) (h:n < l.length):
 (execOp (ev N σ) ⟨dst,.index t x y,ty,pos,af,g⟩).run P w= .ok (.value<|.int .u8 ((l.getD n 0).toNat:Int)) w:=Sd c A C ⟨ab,ab⟩
theorem kj {n:Nat} {t:TypeId} {l:List UInt8} {k:IntKind} (c:P.underlying t=some .string) (A:ev N σ x=str l) (C:ev N σ y= .int k (n:Int)) (h:n < l.length):
 (execOp (ev N σ) ⟨dst,.index t x y,ty,pos,af,g⟩).run P w= .ok (.value<|.int .u8 ((l.getD n 0).toNat:Int)) w:=nj n c A C h
theorem uz {t:TypeId} {l:List UInt8} {k I:IntKind} {a b:Int} (A:P.underlying t=some .string) (C:ev N σ x=str l) (E:ev N σ y= .int k a) (G:ev N σ z= .int I b) (c:0≤a∧a≤b∧b≤l.length):
 (execOp (ev N σ) ⟨dst,.slice t x (some y) (some z) none,ty,pos,af,g⟩).run P w= .ok (.value<|str<|(l.take b.toNat).drop a.toNat) w:=by
 have h1:b≤((⟨⟨l⟩⟩:ByteArray).size:Nat):=c.2.2
 have h2:0≤b:=ab
 have h3:a≤(b.toNat:Nat):=ab
 simp [execOp,qY,uQ,ox,qZ,C,E,G,asIntOf,str,db A,c.1,h1,h2]
 rw [if_pos ab]
 exact congrArg (fun v=>Cm (Cg v) w)<|Bv l a.toNat b.toNat
theorem sr {t:TypeId} {l:List UInt8} {G:IntKind} {b:Int} (A:P.underlying t=some .string) (C:ev N σ x=str l) (E:ev N σ z= .int G b) (c:0≤b∧b≤l.length):
 (execOp (ev N σ) ⟨dst,.slice t x none (some z) none,ty,pos,af,g⟩).run P w= .ok (.value<|str<|l.take b.toNat) w:=by
 have h1:b≤((⟨⟨l⟩⟩:ByteArray).size:Nat):=c.2
 have :=Bv l 0 b.toNat
 simp only [u6] at this
 simp [execOp,qY,uQ,ox,qZ,C,E,asIntOf,str,db A,c.1,h1]
 exact Jp this
theorem o0 {t:TypeId} {l:List UInt8} {k:IntKind} {a:Int} (A:P.underlying t=some .string) (C:ev N σ x=str l) (E:ev N σ y= .int k a) (c:0≤a∧a≤l.length):
 (execOp (ev N σ) ⟨dst,.slice t x (some y) none none,ty,pos,af,g⟩).run P w= .ok (.value<|str<|l.drop a.toNat) w:=by
 have h1:a≤((⟨⟨l⟩⟩:ByteArray).size:Nat):=c.2
 have :=Bv l a.toNat l.length
 simp only [List.take_length] at this
 simp [execOp,qY,uQ,ox,qZ,C,E,asIntOf,str,db A,c.1,h1]
 exact Jp this
theorem H3 (l:List UInt8):(⟨⟨l⟩⟩:ByteArray).toList=l:=Lib.toList_data ⟨⟨l⟩⟩
theorem cc {t C:TypeId} {l m:List UInt8} (c:ev N σ x=str l) (A:ev N σ y=str m) (h:l.length+m.length≤9223372036854775807):
 (execOp (ev N σ) ⟨dst,.binOp .add t x y C,ty,pos,af,g⟩).run P w= .ok (.value<|str<|l++m) w:=by
 have h1:¬(((⟨⟨l⟩⟩:ByteArray).size+(⟨⟨m⟩⟩:ByteArray).size:Nat):Int) > x3.max:=by
  have :x3.max=9223372036854775807:=aw
  rw [this]
  show ¬((l.length+m.length:Nat):Int) > _
  omega
 have h2:(⟨⟨l⟩⟩:ByteArray)++(⟨⟨m⟩⟩:ByteArray)=⟨⟨l++m⟩⟩:=by
  apply ByteArray.ext; simp
 simp only [execOp,c,A,str,eqGuard,binOp,Ci]
 rw [if_neg h1,h2]
 rfl
theorem jD {t C:TypeId} {l m:List UInt8} (c:ev N σ x=str l) (A:ev N σ y=str m):
 (execOp (ev N σ) ⟨dst,.binOp .eql t x y C,ty,pos,af,g⟩).run P w= .ok (.value<|.bool<|decide (l=m)) w:=by
 simp only [execOp,c,A,str,eqGuard,binOp,Ci,H3]
 show Cm (Cg<|.bool<|l==m) w=_
 rw [show (l==m)=decide (l=m) from by rw [p8]; simp]
theorem um {t C:TypeId} {l m:List UInt8} (c:ev N σ x=str l) (A:ev N σ y=str m):
 (execOp (ev N σ) ⟨dst,.binOp .neq t x y C,ty,pos,af,g⟩).run P w= .ok (.value<|.bool<|decide (l≠m)) w:=by
 simp only [execOp,c,A,str,eqGuard,binOp,Ci,H3]
 show Cm (Cg<|.bool<|!(l==m)) w=_
 rw [show (!(l==m))=decide (l≠m) from by rw [p8]; simp]
theorem mf {fn:Fn} {first captured:Array Operand} :(execOp (ev N σ) ⟨dst,.makeFunc fn first captured,ty,pos,af,g⟩).run P w= .ok (.value<|.func fn (first.map<|ev N σ)<|captured.map<|ev N σ) w:=rfl
theorem AL {fn:Fn} {first captured:Array Operand} :(execOp (ev N σ) ⟨dst,.makeFunc fn first captured,ty,pos,af,g⟩).run P w= .ok (.value<|.func fn (first.toList.map<|ev N σ).toArray (captured.toList.map<|ev N σ).toArray) w:=by
 rw [mf,← lJ,← lJ]
end
end Go.Hb
namespace Go.Hb
def bE (h:Array Obj) (b:Nat) (L:List Value):Prop := ∃ e,h[b]? =some (.cells L.toArray e (0,0))
theorem bE.aJ {h:Array Obj} {b:Nat} {L:List Value} (c:bE h b L) (j:Nat):Hb.aJ h b j=L[j]? :=by
 obtain ⟨e,c⟩:=c
 rw [aV c]; simp
theorem bE.bu {h:Array Obj} {b:Nat} {L:List Value} (c:bE h b L) (j:Nat):Hb.aJ h b (0 +j)=L[j]? :=by
 rw [fN,c.aJ]
theorem Md.B {F:Nat→Prop} {w w':World} (h:Md F w w') {b:Nat} {L:List Value} (c:bE w.heap b L) (A:¬F b):bE w'.heap b L:=
 let ⟨e,c⟩:=c; ⟨e,h.az c A⟩
theorem Wk.B {w w':World} (h:Wk w w') {b:Nat} {L:List Value} (c:bE w.heap b L):bE w'.heap b L:=Md.B h c id
theorem bE.lt {h:Array Obj} {b:Nat} {L:List Value} (c:bE h b L):b < h.size:=let ⟨_,c⟩:=c; (bT.1 c).1
def bk (a:Option Addr):Nat:=match a with | some ad=>ad.block | none=>0
def fo (a:Option Addr):Nat:=match a with | some ad=>ad.off | none=>0
structure aG (h:Array Obj) (a:Option Addr) (xs:List Value):Prop where
 ok:xs≠[]→a=some ⟨bk a,fo a,none⟩
 aJ:∀ j u,xs[j]? =some u→Hb.aJ h (bk a) (fo a+j)=some u
theorem aG.nil (h:Array Obj) (a:Option Addr):aG h a []:=⟨fun h=>absurd rfl h,fun _ _ hu=>by simp at hu⟩
theorem aG.md {F:Nat→Prop} {w w':World} {a:Option Addr} {xs:List Value} (c:aG w.heap a xs) (h:Md F w w') (A:xs≠[]→¬F (bk a)):aG w'.heap a xs:=
 ⟨c.ok,fun j u hu=>h.aJ (c.aJ j u hu)<|A<|by rintro rfl; simp at hu⟩
theorem aG.wk {w w':World} {a:Option Addr} {xs:List Value} (c:aG w.heap a xs) (h:Wk w w'):aG w'.heap a xs:=c.md h fun _ x=>x
theorem aG.take {h:Array Obj} {a:Option Addr} {xs:List Value} (c:aG h a xs) (n:Nat):aG h a (xs.take n):=
 ⟨fun A=>c.ok (by rintro rfl; simp at A),fun j u hu=>c.aJ j u<|by rw [oA] at hu; split at hu; exact hu; cases hu⟩
theorem aG.gl {h:Array Obj} {b:Nat} {L:List Value} (c:bE h b L):aG h (some ⟨b,0,none⟩) L:=
 ⟨fun _=>rfl,fun j u hu=>by show Hb.aJ h b (0 +j)=_; rw [fN,c.aJ]; exact hu⟩
theorem aG.iY {h:Array Obj} {a:Option Addr} {xs:List Value} (c:aG h a xs) {i:Nat} {u:Value} (hu:xs[i]? =some u):Hb.aJ h (bk a) (fo a+i*1)=some u:=by
 rw [Nat.mul_one]; exact c.aJ i u hu
def dE (h:Array Obj) (a:Option Addr) (l:List (List UInt8)):Prop :=aG h a<|l.map str
theorem dE.get {h:Array Obj} {a:Option Addr} {l:List (List UInt8)} (hs:dE h a l) {i:Nat} (hi:i < l.length):Hb.aJ h (bk a) (fo a+i*1)=some (str<|l.getD i []):=
 aG.iY hs (by simp [cU,hi])
theorem dE.wk {w w':World} {a:Option Addr} {l:List (List UInt8)} (hs:dE w.heap a l) (h:Wk w w'):dE w'.heap a l:=aG.wk hs h
theorem c8 {α:Type} {f:α→Value} {l:List α} (h:0 < l.length):l.map f≠[]:=by
 cases l with
 | nil=>simp at h
 | cons x l=>simp
def XF (k:IntKind) (h:Array Obj) (a:Option Addr) (l:List Int):Prop :=aG h a<|l.map<|fL k
def gy (P:Program) (t e size bytes:Nat):Bool:=
 match P.underlying t with
 | some (.slice c)=>c==e && match P.info? e with
   | some i=>i.size==size && i.bytes==bytes && fV 0 size && match i.zero with
     | some z=>z.cells.size==size
     | none=>false
   | none=>false
 | _=>false
theorem pX {P:Program} {t e size bytes:Nat} (h:gy P t e size bytes=true):
 P.underlying t=some (.slice e)∧∃ i z,P.info? e=some i∧i.zero=some z∧i.size=size∧i.bytes=bytes∧z.cells.size=size∧0 < size:=by
 unfold gy at h
 split at h
 · rename_i A hu
   simp only [gp,beq_iff_eq] at h
   obtain ⟨rfl,h⟩:=h
   split at h
   · rename_i i hi
     simp only [gp,beq_iff_eq] at h
     obtain ⟨⟨⟨h1,h2⟩,h3⟩,h4⟩:=h
     split at h4
     · rename_i z c
       exact ⟨hu,i,z,hi,c,h1,h2,by simpa using h4,rk (s6 0)<|qi h3⟩
     · cases h4
   · cases h
 · cases h
def ed (P:Program) (t:TypeId):Option Nat:=(P.info? t).map (·.size)
def zeroOf (P:Program) (t:TypeId):Option (Option<|List Value):=(P.info? t).map fun i=>i.zero.map fun z=>z.cells.toList
def bd (P:Program) (f:FuncId):Prop := ∀ args w,(callFunc f args).run P w= .ok (.enter f args) w
theorem M6 {P:Program} {f:FuncId} {fn:Func} (A:P.funcs[f]? =some fn) (hn:(fn.name== "runtime.NumGoroutine")=false) (c:fn.body.isNone=false):bd P f:=by
 intro args w
 have h1:¬((fn.name== "runtime.NumGoroutine")=true):=by rw [hn]; simp
 have h2:¬(fn.body.isNone=true):=by rw [c]; simp
 simp only [callFunc,nE,run_program,nD,A]
 rw [if_neg h1,if_neg h2]
 rfl
section
variable {P:Program} {N:Fm} {σ:Nat→Value} {w:World} {dst:Option Nat} {ty:TypeId} {pos :String} {af:Array Edge} {g:Option (Nat×Bool)} {x y z:Operand} {K:(Nat→Value)→World→Prop}
theorem Iv {o:Oper} {f:FuncId} {L:List Value} {R:Value→World→Prop} (C:(execOp (ev N σ) o).run P w= .ok (.enter f L.toArray) w) (A:bf P f L.toArray w R)
 (k:∀ v w',R v w'→K (fq σ o.dst v) w'):cH P N o σ w K:=by
 unfold cH ji
 rw [gh,C]
 refine j7 A fun e w' ⟨v,he,c⟩=> ?_
 subst he
 exact ⟨_,jl ..,k v w' c⟩
theorem cl {f:FuncId} {args:Array Operand} {c:Array TypeId} {L:List Value} {R:Value→World→Prop} (C:bd P f) (E:bf P f L.toArray w R) (A:args.toList.map (ev N σ)=L)
 (k:∀ v w',R v w'→K (fq σ dst v) w'):cH P N ⟨dst,.call ⟨.value (.func f),args,c⟩,ty,pos,af,g⟩ σ w K:=by
 refine Iv (f:=f) ?_ E k
 have :args.map (ev N σ)=L.toArray:=by rw [← A,← lJ]
 simp [execOp,resolve,ev,pn,invoke,this,C L.toArray w]
theorem N3 {f:FuncId} {fo:Operand} {first cap:Array Value} {args:Array Operand} {c:Array TypeId} {L:List Value} {R:Value→World→Prop} (C:bd P f) (G:ev N σ fo= .func (.func f) first cap)
 (E:bf P f L.toArray w R) (A:first.toList++args.toList.map (ev N σ)++cap.toList=L)
 (k:∀ v w',R v w'→K (fq σ dst v) w'):cH P N ⟨dst,.call ⟨.value fo,args,c⟩,ty,pos,af,g⟩ σ w K:=by
 refine Iv (f:=f) ?_ E k
 have :first++args.map (ev N σ)++cap=L.toArray:=by rw [← A,← lJ,← IP,← IP]
 simp [execOp,resolve,G,pn,invoke,this,C L.toArray w]
theorem mF {o:Oper} {ob:Obj} {v:Nat→Value} (c:(execOp (ev N σ) o).run P w= .ok (.value<|v w.heap.size) {w with heap:=w.heap.push ob})
 (k:∀ b w',b=w.heap.size→Nw w w'→w'.heap[b]? =some ob→K (fq σ o.dst<|v b) w'):cH P N o σ w K:=
 lH c (k _ _ rfl (AW w ob) (by simp))
theorem al {e:TypeId} {A:List Value} (c:zeroOf P e=some (some A)) (k:∀ b w',b=w.heap.size→Nw w w'→bE w'.heap b A→K (fq σ dst<|.pointer<|some ⟨b,0,none⟩) w'):
 cH P N ⟨dst,.alloc e,ty,pos,af,g⟩ σ w K:=by
 refine mF (v:=fun b=> .pointer<|some ⟨b,0,none⟩) (ob:= .cells A.toArray e (0,0)) ?_ fun b w' h1 h2 h3=>k b w' h1 h2 ⟨e,h3⟩
 unfold zeroOf at c
 simp only [mg] at c
 obtain ⟨i,hi,zv,C,rfl⟩:=c
 simp [execOp,I7,zeroValue,gS hi,C,newVar,newRow]
theorem dY {e:TypeId} {A:List Value} (c:zeroOf P e=some (some A)) (k:∀ b w',b=w.heap.size→Nw w w'→w'.heap[b]? =some (.cells A.toArray e (0,0))→K (fq σ dst<|.pointer<|some ⟨b,0,none⟩) w'):
 cH P N ⟨dst,.alloc e,ty,pos,af,g⟩ σ w K:=by
 refine mF (v:=fun b=> .pointer<|some ⟨b,0,none⟩) (ob:= .cells A.toArray e (0,0)) ?_ k
 unfold zeroOf at c
 simp only [mg] at c
 obtain ⟨i,hi,zv,C,rfl⟩:=c
 simp [execOp,I7,zeroValue,gS hi,C,newVar,newRow]
theorem bx {e:TypeId} {v:Value} {L:List Value} (A:ev N σ x=v) (c:v.cells.toList=L) (k:∀ b w',b=w.heap.size→Nw w w'→bE w'.heap b L→K (fq σ dst<|.pointer<|some ⟨b,0,none⟩) w'):
 cH P N ⟨dst,.box e x,ty,pos,af,g⟩ σ w K:=by
 subst c
 refine mF (v:=fun b=> .pointer<|some ⟨b,0,none⟩) (ob:= .cells v.cells e (0,0)) ?_ fun b w' h1 h2 h3=>k b w' h1 h2 ⟨e,h3⟩
 simp [execOp,Instr.box,A,newVar,newRow]
theorem qK {t:TypeId} (k:∀ b w',b=w.heap.size→Nw w w'→w'.heap[b]? =some (.map #[] 0)→K (fq σ dst<|.map<|some b) w'):cH P N ⟨dst,.makeMap t none,ty,pos,af,g⟩ σ w K:=by
 refine mF (v:=fun b=> .map<|some b) ?_ k
 simp [execOp,Instr.makeMap]
theorem pJ {t e:TypeId} {size bytes:Nat} (A:gy P t e size bytes=true)
 (k:∀ b w',b=w.heap.size→Nw w w'→(∀ B,B≤b→w'.ownsRow B e size (.slice (some ⟨b,0,none⟩) 0 0) 0 [])→K (fq σ dst<|.slice (some ⟨b,0,none⟩) 0 0) w'):cH P N ⟨dst,.buildSlice t 0 #[],ty,pos,af,g⟩ σ w K:=by
 refine mF (v:=fun b=> .slice (some ⟨b,0,none⟩) 0 0) (ob:= .cells #[] e (0,0)) ?_ fun b w' h1 h2 h3=>k b w' h1 h2 fun B c=>⟨by simp,.inr ⟨b,0,#[],aa,c,h3,cj _,by simp [maxLen],by simp,by simp⟩⟩
 obtain ⟨hu,i,zv,hi,C,h1,h2,h3,h4⟩:=pX A
 simp [execOp,Ca,db hu,sizeOf,gS hi,l9,newRow]
 congr 2
 exact Array.eq_empty_of_size_eq_zero<|by simp
theorem Lt {t e:TypeId} {size bytes:Nat} {v:Value} {L:List Value} (I:gy P t e size bytes=true) (hs:mP size 1000=true) (O:ev N σ x=v) (J:v.cells.size=size)
 (C:v.cells.toList=L) (k:∀ b w',b=w.heap.size→Nw w w'→w'.heap[b]? =some (.cells L.toArray e (0,0))→K (fq σ dst<|.slice (some ⟨b,0,none⟩) 1 1) w'):cH P N ⟨dst,.buildSlice t 1 #[(0,x)],ty,pos,af,g⟩ σ w K:=by
 subst C
 refine mF (v:=fun b=> .slice (some ⟨b,0,none⟩) 1 1) (ob:= .cells v.cells e (0,0)) ?_ fun b w' h1 h2 h3=>k b w' h1 h2<|by simpa using h3
 obtain ⟨hu,i,zv,hi,V,h1,h2,h3,h4⟩:=pX I
 have Z:size≤1000:=by simpa using hs
 have E:l9 (fun i=>some (i*size,size)) ((ph size).map (zv.cells[· % zv.cells.size]!)) [(0,v)]=some v.cells:=by
  have A:((ph size).map (zv.cells[· % zv.cells.size]!)).size=size:=by simp
  generalize (ph size).map (zv.cells[· % zv.cells.size]!)=cs at A
  simp only [l9,J]
  rw [if_neg (by rw [A]; simp)]
  congr 1
  have key:∀ (l:List Value) (m:Nat) (cs:Array Value),m+l.length≤cs.size→∀ j,((l.zipIdx m).foldl (fun (cs:Array Value) (c,j)=>cs.setIfInBounds (0 *size+j) c) cs)[j]? =if j < m then cs[j]? else if j < m+l.length then l[j - m]? else cs[j]? :=by
   intro l
   induction l with
   | nil=>intro m cs hm j; simp; intro h1 h2; omega
   | cons c l Y=>
     intro m cs hm j
     simp only [yt,sT,bS] at hm ⊢
     rw [Y (m+1) _ (by simp; omega)]
     simp only [CJ,fN,B3]
     by_cases h1:j < m
     · rw [if_pos ab,if_pos h1,if_neg ab]
     · rw [if_neg h1]
       by_cases h2:j=m
       · subst h2
         rw [if_pos ab,if_pos rfl,if_pos ab,if_pos ab]
         simp
       · rw [if_neg ab]
         by_cases h3:j < m+1 +l.length
         · rw [if_pos h3,if_pos ab]
           obtain ⟨q,G⟩:∃ q,j - m=q+1:=⟨j - m - 1,ab⟩
           rw [G,JB,show j - (m+1)=q from by omega]
         · rw [if_neg h3,if_neg ab,if_neg ab]
  apply IM
  intro j
  have :=key v.cells.toList 0 cs (by simp; omega) j
  rw [show (v.cells.zipIdx.foldl (fun (cs:Array Value) (c,j)=>cs.setIfInBounds (0 *size+j) c) cs)=((v.cells.toList.zipIdx 0).foldl (fun (cs:Array Value) (c,j)=>cs.setIfInBounds (0 *size+j) c) cs) from by
   rw [← Array.foldl_toList]; simp [Array.toList_zipIdx]]
  rw [this]
  simp only [Nat.not_lt_zero,if_false,fN,Nat.sub_zero,uM,uL]
  split
  · rfl
  · rw [p7 ab,p7 ab]
 simp only [execOp,Ca,nE,db hu,nD,sizeOf,gS hi,q6,h1,Nat.one_mul,Cq,zeroValue,V,List.map_toArray,mO,List.map_nil,O,E]
 rw [if_neg (by rw [show (2:Nat) ^ 24=16777216 from rfl]; omega),if_neg ab]
 simp [newRow]
theorem Dd {t e:TypeId} {size bytes:Nat} {v:Value} {L:List Value} (A:gy P t e size bytes=true) (hs:mP size 1000=true) (E:ev N σ x=v) (C:v.cells.size=size)
 (c:v.cells.toList=L) (k:∀ b w',b=w.heap.size→Nw w w'→bE w'.heap b L→K (fq σ dst<|.slice (some ⟨b,0,none⟩) 1 1) w'):cH P N ⟨dst,.buildSlice t 1 #[(0,x)],ty,pos,af,g⟩ σ w K:=
 Lt A hs E C c fun b w' h1 h2 h3=>k b w' h1 h2 ⟨_,h3⟩
theorem pT {v:Value} (h:v.oneCell'=true):v.cells= #[v]:=by cases v <;> first | rfl | (cases h; done)
theorem EV {loc:Nat→Option (Nat×Nat)} (A:∀ i,loc i=some (i*1,1)):∀ (rest pre c:List Value),c.length=rest.length→rest.all eQ=true→
 l9 loc (pre++c).toArray ((rest.zipIdx pre.length).map fun q=>(q.2,q.1))=some (pre++rest).toArray
 | [],pre,c,hl,_=>by
   rw [gq hl]; rfl
 | v::r,pre,c,hl,h1=>by
   cases c with
   | nil=>simp at hl
   | cons z c=>
     rw [x9,gp] at h1
     have E:=pT h1.1
     have C:=EV A r (pre++ [v]) c (by simpa using hl) h1.2
     simp only [yt,mO,l9,A,E]
     rw [if_neg (by simp)]
     simp only [bJ,iG,ea,List.singleton_append] at C
     rw [← C]
     simp
theorem qu {t e bytes n:Nat} {ps:Array (Nat×Operand)} {L:List Value} (C:gy P t e 1 bytes=true) (hp:ps.toList.map (fun p=>(p.1,ev N σ p.2))=(L.zipIdx 0).map fun q=>(q.2,q.1)) (h1:L.all eQ=true) (hn:L.length=n) (hs:(mP n 1000 && fV 0 n)=true)
 (k:∀ b w',b=w.heap.size→Nw w w'→w'.heap[b]? =some (.cells L.toArray e (0,0))→K (fq σ dst<|.slice (some ⟨b,0,none⟩) n n) w'):cH P N ⟨dst,.buildSlice t n ps,ty,pos,af,g⟩ σ w K:=by
 subst hn
 refine mF (v:=fun b=> .slice (some ⟨b,0,none⟩) L.length L.length) (ob:= .cells L.toArray e (0,0)) ?_ k
 obtain ⟨hu,i,zv,hi,E,c,h2,h3,h4⟩:=pX C
 simp only [gp] at hs
 have I:L.length≤1000:=by simpa using hs.1
 have J:0 < L.length:=by have :=qi hs.2; omega
 have A:l9 (fun i=>some (i*1,1)) ((ph<|L.length*1).map (zv.cells[· % zv.cells.size]!)) (ps.toList.map fun p=>(p.1,ev N σ p.2))=some L.toArray:=by
  rw [hp]
  have G:((ph<|L.length*1).map (zv.cells[· % zv.cells.size]!)).toList.length=L.length:=by simp
  have :=EV (loc:=fun i=>some (i*1,1)) (fun _=>rfl) L [] ((ph<|L.length*1).map (zv.cells[· % zv.cells.size]!)).toList G h1
  rw [oB,oB,xT] at this
  exact this
 simp only [execOp,Ca,nE,db hu,nD,sizeOf,gS hi,q6,c,Cq,zeroValue,E,lJ,A]
 rw [if_neg (by rw [show (2:Nat) ^ 24=16777216 from rfl]; omega),if_neg ab]
 simp [newRow]
theorem lk {t e:TypeId} {bytes:Nat} {v:Value} (c:gy P t e 1 bytes=true) (A:ev N σ x=v) (h1:v.oneCell'=true)
 (k:∀ b w',b=w.heap.size→Nw w w'→bE w'.heap b [v]→K (fq σ dst<|.slice (some ⟨b,0,none⟩) 1 1) w'):cH P N ⟨dst,.buildSlice t 1 #[(0,x)],ty,pos,af,g⟩ σ w K:=
 Dd c rfl A (by rw [pT h1]; rfl) (by rw [pT h1]) k
theorem pK {t e:TypeId} {size bytes:Nat} {L:List Value} (A:gy P t e size bytes=true) (hs:mP size 1000=true) (C:ev N σ x= .agg L.toArray) (c:L.length=size)
 (k:∀ b w',b=w.heap.size→Nw w w'→bE w'.heap b L→K (fq σ dst<|.slice (some ⟨b,0,none⟩) 1 1) w'):cH P N ⟨dst,.buildSlice t 1 #[(0,x)],ty,pos,af,g⟩ σ w K:=
 Dd A hs C (by simpa [sQ] using c) (by simp [sQ]) k
theorem jm {e:TypeId} {L:List Value} (c:ev N σ x= .agg L.toArray) (k:∀ b w',b=w.heap.size→Nw w w'→bE w'.heap b L→K (fq σ dst<|.pointer<|some ⟨b,0,none⟩) w'):
 cH P N ⟨dst,.box e x,ty,pos,af,g⟩ σ w K:=bx c (by simp [sQ]) k
theorem pL {e:TypeId} {L:List Value} (c:ev N σ x= .agg L.toArray) (k:∀ b w',b=w.heap.size→Nw w w'→w'.heap[b]? =some (.cells L.toArray e (0,0))→K (fq σ dst<|.pointer<|some ⟨b,0,none⟩) w'):
 cH P N ⟨dst,.box e x,ty,pos,af,g⟩ σ w K:=by
 refine mF (v:=fun b=> .pointer<|some ⟨b,0,none⟩) (ob:= .cells L.toArray e (0,0)) ?_ fun b w' h1 h2 h3=>k b w' h1 h2 h3
 simp [execOp,Instr.box,c,newVar,newRow,sQ]
theorem tk {l:List Value} (h:l.all eQ=true):∀ u∈l,u.oneCell'=true :=kP.1 h
theorem bW {t b off :Nat} {e:TypeId} {L:List Value} {v:Value} (A:ed P t=some 1) (Z:ev N σ x= .pointer (some ⟨b,off,none⟩)) (ab:ev N σ y=v) (h1:v.oneCell'=true) (c:w.heap[b]? =some (.cells L.toArray e (0,0))) (O:off < L.length)
 (k:∀ w',Md (fun k=>k=b) w w'→w'.heap[b]? =some (.cells (L.set off v).toArray e (0,0))→K σ w'):cH P N ⟨none,.store t x y,ty,pos,af,g⟩ σ w K:=by
 have E:v.cells= #[v]:=by cases v <;> first | rfl | (cases h1; done)
 have G:w.cell? ⟨b,off,none⟩=some L[off]:=by rw [mT,aV c]; simp [O]
 have I:w.frozen? ⟨b,off,none⟩=false :=by simp only [World.frozen?,show w.heap[b]? =_ from c]; simp
 unfold ed at A
 simp only [mg] at A
 obtain ⟨i,hi,hs⟩:=A
 have C:(⟨b,off,none⟩:Addr).add 0=⟨b,off,none⟩:=rfl
 have V:(execOp (ev N σ) ⟨none,.store t x y,ty,pos,af,g⟩).run P w= .ok .skip (w.setCell ⟨b,off,none⟩ v):=by
  simp [execOp,Cf,Z,ab,p9,storeVar,E,sizeOf,gS hi,hs,storeCells,C,run_store P w _ v _ h1,G,I]
 unfold cH ji
 rw [gh,V]
 refine ⟨σ,aa,k _ ⟨aa,aa,by simp [x8],fun k _ hk=> ?_⟩ ?_⟩
 · exact Below.heap_setCell w _ v k hk
 · have J:=(bT.1 c).1
   have Y:w.heap[b]= .cells L.toArray e (0,0):=(bT.1 c).2
   simp only [x8]
   rw [xS (by simpa using J),Array.getElem_modify]
   simp [Y,List.setIfInBounds_toArray]
theorem st {t b off :Nat} {L:List Value} {v:Value} (G:ed P t=some 1) (C:ev N σ x= .pointer (some ⟨b,off,none⟩)) (E:ev N σ y=v) (h1:v.oneCell'=true) (c:bE w.heap b L) (A:off < L.length)
 (k:∀ w',Md (fun k=>k=b) w w'→bE w'.heap b (L.set off v)→K σ w'):cH P N ⟨none,.store t x y,ty,pos,af,g⟩ σ w K:=
 let ⟨_,c⟩:=c
 bW G C E h1 c A fun w' h1 h2=>k w' h1 ⟨_,h2⟩
theorem fk {t b off n:Nat} {e:TypeId} {L vs:List Value} (c:ed P t=some n) (E:ev N σ x= .pointer (some ⟨b,off,none⟩)) (G:ev N σ y= .agg vs.toArray) (hn:vs.length=n) (h1:vs.all eQ=true) (A:w.heap[b]? =some (.cells L.toArray e (0,0))) (I:off+n≤L.length)
 (k:∀ w',Md (fun k=>k=b) w w'→w'.heap[b]? =some (.cells (L.take off++vs++L.drop (off+n)).toArray e (0,0))→K σ w'):cH P N ⟨none,.store t x y,ty,pos,af,g⟩ σ w K:=by
 unfold ed at c
 simp only [mg] at c
 obtain ⟨i,hi,hs⟩:=c
 have bR:=run_storeCells_at P b off e vs 0 L.toArray w A (by simp; omega)<|tk h1
 have C:(execOp (ev N σ) ⟨none,.store t x y,ty,pos,af,g⟩).run P w= .ok .skip (w.setRow b (L.take off++vs++L.drop (off+n)).toArray):=by
  simp [execOp,Cf,E,G,p9,storeVar,sQ,sizeOf,gS hi,hs,hn,bR]
 unfold cH ji
 rw [gh,C]
 exact ⟨σ,aa,k _ ⟨aa,aa,by simp,fun k _ hk=>setRow_other w b k _ hk⟩<|setRow_heap w b _ _ e _ A⟩
theorem dd {t b off n:Nat} {L vs:List Value} (A:ed P t=some n) (E:ev N σ x= .pointer (some ⟨b,off,none⟩)) (G:ev N σ y= .agg vs.toArray) (hn:vs.length=n) (h1:vs.all eQ=true) (c:bE w.heap b L) (I:off+n≤L.length)
 (k:∀ w',Md (fun k=>k=b) w w'→bE w'.heap b (L.take off++vs++L.drop (off+n))→K σ w'):cH P N ⟨none,.store t x y,ty,pos,af,g⟩ σ w K:=by
 obtain ⟨e,c⟩:=c
 unfold ed at A
 simp only [mg] at A
 obtain ⟨i,hi,hs⟩:=A
 have bR:=run_storeCells_at P b off e vs 0 L.toArray w c (by simp; omega)<|tk h1
 have C:(execOp (ev N σ) ⟨none,.store t x y,ty,pos,af,g⟩).run P w= .ok .skip (w.setRow b (L.take off++vs++L.drop (off+n)).toArray):=by
  simp [execOp,Cf,E,G,p9,storeVar,sQ,sizeOf,gS hi,hs,hn,bR]
 unfold cH ji
 rw [gh,C]
 exact ⟨σ,aa,k _ ⟨aa,aa,by simp,fun k _ hk=>setRow_other w b k _ hk⟩ ⟨e,setRow_heap w b _ _ e _ c⟩⟩
theorem KS {t ty e:TypeId} {i:TypeInfo} {zv:Value} {B n m c:Nat} {v aa:Value} {xs news:List Value} {ad:Addr} {w':World} (hu:P.underlying t=some (.slice e)) (hi:P.info? e=some i) (Z:i.zero=some zv) (aj:zv.cells.size=i.size) (ah:0 < i.size)
 (G:w.ownsRow B e i.size v n xs) (E:news.length=m*i.size) (I:∀ j u,news[j]? =some u→w.cell? (ad.add j)=some u) (h1:∀ u∈news,u.oneCell'=true) (O:n+m≤maxLen) (J:(n+m)*i.bytes≤140737488355328)
 (A:(x2 #[t,t] ty #[v,.slice (some ad) m c]).run P w= .ok aa w'):∀ k,aa.ownBlock=some k→v.ownBlock=some k∨w.heap.size≤k:=by
 intro k hk
 have ak:n+m≤9223372036854775807:=by unfold maxLen at O; omega
 rcases G.2 with ⟨rfl,rfl⟩ | ⟨C,cap,cur,rfl,am,ag,ao,an,ac,ap⟩
 · have ai:xs= []:=gq<|by simpa using G.1
   subst ai
   obtain ⟨v2,aq,V,h2,_,_⟩:=run_append_own (P:=P) w w.heap.size t ty e i zv i.size i.bytes hu hi Z rfl rfl aj ah _ 0 [] (eh w w.heap.size e i.size) ad m c news E I h1 O J (cj _)
   rw [A] at V
   cases V
   exact .inr (by
    rcases h2.2 with ⟨h,_⟩ | ⟨g2,_,_,h,al,_⟩
    · rw [h] at hk; simp [gH] at hk
    · rw [h] at hk; simp only [gH,fO] at hk; omega)
 · by_cases Y:n+m≤cap
   · have ae:n*i.size+news.length≤cur.size:=by rw [E,ac,← Nat.add_mul]; exact oD _ Y
     rw [run_append_room (P:=P) w t ty e i hu hi C n cap cur ag ad m c news E I h1 Y ae] at A
     cases A
     exact .inl hk
   · have holds:∀ j u,xs[j]? =some u→w.cell? ((⟨C,0,none⟩:Addr).add j)=some u:=G.cells (g:=C) rfl
     rw [run_append_grow (P:=P) w t ty e i zv hu hi Z ⟨C,0,none⟩ n cap xs G.1 holds ad m c news E I ab ab (growslice_fits ab J)] at A
     cases A
     simp only [gH,fO] at hk
     exact .inr ab
theorem ap {t e size bytes B n m c:Nat} {v:Value} {xs news:List Value} {a:Option Addr} (al:gy P t e size bytes=true) (C:w.ownsRow B e size v n xs) (aa:ev N σ x=v) (ae:B≤w.heap.size)
 (ab:ev N σ y= .slice a m c) (J:aG w.heap a news) (E:news.length=m*size) (h1:news.all eQ=true) (G:(n+m)*bytes≤140737488355328) (ao:n+m≤9223372036854775807)
 (k:∀ A w',w'.ownsRow B e size A (n+m) (xs++news)→Md (fun k=>v.ownBlock=some k) w w'→(A= .slice none 0 0↔v= .slice none 0 0∧m=0)→(∀ k,A.ownBlock=some k→v.ownBlock=some k∨w.heap.size≤k)→K (fq σ dst A) w'):
 cH P N ⟨dst,.call ⟨.builtin .append,#[x,y],#[t,t]⟩,ty,pos,af,g⟩ σ w K:=by
 obtain ⟨hu,i,zv,hi,ac,hs,I,ad,Y⟩:=pX al
 have O:n+m≤maxLen:=by unfold maxLen; omega
 by_cases hm:news= []
 · subst hm
   have ai:m=0:=by
    rcases Nat.mul_eq_zero.1 (E.symm.trans rfl) with h | h
    · exact h
    · omega
   subst ai
   have ak:(x2 #[t,t] ty #[v,.slice a 0 c]).run P w= .ok v w:=by
    rcases C.2 with ⟨rfl,rfl⟩ | ⟨an,cap,cur,rfl,_,_,hle,_⟩
    · cases a <;> simp [x2,db hu,sizeOf,gS hi,IX,IW,loadCells,loadCellsFrom]
    · cases a <;> simp [x2,db hu,sizeOf,gS hi,IX,IW,loadCells,loadCellsFrom,hle,storeCells]
   refine lH (w':=w) (v:=v) ?_<|k v w (by simpa using C) (Md.refl _ _) (by simp) fun _ h=> .inl h
   simp [execOp,resolve,invoke,builtin,aa,ab,ak]
 · have ag:=J.ok hm
   have V:∀ j u,news[j]? =some u→w.cell? ((⟨bk a,fo a,none⟩:Addr).add j)=some u:=fun j u hu=>by rw [lO,mT]; exact J.aJ j u hu
   obtain ⟨A,w',Z,h2,h3,h4⟩:=run_append_own (P:=P) w B t ty e i zv size bytes hu hi ac hs I ad Y v n xs C ⟨bk a,fo a,none⟩ m c news E V (tk h1) O G ae
   subst hs I
   have ah:=KS hu hi ac ad Y C E V (tk h1) O G Z
   refine lH (w':=w') (v:=A) ?_<|k A w' h2 ⟨h3.os,h3.output,h3.size,fun k hk aj=>h3.block k hk fun e=>aj e.symm⟩ h4 ah
   have am:ev N σ y= .slice (some ⟨bk a,fo a,none⟩) m c:=ab.trans<|congrArg (fun a=>bC a m c) ag
   simp [execOp,resolve,invoke,builtin,aa,am,Z]
theorem bc {t n len cap:Nat} {k:IntKind} {i:Int} {a:Option Addr} (he:gN P t=some n) (A:ev N σ x= .slice a len cap) (C:ev N σ y= .int k i) (c:0≤i∧i < len) (E:a=some ⟨bk a,fo a,none⟩):
 (execOp (ev N σ) ⟨dst,.indexAddr t x y,ty,pos,af,g⟩).run P w= .ok (.value<|.pointer<|some ⟨bk a,fo a+i.toNat*n,none⟩) w:=
 ia he (by rw [A]; congr 1) C c
end
theorem cD {F:Nat→Prop} {w w':World} {B e size n:Nat} {v:Value} {xs:List Value} (h:w.ownsRow B e size v n xs) (hm:Md F w w') (A:∀ k,v.ownBlock=some k→¬F k):w'.ownsRow B e size v n xs:=by
 refine ⟨h.1,?_⟩
 rcases h.2 with hn | ⟨g,cap,cur,rfl,c,C,rest⟩
 · exact .inl hn
 · exact .inr ⟨g,cap,cur,aa,c,hm.az C (A g aa),rest⟩
section
variable {P:Program} {N:Fm} {σ:Nat→Value} {w:World} {dst:Option Nat} {ty:TypeId} {pos :String} {af:Array Edge} {g:Option (Nat×Bool)} {x y z:Operand} {K:(Nat→Value)→World→Prop}
theorem su {t B e size n cap off j:Nat} {a:Option Addr} {xs:List Value} {u:Value} (ab:w.ownsRow B e size (.slice a n cap) n xs) (ag:ed P t=some 1) (ad:ev N σ x= .pointer (some ⟨bk a,off,none⟩)) (ae:ev N σ y=u) (h1:u.oneCell'=true)
 (V:off =fo a+j) (Z:j < n*size)
 (k:∀ w',Md (fun k=>(bC a n cap).ownBlock=some k) w w'→w'.ownsRow B e size (.slice a n cap) n (xs.set j u)→K σ w'):cH P N ⟨none,.store t x y,ty,pos,af,g⟩ σ w K:=by
 obtain ⟨C,h⟩:=ab
 rcases h with ⟨h,rfl⟩ | ⟨c,cp,cur,h,E,O,hle,J,A,ac⟩
 · simp at Z
 · simp only [ma,true_and] at h
   obtain ⟨rfl,rfl⟩:=h
   have Y:off =j:=by rw [V]; simp [fo]
   subst Y
   have hlen:off < cur.toList.length:=by
    have :=oD size hle
    rw [uM,A]; omega
   refine bW (L:=cur.toList) ag ad ae h1 (show w.heap[c]? =_ by simpa using O) hlen fun w' I G=>k w' (I.mono fun k _ hk=>by subst hk; rfl) ⟨by simpa using C,.inr ⟨c,cap,_,aa,E,G,hle,J,by simpa using A,?_⟩⟩
   rw [← ac]
   simp only
   rw [List.take_set]
end
theorem e7 {w:World} {B e size n:Nat} {v:Value} {xs:List Value} (h:w.ownsRow B e size v n xs):v.oneCell'=true :=by
 rcases h.2 with ⟨rfl,_⟩ | ⟨g,cap,cur,rfl,_⟩ <;> rfl
theorem c5 {w:World} {B e size n:Nat} {v:Value} {xs:List Value} (h:w.ownsRow B e size v n xs):∃ a cap,v= .slice a n cap:=by
 rcases h.2 with ⟨rfl,rfl⟩ | ⟨g,cap,cur,rfl,_⟩
 · exact ⟨_,_,aa⟩
 · exact ⟨_,_,aa⟩
theorem oh {w:World} {B B' e C size V n O:Nat} {v E:Value} {xs Y:List Value} (h:w.ownsRow B e size v n xs) (G:w.ownsRow B' C V E O Y) (J:e≠C) {k:Nat} (hk:v.ownBlock=some k):E.ownBlock≠some k:=by
 intro A
 rcases h.2 with ⟨rfl,_⟩ | ⟨g,cap,cur,rfl,_,I,_⟩
 · simp [gH] at hk
 · rcases G.2 with ⟨rfl,_⟩ | ⟨ab,Z,aa,rfl,_,c,_⟩
   · simp [gH] at A
   · simp only [gH,fO] at hk A
     subst hk A
     rw [I] at c
     simp only [fO,uR] at c
     exact J c.2.1
theorem ba {w w':World} {B e size n:Nat} {v:Value} {xs:List Value} (h:w.ownsRow B e size v n xs) (hm:Wk w w'):w'.ownsRow B e size v n xs:=cD h hm fun _ _ x=>x
theorem da {w:World} {B e size n:Nat} {v:Value} {xs:List Value} (h:w.ownsRow B e size v n xs) {k:Nat} (hk:v.ownBlock=some k):B≤k∧k < w.heap.size:=h.lt k hk
theorem Wk.own {w0 w w':World} {B e size n:Nat} {v:Value} {xs:List Value} (h:Wk w0 w) (c:w.ownsRow B e size v n xs) (hm:Md (fun k=>v.ownBlock=some k) w w') (C:w0.heap.size≤B):Wk w0 w':=
 Md.trans' h hm (fun k hk A=>by have :=(da c A).1; omega)
theorem si {w:World} {B e size n:Nat} {v:Value} {xs:List Value} (h:w.ownsRow B e size v n xs):∃ a cap,v= .slice a n cap∧aG w.heap a xs∧n≤cap∧(∀ k,v.ownBlock=some k→a=some ⟨k,0,none⟩∧B≤k∧k < w.heap.size)∧(v.ownBlock=none→xs= []):=by
 rcases h.2 with ⟨rfl,rfl⟩ | ⟨g,cap,cur,rfl,A,c,hle,_,_,C⟩
 · have :xs= []:=gq<|by simpa using h.1
   subst this
   exact ⟨none,0,aa,aG.nil _ _,cj _,fun k hk=>by simp [gH] at hk,fun _=>rfl⟩
 · refine ⟨_,cap,aa,⟨fun _=>rfl,fun j u hu=> ?_⟩,hle,fun k hk=> ?_,fun hk=>by simp [gH] at hk⟩
   · show aJ w.heap g (0 +j)=_
     rw [fN,aV c]
     rw [← C,oA] at hu
     split at hu
     · simpa using hu
     · cases hu
   · simp only [gH,fO] at hk; subst hk
     exact ⟨aa,A,(bT.1 c).1⟩
theorem aY {w:World} {B e size n cap:Nat} {a:Option Addr} {xs:List Value} (h:w.ownsRow B e size (.slice a n cap) n xs):n≤cap∧aG w.heap a xs:=by
 obtain ⟨C,E,c,A,hle,_⟩:=si h
 simp only [ma,true_and] at c
 obtain ⟨rfl,rfl⟩:=c
 exact ⟨hle,A⟩
theorem fj {w:World} {B B' e size n:Nat} {v:Value} {xs:List Value} (h:w.ownsRow B e size v n xs) (c:B'≤B):w.ownsRow B' e size v n xs:=by
 refine ⟨h.1,?_⟩
 rcases h.2 with h | ⟨g,cap,cur,h1,h2,r⟩
 · exact .inl h
 · exact .inr ⟨g,cap,cur,h1,dS c h2,r⟩
theorem aG.drop {h:Array Obj} {a:Option Addr} {xs:List Value} (c:aG h a xs) {cap k size:Nat} (E:xs.length≤cap*size):aG h (fD a cap k size) (xs.drop<|k*size):=by
 unfold fD
 by_cases hk:cap=k
 · rw [if_pos hk,lK (by rw [← hk]; exact E)]; exact aG.nil _ _
 · rw [if_neg hk]
   by_cases A:xs= []
   · subst A; rw [List.drop_nil]; exact aG.nil _ _
   · have C:=c.ok A
     rw [C]
     simp only [ky,lO]
     refine ⟨fun _=>rfl,fun j u hu=> ?_⟩
     rw [CC] at hu
     have :=c.aJ _ _ hu
     show Hb.aJ h (bk a) (fo a+k*size+j)=_
     rw [JT]; exact this
theorem T0 {w:World} {B e size n cap:Nat} {a:Option Addr} {xs:List Value} (h:w.ownsRow B e size (.slice a n cap) n xs) (A:xs≠[]):B≤bk a∧bk a < w.heap.size:=by
 obtain ⟨C,E,c,_,_,h1,h2⟩:=si h
 simp only [ma,true_and] at c
 obtain ⟨rfl,rfl⟩:=c
 cases hk:(bC a n cap).ownBlock with
 | none=>exact absurd (h2 hk) A
 | some k=>
   obtain ⟨rfl,h3,h4⟩:=h1 k hk
   exact ⟨h3,h4⟩
section
variable {P:Program} {N:Fm} {σ:Nat→Value} {w:World} {dst:Option Nat} {ty:TypeId} {pos :String} {af:Array Edge} {g:Option (Nat×Bool)} {x y z:Operand} {K:(Nat→Value)→World→Prop}
end
end Go.Hb
namespace Go.Hb
section
variable {P:Program} {md:q4} {ops:Array Oper} {Q:Exit→Act→World→Prop} {S:World→Prop} {r:Nat}
def o7 (P:Program) (md:q4) (ops:Array Oper) (Q:Exit→Act→World→Prop) (S:World→Prop) (r:Nat):Nat→Array Bool→Act→World→Prop
 | 0,aW,a,w=>iF md ops aW= []∧Q .normal a w
 | fuel+1,aW,a,w=>
   (iF md ops aW= []→Q .normal a w)∧
   ∀ i∈iF md ops aW,wpOp P ops Q i (fun c w'=>((aW.setIfInBounds i true).getD r false =false→S w')∧o7 P md ops Q S r fuel (aW.setIfInBounds i true) c w') a w
theorem Is:∀ (fuel:Nat) (aW:Array Bool) (a:Act) (w:World),o7 P md ops Q S r fuel aW a w→wpAny P md ops Q fuel aW a w
 | 0,_,_,_,h=>h
 | fuel+1,_,_,_,h=>⟨h.1,fun i hi=>wpOp_mono (fun c w' A=>Is fuel _ c w' A.2)<|h.2 i hi⟩
theorem Xe {i:Nat} {G:Oper} {v:Value} (hi:ops[i]? =some G) (ak:∀ (j:Nat) (o:Oper) cs b,ops[j]? =some o→o.op≠.select cs b)
 (an:∀ c a w,Q (.panic c) (a.put G.dst v) w→Q (.panic c) a w) (ay:∀ o,ops[r]? =some o→∃ x∈o.after,js md x=true∧x.on=i) (aq:i≠r):
 ∀ (fuel:Nat) (aW:Array Bool) (a:Act) (w:World),
   (∀ j C,ops[j]? =some C→j≠i→aW.getD j true =false→(∀ x∈C.after,js md x=true→x.on≠i)→G.apart ops C=true)→
   i∈iF md ops aW→YieldsIf P ops S G v a→S w→aW.getD r false =false→
   o7 P md ops Q S r fuel (aW.setIfInBounds i true) (a.put G.dst v) w→o7 P md ops Q S r (fuel+1) aW a w:=by
 intro fuel
 induction fuel with
 | zero=>
   intro aW a w _ E V I _ H
   refine ⟨fun h=>(by rw [h] at E; cases E),fun j J=> ?_⟩
   by_cases A:j=i
   · subst A; exact V.wpOp hi I ⟨fun _=>I,H⟩
   · have :=ready_mono J A
     rw [H.1] at this
     cases this
 | succ fuel az=>
   intro aW a w ac E V I ah H
   refine ⟨fun h=>(by rw [h] at E; cases E),fun j J=> ?_⟩
   by_cases A:j=i
   · subst A; exact V.wpOp hi I ⟨fun _=>I,H⟩
   · have h1:=H.2 j<|ready_mono J A
     obtain ⟨ag,C,O,ao⟩:=mem_ready.1 J
     have aj:∀ x∈C.after,js md x=true→x.on≠i:=fun x aa Z heq=>by
      have h1:=ao x aa Z
      have ab:=(mem_ready.1 E).1
      rw [heq] at h1
      rcases jk i aW.size with Y | Y
      · simp [Y] at ab h1; rw [ab] at h1; cases h1
      · simp [p7 Y] at h1
     have ae:j≠r:=by
      rintro rfl
      obtain ⟨x,aa,Z,ax⟩:=ay C O
      exact aj x aa Z ax
     have av:(aW.setIfInBounds j true).getD r false =false :=by rw [getD_set_ne false ae]; exact ah
     have ai:((aW.setIfInBounds i true).setIfInBounds j true).getD r false =false :=by rw [getD_set_ne false ae,getD_set_ne false aq]; exact ah
     have h2:=wpOp_putIf O (ac j C O A ag aj) (fun cs b=>ak i G cs b hi) (fun cs b=>ak j C cs b O) an V h1
     have ap:∀ k ok,ops[k]? =some ok→k≠i→(aW.setIfInBounds j true).getD k true =false→
      (∀ x∈ok.after,js md x=true→x.on≠i)→G.apart ops ok=true :=fun k ok hk au al aw=>by
      refine ac k ok hk au ?_ aw
      by_cases ad:j=k
      · subst ad; exact ag
      · rw [getD_set_ne true ad] at al; exact al
     refine wpOp_mono (fun am w' h3=>⟨fun _=>h3.2.1 ai,az (aW.setIfInBounds j true) am w' ap (ready_mono E<|Ne.symm A) h3.1 (h3.2.1 ai) av ?_⟩) h2
     rw [B4 _ _ A]
     exact h3.2.2
end
section
variable {P:Program} {N:Fm} {ops:Array Oper} {Q:Exit→(Nat→Value)→World→Prop} {σ:Nat→Value} {w:World} {S:World→Prop} {r fuel:Nat} {aW:Array Bool}
 {d':Option Nat} {d:Nat} {op:Op} {ty:TypeId} {pos :String} {af:Array Edge} {v:Value}
def gG (P:Program) (N:Fm) (ops:Array Oper) (Q:Exit→(Nat→Value)→World→Prop) (S:World→Prop) (r fuel:Nat) (aW:Array Bool) (σ:Nat→Value) (w:World):Prop :=
 o7 P .any ops (lift N Q) S r fuel aW (act N σ) w
theorem eG {id:Nat} {l:List Oper} (S:World→Prop) (r:Nat) (c:sh N.r l=true) (hm:P.follows .mixedOrders=true) (A:S w.drew) (h:gG P N l.toArray Q S r l.length (sL l.length false) σ w.drew):di P N (.region id l.toArray true) Q σ w:=by
 exact C6 c hm<|Is _ _ _ _<|by rw [nR]; exact h
def FD (F:List Nat) (ops:Array Oper) (aW:Array Bool) (r i:Nat):Bool:=
 iT F ops aW i && !(aW.getD r false) && i !=r && (match ops[r]? with | some o=>o.after.toList.any (fun x=>js .any x && x.on==i) | none=>false)
theorem lq (i:Nat) (hi:ops[i]? =some ⟨some d,op,ty,pos,af,none⟩) (C:FD N.F ops aW r i=true)
 (O:∀ w,S w→(execOp (ev N σ) ⟨some d,op,ty,pos,af,none⟩).run P w= .ok (.value v) w) (A:S w)
 (k:gG P N ops Q S r fuel (aW.setIfInBounds i true) (c6 σ d v) w):gG P N ops Q S r (fuel+1) aW σ w:=by
 simp only [FD,iT,gp,xY,bne_iff_ne,ne_eq] at C
 obtain ⟨⟨⟨⟨⟨⟨E,G⟩,hf3⟩,hfF⟩,hf4⟩,hf5⟩,hf6⟩:=C
 rw [hi] at hfF
 refine Xe hi (Cl E) (fun c a w=>oX hfF c a w) (fun o I=> ?_) hf5 fuel aW _ w (Ck hi G) (by simpa using hf3) (.inl ⟨jg _ rfl _,fun w A=> ?_⟩) A hf4 ?_ (v:=v)
 · rw [I] at hf6
   simp only [ya,gp,beq_iff_eq] at hf6
   obtain ⟨x,J,h1,h2⟩:=hf6
   exact ⟨x,uN.1 J,h1,h2⟩
 · rw [gh]; exact O w A
 · rw [jl]; exact k
theorem Gc (i:Nat) (hi:ops[i]? =some ⟨d',op,ty,pos,af,none⟩) (C:kM ops aW i=true)
 (h:cH P N ⟨d',op,ty,pos,af,none⟩ σ w (fun σ w=>((aW.setIfInBounds i true).getD r false =false→S w)∧gG P N ops Q S r fuel (aW.setIfInBounds i true) σ w)):gG P N ops Q S r (fuel+1) aW σ w:=by
 have c:iF .any ops aW= [i]:=by simpa [kM] using C
 refine ⟨fun A=>absurd (c ▸ A) (by simp),fun k hk=> ?_⟩
 rw [c] at hk
 obtain rfl :k=i:=by simpa using hk
 unfold wpOp
 simp only [hi]
 rw [if_pos (jg _ rfl _)]
 exact .inl<|sE h fun _ _ hk=>hk
theorem iV (i:Nat) (hi:ops[i]? =some ⟨d',op,ty,pos,af,none⟩) (c:kM ops aW i=true)
 (h:cH P N ⟨d',op,ty,pos,af,none⟩ σ w (fun σ w=>S w∧gG P N ops Q S r fuel (aW.setIfInBounds i true) σ w)):gG P N ops Q S r (fuel+1) aW σ w:=
 Gc i hi c (Iw h fun _ _ hk=>⟨fun _=>hk.1,hk.2⟩)
theorem dw (i:Nat) (hi:ops[i]? =some ⟨d',op,ty,pos,af,none⟩) (C:kM ops aW i=true) (A:(aW.setIfInBounds i true).getD r false =true)
 (h:cH P N ⟨d',op,ty,pos,af,none⟩ σ w (fun σ w=>gG P N ops Q S r fuel (aW.setIfInBounds i true) σ w)):gG P N ops Q S r (fuel+1) aW σ w:=
 Gc i hi C (Iw h fun _ _ hk=>⟨fun c=>absurd (c.symm.trans A) c7,hk⟩)
theorem eF (A:(iF .any ops aW).isEmpty=true) (h:Q .normal σ w):gG P N ops Q S r fuel aW σ w:=by
 have c:iF .any ops aW= []:=by simpa using A
 cases fuel with
 | zero=>exact ⟨c,σ,rfl,h⟩
 | succ fuel=>exact ⟨fun _=>⟨σ,rfl,h⟩,by rw [c]; simp⟩
attribute [irreducible] gG
end
end Go.Hb
namespace Go.Hb
section
variable {P:Program} {md:q4} {ops:Array Oper} {Q:Exit→Act→World→Prop} {S:World→Prop} {r:Nat}
inductive qm (md:q4) (ops:Array Oper) (i:Nat):Nat→Prop
 | one {r o e} :ops[r]? =some o→e∈o.after→js md e=true→e.on=i→qm md ops i r
 | more {r o e} :ops[r]? =some o→e∈o.after→js md e=true→qm md ops i e.on→qm md ops i r
def rq (md:q4) (ops:Array Oper) (aW:Array Bool):Prop := ∀ (j:Nat) (o:Oper),ops[j]? =some o→aW.getD j false =true→∀ e∈o.after,js md e=true→aW.getD e.on false =true
theorem FF {aW:Array Bool} {j k:Nat} (h:aW.getD k false =true):(aW.setIfInBounds j true).getD k false =true :=by
 by_cases e:j=k
 · subst e
   by_cases c:j < aW.size
   · simp [c]
   · simp [c] at h
 · rw [getD_set_ne false e]; exact h
theorem rq.set {aW:Array Bool} {j:Nat} (h:rq md ops aW) (G:j∈iF md ops aW):rq md ops (aW.setIfInBounds j true):=by
 intro k o hk C e he A
 obtain ⟨_,J,I,E⟩:=mem_ready.1 G
 by_cases c:j=k
 · subst c
   rw [I] at hk; cases hk
   exact FF<|E e he A
 · rw [getD_set_ne false c] at C
   exact FF<|h k o hk C e he A
theorem qm.aW {aW:Array Bool} {i r:Nat} (hd:qm md ops i r) (C:rq md ops aW) (c:∀ o,ops[r]? =some o→∀ e∈o.after,js md e=true→aW.getD e.on false =true):aW.getD i false =true :=by
 induction hd with
 | one h1 h2 h3 h4=>rw [← h4]; exact c _ h1 _ h2 h3
 | more h1 h2 h3 _ G=>exact G fun o E e he A=>C _ o E (c _ h1 _ h2 h3) e he A
theorem Xd {i:Nat} {E:Oper} {v:Value} (hi:ops[i]? =some E) (al:∀ (j:Nat) (o:Oper) cs b,ops[j]? =some o→o.op≠.select cs b)
 (ao:∀ c a w,Q (.panic c) (a.put E.dst v) w→Q (.panic c) a w) (hd:qm md ops i r) (au:i≠r):
 ∀ (fuel:Nat) (aW:Array Bool) (a:Act) (w:World),rq md ops aW→
   (∀ j G,ops[j]? =some G→j≠i→aW.getD j true =false→(∀ x∈G.after,js md x=true→x.on≠i)→E.apart ops G=true)→
   i∈iF md ops aW→YieldsIf P ops S E v a→S w→aW.getD r false =false→
   o7 P md ops Q S r fuel (aW.setIfInBounds i true) (a.put E.dst v) w→o7 P md ops Q S r (fuel+1) aW a w:=by
 intro fuel
 induction fuel with
 | zero=>
   intro aW a w _ _ C V I _ H
   refine ⟨fun h=>(by rw [h] at C; cases C),fun j J=> ?_⟩
   by_cases A:j=i
   · subst A; exact V.wpOp hi I ⟨fun _=>I,H⟩
   · have :=ready_mono J A
     rw [H.1] at this
     cases this
 | succ fuel aA=>
   intro aW a w ab ac C V I ai H
   refine ⟨fun h=>(by rw [h] at C; cases C),fun j J=> ?_⟩
   by_cases A:j=i
   · subst A; exact V.wpOp hi I ⟨fun _=>I,H⟩
   · have h1:=H.2 j<|ready_mono J A
     obtain ⟨ah,G,O,aa⟩:=mem_ready.1 J
     have ad:aW.getD i false =false :=by
      have Z:=(mem_ready.1 C).1
      rcases jk i aW.size with Y | Y
      · simpa [Y] using Z
      · simp [Y] at Z
     have ay:∀ x∈G.after,js md x=true→x.on≠i:=fun x az ap heq=>by
      have h1:=aa x az ap
      rw [heq,ad] at h1; cases h1
     have ag:j≠r:=by
      rintro rfl
      have :=hd.aW ab fun o ak=>by rw [O] at ak; cases ak; exact aa
      rw [ad] at this; cases this
     have aw:(aW.setIfInBounds j true).getD r false =false :=by rw [getD_set_ne false ag]; exact ai
     have aj:((aW.setIfInBounds i true).setIfInBounds j true).getD r false =false :=by rw [getD_set_ne false ag,getD_set_ne false au]; exact ai
     have h2:=wpOp_putIf O (ac j G O A ah ay) (fun cs b=>al i E cs b hi) (fun cs b=>al j G cs b O) ao V h1
     have aq:∀ k ok,ops[k]? =some ok→k≠i→(aW.setIfInBounds j true).getD k true =false→
      (∀ x∈ok.after,js md x=true→x.on≠i)→E.apart ops ok=true :=fun k ok hk av am ax=>by
      refine ac k ok hk av ?_ ax
      by_cases ae:j=k
      · subst ae; exact ah
      · rw [getD_set_ne true ae] at am; exact am
     refine wpOp_mono (fun an w' h3=>⟨fun _=>h3.2.1 aj,aA (aW.setIfInBounds j true) an w' (ab.set J) aq (ready_mono C<|Ne.symm A) h3.1 (h3.2.1 aj) aw ?_⟩) h2
     rw [B4 _ _ A]
     exact h3.2.2
theorem Xf {i:Nat} {E:Oper} {v:Value} (hi:ops[i]? =some E) (ah:∀ (j:Nat) (o:Oper) cs b,ops[j]? =some o→o.op≠.select cs b)
 (ak:∀ c a w,Q (.panic c) (a.put E.dst v) w→Q (.panic c) a w) (Y:i≠r):
 ∀ (fuel:Nat) (aW:Array Bool) (a:Act) (w:World),
   (∀ j G,ops[j]? =some G→j≠i→aW.getD j true =false→(∀ x∈G.after,js md x=true→x.on≠i)→E.apart ops G=true)→
   i∈iF md ops aW→YieldsIf P ops (fun _=>True) E v a→(aW.getD r false =false→S w)→
   o7 P md ops Q S r fuel (aW.setIfInBounds i true) (a.put E.dst v) w→o7 P md ops Q S r (fuel+1) aW a w:=by
 intro fuel
 induction fuel with
 | zero=>
   intro aW a w _ C J V H
   refine ⟨fun h=>(by rw [h] at C; cases C),fun j I=> ?_⟩
   by_cases A:j=i
   · subst A; exact J.wpOp hi trivial ⟨fun h=>V (by rw [getD_set_ne false Y] at h; exact h),H⟩
   · have :=ready_mono I A
     rw [H.1] at this
     cases this
 | succ fuel aw=>
   intro aW a w ac C J V H
   refine ⟨fun h=>(by rw [h] at C; cases C),fun j I=> ?_⟩
   by_cases A:j=i
   · subst A; exact J.wpOp hi trivial ⟨fun h=>V (by rw [getD_set_ne false Y] at h; exact h),H⟩
   · have h1:=H.2 j<|ready_mono I A
     obtain ⟨ag,G,Z,al⟩:=mem_ready.1 I
     have ao:aW.getD i false =false :=by
      have aa:=(mem_ready.1 C).1
      rcases jk i aW.size with O | O
      · simpa [O] using aa
      · simp [O] at aa
     have au:∀ x∈G.after,js md x=true→x.on≠i:=fun x av am heq=>by
      have h1:=al x av am
      rw [heq,ao] at h1; cases h1
     have h2:=wpOp_putIf Z (ac j G Z A ag au) (fun cs b=>ah i E cs b hi) (fun cs b=>ah j G cs b Z) ak J h1
     have an:∀ k ok,ops[k]? =some ok→k≠i→(aW.setIfInBounds j true).getD k true =false→
      (∀ x∈ok.after,js md x=true→x.on≠i)→E.apart ops ok=true :=fun k ok hk ap ai aq=>by
      refine ac k ok hk ap ?_ aq
      by_cases ae:j=k
      · subst ae; exact ag
      · rw [getD_set_ne true ae] at ai; exact ai
     have ab:(aW.setIfInBounds i true).setIfInBounds j true =(aW.setIfInBounds j true).setIfInBounds i true :=B4 _ _ fun e=>A e.symm
     have ad:(aW.setIfInBounds j true).getD r false =false→((aW.setIfInBounds i true).setIfInBounds j true).getD r false =false :=fun h=>by rw [ab,getD_set_ne false Y]; exact h
     refine wpOp_mono (fun aj w' h3=>⟨fun h=>h3.2.1 (ad h),aw (aW.setIfInBounds j true) aj w' an (ready_mono C<|Ne.symm A) h3.1 (fun h=>h3.2.1<|ad h) ?_⟩) h2
     rw [← ab]
     exact h3.2.2
end
section
variable {P:Program} {N:Fm} {ops:Array Oper} {Q:Exit→(Nat→Value)→World→Prop} {σ:Nat→Value} {w:World} {S:World→Prop} {r fuel:Nat} {aW:Array Bool}
 {d:Nat} {op:Op} {ty:TypeId} {pos :String} {af:Array Edge} {v:Value}
def vR (ops:Array Oper) (i:Nat):Nat→Nat→Bool
 | 0,_=>false
 | f+1,r=>match ops[r]? with | some o=>o.after.toList.any (fun e=>js .any e && (e.on==i || vR ops i f e.on)) | none=>false
theorem O8 {i:Nat} :∀ (f r:Nat),vR ops i f r=true→qm .any ops i r:=by
 intro f
 induction f with
 | zero=>intro r h; cases h
 | succ f C=>
   intro r h
   rw [vR] at h
   split at h
   · rename_i o A
     simp only [ya,gp,B7,beq_iff_eq] at h
     obtain ⟨e,he,c,h⟩:=h
     rcases h with h | h
     · exact .one A (uN.1 he) c h
     · exact .more A (uN.1 he) c<|C _ h
   · cases h
def zk (ops:Array Oper) (aW:Array Bool):Bool:=(fM ops.size).all fun j=> !aW.getD j false || match ops[j]? with | some o=>o.after.toList.all (fun e=> !js .any e || aW.getD e.on false) | none=>true
theorem NQ (h:zk ops aW=true):rq .any ops aW:=by
 intro j o c C e he A
 unfold zk at h
 rw [kP] at h
 have h1:=h j<|nP.2 (bT.1 c).1
 rw [C,c] at h1
 simp only [Bool.not_true,Bool.false_or,kP,B7,xY] at h1
 rcases h1 e (uN.2 he) with h2 | h2
 · rw [A] at h2; cases h2
 · exact h2
def Ae (F:List Nat) (ops:Array Oper) (aW:Array Bool) (r i:Nat):Bool:=iT F ops aW i && !(aW.getD r false) && i !=r && zk ops aW && vR ops i ops.size r
def wu (F:List Nat) (ops:Array Oper) (aW:Array Bool) (r i:Nat):Bool:=iT F ops aW i && i !=r
theorem jW (i:Nat) (hi:ops[i]? =some ⟨some d,op,ty,pos,af,none⟩) (C:Ae N.F ops aW r i=true)
 (I:∀ w,S w→(execOp (ev N σ) ⟨some d,op,ty,pos,af,none⟩).run P w= .ok (.value v) w) (A:S w)
 (k:gG P N ops Q S r fuel (aW.setIfInBounds i true) (c6 σ d v) w):gG P N ops Q S r (fuel+1) aW σ w:=by
 simp only [Ae,iT,gp,xY,bne_iff_ne,ne_eq] at C
 obtain ⟨⟨⟨⟨⟨⟨⟨E,G⟩,hf3⟩,hfF⟩,hf4⟩,hf5⟩,hf6⟩,hf7⟩:=C
 rw [hi] at hfF
 unfold gG at*
 refine Xd hi (Cl E) (fun c a w=>oX hfF c a w) (O8 _ _ hf7) hf5 fuel aW _ w (NQ hf6) (Ck hi G) (by simpa using hf3) (.inl ⟨jg _ rfl _,fun w A=> ?_⟩) A hf4 ?_ (v:=v)
 · rw [gh]; exact I w A
 · rw [jl]; exact k
theorem cC (i:Nat) (hi:ops[i]? =some ⟨some d,op,ty,pos,af,none⟩) (A:wu N.F ops aW r i=true)
 (I:∀ w,(execOp (ev N σ) ⟨some d,op,ty,pos,af,none⟩).run P w= .ok (.value v) w) (C:aW.getD r false =false→S w)
 (k:gG P N ops Q S r fuel (aW.setIfInBounds i true) (c6 σ d v) w):gG P N ops Q S r (fuel+1) aW σ w:=by
 simp only [wu,iT,gp,bne_iff_ne,ne_eq] at A
 obtain ⟨⟨⟨⟨E,G⟩,hf3⟩,hfF⟩,hf5⟩:=A
 rw [hi] at hfF
 unfold gG at*
 refine Xf hi (Cl E) (fun c a w=>oX hfF c a w) hf5 fuel aW _ w (Ck hi G) (by simpa using hf3) (.inl ⟨jg _ rfl _,fun w _=> ?_⟩) C ?_ (v:=v)
 · rw [gh]; exact I w
 · rw [jl]; exact k
end
end Go.Hb
namespace Go.Hb
def Ig:Nat→Nat→List UInt8
 | 0,n=> [j9 n]
 | f+1,n=>if n < 128 then [j9 n] else j9 (n % 128 +128)::Ig f (n / 128)
def WD (n:Nat):List UInt8:=Ig n n
def frame:List (List UInt8)→List UInt8
 | []=> []
 | r::l=>WD r.length++(r++frame l)
theorem k8 {α:Type} (l:List α) (i:Nat) (d:α) (h:i < l.length):l.take (i+1)=l.take i++ [l.getD i d]:=by
 rw [List.take_succ_eq_append_getElem h]; simp [cU,h]
end Go.Hb
namespace Go.Hb
def U8 (l:List UInt8):List Value:=l.map fun b=>fL .u8 b.toNat
theorem vq (l:List UInt8):(U8 l).length=l.length:=by simp [U8]
theorem vp (a b:List UInt8):U8 (a++b)=U8 a++U8 b:=by simp [U8]
theorem Ko (l:List UInt8):(U8 l).all eQ=true :=by
 rw [kP]
 intro u hu
 simp only [U8,gW] at hu
 obtain ⟨b,_,rfl⟩:=hu
 rfl
def vD (P:Program) (t e u:TypeId):Bool:=
 gy P t e 1 1 && (match P.underlying e with | some (.int .u8)=>true | _=>false) && (match P.underlying u with | some .string=>true | _=>false) &&
  (match P.info? e with | some i=>(match i.zero with | some (.int .u8 0)=>true | _=>false) | none=>false)
theorem Lw {P:Program} {t e u:TypeId} (h:vD P t e u=true):
 gy P t e 1 1=true∧P.underlying e=some (.int .u8)∧P.underlying u=some .string∧∃ i,P.info? e=some i∧i.zero=some (.int .u8 0):=by
 simp only [vD,gp] at h
 obtain ⟨⟨⟨h1,h2⟩,h3⟩,h4⟩:=h
 refine ⟨h1,?_,?_,?_⟩
 · split at h2
   · rename_i h; exact h
   · cases h2
 · split at h3
   · rename_i h; exact h
   · cases h3
 · split at h4
   · rename_i i hi
     split at h4
     · rename_i h; exact ⟨i,hi,h⟩
     · cases h4
   · cases h4
section
variable {P:Program} {N:Fm} {σ:Nat→Value} {w:World} {dst:Option Nat} {ty:TypeId} {pos :String} {af:Array Edge} {g:Option (Nat×Bool)} {x y z:Operand} {K:(Nat→Value)→World→Prop}
theorem foldl_push (l:List UInt8) (r:ByteArray):(l.map fun b=>(b.toNat:Int)).foldl (fun r n=>r.push<|j9 n.toNat) r=⟨r.data++l.toArray⟩:=by
 induction l generalizing r with
 | nil=>simp
 | cons b l c=>
   simp only [mO,sT]
   rw [c]
   apply ByteArray.ext
   simp [ByteArray.push]
theorem zn {t e u n c:Nat} {a:Option Addr} {l:List UInt8} (h:vD P t e u=true) (O:ev N σ x= .slice a n c) (A:aG w.heap a (U8 l)) (C:l.length=n):
 (execOp (ev N σ) ⟨dst,.convert t u x,ty,pos,af,g⟩).run P w= .ok (.value<|str l) w:=by
 obtain ⟨h1,h2,h3,_⟩:=Lw h
 obtain ⟨hu,_⟩:=pX h1
 have G:(I1<|.slice a n c).run P w= .ok (str l) w:=by
  by_cases he:l= []
  · subst he
    cases a with
    | none=>simp [I1,str]; rfl
    | some a=>
      subst C
      have :=run_bytesToString (P:=P) w a 0 c []<|by simp [loadCells,loadCellsFrom]
      exact this.trans aa
  · have E:=A.ok<|by simpa [U8] using he
    have J:(loadCells ⟨bk a,fo a,none⟩ n).run P w= .ok ((l.map fun b=>(b.toNat:Int)).map<|fL .u8).toArray w:=by
     subst C
     have :=run_loadCells_list (P:=P) w ⟨bk a,fo a,none⟩ (U8 l) fun j v I=>by
      rw [lO,mT]
      exact A.aJ j v I
     rw [vq] at this
     rw [this]
     simp [U8]
    rw [E,run_bytesToString w _ n c _ J,foldl_push]
    simp [str,ByteArray.empty,ByteArray.emptyWithCapacity]
    rfl
 simp [execOp,O,run_convert_bytes_string w t u e a n c hu h2 h3,G]
theorem WL {at_:Array TypeId} {v:Value} {a:Option Addr} {n c:Nat} (A:ev N σ x= .slice a n c) (h:a=none∨c≠0):
 (execOp (ev N σ) ⟨dst,.call ⟨.builtin .unsafeSliceData,#[x],at_⟩,ty,pos,af,g⟩).run P w= .ok (.value<|.pointer a) w:=by
 have _:=v
 have :(Builtin.unsafeSliceData_ at_ ty #[.slice a n c]).run P w= .ok (.pointer a) w:=by
  cases a with
  | none=>exact Lib.run_unsafeSliceData_nil w at_ ty n c
  | some a=>exact Lib.run_unsafeSliceData_row w at_ ty a n c<|h.resolve_left<|by simp
 simp [execOp,resolve,invoke,builtin,A,this]
def ptrTo (P:Program) (A e:TypeId):Bool:=match P.underlying A with | some (.pointer c)=>c==e && P.cellsOf e==1 | _=>false
theorem WM {G it e B n c:Nat} {a:Option Addr} {l:List UInt8} {xs:List Value} (hp:ptrTo P G e=true) (O:ev N σ x= .pointer a) (V:ev N σ y= .int .i64 n) (E:w.ownsRow B e 1 (.slice a n c) n xs)
 (al:xs=U8 l) (am:n≤9223372036854775807)
 (k:∀ w',Md (fun k=>(bC a n c).ownBlock=some k) w w'→w'.heap.size=w.heap.size→K (fq σ dst<|str l) w'):
 cH P N ⟨dst,.call ⟨.builtin .unsafeString,#[x,y],#[G,it]⟩,ty,pos,af,g⟩ σ w K:=by
 subst al
 have A:l.length=n:=by have :=E.1; simpa [U8] using this
 unfold ptrTo at hp
 split at hp
 case h_2=>cases hp
 rename_i I hu
 simp only [gp,beq_iff_eq] at hp
 obtain ⟨rfl,Z⟩:=hp
 by_cases he:l= []
 · subst he
   obtain rfl :n=0:=A.symm
   refine lH (w':=w) (v:=str []) ?_<|k w (Md.refl _ _) aa
   simp [execOp,resolve,invoke,builtin,O,V,Lib.run_unsafeString_none]
   rfl
 · rcases E.2 with ⟨h,Y⟩ | ⟨C,cap,cur,h,_,ae,hle,_,ak,an⟩
   · subst Y; simp only [List.length_eq_zero_iff] at A; exact absurd A he
   · simp only [ma,true_and] at h
     obtain ⟨rfl,rfl⟩:=h
     have aj:w.shape? C=some (I,cur.size):=by simp [Cw,ae]
     have ai:=Lib.run_unsafeString_row (P:=P) w G it ty I hu Z C cur.size aj l he (by rw [A,ak]; omega) ab (fun j u hu=>by
      obtain ⟨ad,cp,J,ac,_,hk,_⟩:=si E
      simp only [ma,true_and] at J
      obtain ⟨rfl,rfl⟩:=J
      rw [lO,mT]
      exact ac.aJ j _ (by simp [U8,hu]))
     refine lH (w':=w.freeze ⟨C,0,none⟩ l.length) (v:=str l) ?_ (k _ ⟨?_,?_,?_,?_⟩ ?_)
     · simp [execOp,resolve,invoke,builtin,O,V,← A,ai,str]
     · unfold uY; split <;> rfl
     · unfold uY; split <;> rfl
     · unfold uY; split <;> simp
     · intro k hk ag
       have ah:k≠C:=fun e=>ag<|by simp [gH,e]
       unfold uY
       split
       · rfl
       · simp only [Array.getElem?_modify]; rw [if_neg (fun e=>ah e.symm)]
     · unfold uY; split <;> simp
def uH (P:Program) (A up e n:Nat):Bool:=
 (match P.underlying A with | some (.pointer c)=>c==e | _=>false) && (match P.underlying up with | some .unsafePointer=>true | _=>false) && P.cellsOf e==n && fV 0 n && (match P.info? e with | some i=>i.size==n | _=>false)
theorem Ij {P:Program} {c up e n:Nat} (h:uH P c up e n=true):P.underlying c=some (.pointer e)∧P.underlying up=some .unsafePointer∧P.cellsOf e=n∧0 < n∧∃ i,P.info? e=some i∧i.size=n:=by
 simp only [uH,gp] at h
 obtain ⟨⟨⟨⟨h1,h2⟩,h3⟩,h4⟩,h5⟩:=h
 refine ⟨?_,?_,by simpa using h3,rk (s6 0) (qi h4),?_⟩
 · split at h1
   · rename_i h; simp only [beq_iff_eq] at h1; rw [h,h1]
   · cases h1
 · split at h2
   · rename_i h; exact h
   · cases h2
 · split at h5
   · rename_i i hi; exact ⟨i,hi,by simpa using h5⟩
   · cases h5
theorem Wn {c up e n b:Nat} {L:List Value} (h:uH P c up e n=true) (I:ev N σ x= .pointer (some ⟨b,0,none⟩)) (A:w.heap[b]? =some (.cells L.toArray e (0,0))) (C:L.length=n):
 (execOp (ev N σ) ⟨dst,.convert c up x,ty,pos,af,g⟩).run P w= .ok (.value<|.pointer<|some ⟨b,0,none⟩) w:=by
 obtain ⟨h1,h2,h3,h4,i,hi,hs⟩:=Ij h
 have G:w.shape? b=some (e,L.length):=by simp [Cw,A]
 have E:¬n=0:=ab
 simp [execOp,I,convert,db h1,db h2,I3,I2,viewAt,G,cellsIn,C,sizeOf,gS hi,hs,E]
theorem QZ {A up e n b:Nat} {L:List Value} (h:uH P A up e n=true) (J:ev N σ x= .pointer (some ⟨b,0,none⟩)) (C:w.heap[b]? =some (.cells L.toArray e (0,0))) (E:L.length=n):
 (execOp (ev N σ) ⟨dst,.convert up A x,ty,pos,af,g⟩).run P w= .ok (.value<|.pointer<|some ⟨b,0,none⟩) w:=by
 obtain ⟨h1,h2,h3,h4,i,hi,hs⟩:=Ij h
 have I:w.shape? b=some (e,L.length):=by simp [Cw,C]
 have c:¬n=0:=ab
 have G:liesAt P P.depth e (L.length / P.cellsOf e) 0 e 1=true :=by
  have hd:P.depth=(2 *(P.types.size+Made.depth)+1)+1:=rfl
  rw [hd]
  simp only [liesAt,B7]
  left
  rw [hd]
  simp [rowAt,h3,c,E,sameLayout,Nat.div_self h4]
 simp [execOp,J,convert,db h1,db h2,I3,I2,viewAt,I,variablesAt,sizeOf,gS hi,hs,c,G]
theorem Ts {t C e:TypeId} {a:Addr} (hu:P.underlying t=some (.pointer e)) (hs:(P.info? e).isSome=true) (c:ev N σ x= .pointer (some a)) (A:ev N σ y= .pointer (some a)):
 (execOp (ev N σ) ⟨dst,.binOp .neq t x y C,ty,pos,af,g⟩).run P w= .ok (.value<|.bool false) w:=by
 obtain ⟨i,hi⟩:=me.1 hs
 have he:∀ d,(pw (d+1) t (.pointer<|some a)<|.pointer<|some a).run P w= .ok true w:=by
  intro d
  simp [pw,db hu,sizeOf,gS hi,sameAddr]
 have h:(binOp .neq t (.pointer<|some a)<|.pointer<|some a).run P w= .ok (.bool false) w:=by
  have :=he 9999
  simp only [binOp]
  have h2:(Ch t (.pointer<|some a)<|.pointer<|some a).run P w= .ok true w:=this
  simp [h2]
 simp [execOp,c,A,eqGuard,h]
theorem N4 {f:FuncId} {args:Array Operand} {c:Array TypeId} {v:Value} (C:∀ v w,(callFunc f #[v]).run P w= .ok (.value v) w) (A:args.toList.map (ev N σ)= [v]):
 (execOp (ev N σ) ⟨dst,.call ⟨.value (.func f),args,c⟩,ty,pos,af,g⟩).run P w= .ok (.value v) w:=by
 have :args.map (ev N σ)= #[v]:=by rw [← xV,lJ,A]
 simp [execOp,resolve,ev,pn,invoke,this,C]
structure Bd (T e:TypeId) (w:World) (b:Nat) (buf:Value) (l:List UInt8):Prop where
 az:∃ pa,w.heap[b]? =some (.cells [x5 pa,buf].toArray T (0,0))∧(pa=none∨pa=some ⟨b,0,none⟩)
 own:w.ownsRow (b+1) e 1 buf l.length (U8 l)
 nil:buf= .slice none 0 0↔l= []
def BF (b:Nat) (c:Value) (k:Nat):Prop :=k=b∨c.ownBlock=some k
end
theorem Bd.lt {T e b:Nat} {w:World} {c:Value} {l:List UInt8} (h:Bd T e w b c l):b < w.heap.size:=let ⟨_,h,_⟩:=h.az; (bT.1 h).1
theorem Bd.ir {T e b:Nat} {w:World} {c:Value} {l:List UInt8} (h:Bd T e w b c l) {k:Nat} (hk:BF b c k):b≤k∧k < w.heap.size:=by
 rcases hk with rfl | hk
 · exact ⟨cj _,h.lt⟩
 · have :=h.own.lt k hk; omega
theorem Bd.md {T e b:Nat} {F:Nat→Prop} {w w':World} {c:Value} {l:List UInt8} (h:Bd T e w b c l) (hm:Md F w w') (A:∀ k,BF b c k→¬F k):Bd T e w' b c l:=by
 obtain ⟨⟨C,h1,h2⟩,h3,h4⟩:=h
 exact ⟨⟨C,hm.az h1 (A b<|.inl aa),h2⟩,cD h3 hm (fun k hk=>A k<|.inr hk),h4⟩
end Go.Hb
namespace Go.Hb
def j5 (P:Program) (t:TypeId):Option (List (Nat×Nat)×List Value):=
 match P.info? t,P.underlying t with
 | some it,some (.struct fields)=>
   match it.zero,fields.toList.mapM (fun f=>(P.info? f.type).map fun i=>(f.offset,i.size)) with
   | some z,some pl=>some (pl,z.cells.toList)
   | _,_=>none
 | _,_=>none
def uo (pl:List (Nat×Nat)):List Value→List (Nat×Value)→Option (List Value)
 | c,[]=>some c
 | c,(i,v)::r=>match pl[i]? with
   | some (off,s)=>if (s==1 && v.oneCell' && fV off c.length)=true then uo pl (c.set off v) r else none
   | none=>none
theorem Ut {pl:List (Nat×Nat)} {c L:List Value} {ps:List (Nat×Value)} (h:uo pl c ps=some L):l9 (pl.toArray[·]?) c.toArray ps=some L.toArray:=by
 induction ps generalizing c with
 | nil=>simp only [uo,fO] at h; subst h; rfl
 | cons p ps G=>
   obtain ⟨i,v⟩:=p
   simp only [uo] at h
   split at h
   · rename_i off s hs
     split at h
     · rename_i A
       simp only [gp,beq_iff_eq] at A
       obtain ⟨⟨rfl,h1⟩,ho⟩:=A
       have I:off < c.length:=qi ho
       have E:v.cells= #[v]:=pT h1
       have C:pl.toArray[i]? =some (off,1):=by simpa using hs
       simp only [l9,C,E]
       rw [if_neg (by simp; omega),← G h]
       simp
     · cases h
   · cases h
theorem mu {α:Type} {f:α→List Value} {m:Nat} (c:∀ a,(f a).length=m) (l:List α):(l.flatMap f).length=l.length*m:=by
 induction l with
 | nil=>simp
 | cons x l A=>simp [A,c,nT,Nat.add_comm]
theorem wa {α:Type} {f:α→List Value} {m:Nat} (A:∀ a,(f a).length=m) {l:List α} {j c:Nat} {a:α} (h:l[j]? =some a) (C:c < m):(l.flatMap f)[j*m+c]? =(f a)[c]? :=by
 induction l generalizing j with
 | nil=>simp at h
 | cons x l E=>
   cases j with
   | zero=>
     simp only [List.getElem?_cons_zero,fO] at h; subst h
     rw [CJ,fN,jt,mK (by rw [A]; exact C)]
   | succ j=>
     simp only [JB] at h
     rw [jt,nK (by rw [A,nT]; omega),A,show (j+1)*m+c - m=j*m+c from by rw [nT]; omega]
     exact E h
theorem ic {α:Type} {f:α→List Value} {m:Nat} (c:∀ a,(f a).length=m) {h:Array Obj} {a:Option Addr} {l:List α} {i:Nat} {e:α} (C:aG h a (l.flatMap f)) (E:l[i]? =some e):∀ j,j < m→Hb.aJ h (bk a) (fo a+i*m+j)=(f e)[j]? :=by
 intro j A
 have h1:=wa c E A
 have h2:j < (f e).length:=by rw [c]; exact A
 rw [bX h2] at h1 ⊢
 rw [JT]; exact C.aJ _ _ h1
theorem zT {α:Type} {f:α→List Value} {m:Nat} (c:∀ a,(f a).length=m) (hm:0 < m) {l:List α} (h:0 < l.length):l.flatMap f≠[]:=by
 intro e
 have :=mu c l
 rw [e] at this
 have :0 < l.length*m:=Nat.mul_pos h hm
 simp at*; omega
theorem Ff {α:Type} {f:α→List Value} {m:Nat} (c:∀ a,(f a).length=m) {l:List α} {j:Nat} (x:α) (h:j < l.length):(l.set j x).flatMap f=(l.flatMap f).take (j*m)++f x++(l.flatMap f).drop (j*m+m):=by
 induction l generalizing j with
 | nil=>simp at h
 | cons y l A=>
   cases j with
   | zero=>
     simp only [List.set_cons_zero,jt,CJ,pB,oB,fN]
     rw [Ju,Jw (by rw [c]; exact cj _),c]; simp
   | succ j=>
     simp only [bS] at h
     rw [List.set_cons_succ,jt,A ab,jt,vf,Ju,c,fu (l:=f y) (by rw [c,nT]; omega),Jw (l:=f y) (by rw [c,nT]; omega),
      show (j+1)*m - m=j*m from by rw [nT]; omega,show (j+1)*m+m - m=j*m+m from by rw [nT]; omega]
     simp
theorem zU {α:Type} {f:α→List Value} (c:∀ a,(f a).all eQ=true) (l:List α):(l.flatMap f).all eQ=true :=by
 simp only [List.all_flatMap,kP]; intro x _; exact kP.1<|c x
section
variable {P:Program} {N:Fm} {σ:Nat→Value} {w:World} {dst:Option Nat} {ty:TypeId} {pos :String} {af:Array Edge} {g:Option (Nat×Bool)} {x y z:Operand} {K:(Nat→Value)→World→Prop}
theorem du {t:TypeId} {parts:Array (Nat×Operand)} {pl:List (Nat×Nat)} {c L:List Value} {ps:List (Nat×Value)} (h:j5 P t=some (pl,c)) (hp:parts.toList.map (fun p=>(p.1,ev N σ p.2))=ps) (A:uo pl c ps=some L):
 (execOp (ev N σ) ⟨dst,.build t parts,ty,pos,af,g⟩).run P w= .ok (.value<|.agg L.toArray) w:=by
 unfold j5 at h
 split at h
 · rename_i it fields hi hu
   split at h
   · rename_i z G E hm
     simp only [fO,vl] at h
     obtain ⟨rfl,rfl⟩:=h
     have C:P.built t (parts.map fun p=>(p.1,ev N σ p.2)).toList=some L.toArray:=by
      have :=Ut A
      simp only [xT] at this
      simp only [Program.built,hi,hu,E,hm,lJ,hp]; exact this
     simp [execOp,run_build w t _ _ C]
   · cases h
 · cases h
end
end Go.Hb
namespace Go.Hb
section
variable {P:Program} {N:Fm} {σ:Nat→Value} {w:World} {dst:Option Nat} {ty:TypeId} {pos :String} {af:Array Edge} {g:Option (Nat×Bool)} {x y z:Operand} {K:(Nat→Value)→World→Prop}
theorem SX {zv:Value} (h1:zv.oneCell'=true) (n:Nat):madeCells zv.cells n=(jM n zv).toArray:=by
 rw [pT h1]
 apply Array.ext
 · simp [madeCells]
 · intro i h2 h3
   simp [madeCells,Nat.mod_one]
theorem Tm {t e bytes n:Nat} {I G:IntKind} {zv:Value} (Y:gy P t e 1 bytes=true) (c:zeroOf P e=some (some [zv])) (h1:zv.oneCell'=true) (Z:ev N σ x= .int I n) (ac:ev N σ y= .int G n) (ae:bytes*n≤281474976710656) (A:n≤maxLen)
 (k:∀ b w',b=w.heap.size→Nw w w'→(∀ B,B≤b→w'.ownsRow B e 1 (.slice (some ⟨b,0,none⟩) n n) n (jM n zv))→K (fq σ dst<|.slice (some ⟨b,0,none⟩) n n) w'):cH P N ⟨dst,.makeSlice t x y,ty,pos,af,g⟩ σ w K:=by
 obtain ⟨hu,i,J,hi,E,hs,V,ah,ag⟩:=pX Y
 have ad:J.cells= #[zv]:=by
  unfold zeroOf at c
  simp only [hi,E,ky,fO] at c
  exact xV.1<|by simpa using c
 refine mF (v:=fun b=> .slice (some ⟨b,0,none⟩) n n) (ob:= .cells (jM n zv).toArray e (0,0)) ?_ fun b w' h2 h3 h4=>k b w' h2 h3 fun B O=>⟨by simp,.inr ⟨b,n,_,aa,O,h4,cj _,A,by simp,by simp⟩⟩
 have C:=run_make (P:=P) w t e i J hu hi E I G n n ab (Int.le_refl _) (by rw [V,← Int.natCast_mul]; omega)<|by unfold maxLen at A; omega
 rw [ad,hs,Nat.mul_one,jL,show madeCells #[zv] n=(jM n zv).toArray by rw [← SX h1,pT h1]] at C
 simp [execOp,Z,ac,C]
end
end Go.Hb
namespace Go.Hb
section
variable {P:Program} {N:Fm} {σ:Nat→Value} {w:World} {dst:Option Nat} {ty:TypeId} {pos :String} {af:Array Edge} {g:Option (Nat×Bool)} {x y z:Operand}
theorem NB {t n len cap i:Nat} {a:Option Addr} {k I:IntKind} (he:gN P t=some n) (C:ev N σ x= .slice a len cap) (E:ev N σ y= .int k (i:Nat)) (G:ev N σ z= .int I (i:Nat)) (h:i≤cap):
 (execOp (ev N σ) ⟨dst,.slice t x none (some y) (some z),ty,pos,af,g⟩).run P w= .ok (.value<|.slice a i i) w:=by
 have c:(0:Int)≤(i:Int):=ab
 unfold gN at he
 cases hd:P.underlying t with
 | none=>rw [hd] at he; cases he
 | some d=>
   rw [hd] at he
   cases d <;> first | (cases he; done) | skip
   rename_i e
   cases hi':P.info? e with
   | none=>simp [hi'] at he
   | some j=>
     have A:(if i=0 then a else a.map (·.add 0))=a:=by
      split
      · rfl
      · cases a <;> simp [xZ]
     simp only [execOp,qY,uQ,C,E,G,ky,Option.map_none,ox,qZ,asIntOf]
     simp [db hd,gS hi',sizeOf,c,A]
     intro J; omega
end
end Go.Hb
namespace Go.Hb
def qn (h:Array Obj) (b:Nat) (kvs:List (Value×Value)):Prop := ∃ es clock,h[b]? =some (.map es clock)∧es.toList.map (fun e=>(e.key,e.val))=kvs
theorem qn.md {F:Nat→Prop} {w w':World} {b:Nat} {kvs:List (Value×Value)} (h:qn w.heap b kvs) (hm:Md F w w') (A:¬F b):qn w'.heap b kvs:=
 let ⟨es,c,h1,h2⟩:=h; ⟨es,c,hm.az h1 A,h2⟩
structure ta (P:Program) (k:TypeId) (isK:Value→Prop):Prop where
 check:∀ em w v,isK v→(nC em 10000 k v).run P w= .ok () w
 find:∀ w x es,isK x→(∀ e∈es,isK e.key)→
  ((qW k x es).run P w= .ok none w∧∀ e∈es,e.key≠x)∨∃ j e,(qW k x es).run P w= .ok (some (j,e.val)) w∧es[j]? =some e∧e.key=x
theorem Ni {P:Program} {k:TypeId} {q:IntKind} {em:Bool} {n:Nat} {a:Int} (hk:P.underlying k=some (.int q)) (w:World):(nC em (n+1) k<|.int .i64 a).run P w= .ok () w:=by
 simp only [nC,nE,db hk,nD,q6]
theorem D5 {P:Program} {k:TypeId} {em:Bool} {n:Nat} {a:List UInt8} (hk:P.underlying k=some .string) (w:World):(nC em (n+1) k<|str a).run P w= .ok () w:=by
 simp only [str,nC,nE,db hk,nD,q6]
theorem T5 {P:Program} {t:TypeId} {cs:Array Value} {o:Nat} {v:Value} {d:TypeDesc} (c:P.underlying t=some d) (hd:(match d with | .bool | .string=>true | _=>false)=true) (A:cs[o]? =some v) (w:World):(part t cs o).run P w= .ok v w:=by
 cases d <;> first | (cases hd; done) | simp [part,isAgg,db c,A]
def zeroV (P:Program) (e:TypeId):Option Value:=(P.info? e).bind (·.zero)
theorem uJ {P:Program} {e:TypeId} {z:Value} (h:zeroV P e=some z) (w:World):(zeroValue e).run P w= .ok z w:=by
 unfold zeroV at h
 simp only [Option.bind_eq_some_iff] at h
 obtain ⟨i,hi,c⟩:=h
 simp [zeroValue,gS hi,c]
section
variable {P:Program} {N:Fm} {σ:Nat→Value} {w:World} {dst:Option Nat} {ty:TypeId} {pos :String} {af:Array Edge} {g:Option (Nat×Bool)} {x y z:Operand} {K:(Nat→Value)→World→Prop}
variable {t k e:TypeId} {isK:Value→Prop} {b:Nat} {kvs:List (Value×Value)} {kx v:Value}
theorem zH {es:Array MapEntry} (h:es.toList.map (fun e=>(e.key,e.val))=kvs) (hk:∀ p∈kvs,isK p.1):∀ e∈es.toList,isK e.key:=fun e he=>hk (e.key,e.val)<|by rw [← h]; exact ra he
theorem run_getObj_map {es:Array MapEntry} {c:Nat} (A:w.heap[b]? =some (.map es c)):(getObj b).run P w= .ok (.map es c) w:=by
 simp [getObj,Sem.run,A]
theorem TC {kvs:List (Value×Value)} (hn:(kvs.map gr).Nodup) {kx v c:Value} (h1:(kx,v)∈kvs) (h2:(kx,c)∈kvs):v=c:=by
 induction kvs with
 | nil=>simp at h1
 | cons p kvs A=>
   simp only [mO,ri] at hn
   rcases ew.1 h1 with h1 | h1
   · rcases ew.1 h2 with h2 | h2
     · rw [← h1] at h2; cases h2; rfl
     · rw [← h1] at hn; exact absurd (ra (f:=gr) h2) hn.1
   · rcases ew.1 h2 with h2 | h2
     · rw [← h2] at hn; exact absurd (ra (f:=gr) h1) hn.1
     · exact A hn.2 h1 h2
theorem SJ {ok:Bool} (O:P.underlying t=some (.map k e)) (C:ta P k isK) (hm:qn w.heap b kvs) (hk:∀ p∈kvs,isK p.1) (Y:ev N σ x= .map (some b)) (Z:ev N σ y=kx) (hi:isK kx) (hn:(kvs.map gr).Nodup) (A:(kx,v)∈kvs):
 (execOp (ev N σ) ⟨dst,.lookup t x y ok,ty,pos,af,g⟩).run P w= .ok (.value (if ok then .tuple #[v,.bool true] else v)) w:=by
 obtain ⟨es,c,J,he⟩:=hm
 rcases C.find w kx es.toList hi (zH he hk) with ⟨_,h2⟩ | ⟨j,E,h1,h2,h3⟩
 · rw [← he] at A
   obtain ⟨G,I,h4⟩:=gW.1 A
   cases h4
   exact absurd aa<|h2 G I
 · have V:(kx,E.val)∈kvs:=by rw [← he,← h3]; exact ra (f:=fun e:MapEntry=>(e.key,e.val))<|fU h2
   have :=TC hn A V
   subst this
   cases ok <;> simp [execOp,Jc,db O,Y,Z,run_getObj_map J,C.check _ w kx hi,h1]
theorem SK {ok:Bool} {zv:Value} (G:P.underlying t=some (.map k e)) (O:zeroV P e=some zv) (A:ta P k isK) (hm:qn w.heap b kvs) (hk:∀ p∈kvs,isK p.1) (I:ev N σ x= .map (some b)) (J:ev N σ y=kx) (hi:isK kx) (hn:∀ v,(kx,v)∉kvs):
 (execOp (ev N σ) ⟨dst,.lookup t x y ok,ty,pos,af,g⟩).run P w= .ok (.value (if ok then .tuple #[zv,.bool false] else zv)) w:=by
 obtain ⟨es,c,E,he⟩:=hm
 rcases A.find w kx es.toList hi (zH he hk) with ⟨h1,_⟩ | ⟨j,C,h1,h2,h3⟩
 · cases ok <;> simp [execOp,Jc,db G,I,J,run_getObj_map E,A.check _ w kx hi,h1,uJ O]
 · exact absurd (by rw [← he,← h3]; exact ra (f:=fun e:MapEntry=>(e.key,e.val))<|fU h2)<|hn C.val
end
end Go.Hb
namespace Go.Hb
def tag (w:World) (k:Nat):Nat:=match w.heap[k]? with | some (.cells _ t _)=>t+2 | some (.map _ _)=>1 | _=>0
theorem dD {w:World} {k t:Nat} {cs:Array Value} {z:Nat×Nat} (h:w.heap[k]? =some (.cells cs t z)):tag w k=t+2:=by unfold tag; rw [h]
theorem xC {w:World} {k:Nat} {kvs:List (Value×Value)} (h:qn w.heap k kvs):tag w k=1:=by
 obtain ⟨es,c,h,_⟩:=h
 unfold tag; rw [h]
theorem HX {w:World} {B e size n k:Nat} {v:Value} {xs:List Value} (h:w.ownsRow B e size v n xs) (hk:v.ownBlock=some k):tag w k=e+2:=by
 rcases h.2 with ⟨rfl,_⟩ | ⟨g,cap,cur,rfl,_,c,_⟩
 · simp [gH] at hk
 · simp only [gH,fO] at hk; subst hk
   exact dD c
def TF (w:World) (L:List Nat) (F:Nat→Prop):Prop := ∀ k,F k→L.contains (tag w k)=true
theorem TF.no {w:World} {L:List Nat} {F:Nat→Prop} (h:TF w L F) {k t:Nat} (A:tag w k=t) (c:L.contains t=false):¬F k:=fun hk=>by
 have :=h k hk
 rw [A,c] at this; cases this
theorem TF.or {w:World} {L:List Nat} {F G:Nat→Prop} (h:TF w L F) (c:TF w L G):TF w L (fun k=>F k∨G k):=fun k hk=>by
 rcases hk with hk | hk
 · exact h k hk
 · exact c k hk
theorem TF.eq {w:World} {L:List Nat} {b t:Nat} (A:tag w b=t) (c:L.contains t=true):TF w L (fun k=>k=b):=fun k hk=>by
 subst hk; rw [A]; exact c
theorem TF.own {w:World} {L:List Nat} {B e size n:Nat} {v:Value} {xs:List Value} (h:w.ownsRow B e size v n xs) (c:L.contains (e+2)=true):TF w L (fun k=>v.ownBlock=some k):=fun k hk=>by
 rw [HX h hk]; exact c
theorem Md.gZ {F:Nat→Prop} {w w':World} {L:List Nat} {k t:Nat} {cs:Array Value} {z:Nat×Nat} (hm:Md F w w') (c:TF w L F) (h:w.heap[k]? =some (.cells cs t z)) (A:L.contains (t+2)=false):w'.heap[k]? =some (.cells cs t z):=hm.az h<|c.no (dD h) A
theorem cX {F:Nat→Prop} {w w':World} {L:List Nat} {B e size n:Nat} {v:Value} {xs:List Value} (h:w.ownsRow B e size v n xs) (hm:Md F w w') (c:TF w L F) (A:L.contains (e+2)=false):w'.ownsRow B e size v n xs:=cD h hm fun _ hk=>c.no (HX h hk) A
theorem Md.tag {F:Nat→Prop} {w w':World} (hm:Md F w w') {k:Nat} (hk:k < w.heap.size) (c:¬F k):Hb.tag w' k=Hb.tag w k:=by
 unfold Hb.tag; rw [hm.dv k hk c]
end Go.Hb
end
section
namespace Go.Hb
open Go.ChangeShapes Go.WideShapes Go.ChangeAt
theorem Wk.frame {w w':World} (h:Wk w w') (may:MemPlace→Prop):w.keptBut w' may:=by
 refine ⟨h.os,h.output,fun i hi=> ?_⟩
 rw [h.dv i hi id]
 split <;> simp_all
theorem Wk.same {w w':World} (h:Wk w w') {p:MemPlace} (hp:p.block < w.heap.size):w.sameAt w' p:=by
 cases p with
 | cell b o=>exact World.cell?_of_block (w:=w)<|h.dv b hp id
 | map b=>exact h.dv b hp id
section
variable {H:Type} {enc:TypeId×Value→H} {P:Program} {W W':World}
theorem H5 (E:laidOutB P=true) (hk:Wk W W'):∀ (A:List TypeId) (vs:List Value) (C:List (DataW H)) (ps:List MemPlace),A.all (fun t=>P.readableRec t && decide (t < P.types.size))=true→(∀ x∈ps,x.block < W.heap.size)→
 I4 enc P W 0 (fun _=>true) true A vs C ps→I4 enc P W' 0 (fun b=>decide (b < W.heap.size)) true A vs C ps
 | [],[],[],_,_,_,h=>h
 | t::A,v::vs,d::C,_,hp,hlt,⟨p,q,h1,h2,he⟩=>by
   subst he
   rw [x9,gp,gp] at hp
   exact ⟨p,q,WideElems.Trod_stays E hp.1.1 (of_decide_eq_true hp.1.2) h1 (fun x c=>hk.same<|hlt x<|sW _ c) (fun x c=>decide_eq_true<|hlt x<|sW _ c),
    H5 E hk A vs C q hp.2 (fun x c=>hlt x<|List.mem_append_right _ c) h2,rfl⟩
 | [],_::_,_,_,_,_,h=>h.elim
 | [],[],_::_,_,_,_,h=>h.elim
 | _::_,[],_,_,_,_,h=>h.elim
 | _::_,_::_,[],_,_,_,h=>h.elim
theorem UP {f:FuncId} {fn:Func} {s:ChangeSpec} {args:Array Value} {c gs:List (DataW H)} {before:List MemPlace} {tb:TypeId} (C:DataW.Whole enc P fn.params.toList s.vars false W args.toList c gs before) (G:s.vars= [])
 (hs:s.fn H (c++gs)= {results:= [.lit (.bool true)],args:=c}) (Y:fn.resultTypes= #[tb]) (J:P.underlying tb=some .bool) (O:laidOutB P=true) (hp:fn.params.toList.all (fun t=>P.readableRec t && decide (t < P.types.size))=true)
 (h:bf P f args W (fun v w'=>v= .bool true∧Wk W w')):Calls P f args W fun e W'=> ∃ v,e= .returned v∧s.post enc P fn false true false false W args v W':=by
 refine j7 h fun e W' ⟨v,he,Z,hk⟩=>⟨v,he,?_⟩
 subst Z
 have E:=C
 obtain ⟨p,q,I,A,rfl,_,_⟩:=C
 rw [G] at A
 obtain ⟨rfl,rfl⟩:=trodVars_none A
 have V:∀ x∈p,x.block < W.heap.size:=fun x aa=>E.lt x<|by simpa using aa
 refine ⟨_,_,_,[],p,[],E,?_,?_,?_,hk.frame _,fun h=>by cases h⟩
 · rw [hs,Y]
   exact trodAll_cons_mk (shut_bool J _) trodAll_mk0
 · rw [hs]
   exact H5 O hk _ _ _ _ hp V I
 · rw [hs,G]; rfl
end
end Go.Hb
namespace Go.Hb
open Go.Proofs.YtchkamdekbbgeaaGreatDoor
theorem Lv {H:Type} {l:List (DataW H)} (hk:Rows.uptoSmall H l=true):Rows.uptoBulkAll l≤1048576:=of_decide_eq_true hk
end Go.Hb
namespace Go.Hb
open Go.Proofs.YtchkamdekbbgeaaGreatDoor Go.ChangeShapes Go.WideShapes Go.ChangeAt
structure Kl (P:Program) (t:TypeId) (m:Nat) {X:Type} (R:World→List Value→X→Prop) (B:X→Nat):Prop where
 cells:P.cellsOf t=m
 op:∀ {H:Type} (enc:TypeId×Value→H) (W:World) (fuel:Nat) (cs:List Value) (d:DataW H) (p:List MemPlace),DataW.trod enc P W 0 (fun _=>true) true fuel t cs=some (d,p)→cs.length=m∧∃ x,R W cs x∧B x≤Rows.uptoBulk d
section
variable {P:Program} {t t0 t1 e:TypeId} {m m0 m1:Nat} {X X0 X1:Type} {R:World→List Value→X→Prop} {B:X→Nat} {R0:World→List Value→X0→Prop} {B0:X0→Nat} {R1:World→List Value→X1→Prop} {B1:X1→Nat}
theorem G1 (A:P.underlying t=some .string) (c:P.cellsOf t=1):Kl P t 1 (fun _ cs (x:List UInt8)=>cs= [str x]) (fun x=>x.length+1) where
 cells:=c
 op enc W fuel cs d p h:=by
  obtain ⟨s,rfl,C,hw⟩:=DataW.trod_string A h
  cases C
  exact ⟨aa,s.data.toList,aa,by simp [Rows.uptoBulk]⟩
end
end Go.Hb
end
namespace Go.Hb
theorem drop_cons {α:Type} {l:List α} {i:Nat} (d:α) (h:i < l.length):l.drop i=l.getD i d::l.drop (i+1):=by
 rw [List.drop_eq_getElem_cons h]; simp [cU,h]
theorem Bu {α:Type} {l:List α} {k i:Nat} (d:α) (hk:k≤i) (hi:i < l.length):(l.take<|i+1).drop k=(l.take i).drop k++ [l.getD i d]:=by
 rw [k8 l i d hi,List.drop_append_of_le_length (by rw [eE]; omega)]
def qF (b:UInt8):Bool:=b==32 || b==9
theorem FE (b:UInt8):qF b=decide (b.toNat=32∨b.toNat=9):=by
 unfold qF
 have h:∀ x:UInt8,(b==x)=decide (b.toNat=x.toNat):=fun x=>by
  by_cases c:b=x
  · subst c; simp
  · have :b.toNat≠x.toNat:=fun h=>c<|rp.1 h
    simp [c,this]
 rw [h,h]
 simp [Bool.decide_or]
def dM:List UInt8→List UInt8→List (List UInt8)
 | cur,[]=>if cur= [] then [] else [cur]
 | cur,b::r=>if qF b then (if cur= [] then dM [] r else cur::dM [] r) else dM (cur++ [b]) r
theorem QL:dM [] []= []:=by simp [dM]
theorem QK {cur:List UInt8} (h:cur≠[]):dM cur []= [cur]:=by simp [dM,h]
theorem QI {b:UInt8} {r:List UInt8} (h:qF b=true):dM [] (b::r)=dM [] r:=by simp [dM,h]
theorem QJ {cur:List UInt8} {b:UInt8} {r:List UInt8} (h:qF b=true) (c:cur≠[]):dM cur (b::r)=cur::dM [] r:=by simp [dM,h,c]
theorem Fh {cur:List UInt8} {b:UInt8} {r:List UInt8} (h:qF b=false):dM cur (b::r)=dM (cur++ [b]) r:=by simp [dM,h]
theorem Fg:∀ (l cur x:List UInt8),x∈dM cur l→x≠[]∧x.length≤cur.length+l.length:=by
 intro l
 induction l with
 | nil=>
   intro cur x h
   unfold dM at h
   split at h
   · cases h
   · simp only [gK] at h; subst h; exact ⟨by assumption,by simp⟩
 | cons b r c=>
   intro cur x h
   unfold dM at h
   split at h
   · split at h
     · have :=c [] x h; simp only [bS,gJ] at*; exact ⟨this.1,ab⟩
     · rcases ew.1 h with rfl | h
       · exact ⟨by assumption,by simp⟩
       · have :=c [] x h; simp only [bS,gJ] at*; exact ⟨this.1,ab⟩
   · have :=c _ x h; simp only [bS,bJ,gJ] at*; exact ⟨this.1,ab⟩
theorem zW:∀ (l cur:List UInt8),(dM cur l).length≤l.length+1:=by
 intro l
 induction l with
 | nil=>intro cur; unfold dM; split <;> simp
 | cons b r c=>
   intro cur
   unfold dM
   split
   · split
     · have :=c []; simp only [bS]; omega
     · have :=c []; simp only [bS]; omega
   · have :=c (cur++ [b]); simp only [bS]; omega
def kz (l:List UInt8) (i:Nat) (c:Int) (cur:List UInt8):Prop :=(c= -1∧cur= [])∨(∃ k:Nat,c=k∧k < i∧i≤l.length∧cur=(l.take i).drop k)
theorem kz.no {l:List UInt8} {i:Nat} :kz l i (-1) []:= .inl ⟨rfl,rfl⟩
theorem kz.neg {l cur:List UInt8} {i:Nat} {c:Int} (h:kz l i c cur) (A:c < 0):c= -1∧cur= []:=by
 rcases h with h | ⟨k,rfl,_⟩
 · exact h
 · omega
theorem kz.pos {l cur:List UInt8} {i:Nat} {c:Int} (h:kz l i c cur) (A:¬c < 0):(0≤c∧c < i)∧cur=(l.take i).drop c.toNat∧cur≠[]:=by
 rcases h with ⟨rfl,_⟩ | ⟨k,rfl,h1,h2,rfl⟩
 · omega
 · refine ⟨ab,by simp,fun e=> ?_⟩
   have :=congrArg mL e
   simp only [gI,eE,gJ] at this
   omega
theorem kz.begin {l:List UInt8} {i:Nat} (hi:i < l.length):kz l (i+1) i [l.getD i 0]:=by
 refine .inr ⟨i,aa,ab,ab,?_⟩
 rw [Bu 0 (cj i) hi,lK (by rw [eE]; omega),oB]
theorem kz.more {l cur:List UInt8} {i:Nat} {c:Int} (h:kz l i c cur) (A:¬c < 0) (hi:i < l.length):kz l (i+1) c (cur++ [l.getD i 0]):=by
 rcases h with ⟨rfl,_⟩ | ⟨k,rfl,h1,h2,rfl⟩
 · omega
 · exact .inr ⟨k,aa,ab,ab,(Bu 0 ab hi).symm⟩
def jT (l:List UInt8):List UInt8:=if 0 < l.length∧l.getD (l.length - 1) 0=13 then l.take (l.length - 1) else l
theorem EF (l:List UInt8):(jT l).length≤l.length:=by unfold jT; split <;> simp
theorem PE {l:List UInt8} (h:0 < l.length) (h1:l.getD (l.length - 1) 0=13):jT l=l.take (l.length - 1):=if_pos ⟨h,h1⟩
theorem PD {l:List UInt8} (h:¬(0 < l.length∧l.getD (l.length - 1) 0=13)):jT l=l:=if_neg h
theorem Gd {l:List UInt8} (h:0 < l.length):l.drop (l.length - 1)= [l.getD (l.length - 1) 0]:=by
 rw [drop_cons 0 ab,lK ab]
def fC:List UInt8→List UInt8→List (List UInt8)
 | cur,[]=>if cur= [] then [] else [jT cur]
 | cur,b::r=>if b=10 then jT cur::fC [] r else fC (cur++ [b]) r
theorem Gr:fC [] []= []:=by simp [fC]
theorem SN {cur:List UInt8} (h:cur≠[]):fC cur []= [jT cur]:=by simp [fC,h]
theorem SQ (cur r:List UInt8):fC cur (10::r)=jT cur::fC [] r:=by simp [fC]
theorem Gq {cur:List UInt8} {b:UInt8} {r:List UInt8} (h:b≠10):fC cur (b::r)=fC (cur++ [b]) r:=by simp [fC,h]
theorem AD:∀ (l cur:List UInt8),(fC cur l).length≤l.length+1:=by
 intro l
 induction l with
 | nil=>intro cur; unfold fC; split <;> simp
 | cons b r c=>
   intro cur
   unfold fC
   split
   · have :=c []; simp only [bS]; omega
   · have :=c (cur++ [b]); simp only [bS]; omega
theorem SO (l:List UInt8):(fC [] l).length≤l.length:=by
 cases l with
 | nil=>simp [fC]
 | cons b r=>
   unfold fC
   split
   · have :=AD r []
     have h2:∀ m:List UInt8,(fC [] m).length≤m.length:=by
      intro m
      induction m with
      | nil=>simp [fC]
      | cons c m A=>
        unfold fC
        split
        · simp only [bS]; omega
        · have :=AD m ([]++ [c]); simp only [bS]; omega
     have :=h2 r
     simp only [bS]; omega
   · have :=AD r ([]++ [b]); simp only [bS]; omega
theorem SP:∀ (l cur x:List UInt8),x∈fC cur l→x.length≤cur.length+l.length:=by
 intro l
 induction l with
 | nil=>
   intro cur x h
   unfold fC at h
   split at h
   · cases h
   · simp only [gK] at h; subst h; have :=EF cur; simp only [gJ]; omega
 | cons b r c=>
   intro cur x h
   unfold fC at h
   split at h
   · rcases ew.1 h with rfl | h
     · have :=EF cur; omega
     · have :=c [] x h; simp only [bS,gJ] at*; omega
   · have :=c _ x h; simp only [bS,bJ,gJ] at*; omega
def eB (c:UInt8) (l:List UInt8):Int:=if l.idxOf c < l.length then (l.idxOf c:Int) else -1
theorem F6 {c:UInt8} {l:List UInt8} (h:eB c l < 0):¬l.idxOf c < l.length:=fun h1=>by unfold eB at h; rw [if_pos h1] at h; omega
theorem r8 {c:UInt8} {l:List UInt8} (h:¬eB c l < 0):eB c l=l.idxOf c∧l.idxOf c < l.length:=by
 unfold eB at*
 by_cases h1:l.idxOf c < l.length
 · exact ⟨if_pos h1,h1⟩
 · rw [if_neg h1] at h; omega
def lR (c:UInt8) (l:List UInt8):List UInt8:=if eB c l < 0 then l else l.take (l.idxOf c)
def mZ (c:UInt8) (l:List UInt8):List UInt8:=if eB c l < 0 then [] else l.drop (l.idxOf c+1)
theorem OI (c:UInt8) (l:List UInt8):(lR c l).length≤l.length:=by unfold lR; split <;> simp; omega
theorem OL {c:UInt8} {l:List UInt8} (h:l≠[]):(mZ c l).length < l.length:=by
 have :=mN.2 h
 unfold mZ; split <;> simp <;> omega
theorem SM:∀ (l cur:List UInt8),l.idxOf 10 < l.length→fC cur l=jT (cur++l.take (l.idxOf 10))::fC [] (l.drop<|l.idxOf 10 +1):=by
 intro l
 induction l with
 | nil=>intro cur h; simp at h
 | cons b r C=>
   intro cur h
   by_cases c:b=10
   · subst c
     rw [CE,SQ,pB,eu,fN,List.drop_one,List.tail_cons]
   · have A:(b::r).idxOf 10=r.idxOf 10 +1:=by rw [u7,beq_eq_false_iff_ne.2 c]; rfl
     rw [A] at h ⊢
     simp only [bS] at h
     rw [Gq c,C _ ab,sZ,uZ,ea]
     rfl
theorem SR:∀ (l cur:List UInt8),¬l.idxOf 10 < l.length→cur++l≠[]→fC cur l= [jT (cur++l)]:=by
 intro l
 induction l with
 | nil=>intro cur _ h; rw [eu] at h ⊢; exact SN h
 | cons b r C=>
   intro cur h h1
   by_cases c:b=10
   · subst c; rw [CE] at h; simp at h
   · have A:(b::r).idxOf 10=r.idxOf 10 +1:=by rw [u7,beq_eq_false_iff_ne.2 c]; rfl
     rw [A] at h
     simp only [bS] at h
     rw [Gq c,C _ ab (by simp),ea]
     rfl
theorem SS {l:List UInt8} (h:l≠[]):fC [] l=jT (lR 10 l)::fC [] (mZ 10 l):=by
 by_cases h1:eB 10 l < 0
 · rw [SR l [] (F6 h1) (by simpa using h)]
   unfold lR mZ
   rw [if_pos h1,if_pos h1,Gr,oB]
 · rw [SM l [] (r8 h1).2]
   unfold lR mZ
   rw [if_neg h1,if_neg h1,oB]
def eO (s p:List UInt8):List UInt8:=if s.take p.length=p then s.drop p.length else s
def Gu:List UInt8:= [239,187,191]
def xK (s:List UInt8):List UInt8:=eO s Gu
theorem BQ (s:List UInt8):(xK s).length≤s.length:=by unfold xK eO; split <;> simp
def dx (t:List UInt8):List (List UInt8):=fC []<|xK t
theorem qI (t:List UInt8):(dx t).length≤t.length:=dS (SO _)<|BQ t
theorem Gl {t x:List UInt8} (h:x∈dx t):x.length≤t.length:=by
 have :=SP _ _ _ h
 have :=BQ t
 simp only [gJ] at*; omega
def xf (f:List UInt8):Bool:=decide ((f.getD 0 0).toNat=35)
def oW (f:List (List UInt8)):List (List UInt8):=f.takeWhile fun x=> !xf x
def pS (l:List UInt8) (n:Nat):List (Nat×List (List UInt8)):=if oW (dM [] l)= [] then [] else [(n,oW (dM [] l))]
def lE (n:Nat):List (List UInt8)→List (Nat×List (List UInt8))
 | []=> []
 | l::r=>pS l n++lE (n+1) r
def eW (t:List UInt8):List (Nat×List (List UInt8)):=lE 1<|dx t
theorem xg (l:List UInt8):∀ (c:List (List UInt8)) (n:Nat),lE n (c++ [l])=lE n c++pS l (n+c.length):=by
 intro c
 induction c with
 | nil=>intro n; simp [lE]
 | cons a c A=>intro n; rw [Cx,lE,A,lE,bS,ea,show n+1 +c.length=n+(c.length+1) from by omega]
theorem Hn:∀ (c:List (List UInt8)) (n:Nat),(lE n c).length≤c.length:=by
 intro c
 induction c with
 | nil=>intro n; simp [lE]
 | cons a c A=>
   intro n
   have :=A<|n+1
   unfold lE pS
   rw [bJ]
   split <;> simp only [gJ,bS] <;> omega
theorem Ho (t:List UInt8):(eW t).length≤t.length:=dS (Hn _ _)<|qI t
theorem F7 {f:List (List UInt8)} :∀ {j:Nat},j≤f.length→(∀ i,i < j→xf (f.getD i [])=false)→(j=f.length∨xf (f.getD j [])=true)→oW f=f.take j:=by
 induction f with
 | nil=>intro j A _ _; rw [JR]; rfl
 | cons a f C=>
   intro j A h1 h2
   cases j with
   | zero=>
     rcases h2 with h2 | h2
     · simp at h2
     · simp only [mJ] at h2
       simp [oW,h2]
   | succ j=>
     have c:=h1 0 ab
     simp only [mJ] at c
     have :=C (j:=j) (by simpa using A) (fun i hi=>by simpa using h1 (i+1) ab)<|by simpa using h2
     unfold oW at*
     rw [List.takeWhile_cons,c]
     simp only [Bool.not_false,if_true,sZ]
     rw [this]
theorem Sk {f:List (List UInt8)} {x:List UInt8} (h:x∈oW f):x∈f:=(JO _).subset h
theorem Sj (f:List (List UInt8)):(oW f).length≤f.length:=(JO _).length_le
theorem U0:∀ (c:List (List UInt8)) (n:Nat) (r:Nat×List (List UInt8)),r∈lE n c→n≤r.1∧r.1 < n+c.length∧r.2≠[]∧∃ l∈c,r.2=oW (dM [] l):=by
 intro c
 induction c with
 | nil=>intro n r h; cases h
 | cons a c C=>
   intro n r h
   rw [lE] at h
   rcases List.mem_append.1 h with h | h
   · unfold pS at h
     split at h
     · cases h
     · simp only [gK] at h; subst h
       exact ⟨by simp,by simp,by assumption,a,by simp,aa⟩
   · obtain ⟨h1,h2,h3,l,A,h4⟩:=C _ _ h
     exact ⟨ab,by simp only [bS]; omega,h3,l,by simp [A],h4⟩
theorem Hp {t:List UInt8} {r:Nat×List (List UInt8)} (h:r∈eW t):1≤r.1∧r.1≤t.length∧r.2≠[]∧r.2.length≤t.length+1∧∀ x∈r.2,x≠[]∧x.length≤t.length:=by
 obtain ⟨h1,h2,h3,l,A,h4⟩:=U0 _ _ _ h
 have E:=qI t
 have C:=Gl A
 refine ⟨h1,ab,h3,?_,fun x c=> ?_⟩
 · rw [h4]; have :=Sj (dM [] l); have :=zW l []; omega
 · rw [h4] at c
   have :=Fg _ _ _<|Sk c
   simp only [gJ] at this
   exact ⟨this.1,ab⟩
def tD (b:UInt8):Bool:=decide (48≤b.toNat∧b.toNat≤57)
def fY (s:List UInt8):Nat:=s.foldl (fun n b=>n*10 +(b.toNat - 48)) 0
theorem tB {s:List UInt8} {i:Nat} (h:i < s.length):fY (s.take<|i+1)=fY (s.take i)*10 +((s.getD i 0).toNat - 48):=by
 rw [k8 s i 0 h]; unfold fY; rw [CB]; rfl
theorem QS:∀ (s:List UInt8) (n:Nat),n≤s.foldl (fun n b=>n*10 +(b.toNat - 48)) n:=by
 intro s
 induction s with
 | nil=>intro n; exact cj _
 | cons b s c=>intro n; refine dS ?_ (c _); show n≤n*10 +(b.toNat - 48); omega
theorem OZ (s:List UInt8) (i:Nat):fY (s.take i)≤fY s:=by
 have :fY s=(s.drop i).foldl (fun n b=>n*10 +(b.toNat - 48)) (fY<|s.take i):=by
  unfold fY; rw [← CB,List.take_append_drop]
 rw [this]; exact QS _ _
def qG (s:List UInt8):Prop :=s= []∨(1 < s.length∧(s.getD 0 0).toNat=48)
def zu (s:List UInt8):Prop := ∀ i,i < s.length→tD (s.getD i 0)=true
open Classical in
noncomputable def fH (s:List UInt8) (most:Int):Nat×Int:=if qG s∨¬zu s∨most < fY s then (0,13) else (fY s,0)
theorem GS {s:List UInt8} {most:Int} (h:qG s):fH s most=(0,13):=if_pos<|.inl h
theorem GR {s:List UInt8} {most:Int} {i:Nat} (h:i < s.length) (h1:tD (s.getD i 0)=false):fH s most=(0,13):=if_pos<|.inr<|.inl fun hd=>by rw [hd i h] at h1; cases h1
theorem TE {s:List UInt8} {most:Int} (h:most < fY s):fH s most=(0,13):=if_pos<|.inr<|.inr h
theorem GP {s:List UInt8} {most:Int} (i:Nat) (h:most < fY (s.take i)):fH s most=(0,13):=TE<|by have :=OZ s i; omega
theorem GU {s:List UInt8} {most:Int} (h:¬qG s) (h1:zu s) (h2:¬most < fY s):fH s most=(fY s,0):=if_neg<|by rintro (c | c | c) <;> first | exact h c | exact c h1 | exact h2 c
theorem GQ (s:List UInt8) (most:Int):(fH s most=(0,13))∨(fH s most=(fY s,0)∧(fY s:Int)≤most):=by
 unfold fH
 split
 · exact .inl aa
 · rename_i h; exact .inr ⟨rfl,by have :¬most < fY s:=fun c=>h (.inr<|.inr c); omega⟩
theorem wU (s:List UInt8) (most:Int):(fH s most).2=0→((fH s most).1:Int)≤most:=by
 rcases GQ s most with h | ⟨h,h1⟩ <;> rw [h]
 · intro h; cases h
 · intro _; exact h1
theorem EB {b:UInt8} (h:¬(48≤b.toNat∧b.toNat≤57)):tD b=false :=decide_eq_false h
theorem Sa {x:UInt8} :∀ {l:List UInt8} {i:Nat},i < l.length→(∀ j,j < i→l.getD j 0≠x)→l.getD i 0=x→eB x l=(i:Nat):=by
 have key:∀ (l:List UInt8) (i:Nat),i < l.length→(∀ j,j < i→l.getD j 0≠x)→l.getD i 0=x→l.idxOf x=i:=by
  intro l
  induction l with
  | nil=>intro i h; simp at h
  | cons b l A=>
    intro i h h1 h2
    cases i with
    | zero=>have c:b=x:=h2
            subst c; simp
    | succ i=>
      have c:b≠x:=h1 0<|Nat.succ_pos _
      rw [u7,show (b==x)=false from by simpa using c]
      have :=A i (by simpa using h) (fun j C=>h1 (j+1) ab) h2
      rw [this]; rfl
 intro l i h h1 h2
 unfold eB
 rw [key l i h h1 h2,if_pos h]
theorem Sb {x:UInt8} {l:List UInt8} (h:∀ j,j < l.length→l.getD j 0≠x):eB x l= -1:=by
 unfold eB
 rw [if_neg]
 intro h1
 have hm:=List.idxOf_lt_length_iff.1 h1
 obtain ⟨j,c,e⟩:=JJ.1 hm
 exact h j c<|by rw [cU,bX c]; exact e
end Go.Hb
section
namespace Go.Hb
theorem BK {h:Array Obj} {a:Option Addr} {l:List UInt8} {i:Nat} (c:aG h a (U8 l)) (hi:i < l.length):Hb.aJ h (bk a) (fo a+i*1)=some (.int .u8 (l.getD i 0).toNat):=by
 refine c.iY ?_
 unfold U8
 rw [fF,bX hi,cU,bX hi]; rfl
theorem BM {l:List UInt8} (h:0 < l.length):U8 l≠[]:=by
 intro e
 have :=congrArg mL e
 rw [vq,gJ] at this
 omega
theorem T1 {w:World} {B e:Nat} {v:Value} {l:List UInt8} {x:UInt8} (h:w.ownsRow B e 1 v (l.length+1) (U8 l++ [.int .u8 x.toNat])):w.ownsRow B e 1 v (l++ [x]).length (U8<|l++ [x]):=by
 rw [bJ,vp]; exact h
theorem A8 {w:World} {B e:Nat} {v:Value} {l:List (List UInt8)} {x:List UInt8} (h:w.ownsRow B e 1 v (l.length+1) (l.map str++ [str x])):w.ownsRow B e 1 v (l++ [x]).length ((l++ [x]).map str):=by
 rw [bJ,gV]; exact h
abbrev Rw:Type :=Nat×List (List UInt8)
def xm (q:Nat×Value):List Value:= [.int .i64 q.1,q.2]
def l6 (l:List (Nat×Value)):List Value:=l.flatMap xm
theorem U9 (a b:List (Nat×Value)):l6 (a++b)=l6 a++l6 b:=by simp [l6]
theorem Hu (l:List (Nat×Value)):(l6 l).length=l.length*2:=mu (f:=xm) (m:=2) (fun _=>rfl) l
theorem xj {l:List (Nat×Value)} (h:0 < l.length):l6 l≠[]:=zT (f:=xm) (m:=2) (fun _=>rfl) aw h
theorem xk {h:Array Obj} {ad:Option Addr} {vs:List (Nat×Value)} {i:Nat} {q:Nat×Value} (c:aG h ad (l6 vs)) (A:vs[i]? =some q):∀ j,j < 2→Hb.aJ h (bk ad) (fo ad+i*2 +j)= [fL .i64 q.1,q.2][j]? :=
 ic (f:=xm) (m:=2) (fun _=>rfl) c A
def Tg (w:World) (B e n:Nat) (v:Value) (xs:List Value):Prop :=
 ∃ a cp,v= .slice a n cp∧n≤cp∧(xs= []∨∃ b cur z,a=some ⟨b,0,none⟩∧B≤b∧w.heap[b]? =some (.cells cur e z)∧∀ (j:Nat) u,xs[j]? =some u→cur[j]? =some u)
theorem Tg.kL {w:World} {B e size n:Nat} {v:Value} {xs:List Value} (h:w.ownsRow B e size v n xs):Tg w B e n v xs:=by
 have c:=h
 rcases h.2 with ⟨rfl,rfl⟩ | ⟨g,cap,cur,rfl,A,C,_,_,_,E⟩
 · exact ⟨none,0,aa,cj _,.inl<|gq<|by simpa using h.1⟩
 · refine ⟨_,cap,aa,(aY c).1,.inr ⟨g,cur,_,aa,A,C,fun j u hu=> ?_⟩⟩
   rw [← E,oA] at hu
   split at hu
   · simpa using hu
   · cases hu
theorem Tg.cells {w:World} {B e n:Nat} {v:Value} {xs:List Value} (h:Tg w B e n v xs):∃ a cp,v= .slice a n cp∧aG w.heap a xs:=by
 obtain ⟨a,cp,rfl,_,h | ⟨b,cur,z,rfl,_,c,A⟩⟩:=h
 · subst h; exact ⟨a,cp,rfl,aG.nil _ _⟩
 · refine ⟨_,cp,aa,fun _=>rfl,fun j u hu=> ?_⟩
   show Hb.aJ w.heap b (0 +j)=_
   rw [fN,aV c]; exact A j u hu
theorem Tg.dJ {w:World} {B e n cp:Nat} {a:Option Addr} {xs:List Value} (h:Tg w B e n (.slice a n cp) xs):n≤cp∧aG w.heap a xs:=by
 obtain ⟨G,I,A,c,J⟩:=id h
 obtain ⟨a2,c2,C,E⟩:=h.cells
 cases A; cases C
 exact ⟨c,E⟩
theorem Tg.slice {w:World} {B e n:Nat} {v:Value} {xs:List Value} (h:Tg w B e n v xs):∃ a cp,v= .slice a n cp:=let ⟨a,cp,hv,_⟩:=h; ⟨a,cp,hv⟩
theorem Tg.md {F:Nat→Prop} {w w':World} {B e n:Nat} {v:Value} {xs:List Value} (h:Tg w B e n v xs) (hm:Md F w w') (C:∀ k,F k→∀ cur z,w.heap[k]?≠some (.cells cur e z)):Tg w' B e n v xs:=by
 obtain ⟨a,cp,rfl,A,h | ⟨b,cur,z,rfl,E,c,G⟩⟩:=h
 · exact ⟨a,cp,aa,A,.inl h⟩
 · exact ⟨_,cp,aa,A,.inr ⟨b,cur,z,aa,E,by rw [hm.dv b (bT.1 c).1 (fun hk=>C b hk cur z c)]; exact c,G⟩⟩
theorem Tg.wk {w w':World} {B e n:Nat} {v:Value} {xs:List Value} (h:Tg w B e n v xs) (hm:Wk w w'):Tg w' B e n v xs:=h.md hm fun _ hk=>hk.elim
theorem Tg.clip {w:World} {B e n k cp c:Nat} {a:Option Addr} {xs:List Value} (h:Tg w B e n (.slice a n cp) xs) (hk:k≤c):Tg w B e k (.slice a k c) (xs.take k):=by
 obtain ⟨J,O,C,_,A⟩:=h
 simp only [ma,true_and] at C
 obtain ⟨rfl,rfl⟩:=C
 refine ⟨a,c,aa,hk,?_⟩
 rcases A with rfl | ⟨b,cur,z,E,G,I,A⟩
 · exact .inl JR
 · exact .inr ⟨b,cur,z,E,G,I,fun j u hu=>A j u<|by rw [oA] at hu; split at hu; exact hu; cases hu⟩
theorem jJ {w:World} {B e A size n:Nat} {v:Value} {xs:List Value} (h:w.ownsRow B e size v n xs) (E:e≠A):∀ k,v.ownBlock=some k→∀ cur z,w.heap[k]?≠some (.cells cur A z):=by
 intro k hk cur z c
 rcases h.2 with ⟨rfl,_⟩ | ⟨g,cap,G,rfl,_,C,_⟩
 · simp [gH] at hk
 · simp only [gH,fO] at hk
   subst hk
   rw [C] at c
   simp only [fO,uR] at c
   exact E c.2.1
theorem im {w:World} {b e A:Nat} {cs:Array Value} {y:Nat×Nat} (h:w.heap[b]? =some (.cells cs e y)) (C:e≠A):∀ k,k=b→∀ cur z,w.heap[k]?≠some (.cells cur A z):=by
 rintro k rfl cur z c
 rw [h] at c
 simp only [fO,uR] at c
 exact C c.2.1
def ik (w:World) (B e:Nat) (vs:List (Nat×Value)) (rs:List Rw):Prop :=vs.length=rs.length∧∀ (i:Nat) q r,vs[i]? =some q→rs[i]? =some r→q.1=r.1∧Tg w B e r.2.length q.2 (r.2.map str)
theorem ik.nil (w:World) (B e:Nat):ik w B e [] []:=⟨rfl,fun i q r c=>by simp at c⟩
theorem ik.md {F:Nat→Prop} {w w':World} {B e:Nat} {vs:List (Nat×Value)} {rs:List Rw} (h:ik w B e vs rs) (hm:Md F w w') (c:∀ k,F k→∀ cur z,w.heap[k]?≠some (.cells cur e z)):ik w' B e vs rs:=
 ⟨h.1,fun i q r h1 h2=>⟨(h.2 i q r h1 h2).1,(h.2 i q r h1 h2).2.md hm c⟩⟩
theorem ik.wk {w w':World} {B e:Nat} {vs:List (Nat×Value)} {rs:List Rw} (h:ik w B e vs rs) (hm:Wk w w'):ik w' B e vs rs:=h.md hm fun _ hk=>hk.elim
theorem ik.snoc {w:World} {B e n:Nat} {vs:List (Nat×Value)} {rs:List Rw} {v:Value} {r:List (List UInt8)} (c:ik w B e vs rs) (C:Tg w B e r.length v (r.map str)):ik w B e (vs++ [(n,v)]) (rs++ [(n,r)]):=by
 refine ⟨by rw [bJ,bJ,c.1]; rfl,fun i E G h1 h2=> ?_⟩
 have A:=c.1
 by_cases hi:i < vs.length
 · rw [mK hi] at h1
   rw [mK ab] at h2
   exact c.2 i E G h1 h2
 · rw [nK ab] at h1
   rw [nK ab,← A] at h2
   cases hj:i - vs.length with
   | zero=>rw [hj] at h1 h2; cases h1; cases h2; exact ⟨rfl,C⟩
   | succ j=>rw [hj] at h1; simp at h1
theorem Tg.mono {w:World} {B B' e n:Nat} {v:Value} {xs:List Value} (h:Tg w B e n v xs) (c:B'≤B):Tg w B' e n v xs:=by
 obtain ⟨a,cp,C,A,E⟩:=h
 exact ⟨a,cp,C,A,E.imp id fun ⟨b,cur,z,h1,h2,h3⟩=>⟨b,cur,z,h1,dS c h2,h3⟩⟩
theorem ik.mono {w:World} {B B' e:Nat} {vs:List (Nat×Value)} {rs:List Rw} (h:ik w B e vs rs) (c:B'≤B):ik w B' e vs rs:=⟨h.1,fun i q r h1 h2=>⟨(h.2 i q r h1 h2).1,(h.2 i q r h1 h2).2.mono c⟩⟩
end Go.Hb
end
section
set_option linter.unusedSectionVars false
namespace Go.Hb
open Go.Sort (swp insInner insOuter insertionSort siftDown heapBuild heapPop heapSort scanUp scanDown partLoop partEqLoop partition partitionEqual scanSorted shiftDown shiftUp partialIns partialInsertionSort reverseLoop reverseRange choosePivot breakPatterns breakStep pdq Hint)
def LE {α:Type} (f:α→Value) (d:Array α):List Value:=d.toList.map f
section
variable {α:Type} [Inhabited α] {f:α→Value}
theorem ub (d:Array α):(LE f d).length=d.size:=by simp [LE]
theorem bN {d:Array α} (h:0 < d.size):LE f d≠[]:=by
 intro e; have :=congrArg mL e; rw [ub,gJ] at this; omega
theorem Gg {d:Array α} {i:Nat} (h:i < d.size):(LE f d)[i]? =some (f d[i]!):=by
 unfold LE
 rw [fF,uL,xS h,getElem!_pos d i h]; rfl
theorem cW {h:Array Obj} {a:Option Addr} {d:Array α} {i:Nat} (c:aG h a (LE f d)) (hi:i < d.size):Hb.aJ h (bk a) (fo a+i*1)=some (f d[i]!):=c.iY<|Gg hi
theorem Sw (d:Array α) (i:Nat) (v:α):(LE f d).set i (f v)=LE f (d.setIfInBounds i v):=by
 unfold LE; rw [B6,List.map_set]
theorem eV {w:World} {B e n:Nat} {v:Value} {d:Array α} (h:w.ownsRow B e 1 v n (LE f d)):d.size=n:=by
 have :=h.1; rw [ub] at this; omega
end
section
variable {P:Program} {N:Fm} {σ:Nat→Value} {w:World} {ty:TypeId} {pos :String} {af:Array Edge} {g:Option (Nat×Bool)} {x y:Operand} {K:(Nat→Value)→World→Prop}
theorem fI {α:Type} [Inhabited α] {f:α→Value} {t B e n cap:Nat} {a:Option Addr} {d:Array α} {u:α} (i:Nat) (c:w.ownsRow B e 1 (.slice a n cap) n (LE f d)) (E:ed P t=some 1) (A:ev N σ x= .pointer (some ⟨bk a,fo a+i*1,none⟩)) (C:ev N σ y=f u) (h1:(f u).oneCell'=true)
 (G:i < n) (k:∀ w',Md (fun k=>(bC a n cap).ownBlock=some k) w w'→w'.ownsRow B e 1 (.slice a n cap) n (LE f<|d.setIfInBounds i u)→K σ w'):cH P N ⟨none,.store t x y,ty,pos,af,g⟩ σ w K:=
 su c E A C h1 (j:=i) ab ab fun w' h1 h2=>k w' h1<|by rw [← Sw]; exact h2
end
section
variable {α:Type} [Inhabited α] {lt:α→α→Bool} {d:Array α}
theorem RX {a j:Nat} (h:a < j) (h1:lt d[j]! d[j - 1]! =true):insInner lt a j d=insInner lt a (j - 1) (swp d j<|j - 1):=by
 cases j with
 | zero=>omega
 | succ j=>simp only [s5] at*; rw [insInner,if_pos (by simp [h1]; omega)]
theorem RZ {a j:Nat} (h:¬a < j):insInner lt a j d=d:=by
 cases j with
 | zero=>rfl
 | succ j=>rw [insInner,if_neg (by simp; omega)]
theorem RY {a j:Nat} (h1:lt d[j]! d[j - 1]! =false):insInner lt a j d=d:=by
 cases j with
 | zero=>rfl
 | succ j=>simp only [s5] at*; rw [insInner,if_neg (by simp [h1])]
theorem F1 {a b i:Nat} (h:i < b):insOuter lt a b i d=insOuter lt a b (i+1) (insInner lt a i d):=by rw [insOuter,if_pos h]
theorem RW {a b i:Nat} (h:¬i < b):insOuter lt a b i d=d:=by rw [insOuter,if_neg h]
theorem Vp {hi first r:Nat} (h:¬2 *r+1 < hi):siftDown lt hi first r d=d:=by rw [siftDown,dif_pos ab]
theorem Vq {hi first r:Nat} (h:2 *r+1 +1 < hi) (h1:lt d[first+(2 *r+1)]! d[first+(2 *r+1)+1]! =true):
 siftDown lt hi first r d=if (!lt d[first+r]! d[first+(2 *r+2)]!)=true then d else siftDown lt hi first (2 *r+2) (swp d (first+r)<|first+(2 *r+2)):=by
 rw [siftDown,dif_neg ab,if_pos (by simp [h1]; omega),dif_pos ab]
theorem HI {hi first r:Nat} (c:2 *r+1 < hi) (h:¬2 *r+1 +1 < hi∨lt d[first+(2 *r+1)]! d[first+(2 *r+1)+1]! =false):
 siftDown lt hi first r d=if (!lt d[first+r]! d[first+(2 *r+1)]!)=true then d else siftDown lt hi first (2 *r+1) (swp d (first+r)<|first+(2 *r+1)):=by
 rw [siftDown,dif_neg ab,if_neg (by rcases h with h | h <;> simp [h] <;> omega)]
theorem Rf {hi first k:Nat} (h:0 < k):heapBuild lt hi first k d=heapBuild lt hi first (k - 1) (siftDown lt hi first (k - 1) d):=by
 cases k with
 | zero=>omega
 | succ k=>rfl
theorem Rg {hi first :Nat} :heapBuild lt hi first 0 d=d:=rfl
theorem RG {first k:Nat} (h:0 < k):heapPop lt first k d=heapPop lt first (k - 1) (siftDown lt (k - 1) first 0 (swp d first (first+(k - 1)))):=by
 cases k with
 | zero=>omega
 | succ k=>rfl
theorem BR {p:α→Bool} {i j:Nat} (h:i≤j) (h1:p d[i]! =true):scanUp p d j i=scanUp p d j (i+1):=by
 rw [scanUp]; simp [h,h1]
theorem sy {p:α→Bool} {i j:Nat} (h:¬i≤j∨p d[i]! =false):scanUp p d j i=i:=by
 rw [scanUp]; rcases h with h | h <;> simp [h]
theorem zw {p:α→Bool} {i j:Nat} (c:0 < j) (h:i≤j) (h1:p d[j]! =true):scanDown p d i j=scanDown p d i (j - 1):=by
 cases j with
 | zero=>omega
 | succ j=>rw [scanDown]; simp [h,h1]
theorem rS {p:α→Bool} {i j:Nat} (h:¬i≤j∨p d[j]! =false):scanDown p d i j=j:=by
 cases j with
 | zero=>rfl
 | succ j=>rw [scanDown]; rcases h with h | h <;> simp [h]
theorem VH {b i:Nat} (h:i < b) (h1:lt d[i]! d[i - 1]! =false):scanSorted lt d b i=scanSorted lt d b (i+1):=by
 rw [scanSorted]; simp [h,h1]
theorem HP {b i:Nat} (h:¬i < b∨lt d[i]! d[i - 1]! =true):scanSorted lt d b i=i:=by
 rw [scanSorted]; rcases h with h | h <;> simp [h]
theorem Vb {j:Nat} (h:0 < j) (h1:lt d[j]! d[j - 1]! =true):shiftDown lt j d=shiftDown lt (j - 1) (swp d j<|j - 1):=by
 cases j with
 | zero=>omega
 | succ j=>simp only [s5] at*; rw [shiftDown]; simp [h1]
theorem Hv {j:Nat} (h:¬0 < j∨lt d[j]! d[j - 1]! =false):shiftDown lt j d=d:=by
 cases j with
 | zero=>rfl
 | succ j=>simp only [s5] at*; rw [shiftDown]; rcases h with h | h <;> first | omega | simp [h]
theorem VZ {b j:Nat} (h:j < b) (h1:lt d[j]! d[j - 1]! =true):shiftUp lt b j d=shiftUp lt b (j+1) (swp d j<|j - 1):=by
 rw [shiftUp]; simp [h,h1]
theorem HS {b j:Nat} (h:¬j < b∨lt d[j]! d[j - 1]! =false):shiftUp lt b j d=d:=by
 rw [shiftUp]; rcases h with h | h <;> simp [h]
theorem UQ {i j:Nat} (h:i < j):reverseLoop i j d=reverseLoop (i+1) (j - 1) (swp d i j):=by rw [reverseLoop,if_pos h]
theorem UR {i j:Nat} (h:¬i < j):reverseLoop i j d=d:=by rw [reverseLoop,if_neg h]
theorem Ha {a i j i2 c:Nat} (h1:scanUp (fun x=>lt x d[a]!) d j i=i2) (h2:scanDown (fun x=> !lt x d[a]!) d i2 j=c) (hi:i≤i2) (A:c≤j):
 partLoop lt a i j d=if i2 > c then (c,d) else if (c - 1)+1 - (i2+1) < j+1 - i then partLoop lt a (i2+1) (c - 1) (swp d i2 c) else (c,d):=by
 rw [partLoop]; simp only [h1,h2]; split <;> first | rfl | (split <;> rfl)
theorem G6 {a i j i2 c:Nat} (h1:scanUp (fun x=> !lt d[a]! x) d j i=i2) (h2:scanDown (fun x=>lt d[a]! x) d i2 j=c):
 partEqLoop lt a i j d=if i2 > c then (i2,d) else if (c - 1)+1 - (i2+1) < j+1 - i then partEqLoop lt a (i2+1) (c - 1) (swp d i2 c) else (i2,d):=by
 rw [partEqLoop]; simp only [h1,h2]; split <;> first | rfl | (split <;> rfl)
end
def bM (x y:Nat):Bool:=decide (x < y)
theorem uc:Go.Sort.SWO bM:=⟨fun x=>by simp [bM],fun x y z=>by simp only [bM,decide_eq_true_eq]; omega,fun x y z=>by simp only [bM,decide_eq_false_iff_not]; omega⟩
def aX (n:Nat):Value:= .int .u16 n
section
variable {P:Program} {N:Fm} {σ:Nat→Value} {w:World} {dst:Option Nat} {ty:TypeId} {pos :String} {af:Array Edge} {g:Option (Nat×Bool)} {x y:Operand}
theorem yN {t E:TypeId} {k:IntKind} {a b v:Int} (A:ev N σ x= .int k a) (C:ev N σ y= .int k b) (c:k.wrap (fE k.bits a ^^^ fE k.bits b).toNat=v):
 (execOp (ev N σ) ⟨dst,.binOp .xor t x y E,ty,pos,af,g⟩).run P w= .ok (.value<|.int k v) w:=by
 subst c; simp [execOp,A,C,eqGuard,binOp,uT]
end
theorem Ic (x:Int):0≤dR.wrap x∧dR.wrap x < 18446744073709551616:=by
 have h:dR.wrap x=x % 18446744073709551616:=by
  simp [IntKind.wrap,IntKind.bits,IntKind.signed]
 rw [h]; omega
theorem KR (r:Int) (m:Nat) (hm:0 < m∧m≤1099511627776):∃ o:Nat,o≤m - 1∧dR.wrap (fE dR.bits r &&& fE dR.bits ((m:Int) - 1)).toNat=(o:Int):=by
 refine ⟨(fE dR.bits r &&& fE dR.bits ((m:Int) - 1)).toNat,?_,?_⟩
 · rw [IS]
   refine dS Nat.and_le_right ?_
   have h1:(m:Int) - 1=((m - 1:Nat):Int):=ab
   rw [h1,pj]
   have h2:(dR.bits:Nat)=64:=rfl
   rw [h2]
   omega
 · exact ow (by have :=(fE dR.bits r &&& fE dR.bits ((m:Int) - 1)).isLt; have h2:(dR.bits:Nat)=64:=aa; rw [h2] at this ⊢; omega)
def kn (n:Nat):Nat:=if n=0 then 0 else Nat.log2 n+1
theorem Gi:∀ n:Fin 256,n.val≠0→n.val < 2 ^ kn n.val∧2 ^ kn n.val≤2 *n.val∧kn n.val≤8:=by decide+kernel
theorem wy {n:Nat} (h:n < 256):kn n≤8:=by
 rcases Nat.eq_zero_or_pos n with rfl | c
 · decide
 · exact (Gi ⟨n,h⟩<|by simp; omega).2.2
theorem SC {n:Nat} (h:n < 256) (c:0 < n):n < 2 ^ kn n∧2 ^ kn n≤2 *n:=by
 have :=Gi ⟨n,h⟩<|by simp; omega
 exact ⟨this.1,this.2.1⟩
end Go.Hb
end
namespace Go.Hb
def gA:List Nat→List Nat
 | []=> []
 | [x]=> [x]
 | x::y::l=>if x=y then gA (y::l) else x::gA (y::l)
theorem OY (x y:Nat):∀ l:List Nat,gA (l++ [x,y])=if x=y then gA (l++ [x]) else gA (l++ [x])++ [y]:=by
 intro l
 induction l with
 | nil=>by_cases h:x=y <;> simp [gA,h]
 | cons a l c=>
   cases l with
   | nil=>by_cases h:a=x <;> by_cases h2:x=y <;> simp_all [gA]
   | cons b l=>
     simp only [Cx] at c ⊢
     rw [gA,c,gA]
     by_cases h:a=b <;> by_cases h2:x=y <;> simp [h,h2]
theorem Ew (x:Nat):∀ l:List Nat,x∈gA l↔x∈l:=by
 intro l
 induction l with
 | nil=>simp [gA]
 | cons a l c=>
   cases l with
   | nil=>simp [gA]
   | cons b l=>
     rw [gA]
     by_cases h:a=b
     · subst h; rw [if_pos rfl,c]; simp
     · rw [if_neg h,ew,c,ew (a:=x) (b:=a)]
theorem OX:∀ l:List Nat,l.Pairwise (·≤·)→(gA l).Pairwise (· < ·):=by
 intro l
 induction l with
 | nil=>intro _; exact List.Pairwise.nil
 | cons a l A=>
   intro h
   cases l with
   | nil=>simp [gA]
   | cons b l=>
     rw [nQ] at h
     rw [gA]
     by_cases h1:a=b
     · rw [if_pos h1]; exact A h.2
     · rw [if_neg h1,nQ]
       refine ⟨fun y c=> ?_,A h.2⟩
       have c:=(Ew y _).1 c
       have h2:=h.1 b<|by simp
       rcases ew.1 c with rfl | c
       · omega
       · have :=(nQ.1 h.2).1 y c; omega
theorem UW:∀ l m:List Nat,l.Pairwise (· < ·)→m.Pairwise (· < ·)→(∀ x,x∈l↔x∈m)→l=m:=by
 intro l
 induction l with
 | nil=>
   intro m _ _ h
   cases m with
   | nil=>rfl
   | cons y m=>have :=(h y).2 (by simp); cases this
 | cons a l C=>
   intro m A hm h
   cases m with
   | nil=>have :=(h a).1 (by simp); cases this
   | cons y m=>
     rw [nQ] at A hm
     have e:a=y:=by
      have h1:=(h a).1<|by simp
      have h2:=(h y).2<|by simp
      rcases ew.1 h1 with h1 | h1
      · exact h1
      · rcases ew.1 h2 with h2 | h2
        · exact h2.symm
        · have :=A.1 y h2; have :=hm.1 a h1; omega
     subst e
     congr 1
     refine C m A.2 hm.2 fun x=> ?_
     constructor
     · intro c
       have :=A.1 x c
       rcases ew.1 ((h x).1<|nM _ c) with h1 | h1
       · omega
       · exact h1
     · intro c
       have :=hm.1 x c
       rcases ew.1 ((h x).2<|nM _ c) with h1 | h1
       · omega
       · exact h1
def lX (x:Nat):List Nat→List Nat
 | []=> [x]
 | y::l=>if x < y then x::y::l else if x=y then y::l else y::lX x l
def kZ (l:List Nat):List Nat:=l.foldr lX []
theorem FZ (x y:Nat):∀ l:List Nat,y∈lX x l↔y=x∨y∈l:=by
 intro l
 induction l with
 | nil=>simp [lX]
 | cons a l c=>
   rw [lX]
   split
   · simp
   · split
     · rename_i h; subst h; simp
     · rw [ew,c,ew]
       constructor <;> (rintro (h | h | h) <;> simp [h])
theorem RV (x:Nat):∀ l:List Nat,l.Pairwise (· < ·)→(lX x l).Pairwise (· < ·):=by
 intro l
 induction l with
 | nil=>intro _; simp [lX]
 | cons a l C=>
   intro h
   rw [lX]
   rw [nQ] at h
   split
   · rename_i A
     rw [nQ,nQ]
     exact ⟨fun y c=>by rcases ew.1 c with rfl | c; exact A; have :=h.1 y c; omega,h⟩
   · split
     · rw [nQ]; exact h
     · rw [nQ]
       exact ⟨fun y c=>by rcases (FZ x y l).1 c with rfl | c; omega; exact h.1 y c,C h.2⟩
theorem AY (x:Nat):∀ l:List Nat,x∈kZ l↔x∈l:=by
 intro l
 induction l with
 | nil=>simp [kZ]
 | cons a l c=>show x∈lX a (kZ l)↔_; rw [FZ,c,ew]
theorem AZ:∀ l:List Nat,(kZ l).Pairwise (· < ·):=by
 intro l
 induction l with
 | nil=>exact List.Pairwise.nil
 | cons a l c=>exact RV a _ c
theorem GZ {l m:List Nat} (hm:m.Pairwise (· < ·)) (h:∀ x,x∈m↔x∈l):m=kZ l:=UW _ _ hm (AZ l) fun x=>by rw [h,AY]
theorem TM {l:List Nat} (h:l.Pairwise (· < ·)):kZ l=l:=(GZ h fun _=>Iff.rfl).symm
theorem RU (x:Nat):∀ l:List Nat,(lX x l).length≤l.length+1:=by
 intro l
 induction l with
 | nil=>simp [lX]
 | cons a l c=>rw [lX]; split <;> (try split) <;> simp only [bS] <;> omega
theorem TL:∀ l:List Nat,(kZ l).length≤l.length:=by
 intro l
 induction l with
 | nil=>simp [kZ]
 | cons a l c=>have :=RU a (kZ l); show (lX a<|kZ l).length≤_; simp only [bS]; omega
theorem sx (d:Array Nat):d.toList.length=d.size:=by simp
theorem uD (d:Array Nat) (i:Nat):d.toList.getD i 0=d[i]! :=by
 rw [cU,uL]
 by_cases h:i < d.size
 · rw [xS h,getElem!_pos d i h]; rfl
 · rw [p7 ab,getElem!_neg d i h]; rfl
theorem xE {d:Array Nat} {i:Nat} (h:i < d.size):d.toList.take (i+1)=d.toList.take i++ [d[i]!]:=by
 rw [k8 d.toList i 0 (by simpa using h),uD]
theorem vQ {d:Array Nat} {q:Nat} (h1:1≤q) (h:q < d.size):gA (d.toList.take<|q+1)=if d[q - 1]! =d[q]! then gA (d.toList.take q) else gA (d.toList.take q)++ [d[q]!]:=by
 obtain ⟨q,rfl⟩:∃ k,q=k+1:=⟨q - 1,ab⟩
 rw [xE h,xE ab,ea,s5]
 exact OY _ _ _
theorem Bx {d:Array Nat} (h:sN bM 0 d.size d):d.toList.Pairwise (·≤·):=by
 rw [List.pairwise_iff_getElem]
 intro i j hi c A
 have :=h i j (Nat.zero_le _) A<|by simpa using c
 rw [← uD,← uD,cU,cU,bX hi,bX c] at this
 simp only [bM,decide_eq_false_iff_not,Option.getD_some] at this
 omega
theorem Vz {l:List Nat} {d:Array Nat} (hp:Go.Sort.PermIn 0 l.length l.toArray d) (hs:sN bM 0 l.length d):gA d.toList=kZ l:=by
 have c:d.size=l.length:=by rw [hp.1]; simp
 have A:d.toList.Perm l:=by
  have :=hp.2.2
  rw [show (d.extract 0 l.length).toList=d.toList from by rw [Array.toList_extract]; simp [fu (show d.toList.length≤l.length by simp [c])]] at this
  simpa using this
 exact GZ (OX _<|Bx<|by rw [c]; exact hs) fun x=>by rw [Ew]; exact A.mem_iff
theorem vS {d d2:Array Nat} {k j:Nat} (h:d.toList.drop k=d2.toList.drop k) (hk:k≤j):d[j]! =d2[j]! :=by
 have :=congrArg (fun l=>l.getD (j - k) 0) h
 simp only [cU,CC,show k+(j - k)=j from by omega] at this
 rw [← uD,← uD]; simpa [cU] using this
theorem set_drop {d:Array Nat} {k m v:Nat} (h:k < m):(d.setIfInBounds k v).toList.drop m=d.toList.drop m:=by
 rw [B6,List.drop_set,if_pos h]
theorem Bs {d:Array Nat} {k v:Nat} (h:k < d.size):(d.setIfInBounds k v).toList.take (k+1)=d.toList.take k++ [v]:=by
 rw [B6,List.set_eq_take_append_cons_drop,if_pos (by simpa using h),vf,eE,uM,oC ab,JW,fu (by rw [eE]; omega)]
 rfl
theorem Ay {h:Array Obj} {a:Option Addr} {d:Array Nat} {i j:Nat} {f:Nat→Value} (c:aG h a ((LE f d).drop i)) (hi:i+j < d.size):Hb.aJ h (bk a) (fo a+j*1)=some (f d[i+j]!):=by
 refine c.iY ?_
 rw [CC]; exact Gg hi
theorem Az {d:Array Nat} {i:Nat} {f:Nat→Value} (h:i < d.size):(LE f d).drop i≠[]:=by
 intro e; have :=congrArg mL e; rw [gI,ub,gJ] at this; omega
def iz (b:UInt8):Bool:=decide (33≤b.toNat∧b.toNat≤126∧b.toNat≠47∧b.toNat≠44∧b.toNat≠35)
noncomputable def eN (kind:Nat) (s:List UInt8):Nat:=
 if kind=1 then (if s.length=1∧iz (s.getD 0 0)=true then (s.getD 0 0).toNat else 0)
 else if kind=2 then (if s.length=2∧iz (s.getD 0 0)=true∧iz (s.getD 1 0)=true then 256 *(s.getD 0 0).toNat+(s.getD 1 0).toNat else 0)
 else (fH s 65535).1
def gT (c:UInt8):List UInt8→List UInt8→List (List UInt8)
 | acc,[]=> [acc]
 | acc,b::l=>if b=c then acc::gT c [] l else gT c (acc++ [b]) l
theorem VE (c:UInt8):∀ (l acc:List UInt8),(gT c acc l).length≤l.length+1:=by
 intro l
 induction l with
 | nil=>intro acc; simp [gT]
 | cons b l A=>
   intro acc; rw [gT]; split
   · have :=A []; simp only [bS]; omega
   · have :=A (acc++ [b]); simp only [bS]; omega
theorem VF (c:UInt8):∀ (l acc x:List UInt8),x∈gT c acc l→x.length≤acc.length+l.length:=by
 intro l
 induction l with
 | nil=>intro acc x h; simp only [gT,gK] at h; subst h; simp
 | cons b l A=>
   intro acc x h
   rw [gT] at h
   split at h
   · rcases ew.1 h with rfl | h
     · simp
     · have :=A [] x h; simp only [gJ,bS] at*; omega
   · have :=A _ x h; rw [bJ,iG] at this; simp only [bS]; omega
def oN (k:Nat):Nat→List UInt8→List (List UInt8)
 | 0,_=> []
 | f+1,s=>if s= [] then [] else s.take k::oN k f (s.drop k)
def chunks (k:Nat) (s:List UInt8):List (List UInt8):=oN k s.length s
theorem Nl {k:Nat} (hk:0 < k):∀ (f g:Nat) (s:List UInt8),s.length≤f→s.length≤g→oN k f s=oN k g s:=by
 intro f
 induction f with
 | zero=>intro g s h _; obtain rfl :=gq (by omega :s.length=0); cases g <;> simp [oN]
 | succ f c=>
   intro g s h1 h2
   cases g with
   | zero=>obtain rfl :=gq (by omega :s.length=0); simp [oN]
   | succ g=>
     rw [oN,oN]
     by_cases hs:s= []
     · simp [hs]
     · have A:=mN.2 hs
       rw [if_neg hs,if_neg hs,c g (s.drop k) (by rw [gI]; omega) (by rw [gI]; omega)]
theorem zi (k:Nat):chunks k []= []:=rfl
theorem zh {k:Nat} {s:List UInt8} (hk:0 < k) (hs:s≠[]):chunks k s=s.take k::chunks k (s.drop k):=by
 have c:=mN.2 hs
 unfold chunks
 obtain ⟨m,hm⟩:∃ m,s.length=m+1:=⟨s.length - 1,ab⟩
 rw [hm,oN,if_neg hs,Nl hk m (s.drop k).length (s.drop k) (by rw [gI]; omega) (cj _)]
theorem Np {k:Nat} (hk:0 < k):∀ (n:Nat) (s:List UInt8),s.length≤n→(chunks k s).length≤s.length:=by
 intro n
 induction n with
 | zero=>intro s h; obtain rfl :=gq (by omega :s.length=0); simp [zi]
 | succ n c=>
   intro s h
   by_cases hs:s= []
   · subst hs; simp [zi]
   · have A:=mN.2 hs
     rw [zh hk hs,bS]
     have :=c (s.drop k)<|by rw [gI]; omega
     rw [gI] at this; omega
theorem Nq {k:Nat} (hk:0 < k):∀ (n:Nat) (s x:List UInt8),s.length≤n→x∈chunks k s→x.length≤s.length:=by
 intro n
 induction n with
 | zero=>intro s x h c; obtain rfl :=gq (by omega :s.length=0); cases c
 | succ n A=>
   intro s x h c
   by_cases hs:s= []
   · subst hs; cases c
   · have C:=mN.2 hs
     rw [zh hk hs] at c
     rcases ew.1 c with rfl | c
     · rw [eE]; omega
     · have :=A (s.drop k) x (by rw [gI]; omega) c
       rw [gI] at this; omega
def eD (kind:Nat) (s:List UInt8):List (List UInt8):=if kind=3 then gT 44 [] s else chunks kind s
theorem Uk {kind:Nat} {s:List UInt8} (hk:0 < kind):(eD kind s).length≤s.length+1:=by
 unfold eD; split
 · exact VE _ _ _
 · have :=Np hk s.length s (cj _); omega
theorem Ul {kind:Nat} {s x:List UInt8} (hk:0 < kind) (h:x∈eD kind s):x.length≤s.length:=by
 unfold eD at h; split at h
 · have :=VF _ _ _ _ h; simpa using this
 · exact Nq hk _ _ _ (cj _) h
noncomputable def e5 (kind:Nat) (s:List UInt8):List Nat×Nat:=
 if s= [] then ([],31) else if ∃ x∈eD kind s,eN kind x=0 then ([],31) else if 64 < (eD kind s).length then ([],32) else (kZ ((eD kind s).map<|eN kind),0)
noncomputable def iS (kind:Nat) (s:List UInt8):Nat×Nat:=if eN kind s=0 then (0,31) else (eN kind s,0)
theorem Qw (kind:Nat) (s:List UInt8):eN kind s < 65536:=by
 unfold eN
 have c:=jN<|s.getD 0 0
 have h1:=jN<|s.getD 1 0
 split
 · split <;> omega
 · split
   · split <;> omega
   · unfold fH; split
     · exact Nat.zero_lt_succ _
     · rename_i h; simp only; omega
theorem sF {n:Int} (h:0≤n∧n≤65535):oy.wrap n=n:=IntWalk.u16_in n h
theorem Vk {x:Nat} (h:x < 256):oy.wrap ((x:Int)*2 ^ min (8:Int).toNat oy.bits)=((256 *x:Nat):Int):=by
 have h2:((x:Int)*2 ^ min (8:Int).toNat oy.bits)=((256 *x:Nat):Int):=by
  show (x:Int)*256=_
  omega
 rw [h2]; exact sF ab
theorem TT {x y:Nat} (h:x < 256) (E:y < 256):oy.wrap (fE oy.bits ((256 *x:Nat):Int) ||| fE oy.bits ((y:Nat):Int)).toNat=((256 *x+y:Nat):Int):=by
 have h1:(fE oy.bits ((256 *x:Nat):Int) ||| fE oy.bits ((y:Nat):Int)).toNat=256 *x+y:=by
  have C:(oy.bits:Nat)=16:=rfl
  rw [IT,pj,pj,C]
  have c:(((256 *x:Nat):Int) % ((2 ^ 16:Nat):Int)).toNat=2 ^ 8 *x:=ab
  have A:(((y:Nat):Int) % ((2 ^ 16:Nat):Int)).toNat=y:=ab
  rw [c,A,← Nat.two_pow_add_eq_or_of_lt (show y < 2 ^ 8 by omega)]
 rw [h1]; exact sF ab
theorem TD (s:List UInt8):(fH s 65535).1≤65535:=by
 unfold fH; split
 · exact Nat.zero_le _
 · simp only; omega
theorem No (s:List UInt8) (i k:Nat):(s.take (min ((i+k:Nat):Int) (s.length:Int)).toNat).drop (i:Int).toNat=(s.drop i).take k:=by
 rw [jL,show (min ((i+k:Nat):Int) (s.length:Int)).toNat=min (i+k) s.length from by omega,yd]
 by_cases h:i+k≤s.length
 · rw [oC h,JW]
 · rw [Nat.min_eq_right ab,fu (by rw [gI]; omega),fu (by rw [gI]; omega)]
theorem HN (c:UInt8):∀ (l acc:List UInt8),l.idxOf c < l.length→gT c acc l=(acc++l.take (l.idxOf c))::gT c [] (l.drop<|l.idxOf c+1):=by
 intro l
 induction l with
 | nil=>intro acc h; simp at h
 | cons b l C=>
   intro acc h
   rw [gT]
   by_cases A:b=c
   · subst A; rw [if_pos rfl]; simp
   · rw [if_neg A]
     have hi:(b::l).idxOf c=l.idxOf c+1:=by rw [u7,show (b==c)=false from by simpa using A]; rfl
     rw [hi] at h ⊢
     simp only [bS] at h
     rw [C _ ab]
     simp [ea]
theorem VG (c:UInt8):∀ (l acc:List UInt8),¬c∈l→gT c acc l= [acc++l]:=by
 intro l
 induction l with
 | nil=>intro acc _; simp [gT]
 | cons b l A=>
   intro acc h
   rw [ew,not_or] at h
   rw [gT,if_neg (fun e=>h.1 e.symm),A _ h.2]; simp
theorem By (c:UInt8):∀ (l acc:List UInt8),(gT c acc l).length=l.count c+1:=by
 intro l
 induction l with
 | nil=>intro acc; simp [gT]
 | cons b l C=>
   intro acc
   rw [gT]
   by_cases A:b=c
   · subst A; rw [if_pos rfl,bS,C]; simp
   · rw [if_neg A,C,List.count_cons_of_ne A]
theorem OP {c:UInt8} {l:List UInt8} (h:l.idxOf c < l.length):(l.drop<|l.idxOf c+1).count c+1=l.count c:=by
 have h1:=By c l []
 rw [HN c l [] h,bS,By] at h1
 omega
def fG (n:Nat):Value:= .int .i64 n
end Go.Hb
section
namespace Go.Hb
def iR (b:UInt8):Bool:=decide (33≤b.toNat∧b.toNat≠127)
def hU (w:List UInt8):Bool:=w.all iR
def o5 (w:List UInt8):Bool:=decide (1≤w.length∧w.length≤64∧hU w=true)
theorem e6 {α:Type} {l:List α} {i:Nat} {d:α} (h:i < l.length):l.getD i d∈l:=by
 rw [cU,bX h]; exact List.getElem_mem h
theorem oY {α:Type} {l:List α} {x:α} (d:α) (h:x∈l):∃ i,i < l.length∧l.getD i d=x:=by
 obtain ⟨i,hi,rfl⟩:=JJ.1 h
 exact ⟨i,hi,by rw [cU,bX hi]; rfl⟩
theorem C1 {α:Type} {f:α→Bool} {l:List α} {i:Nat} (d:α) (h:i < l.length) (h1:f (l.getD i d)=false):l.all f=false :=by
 rw [List.all_eq_false]; exact ⟨_,e6 h,by rw [h1]; exact c7⟩
theorem C2 {α:Type} {f:α→Bool} {l:List α} (d:α) (h:∀ i,i < l.length→f (l.getD i d)=true):l.all f=true :=by
 rw [kP]; intro x c; obtain ⟨i,hi,rfl⟩:=oY d c; exact h i hi
theorem vE {w:List UInt8} {i:Nat} (h:i < w.length) (h1:iR (w.getD i 0)=false):hU w=false :=C1 0 h h1
theorem vF {w:List UInt8} (h:∀ i,i < w.length→iR (w.getD i 0)=true):hU w=true :=C2 0 h
theorem LA (b:UInt8):hU [b]=iR b:=by unfold hU; simp
def qD (b:UInt8):Bool:=decide (b.toNat=92∨b.toNat=47∨b.toNat=35)
abbrev lM:Type :=List UInt8×List UInt8×Bool×Nat
def Uw (r:lM):Value:= .tuple #[str r.1,str r.2.1,.bool r.2.2.1,.int .i64 r.2.2.2]
def jh:List UInt8→List UInt8→lM
 | acc,[]=>(acc,[],false,0)
 | acc,[b]=>if b.toNat=47 then (acc,[],true,0) else if b.toNat=92 then ([],[],false,20) else (acc++ [b],[],false,0)
 | acc,b::c::l=>if b.toNat=47 then (acc,c::l,true,0) else if b.toNat=92 then (if qD c=true then jh (acc++ [c]) l else ([],[],false,20)) else jh (acc++ [b]) (c::l)
theorem BV (acc:List UInt8):jh acc []=(acc,[],false,0):=by simp [jh]
theorem IC {acc l:List UInt8} {b:UInt8} (h:b.toNat=47):jh acc (b::l)=(acc,l,true,0):=by
 cases l <;> simp [jh,h]
theorem Iz {acc:List UInt8} {b:UInt8} (h:b.toNat=92):jh acc [b]=([],[],false,20):=by simp [jh,h]
theorem IA {acc l:List UInt8} {b c:UInt8} (h:b.toNat=92) (A:qD c=false):jh acc (b::c::l)=([],[],false,20):=by simp [jh,h,A]
theorem Iy {acc l:List UInt8} {b c:UInt8} (h:b.toNat=92) (A:qD c=true):jh acc (b::c::l)=jh (acc++ [c]) l:=by simp [jh,h,A]
theorem IB {acc l:List UInt8} {b:UInt8} (h:¬b.toNat=47) (h1:¬b.toNat=92):jh acc (b::l)=jh (acc++ [b]) l:=by
 cases l <;> simp [jh,h,h1]
theorem Xj (n:Nat):∀ (l acc:List UInt8),l.length≤n→(jh acc l).1.length≤acc.length+l.length∧(jh acc l).2.1.length≤l.length:=by
 induction n with
 | zero=>intro l acc h; obtain rfl :=gq (by omega :l.length=0); rw [BV]; exact ⟨by simp,by simp⟩
 | succ n A=>
   intro l acc h
   cases l with
   | nil=>rw [BV]; exact ⟨by simp,by simp⟩
   | cons b l=>
     simp only [bS] at h ⊢
     by_cases h1:b.toNat=47
     · rw [IC h1]; exact ⟨by simp only; omega,by simp only; omega⟩
     · by_cases h2:b.toNat=92
       · cases l with
         | nil=>rw [Iz h2]; exact ⟨by simp,by simp⟩
         | cons c l=>
           simp only [bS] at h ⊢
           cases hc:qD c
           · rw [IA h2 hc]; exact ⟨by simp,by simp⟩
           · rw [Iy h2 hc]
             have :=A l (acc++ [c]) ab
             rw [bJ,iG] at this
             omega
       · rw [IB h1 h2]
         have :=A l (acc++ [b]) ab
         rw [bJ,iG] at this
         omega
def bD (f:List UInt8):lM:=jh [] f
theorem xP (f:List UInt8):(bD f).1.length≤f.length∧(bD f).2.1.length≤f.length:=by
 have :=Xj f.length f []<|cj _
 simpa [bD] using this
def lets (s:List UInt8):List UInt8:=s.foldl (fun a b=>if b∈a then a else a++ [b]) []
def letE (s:List UInt8):List UInt8×Nat:=if s= []∨hU s=false then ([],21) else (lets s,0)
theorem wz {s:List UInt8} {i:Nat} (h:i < s.length):lets (s.take<|i+1)=if s.getD i 0∈lets (s.take i) then lets (s.take i) else lets (s.take i)++ [s.getD i 0]:=by
 unfold lets
 rw [k8 s i 0 h,CB]; rfl
theorem Gk (s:List UInt8):(lets s).length≤s.length:=by
 have key:∀ (s a:List UInt8),(s.foldl (fun a b=>if b∈a then a else a++ [b]) a).length≤a.length+s.length:=by
  intro s
  induction s with
  | nil=>intro a; simp
  | cons b s c=>
    intro a
    rw [sT,bS]
    split
    · have :=c a; omega
    · have :=c (a++ [b]); rw [bJ,iG] at this; omega
 have :=key s []
 simpa [lets] using this
def marksOf (a:List UInt8):List Value:=(fM 256).map fun k=> .bool<|decide (j9 k∈a)
theorem Gx (a:List UInt8):(marksOf a).length=256:=by simp [marksOf]
theorem S3 (a:List UInt8) (b:UInt8):(marksOf a)[b.toNat]? =some (.bool<|decide (b∈a)):=by
 have :=jN b
 unfold marksOf
 rw [fF,yi ab]
 simp
theorem S5 (a:List UInt8) (b:UInt8):(marksOf a).set b.toNat (.bool true)=marksOf (a++ [b]):=by
 apply oz
 intro k
 rw [kt,Gx]
 unfold marksOf
 rw [fF,fF]
 by_cases hk:k < 256
 · rw [yi hk]
   simp only [ky]
   have he:(j9 k=b)↔b.toNat=k:=by
    constructor
    · rintro rfl; simp; omega
    · rintro rfl; simp
   by_cases h:b.toNat=k
   · have h2:=he.2 h
     simp [h,hk,h2]
   · have h2:¬j9 k=b:=fun e=>h<|he.1 e
     simp [h,h2]
 · have :(fM 256)[k]? =none:=sU<|by simp; omega
   have c:=jN b
   rw [this]
   simp; omega
theorem S4:marksOf []=jM 256 (.bool false):=by
 unfold marksOf
 apply oz
 intro k
 rw [fF,List.getElem?_replicate]
 by_cases hk:k < 256
 · rw [yi hk]; simp [hk]
 · rw [sU (by simp; omega)]; simp [hk]
theorem Bd.new {T e b:Nat} {w:World} (h:w.heap[b]? =some (.cells [x5 none,.slice none 0 0].toArray T (0,0))):Bd T e w b (.slice none 0 0) []:=
 ⟨⟨none,h,.inl rfl⟩,eh _ _ _ _,by simp⟩
theorem Bd.step {T e b:Nat} {w0 w w':World} {c:Value} {l:List UInt8} (h:Bd T e w b c l) (A:Wk w0 w) (C:Md (BF b c) w w') (G:w0.heap.size≤b):Wk w0 w':=
 Md.trans' A C fun k hk E=>by have :=h.ir E; omega
theorem Bd.BC {T e b:Nat} {w0 w w':World} {c:Value} {l:List UInt8} (h:Bd T e w b c l) (A:Wk w0 w) (C:Md (fun k=>c.ownBlock=some k) w w') (G:w0.heap.size≤b):Wk w0 w':=
 Md.trans' A C fun k hk E=>by have :=h.ir (.inr E); omega
end Go.Hb
end
section
set_option linter.unusedSimpArgs false
namespace Go.Hb
def pH (g:Nat→Bool):Nat→Nat
 | 0=>0
 | n+1=>pH g n ||| (if g n=true then 2 ^ n else 0)
theorem Ll (g:Nat→Bool):∀ n,pH g n < 2 ^ n:=by
 intro n
 induction n with
 | zero=>exact Nat.zero_lt_one
 | succ n c=>
   rw [pH]
   refine CI (Nat.lt_trans c<|yu aw<|s6 n) ?_
   split
   · exact yu aw<|s6 n
   · exact Nat.two_pow_pos _
theorem tq (g:Nat→Bool) (j:Nat):∀ n,(pH g n).testBit j=(decide (j < n) && g j):=by
 intro n
 induction n with
 | zero=>simp [pH]
 | succ n C=>
   rw [pH,J0,C]
   by_cases A:j=n
   · subst A
     cases h:g j <;> simp [Nat.testBit_two_pow_self]
   · have c:(if g n=true then 2 ^ n else 0).testBit j=false :=by
      split
      · rw [Ka]; simp; omega
      · simp
     rw [c,IV]
     congr 1
     exact decide_eq_decide.2 ab
theorem vC {g:Nat→Bool} {x:Nat} (A:x < 2 ^ 64) (h:∀ j,j < 64→x.testBit j=g j):x=pH g 64:=by
 refine Nat.eq_of_testBit_eq fun j=> ?_
 rw [tq]
 by_cases c:j < 64
 · rw [h j c,decide_eq_true c,uO]
 · rw [decide_eq_false c,Bool.false_and]
   exact Nat.testBit_lt_two_pow<|rk A<|Nat.pow_le_pow_right aw ab
def ee (f:UInt8→Bool) (k:Nat):Nat:=pH (fun j=>f<|j9<|64 *k+j) 64
def dV (f:UInt8→Bool):List Value:= [.int .u64 (ee f 0),.int .u64 (ee f 1),.int .u64 (ee f 2),.int .u64 (ee f 3)]
theorem sD (f:UInt8→Bool) (k:Nat):ee f k < 18446744073709551616:=Ll _ 64
theorem vM (f:UInt8→Bool):(dV f).length=4:=rfl
theorem Ed (f:UInt8→Bool):(dV f).all eQ=true :=rfl
theorem zl (f:UInt8→Bool) {k:Nat} (h:k < 4):(dV f)[k]? =some (.int .u64<|ee f k):=by
 match k,h with
 | 0,_=>rfl
 | 1,_=>rfl
 | 2,_=>rfl
 | 3,_=>rfl
theorem zm:dV (fun _=>false)= [.int .u64 0,.int .u64 0,.int .u64 0,.int .u64 0]:=by
 have :∀ k,ee (fun _=>false) k=0:=fun k=>(vC (x:=0) aw fun j _=>by simp).symm
 unfold dV; simp only [this]; rfl
theorem yP (b:UInt8) {k j:Nat} (hk:k < 4) (A:j < 64):j9 (64 *k+j)=b↔k=b.toNat / 64∧j=b.toNat % 64:=by
 have c:=jN b
 constructor
 · rintro rfl
   simp only [CK]
   omega
 · rintro ⟨h1,h2⟩
   refine rp.1 ?_
   simp only [CK]
   omega
theorem Xc (f:UInt8→Bool) (b:UInt8) {k:Nat} (hk:k < 4):ee (fun x=>f x || decide (x=b)) k=if k=b.toNat / 64 then ee f k ||| 2 ^ (b.toNat % 64) else ee f k:=by
 split
 · rename_i h
   refine (vC (CI (sD f k)<|yu aw ab) fun j c=> ?_).symm
   rw [J0,Ka]
   have h1:(ee f k).testBit j=f (j9<|64 *k+j):=by unfold ee; rw [tq,decide_eq_true c,uO]
   rw [h1]
   congr 1
   exact decide_eq_decide.2<|by rw [yP b hk c]; omega
 · rename_i h
   refine (vC (sD f k) fun j c=> ?_).symm
   have h1:(ee f k).testBit j=f (j9<|64 *k+j):=by unfold ee; rw [tq,decide_eq_true c,uO]
   show _=(f (j9<|64 *k+j) || decide (j9 (64 *k+j)=b))
   rw [h1,decide_eq_false (by rw [yP b hk c]; omega),IV]
theorem NV (f:UInt8→Bool) (b:UInt8):(dV f).set (b.toNat / 64) (.int .u64 ((ee f (b.toNat / 64) ||| 2 ^ (b.toNat % 64):Nat):Int))=dV (fun x=>f x || decide (x=b)):=by
 have c:=jN b
 apply oz
 intro k
 rw [kt,vM]
 by_cases hk:k < 4
 · rw [zl _ hk,zl _ hk,Xc f b hk]
   by_cases h:b.toNat / 64=k
   · subst h; simp [show b.toNat / 64 < 4 by omega]
   · rw [if_neg h,if_neg (fun e=>h e.symm)]
 · rw [sU (by rw [vM]; omega),sU (by rw [vM]; omega)]
   simp; omega
theorem Xb (f:UInt8→Bool) (b:UInt8):decide ((((ee f (b.toNat / 64) / 2 ^ (b.toNat % 64)) % 2:Nat):Int)=1)=f b:=by
 have c:=jN b
 have h1:(ee f<|b.toNat / 64).testBit (b.toNat % 64)=f b:=by
  unfold ee
  rw [tq,decide_eq_true (Nat.mod_lt _ aw),uO,(yP b (k:=b.toNat / 64) (j:=b.toNat % 64) ab<|Nat.mod_lt _ aw).2 ⟨rfl,rfl⟩]
 rw [← h1,Nat.testBit_eq_decide_div_mod_eq]
 exact decide_eq_decide.2 ab
theorem C5 (b:UInt8):po.wrap (fE po.bits (b.toNat:Int) &&& fE po.bits 63).toNat=((b.toNat % 64:Nat):Int):=by
 have h:∀ r:Fin 256,po.wrap (fE po.bits ((r.val:Nat):Int) &&& fE po.bits 63).toNat=((r.val % 64:Nat):Int):=by decide+kernel
 exact h ⟨b.toNat,jN b⟩
theorem HH (b:UInt8):(b.toNat:Int).fdiv (2 ^ min (6:Int).toNat po.bits)=((b.toNat / 64:Nat):Int):=by
 have h:∀ r:Fin 256,((r.val:Nat):Int).fdiv (2 ^ min (6:Int).toNat po.bits)=((r.val / 64:Nat):Int):=by decide+kernel
 exact h ⟨b.toNat,jN b⟩
theorem Vj {m:Nat} (h:m < 64):dR.wrap ((1:Int)*2 ^ min ((m:Nat):Int).toNat dR.bits)=((2 ^ m:Nat):Int):=by
 have h2:(dR.bits:Nat)=64:=rfl
 rw [jL,h2,oC ab,Int.one_mul]
 have h3:(2:Nat) ^ m < 2 ^ 64:=yu aw h
 have h4:((2:Int) ^ m)=((2 ^ m:Nat):Int):=by simp
 rw [h4]
 obtain ⟨x,c⟩:∃ x:Nat,2 ^ m=x:=⟨_,rfl⟩
 rw [c] at h3 ⊢; exact ow ab
theorem TS {x y:Nat} (A:x < 2 ^ 64) (C:y < 2 ^ 64):dR.wrap (fE dR.bits (x:Int) ||| fE dR.bits (y:Int)).toNat=((x ||| y:Nat):Int):=by
 have c:(dR.bits:Nat)=64:=rfl
 have h1:(fE dR.bits (x:Int) ||| fE dR.bits (y:Int)).toNat=x ||| y:=by
  rw [IT,pj,pj,c]
  congr 1 <;> omega
 rw [h1]
 have :=CI A C
 obtain ⟨z,E⟩:∃ z:Nat,x ||| y=z:=⟨_,rfl⟩
 rw [E] at this ⊢; exact ow ab
theorem Vo (x:Nat) {m:Nat} (h:m < 64):(x:Int).fdiv (2 ^ min ((m:Nat):Int).toNat dR.bits)=((x / 2 ^ m:Nat):Int):=by
 have h2:(dR.bits:Nat)=64:=rfl
 rw [jL,h2,oC ab]
 rw [show ((2:Int) ^ m)=((2 ^ m:Nat):Int) by simp,Int.fdiv_eq_ediv_of_nonneg _ (Int.natCast_nonneg _)]; rfl
theorem KQ {x:Nat} (A:x < 2 ^ 64):dR.wrap (fE dR.bits (x:Int) &&& fE dR.bits 1).toNat=((x % 2:Nat):Int):=by
 have c:(dR.bits:Nat)=64:=rfl
 have h1:(fE dR.bits (x:Int) &&& fE dR.bits 1).toNat=x % 2:=by
  rw [IS,pj,pj,c,show ((x:Int) % ((2 ^ 64:Nat):Int)).toNat=x by omega]
  exact Nat.and_one_is_mod x
 rw [h1]; exact ow ab
section
variable {P:Program} {N:Fm} {σ:Nat→Value} {w:World} {dst:Option Nat} {ty:TypeId} {pos :String} {af:Array Edge} {g:Option (Nat×Bool)} {x:Operand}
theorem vO {t:TypeId} {k:Nat} {f:UInt8→Bool} (E:ev N σ x= .int .u64 (ee f k)):(execOp (ev N σ) ⟨dst,.unOp .xor t x,ty,pos,af,g⟩).run P w= .ok (.value<|.int .u64<|ee (fun y=> !f y) k) w:=by
 have C:=sD f k
 have h1:dR.wrap (fE dR.bits dR.max ^^^ fE dR.bits (ee f k:Int)).toNat=(ee (fun y=> !f y) k:Int):=by
  have A:(dR.bits:Nat)=64:=rfl
  have h2:(fE dR.bits dR.max ^^^ fE dR.bits (ee f k:Int)).toNat=ee (fun y=> !f y) k:=by
   rw [BitVec.toNat_xor,pj,pj,A,show (dR.max % ((2 ^ 64:Nat):Int)).toNat=2 ^ 64 - 1 from by decide,show ((ee f k:Int) % ((2 ^ 64:Nat):Int)).toNat=ee f k by omega]
   refine vC (Nat.xor_lt_two_pow aw C) fun j c=> ?_
   rw [Nat.testBit_xor,Nat.testBit_two_pow_sub_one,decide_eq_true c,Bool.true_xor]
   congr 1
   unfold ee; rw [tq,decide_eq_true c,uO]
  rw [h2]; have :=sD (fun y=> !f y) k; exact ow ab
 have h3:(uT .xor dR dR.max (ee f k:Int)).run P w= .ok (.int .u64<|ee (fun y=> !f y) k) w:=by
  simp only [uT]
  rw [← h1]; rfl
 have h4:(Cj .xor<|.int dR (ee f k:Int)).run P w= .ok (.int .u64<|ee (fun y=> !f y) k) w:=by
  simp only [Cj]
  exact h3
 simp [execOp,E,h4]
end
def fy (t:List UInt8) (b:UInt8):Bool:=
 if t.length=1 then decide (t.getD 0 0=46∨t.getD 0 0=b)
 else if t.getD 1 0=94 then !decide (b∈(t.take<|t.length - 1).drop 2)
 else decide (b∈(t.take<|t.length - 1).drop 1)
def ki:List UInt8→Option (List UInt8×List UInt8)
 | []=>none
 | b::l=>if b=91 then (if l.idxOf 93 < l.length∧l.idxOf 93≠0∧¬(l.idxOf 93=1∧l.getD 0 0=94) then some (b::l.take (l.idxOf 93 +1),l.drop (l.idxOf 93 +1)) else none) else some ([b],l)
theorem D6 {s t r:List UInt8} (h:ki s=some (t,r)):r.length < s.length:=by
 cases s with
 | nil=>cases h
 | cons b l=>
   simp only [ki] at h
   split at h
   · split at h
     · simp only [fO,vl] at h
       obtain ⟨_,rfl⟩:=h
       rw [gI,bS]; omega
     · cases h
   · simp only [fO,vl] at h
     obtain ⟨_,rfl⟩:=h
     simp
def n0:Nat→List UInt8→Option (List<|List UInt8)
 | 0,s=>if s= [] then some [] else none
 | f+1,s=>if s= [] then some [] else match ki s with
   | none=>none
   | some (t,r)=>(n0 f r).map (t:: ·)
theorem OE:∀ (f g:Nat) (s:List UInt8),s.length≤f→s.length≤g→n0 f s=n0 g s:=by
 intro f
 induction f with
 | zero=>intro g s h _; obtain rfl :=gq (by omega :s.length=0); cases g <;> simp [n0]
 | succ f c=>
   intro g s h1 h2
   cases g with
   | zero=>obtain rfl :=gq (by omega :s.length=0); simp [n0]
   | succ g=>
     rw [n0,n0]
     split
     · rfl
     · cases hc:ki s with
       | none=>rfl
       | some q=>
         obtain ⟨t,r⟩:=q
         have :=D6 hc
         simp only
         rw [c g r ab ab]
def lQ (s:List UInt8):Option (List<|List UInt8):=n0 s.length s
theorem OB:lQ []=some []:=rfl
theorem OD {s t r:List UInt8} (h:ki s=some (t,r)):lQ s=(lQ r).map (t:: ·):=by
 have c:=D6 h
 unfold lQ
 obtain ⟨m,hm⟩:∃ m,s.length=m+1:=⟨s.length - 1,ab⟩
 have hs:s≠[]:=fun e=>by rw [e] at hm; simp at hm
 rw [hm,n0,if_neg hs,h]
 simp only
 rw [OE m r.length r ab (cj _)]
theorem OC {s:List UInt8} (hs:s≠[]) (h:ki s=none):lQ s=none:=by
 unfold lQ
 have c:=mN.2 hs
 obtain ⟨m,hm⟩:∃ m,s.length=m+1:=⟨s.length - 1,ab⟩
 rw [hm,n0,if_neg hs,h]
def eb (s:List UInt8):List (List UInt8)×Nat:=
 if s= []∨512 < s.length then ([],40) else if s= [46] then ([],0) else match lQ s with
  | none=>([],41)
  | some xs=>if 16 < xs.length then ([],42) else (xs,0)
def kQ (s:List UInt8) (i:Nat) (c:List (List UInt8)):Prop :=lQ s=(lQ<|s.drop i).map (c++ ·)
theorem kQ.start (s:List UInt8):kQ s 0 []:=by
 unfold kQ; rw [u6]; cases lQ s <;> simp
theorem kQ.step {s t r:List UInt8} {i j:Nat} {c:List (List UInt8)} (h:kQ s i c) (A:ki (s.drop i)=some (t,r)) (C:r=s.drop j):kQ s j (c++ [t]):=by
 subst C
 unfold kQ at*
 rw [h,OD A]
 cases lQ (s.drop j) <;> simp
theorem kQ.bad {s:List UInt8} {i:Nat} {c:List (List UInt8)} (h:kQ s i c) (hi:i < s.length) (A:ki (s.drop i)=none):lQ s=none:=by
 unfold kQ at h
 rw [h,OC (fun e=>by have :=congrArg mL e; rw [gI,gJ] at this; omega) A]; rfl
theorem kQ.done {s:List UInt8} {i:Nat} {c:List (List UInt8)} (h:kQ s i c) (hi:s.length≤i):lQ s=some c:=by
 unfold kQ at h
 rw [h,lK hi,OB]; simp
theorem Ns {b:UInt8} {l:List UInt8} (h:b≠91):ki (b::l)=some ([b],l):=by simp [ki,h]
theorem Nt {b:UInt8} {l:List UInt8} (c:b=91) (h:l.idxOf 93 < l.length) (h1:l.idxOf 93≠0) (h2:¬(l.idxOf 93=1∧l.getD 0 0=94)):ki (b::l)=some (b::l.take (l.idxOf 93 +1),l.drop (l.idxOf 93 +1)):=by
 simp only [ki]; rw [if_pos c,if_pos ⟨h,h1,h2⟩]
theorem Nr {b:UInt8} {l:List UInt8} (c:b=91) (h:¬(l.idxOf 93 < l.length∧l.idxOf 93≠0∧¬(l.idxOf 93=1∧l.getD 0 0=94))):ki (b::l)=none:=by
 simp only [ki]; rw [if_pos c,if_neg h]
def oM (f:UInt8→Bool) (i:Nat):List UInt8:=((fM i).map j9).filter f
def bytesOf (f:UInt8→Bool):List UInt8:=oM f 256
theorem Dg (f:UInt8→Bool) (i:Nat):oM f (i+1)=oM f i++(if f (j9 i)=true then [j9 i] else []):=by
 unfold oM
 rw [List.range_succ,gV,List.filter_append]
 congr 1
 cases h:f (j9 i) <;> simp [h]
theorem tt (f:UInt8→Bool) (i:Nat):(oM f i).length≤i:=by
 unfold oM
 refine dS (mM _ _) ?_
 simp
theorem Lz (f:UInt8→Bool):(bytesOf f).Nodup:=by
 unfold bytesOf oM
 refine List.Nodup.sublist List.filter_sublist ?_
 rw [JK,List.pairwise_map]
 refine XE ?_<|JK.1 List.nodup_range
 intro a b c A C e
 have h1:=nP.1 c
 have h2:=nP.1 A
 have :=congrArg UInt8.toNat e
 simp only [CK] at this
 omega
def lF (f:UInt8→Bool):List UInt8:=
 if (bytesOf f).length=256 then [46]
 else if (bytesOf f).length=1∧(bytesOf f).getD 0 0≠46∧(bytesOf f).getD 0 0≠91 then bytesOf f
 else if f 93=true then [91,94]++bytesOf (fun b=> !f b)++ [93]
 else [91]++((bytesOf f).filter (fun b=>decide (b≠94))++(if 94∈bytesOf f then [94] else []))++ [93]
def pW (ps:List (List UInt8)):List UInt8:=if ps= [] then [46] else ps.flatMap fun t=>lF<|fy t
theorem HG (f:UInt8→Bool):(lF f).length≤300:=by
 have h1:=tt f 256
 have h2:=tt (fun b=> !f b) 256
 unfold lF
 split
 · simp
 · split
   · unfold bytesOf; omega
   · split
     · simp only [bJ,bS,gJ]; unfold bytesOf; omega
     · have h3:=mM (fun b=>decide (b≠94))<|bytesOf f
       have h4:(if 94∈bytesOf f then [(94:UInt8)] else []).length≤1:=by split <;> simp
       simp only [bJ,bS,gJ]
       have h5:(bytesOf f).length≤256:=h1
       omega
theorem RI {l:List UInt8} (hn:l.Nodup) {c:UInt8} (h:l.idxOf c < l.length):l.take (l.idxOf c)++l.drop (l.idxOf c+1)=l.filter (fun b=>decide (b≠c)):=by
 induction l with
 | nil=>simp at h
 | cons b l E=>
   rw [ri] at hn
   by_cases A:b=c
   · subst A
     simp only [CE,pB,oB,fN,uZ,u6]
     rw [List.filter_cons_of_neg (by simp)]
     exact (yg.2 fun x C=>by simp; rintro rfl; exact hn.1 C).symm
   · have e:(b::l).idxOf c=l.idxOf c+1:=by rw [u7,show (b==c)=false from by simpa using A]; rfl
     rw [e] at h ⊢
     simp only [bS] at h
     rw [sZ,uZ,Cx,E hn.2 ab,List.filter_cons_of_pos (by simpa using A)]
theorem GO {l:List UInt8} {c:UInt8} (h:¬c∈l):l.filter (fun b=>decide (b≠c))=l:=
 yg.2 fun x A=>by simp; rintro rfl; exact h A
def kF (ps:List (List UInt8)):List Value:=ps.flatMap fun t=>dV<|fy t
theorem NU (a b:List (List UInt8)):kF (a++b)=kF a++kF b:=by simp [kF]
end Go.Hb
end
section
namespace Go.Hb
abbrev Tx:Type :=List UInt8
structure dT where
 flag:Nat
 kind:Nat
 gv:Bool
 first :Nat
 count:Nat
structure cJ where
 kind:Nat
 flag:Nat
 gv:Bool
 strip:Tx
 add:Tx
 cond:Tx
 next :List Nat
 line:Nat
structure aC where
 kind:Nat
 tx:Tx
 tr:Tx
 sp:List Nat
 least:Nat
 dB:List (Tx×Tx)
 aliases:List (List Nat)
 bB:List dT
 rules:List cJ
def jc:Tx:= [70,76,65,71]
def jn:Tx:= [83,69,84]
def jH:Tx:= [84,82,89]
def jV:Tx:= [78,69,69,68,65,70,70,73,88]
def km:Tx:= [70,79,82,66,73,68,68,69,78,87,79,82,68]
def kI:Tx:= [75,69,69,80,67,65,83,69]
def kX:Tx:= [67,79,77,80,79,85,78,68,70,76,65,71]
def lz:Tx:= [78,79,83,85,71,71,69,83,84]
def lZ:Tx:= [67,79,77,80,79,85,78,68,77,73,78]
def jG:Tx:= [82,69,80]
def jb:Tx:= [65,70]
def jd:Tx:= [80,70,88]
def dF:Tx:= [83,70,88]
def Aw:Tx:= [115,104,111,114,116]
def As:Tx:= [108,111,110,103]
def Au:Tx:= [110,117,109]
def gn:List Tx:= [jV,km,kI,kX,lz]
def width (k:Tx):Nat:=if k∈gn∨k=jc∨k=jn∨k=jH∨k=lZ∨k=jG∨k=jb then 2 else if k=jd∨k=dF then 4 else 0
def ib (w:Tx):Nat:=if w= []∨hU w=false then 21 else if 32 < w.length then 22 else 0
def ga (none:Bool) (fd:Tx):Except Nat Tx:=
 if none=true∧fd= [48] then .ok []
 else if (bD fd).2.2.2≠0 then .error (bD fd).2.2.2
 else if (bD fd).2.2.1=true then .error 114
 else if ib (bD fd).1≠0 then .error (ib (bD fd).1)
 else .ok (bD fd).1
def dO (cs:List dT) (x:Nat):Option dT:=cs.find? fun c=>decide (c.flag=x)
def eA (f:aC) (x:Nat):Bool:=decide (x∈f.sp) || (dO f.bB x).isSome
noncomputable def iU (f:aC) (s:Tx):Except Nat Nat:=
 if (iS f.kind s).2≠0 then .error (iS f.kind s).2 else if eA f (iS f.kind s).1=true then .error 115 else .ok (iS f.kind s).1
noncomputable def kW (kind:Nat) (s:Tx):Except Nat (List Nat):=if (e5 kind s).2≠0 then .error (e5 kind s).2 else .ok (e5 kind s).1
noncomputable def eH (s:Tx) (most:Int):Except Nat Nat:=if (fH s most).2≠0 then .error 13 else .ok (fH s most).1
noncomputable def gj (kind:Nat) (al:List (List Nat)) (s:Tx):Except Nat (List Nat):=
 if al= [] then kW kind s
 else match eH s al.length with
  | .error _=> .error 13
  | .ok n=>if n=0 then .error 13 else .ok (al.getD (n - 1) [])
noncomputable def nn (kind:Nat) (al:List (List Nat)) (c:Nat) (r:lM):Except Nat (List Nat):=
 if r.2.2.1=true then (if c=1 then .error 118 else gj kind al r.2.1) else .ok []
def mq (row:List Tx):Except Nat Tx:=
 if row.length=5 then (if hU (row.getD 4 [])=false then .error 21 else if (eb<|row.getD 4 []).2≠0 then .error (eb<|row.getD 4 []).2 else .ok (pW (eb<|row.getD 4 []).1)) else .ok [46]
def lh (r:lM):Except Nat Tx:=if r.2.2.2≠0 then .error r.2.2.2 else if r.1= [48] then .ok [] else if ib r.1≠0 then .error (ib r.1) else .ok r.1
noncomputable def jr (kind:Nat) (al:List (List Nat)) (c:dT) (ln:Nat) (row:List Tx):Except Nat cJ:=
 if row.length≠4∧row.length≠5 then .error 111
 else match ga true (row.getD 2 []) with
  | .error e=> .error e
  | .ok st=>match lh (bD<|row.getD 3 []) with
    | .error e=> .error e
    | .ok ad=>match nn kind al c.kind (bD<|row.getD 3 []) with
      | .error e=> .error e
      | .ok nx=>match mq row with
        | .error e=> .error e
        | .ok cd=> .ok ⟨c.kind,c.flag,c.gv,st,ad,cd,nx,ln⟩
def mC (ln:Nat) (row:List Tx):Except Nat (Tx×Tx):=
 if row.length≠3 then .error 111
 else match ga false (row.getD 1 []) with
  | .error e=> .error e
  | .ok a=>match ga true (row.getD 2 []) with
    | .error e=> .error e
    | .ok b=> .ok (a,b)
noncomputable def ml (kind:Nat) (ln:Nat) (row:List Tx):Except Nat (List Nat):=if row.length≠2 then .error 111 else kW kind (row.getD 1 [])
def group {α:Type} (hd:List Tx) (rd:Nat→List Tx→Except Nat α) (eof:Nat):Nat→List Rw→Except (Nat×Nat) (List α×List Rw)
 | 0,rows=> .ok ([],rows)
 | _+1,[]=> .error (eof,116)
 | n+1,(ln,row)::rows=>if row.take hd.length≠hd then .error (ln,116) else match rd ln row with
   | .error e=> .error (ln,e)
   | .ok x=>match group hd rd eof n rows with
     | .error e=> .error e
     | .ok r=> .ok (x::r.1,r.2)
def kY (s:Tx):Nat:=if s=Aw then 1 else if s=As then 2 else if s=Au then 3 else 0
def ordered (hs:List Tx):Bool:= !hs.any fun h=>decide (h∈gn∨h=jb∨h=jd∨h=dF)
noncomputable def hZ (eof:Nat) (f:aC) (rows:List Rw) (ln:Nat) (row:List Tx):Except (Nat×Nat) (aC×List Rw):=
 match iU f (row.getD 1 []) with
 | .error e=> .error (ln,e)
 | .ok x=>if row.getD 2 []≠[89]∧row.getD 2 []≠[78] then .error (ln,114)
   else match eH (row.getD 3 []) 1024 with
    | .error e=> .error (ln,e)
    | .ok n=>if 1024 < f.rules.length+n then .error (ln,117)
      else match group [row.getD 0 [],row.getD 1 []] (jr f.kind f.aliases ⟨x,if row.getD 0 []=dF then 2 else 1,decide (row.getD 2 []= [89]),f.rules.length,n⟩) eof n rows with
       | .error e=> .error e
       | .ok r=> .ok ({f with bB:=f.bB++ [⟨x,if row.getD 0 []=dF then 2 else 1,decide (row.getD 2 []= [89]),f.rules.length,n⟩],rules:=f.rules++r.1},r.2)
noncomputable def j0 (f:aC) (rows:List Rw) (ln:Nat) (row:List Tx):Except (Nat×Nat) (aC×List Rw):=
 match iU f (row.getD 1 []) with
 | .error e=> .error (ln,e)
 | .ok x=> .ok ({f with sp:=f.sp.set (gn.idxOf<|row.getD 0 []) x},rows)
def kJ (f:aC) (hs:List Tx) (rows:List Rw) (ln:Nat) (row:List Tx):Except (Nat×Nat) (aC×List Rw):=
 if ordered hs=false then .error (ln,113) else if kY (row.getD 1 [])=0 then .error (ln,114) else .ok ({f with kind:=kY<|row.getD 1 []},rows)
def mD (f:aC) (rows:List Rw) (ln:Nat) (row:List Tx):Except (Nat×Nat) (aC×List Rw):=
 if hU (row.getD 1 [])=false then .error (ln,21) else .ok ({f with tx:=row.getD 1 []},rows)
def mE (f:aC) (rows:List Rw) (ln:Nat) (row:List Tx):Except (Nat×Nat) (aC×List Rw):=
 if (letE<|row.getD 1 []).2≠0 then .error (ln,(letE<|row.getD 1 []).2) else .ok ({f with tr:=(letE<|row.getD 1 []).1},rows)
noncomputable def kK (f:aC) (rows:List Rw) (ln:Nat) (row:List Tx):Except (Nat×Nat) (aC×List Rw):=
 match eH (row.getD 1 []) 64 with
 | .error e=> .error (ln,e)
 | .ok n=>if n=0 then .error (ln,13) else .ok ({f with least:=n},rows)
noncomputable def kN (eof:Nat) (f:aC) (rows:List Rw) (ln:Nat) (row:List Tx):Except (Nat×Nat) (aC×List Rw):=
 match eH (row.getD 1 []) 256 with
 | .error e=> .error (ln,e)
 | .ok n=>match group [jG] mC eof n rows with
   | .error e=> .error e
   | .ok r=> .ok ({f with dB:=f.dB++r.1},r.2)
noncomputable def kh (eof:Nat) (f:aC) (hs:List Tx) (rows:List Rw) (ln:Nat) (row:List Tx):Except (Nat×Nat) (aC×List Rw):=
 if jd∈hs∨dF∈hs then .error (ln,113)
 else match eH (row.getD 1 []) 1024 with
  | .error e=> .error (ln,e)
  | .ok n=>match group [jb] (ml f.kind) eof n rows with
    | .error e=> .error e
    | .ok r=> .ok ({f with aliases:=f.aliases++r.1},r.2)
noncomputable def ca (eof:Nat) (f:aC) (hs:List Tx) (rows:List Rw) (ln:Nat) (row:List Tx):Except (Nat×Nat) (aC×List Rw):=
 if row.getD 0 []∈gn then j0 f rows ln row
 else if row.getD 0 []=jc then kJ f hs rows ln row
 else if row.getD 0 []=jn then mD f rows ln row
 else if row.getD 0 []=jH then mE f rows ln row
 else if row.getD 0 []=lZ then kK f rows ln row
 else if row.getD 0 []=jG then kN eof f rows ln row
 else if row.getD 0 []=jb then kh eof f hs rows ln row
 else hZ eof f rows ln row
noncomputable def gQ (eof:Nat):Nat→aC→List Tx→List Rw→Except (Nat×Nat) aC
 | 0,f,_,rows=>if rows= [] then .ok f else .error (0,0)
 | _+1,f,_,[]=> .ok f
 | k+1,f,hs,(ln,row)::rows=>
   if width (row.getD 0 [])=0 then .error (ln,110)
   else if row.length≠width (row.getD 0 []) then .error (ln,111)
   else if width (row.getD 0 [])=2∧row.getD 0 []∈hs then .error (ln,112)
   else match ca eof f hs rows ln row with
    | .error e=> .error e
    | .ok r=>gQ eof k r.1 (hs++ [row.getD 0 []]) r.2
def mA (f:aC) (x:Nat):Bool:=decide (x=f.sp.getD 0 0) || (match dO f.bB x with | some c=>decide (c.kind=2) | none=>false)
def nW (f:aC) (r:cJ):Bool:=r.next.any fun x=> !mA f x
def iN:aC:=⟨1,[],[],[0,0,0,0,0],3,[],[],[],[]⟩
noncomputable def fW (t:Tx):Except (Nat×Nat) aC:=
 if 65536 < t.length then .error (0,10)
 else match gQ ((dx t).length+1) (eW t).length iN [] (eW t) with
  | .error e=> .error e
  | .ok f=>match f.rules.find? (nW f) with
    | some r=> .error (r.line,118)
    | none=> .ok f
theorem tZ {α:Type} {hd:List Tx} {rd:Nat→List Tx→Except Nat α} {eof:Nat} :∀ (n:Nat) (rows:List Rw) (r:List α×List Rw),group hd rd eof n rows= .ok r→r.2.length≤rows.length∧r.1.length=n∧∀ q∈r.2,q∈rows:=by
 intro n
 induction n with
 | zero=>intro rows r h; simp only [group,qT] at h; subst h; exact ⟨cj _,rfl,fun q c=>c⟩
 | succ n A=>
   intro rows r h
   cases rows with
   | nil=>simp [group] at h
   | cons q rows=>
     obtain ⟨ln,row⟩:=q
     simp only [group] at h
     split at h
     · cases h
     · cases hr:rd ln row with
       | error e=>rw [hr] at h; cases h
       | ok x=>
         rw [hr] at h
         simp only at h
         cases hg:group hd rd eof n rows with
         | error e=>rw [hg] at h; cases h
         | ok C=>
           rw [hg] at h
           simp only [qT] at h
           subst h
           have :=A rows C hg
           refine ⟨by simp only [bS]; omega,by simp only [bS]; omega,fun q c=>nM _<|this.2.2 q c⟩
def gY {α:Type} (hd:List Tx) (rd:Nat→List Tx→Except Nat α) (eof:Nat) (T:Except (Nat×Nat) (List α×List Rw)) (xs:List α) (n:Nat) (rows:List Rw):Prop :=
 T=match group hd rd eof n rows with
  | .error e=> .error e
  | .ok r=> .ok (xs++r.1,r.2)
theorem gY.start {α:Type} {hd:List Tx} {rd:Nat→List Tx→Except Nat α} {eof n:Nat} {rows:List Rw} :gY hd rd eof (group hd rd eof n rows) [] n rows:=by
 unfold gY; cases group hd rd eof n rows <;> rfl
section
variable {α:Type} {hd:List Tx} {rd:Nat→List Tx→Except Nat α} {eof n:Nat} {T:Except (Nat×Nat) (List α×List Rw)} {xs:List α} {rows:List Rw} {ln:Nat} {row:List Tx}
theorem gY.ends (h:gY hd rd eof T xs n []) (hn:0 < n):T= .error (eof,116):=by
 obtain ⟨m,rfl⟩:∃ m,n=m+1:=⟨n - 1,ab⟩
 exact h
theorem gY.other (h:gY hd rd eof T xs n ((ln,row)::rows)) (hn:0 < n) (c:row.take hd.length≠hd):T= .error (ln,116):=by
 obtain ⟨m,rfl⟩:∃ m,n=m+1:=⟨n - 1,ab⟩
 unfold gY at h; simp only [group] at h; rw [if_pos c] at h; exact h
theorem gY.bad {e:Nat} (h:gY hd rd eof T xs n ((ln,row)::rows)) (hn:0 < n) (c:row.take hd.length=hd) (he:rd ln row= .error e):T= .error (ln,e):=by
 obtain ⟨m,rfl⟩:∃ m,n=m+1:=⟨n - 1,ab⟩
 unfold gY at h; simp only [group] at h; rw [if_neg (fun h2=>h2 c),he] at h; exact h
theorem gY.step {x:α} (h:gY hd rd eof T xs n ((ln,row)::rows)) (hn:0 < n) (c:row.take hd.length=hd) (he:rd ln row= .ok x):gY hd rd eof T (xs++ [x]) (n - 1) rows:=by
 obtain ⟨m,rfl⟩:∃ m,n=m+1:=⟨n - 1,ab⟩
 unfold gY at h ⊢; simp only [group] at h; rw [if_neg (fun h2=>h2 c),he] at h
 simp only [s5] at h ⊢
 rw [h]
 cases group hd rd eof m rows with
 | error e=>rfl
 | ok r=>simp only [ea]; rfl
theorem gY.done (h:gY hd rd eof T xs 0 rows):T= .ok (xs,rows):=by
 unfold gY at h; simpa [group] using h
end
end Go.Hb
end
