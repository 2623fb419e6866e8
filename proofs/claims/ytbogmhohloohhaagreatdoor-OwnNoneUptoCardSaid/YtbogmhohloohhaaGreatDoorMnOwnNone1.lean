/-
  Walks and plain laws that the law rests on, laid together. No conditions but those that each theorem names.
-/
import Derived.WalkKit
import Derived.OrdersHeld
import Derived.TacticsIn
import Derived.Lib.Strings
import Derived.Lib.UnsafeStr
import Derived.Laws.MakeOwn
import Derived.Laws.StructEq
import Derived.SliceStrings
import Derived.Carry
import Derived.JoinedCond
import Derived.ProofKit
import Derived.OpenShut
import Derived.Test.YtbogmhohloohhaaGreatDoorRows
import Derived.Test.YtbogmhohloohhaaGreatDoorChecked
import Derived.Maps.RangeRun
import Derived.Laws.OwnMore
import Derived.Lib.SliceRun
import Derived.RangeFuncFrom
import Derived.RangeFuncLeaves
import Derived.Recover
import Derived.OrdersIn
import Derived.Lib.Bytealg
import Derived.Lib.FrozenHead
import Derived.Deep.AppendSrc
import Derived.RangeFuncNested
import Derived.Stop.LaidErr
import Derived.Shelf.Slices.In.SortAlone
import Derived.Shelf.Slices.In.SortNone
import Derived.Sort.OwnSorted
import Derived.Sort.EveryDepth
set_option linter.unusedVariables false
set_option maxRecDepth 20000
set_option maxHeartbeats 1000000
open Array renaming ext_getElem?→oe,getD_eq_getD_getElem?→eW,getElem?_eq_getElem→jK,getElem?_eq_none→og,getElem?_eq_some_iff→bu,getElem?_modify→mh,getElem?_setIfInBounds→kR,getElem?_setIfInBounds_ne→ig,getElem?_setIfInBounds_self_of_lt→iO,mem_toList_iff→om,range→ij,replicate→mi,setIfInBounds_comm→q4,toArray_toList→vt,toList_append→vu,toList_filter→kT,toList_map→gy,toList_modify→mj,toList_push→oo
open BitVec renaming ofInt→iP
open Bool renaming and_eq_true→aD,and_eq_true_iff→kU,eq_iff_iff→iQ,false_eq_true→ml,noConfusion→cz,not_eq_true'→gz,or_eq_true→jM
open Go renaming Addr→aB,Code→bd,Edge→bD,Exit→aE,FuncId→ej,IntKind→aH,Oper→an,Operand→ax,Program→aj,TypeId→ai,Value→ab,World→ae
open Go.Addr renaming add→oq
open Go.Builtin renaming append_→fM,delete_→kV,firstCells→ou,lenOf→vx,len_→q5
open Go.ByteArray renaming toList_eq→vz
open Go.Calls renaming mono→ik
open Go.Conv renaming bytesToString→vB,seenAt→vC,unsafePointer→vD
open Go.DataW renaming TrodAll→vE,trod→mm
open Go.Deferred renaming ofValue→kW
open Go.Fence renaming wide→dt
open Go.Instr renaming alloc→ov,buildSlice→ow,checkKey→gC,fill→fN,findAsking→jN,findKey→jO,findNow→jP,indexAt→vI,keyThatStays→mo,loadAt→vJ,lookup→vK,mapUpdate→kX,sameBits→vL,sameNow→ox,slice→mq,sliceAt→jQ,sliceBound→jR,sliceBounds→gD,storeAt→vM,sureAddr→kY
open Go.IntKind renaming i64→oy
open Go.Lib renaming run_append_own_string→vP
open Go.Next renaming value→mr
open Go.Op renaming bytesLess→q6,equal→jS,equalIn→eI,intArith→mu,intCmp→kZ,stringOp→jT
open Go.Oper renaming upon→oz,uponIn→k9,wp→iR
open Go.Proofs.Tryz renaming prog→ao
open Go.Region renaming Mode→jU,binds→cm,free_spec→q7,noSelect_spec→q8,ready→cT,wanted→gE
open Go.Result renaming andThen_ok→dV,ok→my
open Go.Sem renaming run→fO,run_bind→ek,run_ite→mz,run_pure→fP
open Go.Value renaming bool→dh,cells→vS,oneCell'→iS,ownBlock→cJ,pointer→oB,slice→dD
open Go.Value.slice renaming injEq→jW
open Go.Value.string renaming inj→vT
open Go.World renaming cell?→vV,cells?_some→vW,freeze→il,ownsRow_nil→lf,setCell→oC,shape?→q9
open List.Nodup renaming sublist→wg
open List.Sublist renaming map→rb
open List renaming all_cons→wh,all_eq_true→wi,any_eq_true→wj,eq_nil_of_length_eq_zero→im,eraseIdx_sublist→wq,filter_cons→mB,filter_eq_self→wv,flatten_cons→lg,foldl_cons→oE,getD_eq_getElem?_getD→iU,getElem?_cons_succ→eY,getElem?_cons_zero→fB,getElem?_eq_getElem→cK,getElem?_eq_some_iff→bZ,getElem?_inj→re,getElem?_map→eZ,getElem?_of_mem→rf,length_append→cn,length_cons→cr,length_range→wB,map_append→mD,map_cons→cx,map_map→oG,mem_append→dL,mem_append_left→ri,mem_append_right→wE,mem_cons→cU,mem_eraseIdx_iff_getElem?→wF,mem_iff_getElem?→oH,mem_map→dM,mem_map_of_mem→jY,mem_of_getElem?→gI,mem_of_mem_eraseIdx→rj,mem_singleton→iq,nil_append→wK,nodup_append→wL,nodup_cons→jZ,range→j0,size_toArray→c7,zipIdx_cons→wS
open List.cons renaming inj→wo
open Nat renaming add_assoc→eo,beq→av,ble→aA,blt→aq,div_add_mod→wU,eq_of_beq_eq_true→aW,le_of_ble_eq_true→aP,le_refl→aI,le_trans→bK,lt_of_le_of_lt→wV,lt_of_lt_of_le→iY,lt_or_ge→e7,lt_succ_self→iv,mul_comm→wY,succ_mul→rq,zero_add→b9,zero_mul→mI
open Option renaming bind_eq_some_iff→xc,bind_some→xd,isSome_iff_exists→xe,map_eq_some_iff→eJ,map_some→cM
open Option.some renaming inj→di,injEq→aQ
open Prod renaming fst→bC,snd→j1
open Prod.mk renaming injEq→oM
open UInt8 renaming ofNat→dF
open Go.Proofs.Tryz
open Go.RowKit

namespace Go.Hb
theorem ag {p:Prop} (h:p:=by omega):p:=h
theorem ah {p:Prop} (h:p:=by kernel_rfl):p:=h
theorem bH {p:Prop} (h:p:=by decide):p:=h
theorem U {α:Sort _} {a:α} :a=a:=rfl
end Go.Hb
section
namespace Go.Hb
structure Fm where
 n:Nat
 D:List Deferred
 F:List Nat
 r:Option Nat
def aG (σ:Nat→ab) (d:Nat) (v:ab):Nat→ab:=fun i=>cond (av i d) v<|σ i
def bR (σ:Nat→ab):Option Nat→ab→Nat→ab
 | some d,v=>aG σ d v
 | none,_=>σ
def act (N:Fm) (σ:Nat→ab):Act:=⟨((j0 N.n).map σ).toArray,N.D⟩
def ev (N:Fm) (σ:Nat→ab):ax→ab
 | .tmp t=>cond (aq t N.n) (σ t) undef
 | .const v=>v
 | .global g=> .pointer<|some ⟨g,0,none⟩
 | .func f=> .func (.func f) #[] #[]
theorem fc (N:Fm) (σ:Nat→ab) (t:Nat):(act N σ).tmps[t]? =if t < N.n then some (σ t) else none:=by grind [act]
theorem cD (N:Fm) (σ:Nat→ab):(act N σ).eval=ev N σ:=by
 funext x;cases x with
 | tmp t=>
   simp only [Act.eval,ev,eW,fc];by_cases h:t < N.n
   · rw [if_pos h,show aq t N.n=true from by simpa using h]; rfl
   · rw [if_neg h,show aq t N.n=false from by cases hx:aq t N.n <;> simp_all [aq,Nat.ble_eq] <;> omega]; rfl
 | _=>rfl
theorem mK {a b:Act} (A:a.defers=b.defers) (C:∀ i:Nat,a.tmps[i]? =b.tmps[i]?):a=b:=by
 cases a; cases b;simp only at A C;subst A;congr 1;exact oe C
theorem dv (N:Fm) (σ:Nat→ab) (dst:Option Nat) (v:ab):(act N σ).put dst v=act N (bR σ dst v):=by
 cases dst with
 | none=>rfl
 | some d=>
   refine mK U fun i=> ?_;have h0:((act N σ).put (some d) v).tmps=(act N σ).tmps.setIfInBounds d v:=rfl;rw [h0,kR,fc,fc];have C:(act N σ).tmps.size=N.n:=by simp [act]
   simp only [bR,aG];by_cases A:i=d
   · subst A;rw [C];have hb:av i i=true :=by simp
     by_cases h:i < N.n
     · rw [if_pos rfl,if_pos h,if_pos h,hb]; rfl
     · rw [if_pos rfl,if_neg h,if_neg h]
   · rw [if_neg (fun e=>A e.symm)];have hb:av i d=false :=by
      cases hx:av i d
      · rfl
      · exact absurd (aW hx) A
     rw [hb]; rfl
theorem ma {σ:Nat→ab} {i:Nat} {v:ab} (h:σ i=v):aG σ i v=σ:=by grind [aG,av,aW]
def lift (N:Fm) (Q:aE→(Nat→ab)→ae→Prop):aE→Act→ae→Prop
 | .panic c,a,w=> ∃ σ,a=act N σ∧∀ σ',(∀ i∈N.F,σ' i=σ i)→Q (.panic c) σ' w
 | .outgrown,_,_=>False
 | e,a,w=> ∃ σ,a=act N σ∧Q e σ w
def fe:Option Nat→Fence
 | none=>dt
 | some l=>dt.inRound l
theorem jl (r:Option Nat):(fe r).round=r:=by cases r <;> rfl
theorem ga (r:Option Nat) (f:ej):(fe r).fn f:=by cases r <;> trivial
theorem jk (r:Option Nat):(fe r).depth=none:=by cases r <;> rfl
theorem m8 {r:Option Nat} {n:Nat} {P:aj} {f:ej} {args:Array ab} {w:ae} {R:Ending→ae→Prop} (h:Calls P f args w R):CallsIn (fe r) n P f args w R:=by
 cases r
 · exact callsIn_wide.2 h
 · exact (callsIn_wide (n:=n)).2 h
theorem sE {r:Option Nat} {n:Nat} {P:aj} {row:String} {args:Array ab} {w:ae} {R:ab→ae→Prop} (h:Rows P row args w R):RowsIn (fe r) n P row args w R:=fun c cs _=>by
 obtain ⟨v,w',C,A⟩:=h c cs;refine ⟨v,w',C,?_⟩;cases r
 · exact stepsIn_wide.2 A
 · exact stepsIn_wide.2 A
def p6 (ops:List an):Bool:=ops.all fun o=>match o.op with | .defer _=>false | _=>true
def gY (r:Option Nat) (ops:List an):Bool:=match r with | none=>true | some _=>p6 ops
theorem Al {l:List an} (h:p6 l=true):∀ o∈l,∀ c,o.op≠.defer c:=by grind [p6]
theorem td {r:Option Nat} {P:aj} {ops:Array an} {Q:aE→Act→ae→Prop} (A:¬LetsOut Q) (hr:gY r ops.toList=true):∀ (l:List Nat) (a:Act) (w:ae),wpOps P ops Q l a w→wpOpsIn (fe r) 0 P ops Q l a w:=by
 intro l
 induction l with
 | nil=>exact fun _ _ h=>h
 | cons i l ih=>
   intro a w h;simp only [wpOps] at h;simp only [wpOpsIn];cases ho:ops[i]? with
   | none=>simp only [ho] at h ⊢; exact ih a w h
   | some o=>
     simp only [ho] at h ⊢;by_cases hw:gE o (yielded ops a.tmps)=true
     · rw [if_pos hw] at h ⊢;rcases h with h | h
       · refine ⟨fun f _=>ga r f,?_⟩;rw [jl];have C:o.semAt r a.eval=execOp a.eval o:=by
          cases r with
          | none=>rfl
          | some k=>exact Oper.semAt_eq _ _ _<|Al hr o<|om.2<|Array.mem_of_getElem? ho
         rw [C];unfold iR at h;generalize (execOp a.eval o).run P w=x at h;cases x with
         | ok n w'=>
           cases n <;> simp only [oz,k9] at h ⊢ <;>
            first
             | exact ih _ _ h
             | (refine ⟨fun h0=>(by rw [jk] at h0; cases h0),CallsIn.mono (m8 h) fun e w'' he=> ?_⟩
                cases e <;> first | exact ih _ _ he | exact he)
             | exact ⟨fun h0=>(by rw [jk] at h0; cases h0),RowsIn.mono (sE h) fun v w'' he=>ih _ _ he⟩
         | halt x w'=>cases x <;> simp only [oz,k9] at h ⊢ <;> exact h
       · exact absurd h.2 A
     · rw [if_neg hw] at h ⊢;exact ⟨fun f _=>ga r f,ih _ _ h⟩
def aJ (P:aj) (N:Fm) (c:bd) (Q:aE→(Nat→ab)→ae→Prop) (σ:Nat→ab) (w:ae):Prop :=
 c.wpIn (fe N.r) 0 P (lift N Q) (act N σ) w
def bf (P:aj) (N:Fm) (ops:Array an) (Q:aE→(Nat→ab)→ae→Prop) (l:List an) (σ:Nat→ab) (w:ae):Prop :=
 wpList P ops (lift N Q) l (act N σ) w
def eU (K:(Nat→ab)→ae→Prop) (Q:aE→(Nat→ab)→ae→Prop):aE→(Nat→ab)→ae→Prop
 | .normal,σ,w=>K σ w
 | e,σ,w=>Q e σ w
def gR (id:Nat) (Q:aE→(Nat→ab)→ae→Prop):aE→(Nat→ab)→ae→Prop
 | .exit A,σ,w=>if A=id then Q .normal σ w else Q (.exit A) σ w
 | e,σ,w=>Q e σ w
section
variable {P:aj} {N:Fm} {Q:aE→(Nat→ab)→ae→Prop} {σ:Nat→ab} {w:ae} {K:(Nat→ab)→ae→Prop}
theorem zW {Q C:aE→(Nat→ab)→ae→Prop} (h:∀ e σ w,Q e σ w→C e σ w) (e:aE) (a:Act) (w:ae):lift N Q e a w→lift N C e a w:=by
 cases e <;> first | exact fun h=>h.elim | exact fun ⟨σ,ha,A⟩=>⟨σ,ha,h _ _ _ A⟩ | exact fun ⟨σ,ha,A⟩=>⟨σ,ha,fun σ' E=>h _ _ _<|A σ' E⟩
theorem vi {A:aE→(Nat→ab)→ae→Prop} {c:bd} (h:∀ e σ w,Q e σ w→A e σ w) (C:aJ P N c Q σ w):aJ P N c A σ w:=
 wpIn_mono C (zW h)
theorem tn (h:K σ w):eU K Q .normal σ w:=h
theorem te (id:Nat) (h:Q (.exit id) σ w):eU K Q (.exit id) σ w:=h
theorem tr (h:Q .ret σ w):eU K Q .ret σ w:=h
theorem bn {id:Nat} (h:Q .normal σ w):gR id Q .normal σ w:=h
theorem be {id:Nat} (h:Q .normal σ w):gR id Q (.exit id) σ w:=by simpa only [gR,if_true] using h
theorem xM {id A:Nat} (C:A≠id) (h:Q (.exit A) σ w):gR id Q (.exit A) σ w:=by simpa only [gR,if_neg C] using h
theorem br {id:Nat} (h:Q .ret σ w):gR id Q .ret σ w:=h
theorem sq {x y:bd} (h:∀ K:(Nat→ab)→ae→Prop,(∀ σ w,aJ P N y Q σ w→K σ w)→aJ P N x (eU K Q) σ w):aJ P N (.seq x y) Q σ w:=by
 refine wpIn_seq<|wpIn_mono (h (fun σ w=>aJ P N y Q σ w) fun _ _ h=>h) ?_;intro e a w A;cases e with
 | normal=>obtain ⟨σ,rfl,C⟩:=A; exact C
 | panic c=>exact A
 | outgrown=>exact A
 | _=>obtain ⟨σ,rfl,C⟩:=A; exact ⟨σ,rfl,C⟩
theorem uM {x y:bd} (A:(Nat→ab)→ae→Prop) (h:aJ P N x (eU A Q) σ w) (I:∀ σ w,A σ w→aJ P N y Q σ w):aJ P N (.seq x y) Q σ w:=
 sq fun _ E=>vi (fun e _ _ C=>by cases e <;> first | exact E _ _ (I _ _ C) | exact C) h
theorem ct {c:ax} {x y:bd} (A:ev N σ c= .bool true) (h:aJ P N x Q σ w):aJ P N (.cond c x y) Q σ w:=
 wpIn_cond_true (by rw [cD]; exact A) h
theorem cf {c:ax} {x y:bd} (A:ev N σ c= .bool false) (h:aJ P N y Q σ w):aJ P N (.cond c x y) Q σ w:=
 wpIn_cond_false (by rw [cD]; exact A) h
theorem cb {c:ax} {x y:bd} {b:Bool} (A:ev N σ c= .bool b) (E:b=true→aJ P N x Q σ w) (C:b=false→aJ P N y Q σ w):aJ P N (.cond c x y) Q σ w:=by
 cases b
 · exact cf A<|C U
 · exact ct A<|E U
theorem cd {c:ax} {x y:bd} {p:Prop} [Decidable p] (A:ev N σ c= .bool (decide p)) (E:p→aJ P N x Q σ w) (C:¬p→aJ P N y Q σ w):aJ P N (.cond c x y) Q σ w:=by grind [cb]
theorem ak {id:Nat} {c:bd} (h:aJ P N c (gR id Q) σ w):aJ P N (.block id c) Q σ w:=by
 refine wpIn_block<|wpIn_mono h ?_;intro e a w C;cases e with
 | panic c=>exact C
 | outgrown=>exact C
 | exit E=>
   obtain ⟨σ,rfl,A⟩:=C;simp only [gR,Exit.inBlock] at A ⊢;split
   · rename_i e; rw [if_pos e] at A; exact ⟨σ,rfl,A⟩
   · rename_i e; rw [if_neg e] at A; exact ⟨σ,rfl,A⟩
 | _=>obtain ⟨σ,rfl,A⟩:=C; exact ⟨σ,rfl,A⟩
theorem ext {id:Nat} (h:Q (.exit id) σ w):aJ P N (.exit id) Q σ w:=wpIn_exit ⟨σ,rfl,h⟩
theorem Bl (h:Q .normal σ w):aJ P N .skip Q σ w:=wpIn_skip ⟨σ,rfl,h⟩
theorem rt (h:Q .ret σ w):aJ P N .ret Q σ w:=wpIn_ret ⟨σ,rfl,h⟩
def Sl (σ:Nat→ab) (L:List (Nat×ab)):Prop :=L.map (fun p=>σ p.1)=L.map (fun p=>p.2)
def n6 (σ:Nat→ab):List (Nat×ab)→Nat→ab
 | []=>σ
 | p::L=>aG (n6 σ L) p.1 p.2
theorem vd {σ:Nat→ab} :∀ {L:List (Nat×ab)},Sl σ L→n6 σ L=σ
 | [],_=>rfl
 | p::L,h=>by
   have A:σ p.1=p.2:=(wo h).1;have C:Sl σ L:=(wo h).2;rw [n6,vd C,ma A]
theorem fj {c:bd} {L:List (Nat×ab)} (h:Sl σ L) (A:aJ P N c Q (n6 σ L) w):aJ P N c Q σ w:=by rw [vd h] at A; exact A
theorem lp {c:bd} (L:Nat→(Nat→ab)→ae→Prop) (n:Nat) (h0:L n σ w)
 (h:∀ n σ w,L n σ w→aJ P N c (eU (fun σ' w'=> ∃ m,m < n∧L m σ' w') Q) σ w):aJ P N (.loop c) Q σ w:=by
 intro b k cs ai hb hr;have key:∀ n σ w,L n σ w→
  ∃ e M w',lift N Q e M w'∧ArrivesIn (Machine.fenced P<|fe N.r) P (lone (b.atR (act N σ) (.code c:: .inLoop c::k)) cs w) b k cs e M w':=by
  intro n
  induction n using Nat.strongRecOn with
  | _ n ih=>
    intro σ w ac;obtain ⟨e,O,J,I,C⟩:=h n σ w ac b (.inLoop c::k) cs ai hb hr;cases e with
    | normal=>
      obtain ⟨A,rfl,m,hm,ad⟩:=I;obtain ⟨aa,V,aj,ah,ag⟩:=ih m hm A J ad;exact ⟨aa,V,aj,ah,.of_steps (StepsIn.trans C<|.one (fenced_calm hb hr U) stepR_inLoop) ag⟩
    | exit id=>obtain ⟨A,rfl,E⟩:=I; exact ⟨.exit id,act N A,J,⟨A,rfl,E⟩,.pass (x:= .inLoop c) rfl (fun _ _=> .inl<|by simp) C⟩
    | goto l=>obtain ⟨A,rfl,E⟩:=I; exact ⟨.goto l,act N A,J,⟨A,rfl,E⟩,.pass (x:= .inLoop c) rfl (fun _ _=> .inl<|by simp) C⟩
    | ret=>obtain ⟨A,rfl,E⟩:=I; exact ⟨.ret,act N A,J,⟨A,rfl,E⟩,.pass (x:= .inLoop c) rfl (fun _ _=> .inl<|by simp) C⟩
    | panic Z=>exact ⟨.panic Z,O,J,I,.pass (x:= .inLoop c) rfl (fun _ _=> .inl<|by simp) C⟩
    | outgrown=>exact I.elim
 obtain ⟨e,M,w',E,C⟩:=key _ σ w h0;exact ⟨e,M,w',E,.of_steps (.one (fenced_calm hb hr U) stepR_loop) C⟩
def aT (P:aj) (N:Fm) (o:an) (σ:Nat→ab) (w:ae) (K:(Nat→ab)→ae→Prop):Prop :=
 iR P o (act N σ) w (fun a w=> ∃ σ,a=act N σ∧K σ w) (fun _ _ _=>False)
theorem B7 {o:an} {a:Act} {K C:Act→ae→Prop} {Q:aE→Act→ae→Prop} (h:∀ a w,K a w→C a w)
 (r:Result Next) (A:o.upon P a K (fun _ _ _=>False) r):o.upon P a C Q r:=by
 cases r with
 | ok n w'=>
   cases n <;> simp only [oz] at A ⊢ <;>
    first
     | exact h _ _ A
     | exact ik A (fun e w'' he=>by
      cases e with
      | returned v=>exact h _ _ he
      | panicked c=>exact he.elim
      | outgrown=>obtain ⟨_,_,E⟩:=he; exact E.elim)
     | exact Rows.mono A fun _ _ he=>h _ _ he
 | halt x w'=>cases x <;> simp only [oz] at A ⊢
theorem oc {K:(Nat→ab)→ae→Prop} {A:Act→ae→Prop} {Q:aE→Act→ae→Prop} {o:an} (h:aT P N o σ w K) (E:∀ σ w,K σ w→A (act N σ) w):o.wp P (act N σ) w A Q:=by
 unfold aT at h;unfold iR at*;exact B7 (fun a w ⟨σ,ha,C⟩=>by subst ha; exact E _ _ C) _ h
theorem vk {K A:(Nat→ab)→ae→Prop} {o:an} (h:aT P N o σ w K) (E:∀ σ w,K σ w→A σ w):aT P N o σ w A:=
 oc h (fun σ w C=>⟨σ,rfl,E σ w C⟩)
variable {ops:Array an} {rest:List an} {d:Nat} {op:Op} {ty:ai} {pos :String} {af:Array bD} {d':Option Nat} {v:ab} {o:an}
theorem oa (A:gE o (yielded ops (act N σ).tmps)=true) (h:aT P N o σ w (fun σ w=>bf P N ops Q rest σ w)):bf P N ops Q (o::rest) σ w:=by
 unfold bf wpList;rw [if_pos A];exact .inl<|oc h fun _ _ C=>C
theorem eH {K:(Nat→ab)→ae→Prop} {w':ae} (hr:(execOp (ev N σ) o).run P w= .ok (.value v) w') (A:K (bR σ o.dst v) w'):aT P N o σ w K:=by
 unfold aT iR;rw [cD,hr];exact ⟨_,dv ..,A⟩
theorem fw (o:an) (A:o.guard=none) (y:Nat→Option Bool):gE o y=true :=by simp [gE,A]
def cG (ops:Array an) (j:Nat):Option Nat:=(ops[j]?).bind (·.dst)
theorem jH {j t:Nat} {want b:Bool} (E:o.guard=some (j,want)) (A:cG ops j=some t) (I:aq t N.n=true) (J:σ t= .bool b):
 gE o (yielded ops (act N σ).tmps)=(b==want):=by
 have C:yielded ops (act N σ).tmps j=some b:=by
  unfold yielded;unfold cG at A;rw [A];simp only [xd,fc];rw [if_pos (iY (iv t)<|aP I),J]
 simp only [gE,E,C];cases b <;> cases want <;> rfl
theorem qT {j t:Nat} {want:Bool} (E:o.guard=some (j,want)) (A:cG ops j=some t) (I:aq t N.n=true) (J:σ t=undef):
 gE o (yielded ops (act N σ).tmps)=false :=by
 have C:yielded ops (act N σ).tmps j=none:=by
  unfold yielded;unfold cG at A;rw [A];simp only [xd,fc];rw [if_pos (iY (iv t)<|aP I),J]; rfl
 simp only [gE,E,C];rfl
theorem p (h:(execOp (ev N σ) ⟨some d,op,ty,pos,af,none⟩).run P w= .ok (.value v) w) (k:bf P N ops Q rest (aG σ d v) w):
 bf P N ops Q (⟨some d,op,ty,pos,af,none⟩::rest) σ w:=
 oa (fw _ rfl _) (eH h k)
theorem pg {j t:Nat} {want:Bool} (A:cG ops j=some t) (C:aq t N.n=true) (E:σ t= .bool want)
 (h:(execOp (ev N σ) ⟨some d,op,ty,pos,af,some (j,want)⟩).run P w= .ok (.value v) w) (k:bf P N ops Q rest (aG σ d v) w):
 bf P N ops Q (⟨some d,op,ty,pos,af,some (j,want)⟩::rest) σ w:=
 oa (by rw [jH rfl A C E]; cases want <;> rfl) (eH h k)
theorem sk {j t:Nat} {want b:Bool} (A:cG ops j=some t) (C:aq t N.n=true) (E:σ t= .bool b) (hb:(b==want)=false)
 (k:bf P N ops Q rest (aG σ d undef) w):bf P N ops Q (⟨some d,op,ty,pos,af,some (j,want)⟩::rest) σ w:=by
 unfold bf wpList;rw [if_neg (by rw [jH rfl A C E,hb]; simp),dv];exact k
theorem uJ {j t:Nat} {want:Bool} (A:cG ops j=some t) (C:aq t N.n=true) (E:σ t=undef)
 (k:bf P N ops Q rest (aG σ d undef) w):bf P N ops Q (⟨some d,op,ty,pos,af,some (j,want)⟩::rest) σ w:=by
 unfold bf wpList;rw [if_neg (by rw [qT rfl A C E]; simp),dv];exact k
theorem e (h:aT P N ⟨d',op,ty,pos,af,none⟩ σ w (fun σ w=>bf P N ops Q rest σ w)):bf P N ops Q (⟨d',op,ty,pos,af,none⟩::rest) σ w:=
 oa (fw _ rfl _) h
theorem eg {j t:Nat} {want:Bool} (A:cG ops j=some t) (C:aq t N.n=true) (E:σ t= .bool want)
 (h:aT P N ⟨d',op,ty,pos,af,some (j,want)⟩ σ w (fun σ w=>bf P N ops Q rest σ w)):bf P N ops Q (⟨d',op,ty,pos,af,some (j,want)⟩::rest) σ w:=by grind [oa,jH]
theorem nl (h:Q .normal σ w):bf P N ops Q [] σ w:=⟨σ,rfl,h⟩
theorem tC:¬LetsOut (lift N Q):=fun ⟨_,_,h⟩=>h
theorem rg {id:Nat} {l:List an} (hr:gY N.r l=true) (h:bf P N l.toArray Q l σ w):aJ P N (.region id l.toArray false) Q σ w:=by
 refine wpIn_region<|td tC hr _ _ _ ?_;have A:=wpOps_eq_wpList (P:=P) (ops:=l.toArray) (Q:=lift N Q) l 0 fun j=>by simp
 rw [List.range_eq_range',c7,A];exact h
theorem gs {l:List an} {t:Nat} {q:Prop} [Decidable q] (h:σ t= .bool (decide q)) (E:q→bf P N ops Q l (aG σ t<|.bool true) w) (C:¬q→bf P N ops Q l (aG σ t<|.bool false) w):bf P N ops Q l σ w:=by
 by_cases A:q
 · have :=E A; rwa [ma (by rw [h,decide_eq_true A])] at this
 · have :=C A; rwa [ma (by rw [h,decide_eq_false A])] at this
theorem gb {l:List an} {t:Nat} {b:Bool} (h:σ t= .bool b) (C:b=true→bf P N ops Q l (aG σ t<|.bool true) w) (A:b=false→bf P N ops Q l (aG σ t<|.bool false) w):bf P N ops Q l σ w:=by
 cases b
 · have :=A rfl; rwa [ma h] at this
 · have :=C rfl; rwa [ma h] at this
def bY (P:aj) (N:Fm) (ops:Array an) (Q:aE→(Nat→ab)→ae→Prop) (S:ae→Prop) (fuel:Nat) (listed:Array Bool) (σ:Nat→ab) (w:ae):Prop :=
 wpAnyH P .any ops (lift N Q) S fuel listed (act N σ) w
variable {S:ae→Prop} {fuel:Nat} {listed:Array Bool}
theorem rE {id:Nat} {l:List an} (hr:gY N.r l=true) (hm:P.follows .mixedOrders=true) (h:wpAny P .any l.toArray (lift N Q) l.toArray.size (mi l.toArray.size false) (act N σ) w.drew):aJ P N (.region id l.toArray true) Q σ w:=by
 refine wpIn_region_draw fun t=>td tC hr _ _ _ ?_;simp only [Region.schedule,hm,Bool.true_or,if_true];exact wpAny_sound _ t _ _ _ h
theorem bh {id:Nat} {l:List an} (S:ae→Prop) (hr:gY N.r l=true) (hm:P.follows .mixedOrders=true) (A:S w.drew) (h:bY P N l.toArray Q S l.length (mi l.length false) σ w.drew):aJ P N (.region id l.toArray true) Q σ w:=
 rE hr hm (wpAny_of_held _ _ _ _<|by rw [c7]; exact h)
def qc (F:List Nat) (d:Option Nat):Bool:=match d with | some d=> !(F.contains d) | none=>true
def da (F:List Nat) (ops:Array an) (listed:Array Bool) (i:Nat):Bool:=
 Region.noSelect ops && Region.free .any ops listed i && (cT .any ops listed).contains i && qc F ((ops[i]?).bind (·.dst))
theorem jt {d:Option Nat} {v:ab} (C:qc N.F d=true) (c:List PanicEntry) (a:Act) (w:ae):lift N Q (.panic c) (a.put d v) w→lift N Q (.panic c) a w:=by
 rintro ⟨σ,ha,h⟩;cases d with
 | none=>exact ⟨σ,ha,h⟩
 | some d=>
   have M:a.tmps.size=N.n:=by
    have :=congrArg (fun x:Act=>x.tmps.size) ha;simpa [Act.put,act] using this
   have I:a.defers=N.D:=congrArg (fun x:Act=>x.defers) ha;have J:∀ i:Nat,i≠d→a.tmps[i]? =if i < N.n then some (σ i) else none:=fun i hi=>by
    have A:(a.put (some d) v).tmps[i]? =a.tmps[i]? :=by
     show (a.tmps.setIfInBounds d v)[i]? =_;rw [kR,if_neg (fun e=>hi e.symm)]
    rw [← A,ha,fc]
   refine ⟨fun i=>if i < N.n then a.tmps.getD i undef else σ i,mK I fun i=> ?_,fun σ' E=>h σ' fun i hi=> ?_⟩
   · rw [fc];by_cases A:i < N.n
     · rw [if_pos A,if_pos A,eW,jK ag]; rfl
     · rw [if_neg A,og ag]
   · have L:i≠d:=by
      rintro rfl;simp only [qc,gz,List.contains_eq_mem,decide_eq_false_iff_not] at C;exact C hi
     rw [E i hi];by_cases A:i < N.n
     · simp only [if_pos A];rw [eW,J i L,if_pos A]; rfl
     · simp only [if_neg A]
theorem hp (i:Nat) (hi:ops[i]? =some ⟨some d,op,ty,pos,af,none⟩) (A:da N.F ops listed i=true)
 (E:∀ w,S w→(execOp (ev N σ) ⟨some d,op,ty,pos,af,none⟩).run P w= .ok (.value v) w) (C:S w)
 (k:bY P N ops Q S fuel (listed.setIfInBounds i true) (aG σ d v) w):bY P N ops Q S (fuel+1) listed σ w:=by
 simp only [da,aD] at A;refine wpAnyH_take hi A.1.1.1 A.1.1.2 A.1.2 (fun c a w=>jt (by have :=A.2; rwa [hi] at this) c a w) (.inl ⟨fw _ rfl _,fun w C=> ?_⟩) C ?_ (v:=v)
 · rw [cD]; exact E w C
 · rw [dv]; exact k
theorem sZ (i:Nat) {j t:Nat} {want:Bool} (hi:ops[i]? =some ⟨some d,op,ty,pos,af,some (j,want)⟩) (A:da N.F ops listed i=true)
 (E:cG ops j=some t) (I:aq t N.n=true) (J:σ t= .bool want)
 (L:∀ w,S w→(execOp (ev N σ) ⟨some d,op,ty,pos,af,some (j,want)⟩).run P w= .ok (.value v) w) (C:S w)
 (k:bY P N ops Q S fuel (listed.setIfInBounds i true) (aG σ d v) w):bY P N ops Q S (fuel+1) listed σ w:=by
 simp only [da,aD] at A;refine wpAnyH_take hi A.1.1.1 A.1.1.2 A.1.2 (fun c a w=>jt (by have :=A.2; rwa [hi] at this) c a w) (.inl ⟨by rw [jH U E I J]; cases want <;> rfl,fun w C=> ?_⟩) C ?_ (v:=v)
 · rw [cD]; exact L w C
 · rw [dv]; exact k
theorem ta (i:Nat) {j t:Nat} {want b:Bool} (hi:ops[i]? =some ⟨some d,op,ty,pos,af,some (j,want)⟩) (A:da N.F ops listed i=true)
 (E:cG ops j=some t) (I:aq t N.n=true) (J:σ t= .bool b) (hb:(b==want)=false) (C:S w)
 (k:bY P N ops Q S fuel (listed.setIfInBounds i true) (aG σ d undef) w):bY P N ops Q S (fuel+1) listed σ w:=by
 simp only [da,aD] at A;refine wpAnyH_take hi A.1.1.1 A.1.1.2 A.1.2 (fun c a w=>jt (by have :=A.2; rwa [hi] at this) c a w) (.inr ⟨by rw [jH U E I J,hb],U⟩) C ?_ (v:=undef);rw [dv]; exact k
theorem zr (i:Nat) {j t:Nat} {want:Bool} (hi:ops[i]? =some ⟨some d,op,ty,pos,af,some (j,want)⟩) (A:da N.F ops listed i=true)
 (E:cG ops j=some t) (I:aq t N.n=true) (J:σ t=undef) (C:S w)
 (k:bY P N ops Q S fuel (listed.setIfInBounds i true) (aG σ d undef) w):bY P N ops Q S (fuel+1) listed σ w:=by
 simp only [da,aD] at A;refine wpAnyH_take hi A.1.1.1 A.1.1.2 A.1.2 (fun c a w=>jt (by have :=A.2; rwa [hi] at this) c a w) (.inr ⟨qT U E I J,U⟩) C ?_ (v:=undef);rw [dv]; exact k
def kz (ops:Array an) (listed:Array Bool) (i:Nat):Bool:=(cT .any ops listed)== [i]
theorem he (i:Nat) (hi:ops[i]? =some ⟨d',op,ty,pos,af,none⟩) (hr:kz ops listed i=true)
 (h:aT P N ⟨d',op,ty,pos,af,none⟩ σ w (fun σ w=>S w∧bY P N ops Q S fuel (listed.setIfInBounds i true) σ w)):bY P N ops Q S (fuel+1) listed σ w:=by
 refine wpAnyH_all (rs:= [i]) (by simpa [kz] using hr) (by simp) ?_;intro k A;obtain rfl :k=i:=by simpa using A
 unfold wpOp;simp only [hi];rw [if_pos (fw _ rfl _)];exact .inl<|oc h fun _ _ A=>A
theorem hn (hr:(cT .any ops listed).isEmpty=true) (h:Q .normal σ w):bY P N ops Q S fuel listed σ w:=
 wpAnyH_done (by simpa using hr) ⟨σ,rfl,h⟩ fuel
end
def aO (P:aj) (f:ej) (args:Array ab) (w:ae) (R:ab→ae→Prop):Prop :=
 Calls P f args w fun e w'=> ∃ v,e= .returned v∧R v w'
theorem aO.mono {P:aj} {f:ej} {args:Array ab} {w:ae} {R A:ab→ae→Prop} (h:aO P f args w R) (hr:∀ v w',R v w'→A v w'):aO P f args w A:=
 ik h fun _ _ ⟨v,he,C⟩=>⟨v,he,hr _ _ C⟩
def cY (args:List ab):Nat→ab:=fun i=>args.getD i undef
def fin (P:aj) (fn:Func) (N:Fm) (R:ab→ae→Prop):aE→(Nat→ab)→ae→Prop
 | .normal,σ,w=> ∃ v,(results fn (act N σ).tmps).run P w= .ok v w∧R v w
 | .ret,σ,w=> ∃ v,(results fn (act N σ).tmps).run P w= .ok v w∧R v w
 | _,_,_=>False
theorem enter {P:aj} {f:ej} {N:Nat} {fn:Func} {c:bd} {args:List ab} {w:ae} {R:ab→ae→Prop} (M:P.funcs[f]? =some fn) (hb:fn.body=some c)
 (L:fn.ntmps=N) (hn:aA args.length N=true) (h:aJ P ⟨N,[],[],none⟩ c (fin P fn ⟨N,[],[],none⟩ R) (cY args) w):aO P f args.toArray w R:=by
 subst L;refine calls_of_wp M hb ?_;have ha:({tmps:=args.toArray++mi (fn.ntmps - args.toArray.size) undef,defers:= []} :Act)=act ⟨fn.ntmps,[],[],none⟩ (cY args):=by
  have O:args.length≤fn.ntmps:=by simpa using hn
  refine mK U fun i=> ?_;rw [fc];simp only [cY,iU,c7];by_cases E:i < args.length
  · rw [Array.getElem?_append_left (by simpa using E),if_pos ag];simp [E]
  · rw [Array.getElem?_append_right (by simpa using E)];simp only [c7,Array.getElem?_replicate];by_cases J:i < fn.ntmps
    · rw [if_pos ag,if_pos J,List.getElem?_eq_none ag]; rfl
    · rw [if_neg ag,if_neg J]
 rw [ha];refine Code.wp_mono ?_<|wpIn_wide.1 h;intro e a w A;cases e with
 | normal=>obtain ⟨σ,rfl,v,hr,I⟩:=A; exact ⟨rfl,v,hr,v,rfl,I⟩
 | ret=>obtain ⟨σ,rfl,v,hr,I⟩:=A; exact ⟨rfl,v,hr,v,rfl,I⟩
 | exit id=>obtain ⟨σ,rfl,C⟩:=A; exact C.elim
 | goto l=>obtain ⟨σ,rfl,C⟩:=A; exact C.elim
 | panic c=>obtain ⟨σ,rfl,C⟩:=A; exact (C σ fun _ _=>rfl).elim
 | outgrown=>exact A.elim
section
variable {P:aj} {N:Fm} {σ:Nat→ab} {w:ae} {fn:Func} {R:ab→ae→Prop}
theorem kP (t:Nat):(act N σ).tmps.getD t undef=ev N σ (.tmp t):=by
 rw [← cD]; rfl
theorem f0 (h:fn.results= #[]) (A:R (.tuple #[]) w):fin P fn N R .normal σ w:=⟨_,results_none h _ _ _,A⟩
theorem f1 {t:Nat} {v:ab} (h:fn.results= #[.tmp t]) (C:ev N σ (.tmp t)=v) (A:R v w):fin P fn N R .ret σ w:=
 ⟨v,by rw [results_tmp h,kP,C],A⟩
theorem f2 {t u:Nat} {v A:ab} (h:fn.results= #[.tmp t,.tmp u]) (E:ev N σ (.tmp t)=v) (hu:ev N σ (.tmp u)=A) (C:R (.tuple #[v,A]) w):fin P fn N R .ret σ w:=
 ⟨_,by rw [results_tmp2 h,kP,kP,E,hu],C⟩
end
attribute [irreducible] bf aJ bY aT
end Go.Hb
namespace Go.Hb
def aK (h:Array Obj) (b off :Nat):Option ab:=
 match h[b]? with
 | some (.cells c _ _)=>c[off]?
 | _=>none
theorem et (w:ae) (b off :Nat):w.cell? ⟨b,off,none⟩=aK w.heap b off :=by
 unfold vV aK;simp only;split <;> simp_all
theorem dQ {h:Array Obj} {b off :Nat} {c:Array ab} {t:ai} {f:Nat×Nat} (hb:h[b]? =some (.cells c t f)):aK h b off =c[off]? :=by
 simp only [aK,hb]
theorem x9 {h:Array Obj} {b off :Nat} {v:ab} (A:aK h b off =some v):b < h.size:=by grind [aK]
structure Md (F:Nat→Prop) (w w':ae):Prop where
 os:w'.os=w.os
 output:w'.output=w.output
 size:w.heap.size≤w'.heap.size
 bW:∀ k,k < w.heap.size→¬F k→w'.heap[k]? =w.heap[k]?
abbrev Wk (w w':ae):Prop :=Md (fun _=>False) w w'
theorem Md.refl (F:Nat→Prop) (w:ae):Md F w w:=⟨rfl,rfl,aI _,fun _ _ _=>rfl⟩
theorem Md.drew {F:Nat→Prop} {w w':ae} (h:Md F w w'):Md F w w'.drew:=⟨h.os,h.output,h.size,h.bW⟩
theorem Md.mono {F G:Nat→Prop} {w w':ae} (h:Md F w w') (E:∀ k,k < w.heap.size→F k→G k):Md G w w':=
 ⟨h.os,h.output,h.size,fun k A I=>h.bW k A fun C=>I<|E k A C⟩
theorem Md.trans {F:Nat→Prop} {a b c:ae} (h:Md F a b) (A:Md F b c):Md F a c:=
 ⟨A.os.trans h.os,A.output.trans h.output,bK h.size A.size,fun k E C=>(A.bW k (iY E h.size) C).trans<|h.bW k E C⟩
theorem Md.trans' {F G:Nat→Prop} {a b c:ae} (h:Md F a b) (A:Md G b c) (I:∀ k,k < a.heap.size→G k→F k):Md F a c:=
 ⟨A.os.trans h.os,A.output.trans h.output,bK h.size A.size,
  fun k C E=>(A.bW k (iY C h.size) fun x=>E<|I k C x).trans (h.bW k C E)⟩
theorem Md.ak {F:Nat→Prop} {w w':ae} (h:Md F w w') {k:Nat} {o:Obj} (A:w.heap[k]? =some o) (C:¬F k):w'.heap[k]? =some o:=
 (h.bW k (bu.1 A).1 C).trans A
theorem Md.aK {F:Nat→Prop} {w w':ae} (h:Md F w w') {b off :Nat} {v:ab} (A:Hb.aK w.heap b off =some v) (C:¬F b):Hb.aK w'.heap b off =some v:=by
 have :=h.bW b (x9 A) C;unfold Hb.aK at*;rw [this]; exact A
theorem Wk.aK {w w':ae} (h:Wk w w') {b off :Nat} {v:ab} (A:Hb.aK w.heap b off =some v):Hb.aK w'.heap b off =some v:=Md.aK h A id
theorem Wk.ak {w w':ae} (h:Wk w w') {k:Nat} {o:Obj} (A:w.heap[k]? =some o):w'.heap[k]? =some o:=Md.ak h A id
structure Nw (w w':ae):Prop where
 md:Wk w w'
 size:w'.heap.size=w.heap.size+1
 one:∃ o,w'= {w with heap:=w.heap.push o}
theorem tW (w:ae) (o:Obj):Nw w {w with heap:=w.heap.push o} :=
 ⟨⟨rfl,rfl,by simp,fun k A _=>by show (w.heap.push o)[k]? =_; rw [Array.getElem?_push,if_neg ag]⟩,by simp,o,rfl⟩
def cP (P:aj) (t:ai):Option (Option Nat):=
 match P.underlying t with
 | some (.struct _) | some (.array _ _)=>((P.info? t).map (·.size)).map some
 | some _=>some none
 | none=>none
def kj (P:aj) (s f:Nat):Option Nat:=
 match P.underlying s with
 | some (.struct A)=>match A[f]? with
   | some fd=>match P.info? fd.type with
     | some i=>if i.size=0 then none else some fd.offset
     | none=>none
   | none=>none
 | _=>none
def cC (P:aj) (t:ai):Option Nat:=
 match P.underlying t with
 | some (.slice e)=>(P.info? e).map (·.size)
 | _=>none
section
variable {P:aj} {N:Fm} {σ:Nat→ab} {w:ae} {dst:Option Nat} {ty:ai} {pos :String} {af:Array bD} {g:Option (Nat×Bool)} {x y z:ax}
theorem aC {t:ai} {d:TypeDesc} (h:P.underlying t=some d) (w:ae):(underlying t).run P w= .ok d w:=by
 simp [underlying,h]
theorem bU {t:ai} {i:TypeInfo} (h:P.info? t=some i) (w:ae):(typeInfo t).run P w= .ok i w:=by
 simp [typeInfo,h]
theorem mv:(execOp (ev N σ) ⟨dst,.move x,ty,pos,af,g⟩).run P w= .ok (.value<|ev N σ x) w:=rfl
theorem aF:(execOp (ev N σ) ⟨dst,.assign x,ty,pos,af,g⟩).run P w= .ok (.value<|ev N σ x) w:=rfl
theorem nC (v:ab) (h:ev N σ x=v):(execOp (ev N σ) ⟨dst,.move x,ty,pos,af,g⟩).run P w= .ok (.value v) w:=by rw [← h]; rfl
theorem qk {c:ax} (A:ev N σ c= .bool true):(execOp (ev N σ) ⟨dst,.pick c x y,ty,pos,af,g⟩).run P w= .ok (.value<|ev N σ x) w:=by
 simp [execOp,A,asBool]
theorem uj {c:ax} (A:ev N σ c= .bool false):(execOp (ev N σ) ⟨dst,.pick c x y,ty,pos,af,g⟩).run P w= .ok (.value<|ev N σ y) w:=by
 simp [execOp,A,asBool]
theorem nc {a:aB} (A:ev N σ x= .pointer (some a)):(execOp (ev N σ) ⟨dst,.nilCheck x,ty,pos,af,g⟩).run P w= .ok (.value<|.pointer<|some a) w:=by
 simp [execOp,A]
theorem xt {i:Nat} {A:Array ab} {v:ab} (E:ev N σ x= .tuple A) (C:A[i]? =some v):(execOp (ev N σ) ⟨dst,.extract x i,ty,pos,af,g⟩).run P w= .ok (.value v) w:=by
 simp [execOp,E,Instr.extract,C]
theorem fa {s f n b off :Nat} (A:kj P s f=some n) (I:ev N σ x= .pointer (some ⟨b,off,none⟩)):
 (execOp (ev N σ) ⟨dst,.fieldAddr s x f,ty,pos,af,g⟩).run P w= .ok (.value<|.pointer<|some ⟨b,off+n,none⟩) w:=by
 unfold kj at A;split at A
 · rename_i L hu;split at A
   · rename_i fd E;split at A
     · rename_i i hi;split at A
       · cases A
       · rename_i J;cases A;have C:(⟨b,off,none⟩:aB).add fd.offset=⟨b,off+fd.offset,none⟩:=by unfold oq; split <;> simp_all
         simp [execOp,Instr.fieldAt,aC hu,E,I,kY,fieldPlace,sizeOf,bU hi,J,C]
     · cases A
   · cases A
 · cases A
theorem ld {t b off :Nat} {v:ab} (hu:cP P t=some none) (E:ev N σ x= .pointer (some ⟨b,off,none⟩)) (A:aK w.heap b off =some v):
 (execOp (ev N σ) ⟨dst,.load t x,ty,pos,af,g⟩).run P w= .ok (.value v) w:=by
 have C:w.cell? ⟨b,off,none⟩=some v:=by rw [et]; exact A
 unfold cP at hu;cases hd:P.underlying t with
 | none=>rw [hd] at hu; cases hu
 | some d=>
   rw [hd] at hu;cases d <;> first
    | (simp only [eJ] at hu; obtain ⟨_,_,h⟩:=hu; cases h; done)
    | simp [execOp,vJ,E,kY,loadVar,isAgg,aC hd,run_load,C]
theorem cE (b off j:Nat):(⟨b,off,none⟩:aB).add j=⟨b,off+j,none⟩:=by
 unfold oq; split <;> simp_all
theorem tA {t n b off :Nat} {cs:List ab} (hu:cP P t=some (some n)) (J:ev N σ x= .pointer (some ⟨b,off,none⟩)) (I:cs.length=n)
 (C:∀ j,j < n→aK w.heap b (off+j)=cs[j]?):
 (execOp (ev N σ) ⟨dst,.load t x,ty,pos,af,g⟩).run P w= .ok (.value<|.agg cs.toArray) w:=by
 have E:(loadCells ⟨b,off,none⟩ n).run P w= .ok cs.toArray w:=by
  subst I;refine run_loadCells_list (P:=P) w ⟨b,off,none⟩ cs fun j v A=> ?_;rw [cE,et];exact (C j (bZ.1 A).1).trans A
 unfold cP at hu;cases hd:P.underlying t with
 | none=>rw [hd] at hu; cases hu
 | some d=>
   rw [hd] at hu;cases hi:P.info? t with
   | none=>simp [Program.underlying,hi] at hd
   | some i=>
     rw [hi] at hu;cases d <;> first
      | (cases hu; done)
      | (simp only [cM,aQ] at hu; subst hu
         simp [execOp,vJ,J,kY,loadVar,isAgg,aC hd,sizeOf,bU hi,E])
theorem ia {t n b off len cap:Nat} {k:aH} {i:Int} (he:cC P t=some n) (A:ev N σ x= .slice (some ⟨b,off,none⟩) len cap) (C:ev N σ y= .int k i) (h0:0≤i∧i < len):
 (execOp (ev N σ) ⟨dst,.indexAddr t x y,ty,pos,af,g⟩).run P w= .ok (.value<|.pointer<|some ⟨b,off+i.toNat*n,none⟩) w:=by
 unfold cC at he;cases hd:P.underlying t with
 | none=>rw [hd] at he; cases he
 | some d=>
   rw [hd] at he;cases d <;> first | (cases he; done) | skip
   rename_i e;cases hi:P.info? e with
   | none=>simp [hi] at he
   | some j=>
     simp only [hi,cM,aQ] at he;subst he;simp [execOp,vI,A,C,asIntOf,aC hd,h0.1,h0.2,sizeOf,bU hi,cE]
def bT (a:Option aB) (cap l n:Nat):Option aB:=if cap=l then a else a.map (·.add (l*n))
theorem qD {t n len cap:Nat} {a:Option aB} {lo hi:Option ab} {l h:Nat} (he:cC P t=some n) (E:ev N σ x= .slice a len cap)
 (hb:(gD true len cap lo hi none).run P w= .ok (l,h,cap) w) (A C:Option ax) (I:A.map (ev N σ)=lo) (J:C.map (ev N σ)=hi):
 (execOp (ev N σ) ⟨dst,.slice t x A C none,ty,pos,af,g⟩).run P w= .ok (.value<|.slice (bT a cap l n) (h - l)<|cap - l) w:=by
 unfold cC at he;cases hd:P.underlying t with
 | none=>rw [hd] at he; cases he
 | some d=>
   rw [hd] at he;cases d <;> first | (cases he; done) | skip
   rename_i e;cases hi':P.info? e with
   | none=>simp [hi'] at he
   | some j=>
     simp only [hi',cM,aQ] at he;subst he;simp [execOp,jQ,mq,E,I,J,aC hd,hb,sizeOf,bU hi',bT]
theorem qE {t n len cap:Nat} {a:Option aB} {k:aH} {i:Int} (he:cC P t=some n) (C:ev N σ x= .slice a len cap) (E:ev N σ z= .int k i) (h0:0≤i∧i≤cap):
 (execOp (ev N σ) ⟨dst,.slice t x none (some z) none,ty,pos,af,g⟩).run P w= .ok (.value<|.slice a i.toNat cap) w:=by
 have :=qD (dst:=dst) (ty:=ty) (pos :=pos) (af:=af) (g:=g) (w:=w) (lo:=none) (hi:=some<|.int k i) (l:=0) (h:=i.toNat) he C
  (by simp [gD,jR,asIntOf,h0.1,h0.2]) none (some z) rfl (by simp [E])
 rw [this];have A:bT a cap 0 n=a:=by
  unfold bT; split
  · rfl
  · cases a <;> simp [oq]
 rw [A]; rfl
theorem nX {t n len cap:Nat} {a:Option aB} {k:aH} {i:Int} (he:cC P t=some n) (A:ev N σ x= .slice a len cap) (C:ev N σ y= .int k i) (h0:0≤i∧i≤len):
 (execOp (ev N σ) ⟨dst,.slice t x (some y) none none,ty,pos,af,g⟩).run P w= .ok (.value<|.slice (bT a cap i.toNat n) (len - i.toNat)<|cap - i.toNat) w:=
 qD (lo:=some<|.int k i) (hi:=none) he A
  (by simp [gD,jR,asIntOf,h0.1,h0.2]) (some y) none (by simp [C]) rfl
theorem nW {t n len cap:Nat} {a:Option aB} {k A:aH} {i j:Int} (he:cC P t=some n) (I:ev N σ x= .slice a len cap) (J:ev N σ y= .int k i) (L:ev N σ z= .int A j) (h0:0≤i∧i≤j∧j≤cap):
 (execOp (ev N σ) ⟨dst,.slice t x (some y) (some z) none,ty,pos,af,g⟩).run P w= .ok (.value<|.slice (bT a cap i.toNat n) (j.toNat - i.toNat)<|cap - i.toNat) w:=by
 have C:0≤j:=ag;have E:i≤(j.toNat:Int):=ag;refine qD (lo:=some<|.int k i) (hi:=some<|.int A j) he I ?_ (some y) (some z) (by simp [J])<|by simp [L]
 simp only [gD,jR,asIntOf,ek,fP,dV,mz,h0.1,C,h0.2.2,E,and_self,if_true]
theorem n7 {n:Int} (h: -9223372036854775808≤n∧n≤9223372036854775807):oy.wrap n=n:=IntWalk.i64_in n h
theorem qU {n:Int} (h: -2147483648≤n∧n≤2147483647):IntKind.i32.wrap n=n:=IntWalk.i32_in n h
theorem vn {n:Int} (h:0≤n∧n≤255):IntKind.u8.wrap n=n:=IntWalk.u8_in n h
theorem vl {n:Int} (h:0≤n∧n≤4294967295):IntKind.u32.wrap n=n:=IntWalk.u32_in n h
theorem vm {n:Int} (h:0≤n∧n≤18446744073709551615):IntKind.u64.wrap n=n:=IntWalk.u64_in n h
theorem ad {t E:ai} {k:aH} {a b:Int} (A:ev N σ x= .int k a) (C:ev N σ y= .int k b) (hr:k.wrap (a+b)=a+b):
 (execOp (ev N σ) ⟨dst,.binOp .add t x y E,ty,pos,af,g⟩).run P w= .ok (.value<|.int k<|a+b) w:=by
 simp [execOp,A,C,eqGuard,binOp,mu,hr]
theorem rD {t E:ai} {k:aH} {a b:Int} (v:Int) (A:ev N σ x= .int k a) (C:ev N σ y= .int k b) (hr:k.wrap (a+b)=v):
 (execOp (ev N σ) ⟨dst,.binOp .add t x y E,ty,pos,af,g⟩).run P w= .ok (.value<|.int k v) w:=by
 subst hr; simp [execOp,A,C,eqGuard,binOp,mu]
theorem uB {t E:ai} {k:aH} {a b:Int} (v:Int) (A:ev N σ x= .int k a) (C:ev N σ y= .int k b) (hr:k.wrap (a - b)=v):
 (execOp (ev N σ) ⟨dst,.binOp .sub t x y E,ty,pos,af,g⟩).run P w= .ok (.value<|.int k v) w:=by
 subst hr; simp [execOp,A,C,eqGuard,binOp,mu]
theorem Af {t E:ai} {k:aH} {a b:Int} (v:Int) (A:ev N σ x= .int k a) (C:ev N σ y= .int k b) (hr:k.wrap (a*b)=v):
 (execOp (ev N σ) ⟨dst,.binOp .mul t x y E,ty,pos,af,g⟩).run P w= .ok (.value<|.int k v) w:=by
 subst hr; simp [execOp,A,C,eqGuard,binOp,mu]
theorem ve {a:Int} {n:Nat} (h:a=n) (hn:n≤9223372036854775807):oy.wrap a=(n:Int):=by rw [h]; exact n7 ag
theorem bv {p q:Prop} [Decidable p] [Decidable q] (h:p↔q):dh (decide p)=dh (decide q):=by rw [decide_eq_decide.2 h]
theorem sb {t E:ai} {k:aH} {a b:Int} (A:ev N σ x= .int k a) (C:ev N σ y= .int k b) (hr:k.wrap (a - b)=a - b):
 (execOp (ev N σ) ⟨dst,.binOp .sub t x y E,ty,pos,af,g⟩).run P w= .ok (.value<|.int k<|a - b) w:=by
 simp [execOp,A,C,eqGuard,binOp,mu,hr]
theorem AP {t E:ai} {k:aH} {a b:Int} (v:Int) (A:ev N σ x= .int k a) (C:ev N σ y= .int k b) (h0:0≤a∧0 < b) (hr:k.wrap (a / b)=v):
 (execOp (ev N σ) ⟨dst,.binOp .quo t x y E,ty,pos,af,g⟩).run P w= .ok (.value<|.int k v) w:=by
 have :a.tdiv b=a / b:=Int.tdiv_eq_ediv_of_nonneg h0.1;subst hr; simp [execOp,A,C,eqGuard,binOp,Op.intDiv,show b≠0 from by omega,this]
theorem rm {t E:ai} {k:aH} {a b:Int} (A:ev N σ x= .int k a) (C:ev N σ y= .int k b) (h0:0≤a∧0 < b):
 (execOp (ev N σ) ⟨dst,.binOp .rem t x y E,ty,pos,af,g⟩).run P w= .ok (.value<|.int k<|a % b) w:=by
 have :a.tmod b=a % b:=Int.tmod_eq_emod_of_nonneg h0.1;simp [execOp,A,C,eqGuard,binOp,Op.intDiv,show b≠0 from by omega,this]
theorem lt {t E:ai} {k:aH} {a b:Int} (A:ev N σ x= .int k a) (C:ev N σ y= .int k b):
 (execOp (ev N σ) ⟨dst,.binOp .lss t x y E,ty,pos,af,g⟩).run P w= .ok (.value<|.bool<|decide (a < b)) w:=by
 simp [execOp,A,C,eqGuard,binOp,kZ]
theorem le {t E:ai} {k:aH} {a b:Int} (A:ev N σ x= .int k a) (C:ev N σ y= .int k b):
 (execOp (ev N σ) ⟨dst,.binOp .leq t x y E,ty,pos,af,g⟩).run P w= .ok (.value<|.bool<|decide (a≤b)) w:=by
 simp [execOp,A,C,eqGuard,binOp,kZ]
theorem gt {t E:ai} {k:aH} {a b:Int} (A:ev N σ x= .int k a) (C:ev N σ y= .int k b):
 (execOp (ev N σ) ⟨dst,.binOp .gtr t x y E,ty,pos,af,g⟩).run P w= .ok (.value<|.bool<|decide (b < a)) w:=by
 simp [execOp,A,C,eqGuard,binOp,kZ]
theorem ge {t E:ai} {k:aH} {a b:Int} (A:ev N σ x= .int k a) (C:ev N σ y= .int k b):
 (execOp (ev N σ) ⟨dst,.binOp .geq t x y E,ty,pos,af,g⟩).run P w= .ok (.value<|.bool<|decide (b≤a)) w:=by
 simp [execOp,A,C,eqGuard,binOp,kZ]
theorem su {t E:ai} {k:aH} {a b:Int} (A:ev N σ x= .int k a) (C:ev N σ y= .int k b):
 (execOp (ev N σ) ⟨dst,.binOp .eql t x y E,ty,pos,af,g⟩).run P w= .ok (.value<|.bool<|decide (a=b)) w:=by
 simp [execOp,A,C,eqGuard,binOp,kZ];rw [iQ]; simp
theorem tU {t E:ai} {k:aH} {a b:Int} (A:ev N σ x= .int k a) (C:ev N σ y= .int k b):
 (execOp (ev N σ) ⟨dst,.binOp .neq t x y E,ty,pos,af,g⟩).run P w= .ok (.value<|.bool<|decide (a≠b)) w:=by
 simp [execOp,A,C,eqGuard,binOp,kZ];rw [iQ]; simp
theorem no {t:ai} {b:Bool} (A:ev N σ x= .bool b):(execOp (ev N σ) ⟨dst,.unOp .not t x,ty,pos,af,g⟩).run P w= .ok (.value<|.bool<|!b) w:=by
 simp [execOp,A,Op.unary]
theorem xQ {t I:ai} {k:aH} {a b v:Int} (C:ev N σ x= .int k a) (E:ev N σ y= .int k b) (A:k.wrap (iP k.bits a ||| iP k.bits b).toNat=v):
 (execOp (ev N σ) ⟨dst,.binOp .or t x y I,ty,pos,af,g⟩).run P w= .ok (.value<|.int k v) w:=by
 subst A; simp [execOp,C,E,eqGuard,binOp,Op.intBits]
theorem bJ {t I:ai} {k:aH} {a b v:Int} (C:ev N σ x= .int k a) (E:ev N σ y= .int k b) (A:k.wrap (iP k.bits a &&& iP k.bits b).toNat=v):
 (execOp (ev N σ) ⟨dst,.binOp .and t x y I,ty,pos,af,g⟩).run P w= .ok (.value<|.int k v) w:=by
 subst A; simp [execOp,C,E,eqGuard,binOp,Op.intBits]
theorem shr {t I:ai} {k J:aH} {a b v:Int} (C:ev N σ x= .int k a) (E:ev N σ y= .int J b) (h0:0≤b) (A:a.fdiv (2 ^ min b.toNat k.bits)=v):
 (execOp (ev N σ) ⟨dst,.binOp .shr t x y I,ty,pos,af,g⟩).run P w= .ok (.value<|.int k v) w:=by
 have :¬b < 0:=ag;simp [execOp,C,E,eqGuard,binOp,Op.shift,this,A]
theorem shl {t I:ai} {k J:aH} {a b v:Int} (C:ev N σ x= .int k a) (E:ev N σ y= .int J b) (h0:0≤b) (A:k.wrap (a*2 ^ min b.toNat k.bits)=v):
 (execOp (ev N σ) ⟨dst,.binOp .shl t x y I,ty,pos,af,g⟩).run P w= .ok (.value<|.int k v) w:=by
 have :¬b < 0:=ag;simp [execOp,C,E,eqGuard,binOp,Op.shift,this,A]
theorem BW (m:Nat) (h:m < 256):((dF m).toNat:Int)=(m:Int):=by
 simp [Nat.mod_eq_of_lt h]
theorem cv {t u:ai} {k A:aH} {n:Int} (hu:P.underlying u=some (.int A)) (E:(P.underlying t).isSome=true) (I:ev N σ x= .int k n):
 (execOp (ev N σ) ⟨dst,.convert t u x,ty,pos,af,g⟩).run P w= .ok (.value<|.int A<|A.wrap n) w:=by
 obtain ⟨d,C⟩:=xe.1 E;cases d <;> simp [execOp,I,convert,aC hu,aC C,Conv.intToInt]
theorem yz {t u:ai} {k A:aH} {n v:Int} (hu:P.underlying u=some (.int A)) (C:(P.underlying t).isSome=true) (E:ev N σ x= .int k n) (hr:A.wrap n=v):
 (execOp (ev N σ) ⟨dst,.convert t u x,ty,pos,af,g⟩).run P w= .ok (.value<|.int A v) w:=by
 rw [cv hu C E,hr]
theorem po (d:Nat) {t e:ai} {a:Option aB} (hu:P.underlying t=some (.pointer e)):(eI (d+1) t (.pointer a)<|.pointer none).run P w= .ok a.isNone w:=by
 cases a <;> simp [eI,aC hu]
theorem sw {t e:ai} {a:Option aB} (hu:P.underlying t=some (.pointer e)):(jS t (.pointer a)<|.pointer none).run P w= .ok a.isNone w:=po 9999 hu
theorem fh {t E e:ai} {a:Option aB} (hu:P.underlying t=some (.pointer e)) (A:ev N σ x= .pointer a) (C:ev N σ y= .pointer none):
 (execOp (ev N σ) ⟨dst,.binOp .eql t x y E,ty,pos,af,g⟩).run P w= .ok (.value<|.bool a.isNone) w:=by
 have h:(binOp .eql t (.pointer a)<|.pointer none).run P w= .ok (.bool a.isNone) w:=by
  simp only [binOp]; simp [sw hu]
 simp [execOp,A,C,eqGuard,h]
theorem nD {t E e:ai} {a:Option aB} (hu:P.underlying t=some (.pointer e)) (A:ev N σ x= .pointer a) (C:ev N σ y= .pointer none):
 (execOp (ev N σ) ⟨dst,.binOp .neq t x y E,ty,pos,af,g⟩).run P w= .ok (.value<|.bool a.isSome) w:=by
 have h:(binOp .neq t (.pointer a)<|.pointer none).run P w= .ok (.bool a.isSome) w:=by
  simp only [binOp]; simp [sw hu]
 simp [execOp,A,C,eqGuard,h]
theorem yS (d:Nat) {t:ai} {a b:Bool} (hu:P.underlying t=some .bool):(eI (d+1) t (.bool a)<|.bool b).run P w= .ok (a==b) w:=by
 simp [eI,aC hu]
def str (l:List UInt8):ab:= .string ⟨⟨l⟩⟩
theorem tI {t:ai} {l:List UInt8} {at_:Array ai} (A:P.underlying t=some .string) (ha:at_= #[t]) (C:ev N σ x=str l):
 (execOp (ev N σ) ⟨dst,.call ⟨.builtin .len,#[x],at_⟩,ty,pos,af,g⟩).run P w= .ok (.value<|.int .i64 l.length) w:=by
 subst ha;simp [execOp,resolve,invoke,builtin,q5,aC A,C,str,goInt];rfl
theorem pS {t e:ai} {a:Option aB} {n c:Nat} {at_:Array ai} (A:P.underlying t=some (.slice e)) (ha:at_= #[t]) (C:ev N σ x= .slice a n c):
 (execOp (ev N σ) ⟨dst,.call ⟨.builtin .len,#[x],at_⟩,ty,pos,af,g⟩).run P w= .ok (.value<|.int .i64 n) w:=by
 subst ha;simp [execOp,resolve,invoke,builtin,q5,aC A,C,goInt]
theorem tH {t k e r:ai} {es:Array MapEntry} {c:Nat} {at_:Array ai} (A:P.underlying t=some (.map k e)) (ha:at_= #[t]) (C:ev N σ x= .map (some r)) (hr:w.heap[r]? =some (.map es c)):
 (execOp (ev N σ) ⟨dst,.call ⟨.builtin .len,#[x],at_⟩,ty,pos,af,g⟩).run P w= .ok (.value<|.int .i64 es.size) w:=by
 subst ha;simp [execOp,resolve,invoke,builtin,q5,aC A,C,goInt,getObj,fO,hr]
theorem mn {k:aH} {a b:Int} {at_:Array ai} (A:ev N σ x= .int k a) (C:ev N σ y= .int k b):
 (execOp (ev N σ) ⟨dst,.call ⟨.builtin .min,#[x,y],at_⟩,ty,pos,af,g⟩).run P w= .ok (.value<|.int k<|min a b) w:=by
 have :(if b < a then b else a)=min a b:=ag;simp [execOp,resolve,invoke,builtin,Builtin.min_,Builtin.min2,A,C,this]
theorem mx {k:aH} {a b:Int} {at_:Array ai} (A:ev N σ x= .int k a) (C:ev N σ y= .int k b):
 (execOp (ev N σ) ⟨dst,.call ⟨.builtin .max,#[x,y],at_⟩,ty,pos,af,g⟩).run P w= .ok (.value<|.int k<|max a b) w:=by
 have :(if b > a then b else a)=max a b:=ag;simp [execOp,resolve,invoke,builtin,Builtin.max_,Builtin.max2,A,C,this]
theorem zC {t:ai} {l:List UInt8} {k:aH} {i:Int} (I:P.underlying t=some .string) (J:ev N σ x=str l) (L:ev N σ y= .int k i) (h0:0≤i∧i < l.length):
 (execOp (ev N σ) ⟨dst,.index t x y,ty,pos,af,g⟩).run P w= .ok (.value<|.int .u8 ((l.getD i.toNat 0).toNat:Int)) w:=by
 have E:(⟨⟨l⟩⟩:ByteArray)[i.toNat]? =some (l.getD i.toNat 0):=by
  have A:i.toNat < l.length:=ag;have C:i.toNat < (⟨⟨l⟩⟩:ByteArray).size:=A;rw [getElem?_pos (⟨⟨l⟩⟩:ByteArray) i.toNat C];simp [iU,A,ByteArray.getElem_eq_getElem_data]
 simp [execOp,Instr.index,J,L,asIntOf,str,aC I,h0.1,E]
theorem qC (l:List UInt8) (a b:Nat):Value.string ((⟨⟨l⟩⟩:ByteArray).extract a b)=str ((l.take b).drop a):=by
 unfold str;congr 1;apply ByteArray.ext;simp [ByteArray.data_extract,List.extract_eq_take_drop,List.drop_take]
theorem zB (n:Nat) {t:ai} {l:List UInt8} {k:aH} (A:P.underlying t=some .string) (C:ev N σ x=str l) (E:ev N σ y= .int k (n:Int)) (h:n < l.length):
 (execOp (ev N σ) ⟨dst,.index t x y,ty,pos,af,g⟩).run P w= .ok (.value<|.int .u8 ((l.getD n 0).toNat:Int)) w:=zC A C E ⟨ag,ag⟩
theorem ni {n:Nat} {t:ai} {l:List UInt8} {k:aH} (A:P.underlying t=some .string) (C:ev N σ x=str l) (E:ev N σ y= .int k (n:Int)) (h:n < l.length):
 (execOp (ev N σ) ⟨dst,.index t x y,ty,pos,af,g⟩).run P w= .ok (.value<|.int .u8 ((l.getD n 0).toNat:Int)) w:=zB n A C E h
theorem Bp {t:ai} {l:List UInt8} {k M:aH} {a b:Int} (E:P.underlying t=some .string) (I:ev N σ x=str l) (J:ev N σ y= .int k a) (L:ev N σ z= .int M b) (h0:0≤a∧a≤b∧b≤l.length):
 (execOp (ev N σ) ⟨dst,.slice t x (some y) (some z) none,ty,pos,af,g⟩).run P w= .ok (.value<|str<|(l.take b.toNat).drop a.toNat) w:=by
 have A:b≤((⟨⟨l⟩⟩:ByteArray).size:Nat):=h0.2.2;have C:0≤b:=ag;have O:a≤(b.toNat:Nat):=ag;simp [execOp,jQ,mq,gD,jR,I,J,L,asIntOf,str,aC E,h0.1,A,C];rw [if_pos ag];exact congrArg (fun v=>my (mr v) w)<|qC l a.toNat b.toNat
theorem Bq {t:ai} {l:List UInt8} {J:aH} {b:Int} (C:P.underlying t=some .string) (E:ev N σ x=str l) (I:ev N σ z= .int J b) (h0:0≤b∧b≤l.length):
 (execOp (ev N σ) ⟨dst,.slice t x none (some z) none,ty,pos,af,g⟩).run P w= .ok (.value<|str<|l.take b.toNat) w:=by
 have A:b≤((⟨⟨l⟩⟩:ByteArray).size:Nat):=h0.2;have :=qC l 0 b.toNat;simp only [List.drop_zero] at this;simp [execOp,jQ,mq,gD,jR,E,I,asIntOf,str,aC C,h0.1,A];exact vT this
theorem Br {t:ai} {l:List UInt8} {k:aH} {a:Int} (C:P.underlying t=some .string) (E:ev N σ x=str l) (I:ev N σ y= .int k a) (h0:0≤a∧a≤l.length):
 (execOp (ev N σ) ⟨dst,.slice t x (some y) none none,ty,pos,af,g⟩).run P w= .ok (.value<|str<|l.drop a.toNat) w:=by
 have A:a≤((⟨⟨l⟩⟩:ByteArray).size:Nat):=h0.2;have :=qC l a.toNat l.length;simp only [List.take_length] at this;simp [execOp,jQ,mq,gD,jR,E,I,asIntOf,str,aC C,h0.1,A];exact vT this
theorem kQ (l:List UInt8):(⟨⟨l⟩⟩:ByteArray).toList=l:=Lib.toList_data ⟨⟨l⟩⟩
theorem cc {t J:ai} {l m:List UInt8} (E:ev N σ x=str l) (I:ev N σ y=str m) (h:l.length+m.length≤9223372036854775807):
 (execOp (ev N σ) ⟨dst,.binOp .add t x y J,ty,pos,af,g⟩).run P w= .ok (.value<|str<|l++m) w:=by
 have A:¬(((⟨⟨l⟩⟩:ByteArray).size+(⟨⟨m⟩⟩:ByteArray).size:Nat):Int) > oy.max:=by
  have :oy.max=9223372036854775807:=bH;rw [this];show ¬((l.length+m.length:Nat):Int) > _;omega
 have C:(⟨⟨l⟩⟩:ByteArray)++(⟨⟨m⟩⟩:ByteArray)=⟨⟨l++m⟩⟩:=by
  apply ByteArray.ext; simp
 simp only [execOp,E,I,str,eqGuard,binOp,jT];rw [if_neg A,C];rfl
theorem sA {t E:ai} {l m:List UInt8} (A:ev N σ x=str l) (C:ev N σ y=str m):
 (execOp (ev N σ) ⟨dst,.binOp .eql t x y E,ty,pos,af,g⟩).run P w= .ok (.value<|.bool<|decide (l=m)) w:=by
 simp only [execOp,A,C,str,eqGuard,binOp,jT,kQ];show my (mr<|.bool<|l==m) w=_;rw [show (l==m)=decide (l=m) from by rw [iQ]; simp]
theorem tV {t E:ai} {l m:List UInt8} (A:ev N σ x=str l) (C:ev N σ y=str m):
 (execOp (ev N σ) ⟨dst,.binOp .neq t x y E,ty,pos,af,g⟩).run P w= .ok (.value<|.bool<|decide (l≠m)) w:=by
 simp only [execOp,A,C,str,eqGuard,binOp,jT,kQ];show my (mr<|.bool<|!(l==m)) w=_;rw [show (!(l==m))=decide (l≠m) from by rw [iQ]; simp]
def jC (a b:List UInt8):Bool:=q6 a b
theorem Bo (x y:UInt8) (a b:List UInt8):jC (x::a) (y::b)=(decide (x < y) || (x==y && jC a b)):=rfl
theorem z6 {t E:ai} {l m:List UInt8} (A:ev N σ x=str l) (C:ev N σ y=str m):
 (execOp (ev N σ) ⟨dst,.binOp .lss t x y E,ty,pos,af,g⟩).run P w= .ok (.value<|.bool<|jC l m) w:=by
 simp only [execOp,A,C,str,eqGuard,binOp,jT,kQ];rfl
theorem zV {t E:ai} {l m:List UInt8} (A:ev N σ x=str l) (C:ev N σ y=str m):
 (execOp (ev N σ) ⟨dst,.binOp .leq t x y E,ty,pos,af,g⟩).run P w= .ok (.value<|.bool (jC l m || decide (l=m))) w:=by
 simp only [execOp,A,C,str,eqGuard,binOp,jT,kQ];show my (mr<|.bool (q6 l m || l==m)) w=_;rw [show (l==m)=decide (l=m) from by rw [iQ]; simp];rfl
theorem zo {t E:ai} {l m:List UInt8} (A:ev N σ x=str l) (C:ev N σ y=str m):
 (execOp (ev N σ) ⟨dst,.binOp .gtr t x y E,ty,pos,af,g⟩).run P w= .ok (.value<|.bool<|!(jC l m || decide (l=m))) w:=by
 simp only [execOp,A,C,str,eqGuard,binOp,jT,kQ];show my (mr<|.bool<|!(q6 l m || l==m)) w=_;rw [show (l==m)=decide (l=m) from by rw [iQ]; simp];rfl
theorem zk {t E:ai} {l m:List UInt8} (A:ev N σ x=str l) (C:ev N σ y=str m):
 (execOp (ev N σ) ⟨dst,.binOp .geq t x y E,ty,pos,af,g⟩).run P w= .ok (.value<|.bool<|!jC l m) w:=by
 simp only [execOp,A,C,str,eqGuard,binOp,jT,kQ];rfl
theorem mf {fn:Fn} {first captured:Array ax} :(execOp (ev N σ) ⟨dst,.makeFunc fn first captured,ty,pos,af,g⟩).run P w= .ok (.value<|.func fn (first.map<|ev N σ)<|captured.map<|ev N σ) w:=rfl
theorem ny {fn:Fn} {first captured:Array ax} :(execOp (ev N σ) ⟨dst,.makeFunc fn first captured,ty,pos,af,g⟩).run P w= .ok (.value<|.func fn (first.toList.map<|ev N σ).toArray (captured.toList.map<|ev N σ).toArray) w:=by
 rw [mf,← gy,← gy]
end
end Go.Hb
namespace Go.Hb
def bz (h:Array Obj) (b:Nat) (L:List ab):Prop := ∃ e,h[b]? =some (.cells L.toArray e (0,0))
theorem bz.aK {h:Array Obj} {b:Nat} {L:List ab} (hb:bz h b L) (j:Nat):Hb.aK h b j=L[j]? :=by
 obtain ⟨e,hb⟩:=hb;rw [dQ hb]; simp
theorem bz.bF {h:Array Obj} {b:Nat} {L:List ab} (hb:bz h b L) (j:Nat):Hb.aK h b (0 +j)=L[j]? :=by
 rw [b9,hb.aK]
theorem Md.B {F:Nat→Prop} {w w':ae} (h:Md F w w') {b:Nat} {L:List ab} (hb:bz w.heap b L) (A:¬F b):bz w'.heap b L:=
 let ⟨e,hb⟩:=hb; ⟨e,h.ak hb A⟩
theorem Wk.B {w w':ae} (h:Wk w w') {b:Nat} {L:List ab} (hb:bz w.heap b L):bz w'.heap b L:=Md.B h hb id
theorem bz.lt {h:Array Obj} {b:Nat} {L:List ab} (hb:bz h b L):b < h.size:=by grind [bz]
def bk (a:Option aB):Nat:=match a with | some ad=>ad.block | none=>0
def fo (a:Option aB):Nat:=match a with | some ad=>ad.off | none=>0
structure aZ (h:Array Obj) (a:Option aB) (xs:List ab):Prop where
 ok:xs≠[]→a=some ⟨bk a,fo a,none⟩
 aK:∀ j u,xs[j]? =some u→Hb.aK h (bk a) (fo a+j)=some u
theorem aZ.nil (h:Array Obj) (a:Option aB):aZ h a []:=⟨fun h=>absurd rfl h,fun _ _ hu=>by simp at hu⟩
theorem aZ.md {F:Nat→Prop} {w w':ae} {a:Option aB} {xs:List ab} (A:aZ w.heap a xs) (h:Md F w w') (C:xs≠[]→¬F (bk a)):aZ w'.heap a xs:=
 ⟨A.ok,fun j u hu=>h.aK (A.aK j u hu)<|C<|by rintro rfl; simp at hu⟩
theorem aZ.wk {w w':ae} {a:Option aB} {xs:List ab} (A:aZ w.heap a xs) (h:Wk w w'):aZ w'.heap a xs:=A.md h fun _ x=>x
theorem aZ.lO {h:Array Obj} {b:Nat} {L:List ab} (hb:bz h b L):aZ h (some ⟨b,0,none⟩) L:=
 ⟨fun _=>rfl,fun j u hu=>by show Hb.aK h b (0 +j)=_; rw [b9,hb.aK]; exact hu⟩
theorem aZ.oV {h:Array Obj} {a:Option aB} {xs:List ab} (A:aZ h a xs) {i:Nat} {u:ab} (hu:xs[i]? =some u):Hb.aK h (bk a) (fo a+i*1)=some u:=by
 rw [Nat.mul_one]; exact A.aK i u hu
def dH (h:Array Obj) (a:Option aB) (l:List (List UInt8)):Prop :=aZ h a<|l.map str
theorem dH.get {h:Array Obj} {a:Option aB} {l:List (List UInt8)} (A:dH h a l) {i:Nat} (hi:i < l.length):Hb.aK h (bk a) (fo a+i*1)=some (str<|l.getD i []):=
 aZ.oV A (by simp [iU,hi])
theorem dH.wk {w w':ae} {a:Option aB} {l:List (List UInt8)} (A:dH w.heap a l) (h:Wk w w'):dH w'.heap a l:=aZ.wk A h
theorem p5 {α:Type} {f:α→ab} {l:List α} (h:0 < l.length):l.map f≠[]:=by
 cases l with
 | nil=>simp at h
 | cons x l=>simp
def eG (P:aj) (t e size bytes:Nat):Bool:=
 match P.underlying t with
 | some (.slice A)=>A==e && match P.info? e with
   | some i=>i.size==size && i.bytes==bytes && aq 0 size && match i.zero with
     | some z=>z.cells.size==size
     | none=>false
   | none=>false
 | _=>false
theorem kL {P:aj} {t e size bytes:Nat} (h:eG P t e size bytes=true):
 P.underlying t=some (.slice e)∧∃ i z,P.info? e=some i∧i.zero=some z∧i.size=size∧i.bytes=bytes∧z.cells.size=size∧0 < size:=by
 unfold eG at h;split at h
 · rename_i I hu;simp only [aD,beq_iff_eq] at h;obtain ⟨rfl,h⟩:=h;split at h
   · rename_i i hi;simp only [aD,beq_iff_eq] at h;obtain ⟨⟨⟨A,C⟩,h3⟩,h4⟩:=h;split at h4
     · rename_i z E;exact ⟨hu,i,z,hi,E,A,C,by simpa using h4,iY (iv 0)<|aP h3⟩
     · cases h4
   · cases h
 · cases h
def dj (P:aj) (t:ai):Option Nat:=(P.info? t).map (·.size)
def zeroOf (P:aj) (t:ai):Option (Option<|List ab):=(P.info? t).map fun i=>i.zero.map fun z=>z.cells.toList
def fT (P:aj) (f:ej):Prop := ∀ args w,(callFunc f args).run P w= .ok (.enter f args) w
theorem o4 {P:aj} {f:ej} {fn:Func} (E:P.funcs[f]? =some fn) (hn:(fn.name== "runtime.NumGoroutine")=false) (hb:fn.body.isNone=false):fT P f:=by
 intro args w;have A:¬((fn.name== "runtime.NumGoroutine")=true):=by rw [hn]; simp
 have C:¬(fn.body.isNone=true):=by rw [hb]; simp
 simp only [callFunc,ek,run_program,dV,E];rw [if_neg A,if_neg C];rfl
section
variable {P:aj} {N:Fm} {σ:Nat→ab} {w:ae} {dst:Option Nat} {ty:ai} {pos :String} {af:Array bD} {g:Option (Nat×Bool)} {x y z:ax} {K:(Nat→ab)→ae→Prop}
theorem vj {o:an} {f:ej} {L:List ab} {R:ab→ae→Prop} (C:(execOp (ev N σ) o).run P w= .ok (.enter f L.toArray) w) (hr:aO P f L.toArray w R)
 (k:∀ v w',R v w'→K (bR σ o.dst v) w'):aT P N o σ w K:=by
 unfold aT iR;rw [cD,C];refine ik hr fun e w' ⟨v,he,A⟩=> ?_;subst he;exact ⟨_,dv ..,k v w' A⟩
theorem cl {f:ej} {args:Array ax} {A:Array ai} {L:List ab} {R:ab→ae→Prop} (E:fT P f) (hr:aO P f L.toArray w R) (C:args.toList.map (ev N σ)=L)
 (k:∀ v w',R v w'→K (bR σ dst v) w'):aT P N ⟨dst,.call ⟨.value (.func f),args,A⟩,ty,pos,af,g⟩ σ w K:=by
 refine vj (f:=f) ?_ hr k;have :args.map (ev N σ)=L.toArray:=by rw [← C,← gy]
 simp [execOp,resolve,ev,kW,invoke,this,E L.toArray w]
theorem rV {f:ej} {fo:ax} {first cap:Array ab} {args:Array ax} {A:Array ai} {L:List ab} {R:ab→ae→Prop} (E:fT P f) (I:ev N σ fo= .func (.func f) first cap)
 (hr:aO P f L.toArray w R) (C:first.toList++args.toList.map (ev N σ)++cap.toList=L)
 (k:∀ v w',R v w'→K (bR σ dst v) w'):aT P N ⟨dst,.call ⟨.value fo,args,A⟩,ty,pos,af,g⟩ σ w K:=by
 refine vj (f:=f) ?_ hr k;have :first++args.map (ev N σ)++cap=L.toArray:=by rw [← C,← gy,← vu,← vu]
 simp [execOp,resolve,I,kW,invoke,this,E L.toArray w]
theorem iN {o:an} {ob:Obj} {v:Nat→ab} (A:(execOp (ev N σ) o).run P w= .ok (.value<|v w.heap.size) {w with heap:=w.heap.push ob})
 (k:∀ b w',b=w.heap.size→Nw w w'→w'.heap[b]? =some ob→K (bR σ o.dst<|v b) w'):aT P N o σ w K:=by grind [eH,tW]
theorem al {e:ai} {C:List ab} (A:zeroOf P e=some (some C)) (k:∀ b w',b=w.heap.size→Nw w w'→bz w'.heap b C→K (bR σ dst<|.pointer<|some ⟨b,0,none⟩) w'):
 aT P N ⟨dst,.alloc e,ty,pos,af,g⟩ σ w K:=by
 refine iN (v:=fun b=> .pointer<|some ⟨b,0,none⟩) (ob:= .cells C.toArray e (0,0)) ?_ fun b w' E I J=>k b w' E I ⟨e,J⟩;unfold zeroOf at A;simp only [eJ] at A;obtain ⟨i,hi,zv,L,rfl⟩:=A;simp [execOp,ov,zeroValue,bU hi,L,newVar,newRow]
theorem oT {e:ai} {C:List ab} (A:zeroOf P e=some (some C)) (k:∀ b w',b=w.heap.size→Nw w w'→w'.heap[b]? =some (.cells C.toArray e (0,0))→K (bR σ dst<|.pointer<|some ⟨b,0,none⟩) w'):
 aT P N ⟨dst,.alloc e,ty,pos,af,g⟩ σ w K:=by
 refine iN (v:=fun b=> .pointer<|some ⟨b,0,none⟩) (ob:= .cells C.toArray e (0,0)) ?_ k;unfold zeroOf at A;simp only [eJ] at A;obtain ⟨i,hi,zv,E,rfl⟩:=A;simp [execOp,ov,zeroValue,bU hi,E,newVar,newRow]
theorem bx {e:ai} {v:ab} {L:List ab} (J:ev N σ x=v) (I:v.cells.toList=L) (k:∀ b w',b=w.heap.size→Nw w w'→bz w'.heap b L→K (bR σ dst<|.pointer<|some ⟨b,0,none⟩) w'):
 aT P N ⟨dst,.box e x,ty,pos,af,g⟩ σ w K:=by
 subst I;refine iN (v:=fun b=> .pointer<|some ⟨b,0,none⟩) (ob:= .cells v.cells e (0,0)) ?_ fun b w' A C E=>k b w' A C ⟨e,E⟩;simp [execOp,Instr.box,J,newVar,newRow]
theorem tS {t:ai} (k:∀ b w',b=w.heap.size→Nw w w'→w'.heap[b]? =some (.map #[] 0)→K (bR σ dst<|.map<|some b) w'):aT P N ⟨dst,.makeMap t none,ty,pos,af,g⟩ σ w K:=by
 refine iN (v:=fun b=> .map<|some b) ?_ k;simp [execOp,Instr.makeMap]
theorem xR {t e:ai} {size bytes:Nat} {v:ab} {L:List ab} (V:eG P t e size bytes=true) (U:aA size 1000=true) (aa:ev N σ x=v) (Z:v.cells.size=size)
 (J:v.cells.toList=L) (k:∀ b w',b=w.heap.size→Nw w w'→w'.heap[b]? =some (.cells L.toArray e (0,0))→K (bR σ dst<|.slice (some ⟨b,0,none⟩) 1 1) w'):aT P N ⟨dst,.buildSlice t 1 #[(0,x)],ty,pos,af,g⟩ σ w K:=by
 subst J;refine iN (v:=fun b=> .slice (some ⟨b,0,none⟩) 1 1) (ob:= .cells v.cells e (0,0)) ?_ fun b w' A C E=>k b w' A C<|by simpa using E
 obtain ⟨hu,i,zv,hi,ac,A,C,E,ad⟩:=kL V;have ae:size≤1000:=by simpa using U
 have M:fN (fun i=>some (i*size,size)) ((ij size).map (zv.cells[· % zv.cells.size]!)) [(0,v)]=some v.cells:=by
  have I:((ij size).map (zv.cells[· % zv.cells.size]!)).size=size:=by simp
  generalize (ij size).map (zv.cells[· % zv.cells.size]!)=cs at I;simp only [fN,Z];rw [if_neg (by rw [I]; simp)];congr 1;have key:∀ (l:List ab) (m:Nat) (cs:Array ab),m+l.length≤cs.size→∀ j,((l.zipIdx m).foldl (fun (cs:Array ab) (c,j)=>cs.setIfInBounds (0 *size+j) c) cs)[j]? =if j < m then cs[j]? else if j < m+l.length then l[j - m]? else cs[j]? :=by
   intro l
   induction l with
   | nil=>intro m cs hm j; simp; intro A C; omega
   | cons c l ih=>
     intro m cs hm j;simp only [wS,oE,cr] at hm ⊢;rw [ih (m+1) _ (by simp; omega)];simp only [mI,b9,kR];by_cases A:j < m
     · rw [if_pos ag,if_pos A,if_neg ag]
     · rw [if_neg A];by_cases C:j=m
       · subst C;rw [if_pos ag,if_pos rfl,if_pos ag,if_pos ag];simp
       · rw [if_neg ag];by_cases E:j < m+1 +l.length
         · rw [if_pos E,if_pos ag];obtain ⟨q,O⟩:∃ q,j - m=q+1:=⟨j - m - 1,ag⟩
           rw [O,eY,show j - (m+1)=q from by omega]
         · rw [if_neg E,if_neg ag,if_neg ag]
  apply oe;intro j;have :=key v.cells.toList 0 cs (by simp; omega) j;rw [show (v.cells.zipIdx.foldl (fun (cs:Array ab) (c,j)=>cs.setIfInBounds (0 *size+j) c) cs)=((v.cells.toList.zipIdx 0).foldl (fun (cs:Array ab) (c,j)=>cs.setIfInBounds (0 *size+j) c) cs) from by
   rw [← Array.foldl_toList]; simp [Array.toList_zipIdx]]
  rw [this];simp only [Nat.not_lt_zero,if_false,b9,Nat.sub_zero,Array.length_toList,Array.getElem?_toList];split
  · rfl
  · rw [og ag,og ag]
 simp only [execOp,ow,ek,aC hu,dV,sizeOf,bU hi,fP,A,Nat.one_mul,mz,zeroValue,ac,List.map_toArray,cx,List.map_nil,aa,M];rw [if_neg (by rw [show (2:Nat) ^ 24=16777216 from rfl]; omega),if_neg ag];simp [newRow]
theorem xS {t e:ai} {size bytes:Nat} {v:ab} {L:List ab} (M:eG P t e size bytes=true) (J:aA size 1000=true) (U:ev N σ x=v) (O:v.cells.size=size)
 (I:v.cells.toList=L) (k:∀ b w',b=w.heap.size→Nw w w'→bz w'.heap b L→K (bR σ dst<|.slice (some ⟨b,0,none⟩) 1 1) w'):aT P N ⟨dst,.buildSlice t 1 #[(0,x)],ty,pos,af,g⟩ σ w K:=
 xR M J U O I fun b w' A C E=>k b w' A C ⟨_,E⟩
theorem ky {v:ab} (h:v.oneCell'=true):v.cells= #[v]:=by cases v <;> first | rfl | (cases h; done)
theorem sG {loc:Nat→Option (Nat×Nat)} (C:∀ i,loc i=some (i*1,1)):∀ (rest pre A:List ab),A.length=rest.length→rest.all iS=true→
 fN loc (pre++A).toArray ((rest.zipIdx pre.length).map fun q=>(q.2,q.1))=some (pre++rest).toArray
 | [],pre,A,hl,_=>by
   rw [im hl]; rfl
 | v::r,pre,A,hl,h1=>by
   cases A with
   | nil=>simp at hl
   | cons z A=>
     rw [wh,aD] at h1;have E:=ky h1.1;have ih:=sG C r (pre++ [v]) A (by simpa using hl) h1.2;simp only [wS,cx,fN,C,E];rw [if_neg (by simp)];simp only [cn,List.length_singleton,List.append_assoc,List.singleton_append] at ih;rw [← ih];simp
theorem xT {t e bytes n:Nat} {ps:Array (Nat×ax)} {L:List ab} (J:eG P t e 1 bytes=true) (hp:ps.toList.map (fun p=>(p.1,ev N σ p.2))=(L.zipIdx 0).map fun q=>(q.2,q.1)) (C:L.all iS=true) (hn:L.length=n) (A:(aA n 1000 && aq 0 n)=true)
 (k:∀ b w',b=w.heap.size→Nw w w'→w'.heap[b]? =some (.cells L.toArray e (0,0))→K (bR σ dst<|.slice (some ⟨b,0,none⟩) n n) w'):aT P N ⟨dst,.buildSlice t n ps,ty,pos,af,g⟩ σ w K:=by
 subst hn;refine iN (v:=fun b=> .slice (some ⟨b,0,none⟩) L.length L.length) (ob:= .cells L.toArray e (0,0)) ?_ k;obtain ⟨hu,i,zv,hi,M,E,U,V,Z⟩:=kL J;simp only [aD] at A;have aa:L.length≤1000:=by simpa using A.1
 have ac:0 < L.length:=by have :=aP A.2; omega
 have I:fN (fun i=>some (i*1,1)) ((ij<|L.length*1).map (zv.cells[· % zv.cells.size]!)) (ps.toList.map fun p=>(p.1,ev N σ p.2))=some L.toArray:=by
  rw [hp];have O:((ij<|L.length*1).map (zv.cells[· % zv.cells.size]!)).toList.length=L.length:=by simp
  have :=sG (loc:=fun i=>some (i*1,1)) (fun _=>rfl) L [] ((ij<|L.length*1).map (zv.cells[· % zv.cells.size]!)).toList O C;rw [wK,wK,vt] at this;exact this
 simp only [execOp,ow,ek,aC hu,dV,sizeOf,bU hi,fP,E,mz,zeroValue,M,gy,I];rw [if_neg (by rw [show (2:Nat) ^ 24=16777216 from rfl]; omega),if_neg ag];simp [newRow]
theorem mO {t e:ai} {bytes:Nat} {v:ab} (C:eG P t e 1 bytes=true) (E:ev N σ x=v) (A:v.oneCell'=true)
 (k:∀ b w',b=w.heap.size→Nw w w'→bz w'.heap b [v]→K (bR σ dst<|.slice (some ⟨b,0,none⟩) 1 1) w'):aT P N ⟨dst,.buildSlice t 1 #[(0,x)],ty,pos,af,g⟩ σ w K:=
 xS C rfl E (by rw [ky A]; rfl) (by rw [ky A]) k
theorem mP {e:ai} {v:ab} (C:ev N σ x=v) (A:v.oneCell'=true) (k:∀ b w',b=w.heap.size→Nw w w'→bz w'.heap b [v]→K (bR σ dst<|.pointer<|some ⟨b,0,none⟩) w'):
 aT P N ⟨dst,.box e x,ty,pos,af,g⟩ σ w K:=bx C (by rw [ky A]) k
theorem xV {e:ai} {L:List ab} (A:ev N σ x= .agg L.toArray) (k:∀ b w',b=w.heap.size→Nw w w'→bz w'.heap b L→K (bR σ dst<|.pointer<|some ⟨b,0,none⟩) w'):
 aT P N ⟨dst,.box e x,ty,pos,af,g⟩ σ w K:=bx A (by simp [vS]) k
theorem mM {l:List ab} (h:l.all iS=true):∀ u∈l,u.oneCell'=true :=wi.1 h
theorem l9 {t b off :Nat} {e:ai} {L:List ab} {v:ab} (A:dj P t=some 1) (ae:ev N σ x= .pointer (some ⟨b,off,none⟩)) (ag:ev N σ y=v) (C:v.oneCell'=true) (hb:w.heap[b]? =some (.cells L.toArray e (0,0))) (Z:off < L.length)
 (k:∀ w',Md (fun k=>k=b) w w'→w'.heap[b]? =some (.cells (L.set off v).toArray e (0,0))→K σ w'):aT P N ⟨none,.store t x y,ty,pos,af,g⟩ σ w K:=by
 have I:v.cells= #[v]:=by cases v <;> first | rfl | (cases C; done)
 have J:w.cell? ⟨b,off,none⟩=some L[off]:=by rw [et,dQ hb]; simp [Z]
 have M:w.frozen? ⟨b,off,none⟩=false :=by simp only [World.frozen?,show w.heap[b]? =_ from hb]; simp
 unfold dj at A;simp only [eJ] at A;obtain ⟨i,hi,ac⟩:=A;have E:(⟨b,off,none⟩:aB).add 0=⟨b,off,none⟩:=rfl;have aa:(execOp (ev N σ) ⟨none,.store t x y,ty,pos,af,g⟩).run P w= .ok .skip (w.setCell ⟨b,off,none⟩ v):=by
  simp [execOp,vM,ae,ag,kY,storeVar,I,sizeOf,bU hi,ac,storeCells,E,run_store P w _ v _ C,J,M]
 unfold aT iR;rw [cD,aa];refine ⟨σ,U,k _ ⟨U,U,by simp [oC],fun k _ O=> ?_⟩ ?_⟩
 · exact Below.heap_setCell w _ v k O
 · have V:=(bu.1 hb).1;have ad:w.heap[b]= .cells L.toArray e (0,0):=(bu.1 hb).2;simp only [oC];rw [jK (by simpa using V),Array.getElem_modify];simp [ad,List.setIfInBounds_toArray]
theorem st {t b off :Nat} {L:List ab} {v:ab} (M:dj P t=some 1) (I:ev N σ x= .pointer (some ⟨b,off,none⟩)) (J:ev N σ y=v) (A:v.oneCell'=true) (hb:bz w.heap b L) (E:off < L.length)
 (k:∀ w',Md (fun k=>k=b) w w'→bz w'.heap b (L.set off v)→K σ w'):aT P N ⟨none,.store t x y,ty,pos,af,g⟩ σ w K:=
 let ⟨_,hb⟩:=hb
 l9 M I J A hb E fun w' A C=>k w' A ⟨_,C⟩
theorem BC {t b off n:Nat} {e:ai} {L A:List ab} (C:dj P t=some n) (O:ev N σ x= .pointer (some ⟨b,off,none⟩)) (V:ev N σ y= .agg A.toArray) (hn:A.length=n) (E:A.all iS=true) (hb:w.heap[b]? =some (.cells L.toArray e (0,0))) (Z:off+n≤L.length)
 (k:∀ w',Md (fun k=>k=b) w w'→w'.heap[b]? =some (.cells (L.take off++A++L.drop (off+n)).toArray e (0,0))→K σ w'):aT P N ⟨none,.store t x y,ty,pos,af,g⟩ σ w K:=by
 unfold dj at C;simp only [eJ] at C;obtain ⟨i,hi,M⟩:=C;have bh:=run_storeCells_at P b off e A 0 L.toArray w hb (by simp; omega)<|mM E;have J:(execOp (ev N σ) ⟨none,.store t x y,ty,pos,af,g⟩).run P w= .ok .skip (w.setRow b (L.take off++A++L.drop (off+n)).toArray):=by
  simp [execOp,vM,O,V,kY,storeVar,vS,sizeOf,bU hi,M,hn,bh]
 unfold aT iR;rw [cD,J];exact ⟨σ,U,k _ ⟨U,U,by simp,fun k _ I=>setRow_other w b k _ I⟩<|setRow_heap w b _ _ e _ hb⟩
theorem xC {t ty e:ai} {i:TypeInfo} {zv:ab} {B n m c:Nat} {v Z:ab} {xs news:List ab} {ad:aB} {w':ae} (hu:P.underlying t=some (.slice e)) (hi:P.info? e=some i) (V:i.zero=some zv) (am:zv.cells.size=i.size) (ak:0 < i.size)
 (I:w.ownsRow B e i.size v n xs) (E:news.length=m*i.size) (J:∀ j u,news[j]? =some u→w.cell? (ad.add j)=some u) (L:∀ u∈news,u.oneCell'=true) (M:n+m≤maxLen) (hb:(n+m)*i.bytes≤140737488355328)
 (hr:(fM #[t,t] ty #[v,.slice (some ad) m c]).run P w= .ok Z w'):∀ k,Z.ownBlock=some k→v.ownBlock=some k∨w.heap.size≤k:=by
 intro k A;have an:n+m≤9223372036854775807:=by unfold maxLen at M; omega
 rcases I.2 with ⟨rfl,rfl⟩ | ⟨C,cap,cur,rfl,ap,aj,ar,aq,ac,au⟩
 · have al:xs= []:=im<|by simpa using I.1
   subst al;obtain ⟨v2,av,O,aa,_,_⟩:=run_append_own (P:=P) w w.heap.size t ty e i zv i.size i.bytes hu hi V rfl rfl am ak _ 0 [] (lf w w.heap.size e i.size) ad m c news E J L M hb (aI _);rw [hr] at O;cases O;exact .inr (by
    rcases aa.2 with ⟨h,_⟩ | ⟨g2,_,_,h,ao,_⟩
    · rw [h] at A; simp [cJ] at A
    · rw [h] at A; simp only [cJ,aQ] at A; omega)
 · by_cases U:n+m≤cap
   · have ah:n*i.size+news.length≤cur.size:=by rw [E,ac,← Nat.add_mul]; exact Nat.mul_le_mul_right _ U
     rw [run_append_room (P:=P) w t ty e i hu hi C n cap cur aj ad m c news E J L U ah] at hr;cases hr;exact .inl A
   · have holds:∀ j u,xs[j]? =some u→w.cell? ((⟨C,0,none⟩:aB).add j)=some u:=I.cells (g:=C) rfl;rw [run_append_grow (P:=P) w t ty e i zv hu hi V ⟨C,0,none⟩ n cap xs I.1 holds ad m c news E J ag ag (growslice_fits ag hb)] at hr;cases hr;simp only [cJ,aQ] at A;exact .inr ag
theorem ap {t e size bytes B n m c:Nat} {v:ab} {xs news:List ab} {a:Option aB} (ao:eG P t e size bytes=true) (E:w.ownsRow B e size v n xs) (aa:ev N σ x=v) (ai:B≤w.heap.size)
 (ac:ev N σ y= .slice a m c) (M:aZ w.heap a news) (I:news.length=m*size) (J:news.all iS=true) (hb:(n+m)*bytes≤140737488355328) (au:n+m≤9223372036854775807)
 (k:∀ A w',w'.ownsRow B e size A (n+m) (xs++news)→Md (fun k=>v.ownBlock=some k) w w'→(A= .slice none 0 0↔v= .slice none 0 0∧m=0)→(∀ k,A.ownBlock=some k→v.ownBlock=some k∨w.heap.size≤k)→K (bR σ dst A) w'):
 aT P N ⟨dst,.call ⟨.builtin .append,#[x,y],#[t,t]⟩,ty,pos,af,g⟩ σ w K:=by
 obtain ⟨hu,i,zv,hi,ad,Z,L,ae,V⟩:=kL ao;have O:n+m≤maxLen:=by unfold maxLen; omega
 by_cases hm:news= []
 · subst hm;have al:m=0:=by
    rcases Nat.mul_eq_zero.1 (I.symm.trans rfl) with h | h
    · exact h
    · omega
   subst al;have an:(fM #[t,t] ty #[v,.slice a 0 c]).run P w= .ok v w:=by
    rcases E.2 with ⟨rfl,rfl⟩ | ⟨ar,cap,cur,rfl,_,_,hle,_⟩
    · cases a <;> simp [fM,aC hu,sizeOf,bU hi,vx,ou,loadCells,loadCellsFrom]
    · cases a <;> simp [fM,aC hu,sizeOf,bU hi,vx,ou,loadCells,loadCellsFrom,hle,storeCells]
   refine eH (w':=w) (v:=v) ?_<|k v w (by simpa using E) (Md.refl _ _) (by simp) fun _ h=> .inl h;simp [execOp,resolve,invoke,builtin,aa,ac,an]
 · have ha:=M.ok hm;have U:∀ j u,news[j]? =some u→w.cell? ((⟨bk a,fo a,none⟩:aB).add j)=some u:=fun j u hu=>by rw [cE,et]; exact M.aK j u hu
   obtain ⟨A,w',hr,ag,C,ah⟩:=run_append_own (P:=P) w B t ty e i zv size bytes hu hi ad Z L ae V v n xs E ⟨bk a,fo a,none⟩ m c news I U (mM J) O hb ai;subst Z L;have aj:=xC hu hi ad ae V E I U (mM J) O hb hr;refine eH (w':=w') (v:=A) ?_<|k A w' ag ⟨C.os,C.output,C.size,fun k ak am=>C.block k ak fun e=>am e.symm⟩ ah aj;have aq:ev N σ y= .slice (some ⟨bk a,fo a,none⟩) m c:=ac.trans<|congrArg (fun a=>dD a m c) ha;simp [execOp,resolve,invoke,builtin,aa,aq,hr]
theorem lH {t n len cap:Nat} {k:aH} {i:Int} {a:Option aB} (he:cC P t=some n) (A:ev N σ x= .slice a len cap) (C:ev N σ y= .int k i) (h0:0≤i∧i < len) (ha:a=some ⟨bk a,fo a,none⟩):
 (execOp (ev N σ) ⟨dst,.indexAddr t x y,ty,pos,af,g⟩).run P w= .ok (.value<|.pointer<|some ⟨bk a,fo a+i.toNat*n,none⟩) w:=
 ia he (by rw [A]; congr 1) C h0
end
theorem ed {F:Nat→Prop} {w w':ae} {B e size n:Nat} {v:ab} {xs:List ab} (h:w.ownsRow B e size v n xs) (hm:Md F w w') (A:∀ k,v.ownBlock=some k→¬F k):w'.ownsRow B e size v n xs:=by
 refine ⟨h.1,?_⟩;rcases h.2 with hn | ⟨g,cap,cur,rfl,hb,C,rest⟩
 · exact .inl hn
 · exact .inr ⟨g,cap,cur,U,hb,hm.ak C (A g U),rest⟩
section
variable {P:aj} {N:Fm} {σ:Nat→ab} {w:ae} {dst:Option Nat} {ty:ai} {pos :String} {af:Array bD} {g:Option (Nat×Bool)} {x y z:ax} {K:(Nat→ab)→ae→Prop}
end
theorem AG {w:ae} {B e size n:Nat} {v:ab} {xs:List ab} (h:w.ownsRow B e size v n xs):v.oneCell'=true :=by
 rcases h.2 with ⟨rfl,_⟩ | ⟨g,cap,cur,rfl,_⟩ <;> rfl
theorem qi {w:ae} {B e size n:Nat} {v:ab} {xs:List ab} (h:w.ownsRow B e size v n xs):∃ a cap,v= .slice a n cap:=by
 rcases h.2 with ⟨rfl,rfl⟩ | ⟨g,cap,cur,rfl,_⟩
 · exact ⟨_,_,U⟩
 · exact ⟨_,_,U⟩
theorem fL {w w':ae} {B e size n:Nat} {v:ab} {xs:List ab} (h:w.ownsRow B e size v n xs) (hm:Wk w w'):w'.ownsRow B e size v n xs:=ed h hm fun _ _ x=>x
theorem jy {w:ae} {B e size n:Nat} {v:ab} {xs:List ab} (h:w.ownsRow B e size v n xs) {k:Nat} (A:v.ownBlock=some k):B≤k∧k < w.heap.size:=h.lt k A
theorem Wk.own {w0 w w':ae} {B e size n:Nat} {v:ab} {xs:List ab} (h:Wk w0 w) (A:w.ownsRow B e size v n xs) (hm:Md (fun k=>v.ownBlock=some k) w w') (E:w0.heap.size≤B):Wk w0 w':=
 Md.trans' h hm (fun k I C=>by have :=(jy A C).1; omega)
theorem lV {w:ae} {B e size n:Nat} {v:ab} {xs:List ab} (h:w.ownsRow B e size v n xs):∃ a cap,v= .slice a n cap∧aZ w.heap a xs∧n≤cap∧(∀ k,v.ownBlock=some k→a=some ⟨k,0,none⟩∧B≤k∧k < w.heap.size)∧(v.ownBlock=none→xs= []):=by
 rcases h.2 with ⟨rfl,rfl⟩ | ⟨g,cap,cur,rfl,hb,C,hle,_,_,E⟩
 · have :xs= []:=im<|by simpa using h.1
   subst this;exact ⟨none,0,U,aZ.nil _ _,aI _,fun k A=>by simp [cJ] at A,fun _=>rfl⟩
 · refine ⟨_,cap,U,⟨fun _=>rfl,fun j u hu=> ?_⟩,hle,fun k A=> ?_,fun A=>by simp [cJ] at A⟩
   · show aK w.heap g (0 +j)=_;rw [b9,dQ C];rw [← E,List.getElem?_take] at hu;split at hu
     · simpa using hu
     · cases hu
   · simp only [cJ,aQ] at A; subst A;exact ⟨U,hb,(bu.1 C).1⟩
theorem jx {w:ae} {B e size n cap:Nat} {a:Option aB} {xs:List ab} (h:w.ownsRow B e size (.slice a n cap) n xs):n≤cap∧aZ w.heap a xs:=by grind [lV]
theorem AF {w:ae} {B B' e size n:Nat} {v:ab} {xs:List ab} (h:w.ownsRow B e size v n xs) (E:B'≤B):w.ownsRow B' e size v n xs:=by
 refine ⟨h.1,?_⟩;rcases h.2 with h | ⟨g,cap,cur,A,C,r⟩
 · exact .inl h
 · exact .inr ⟨g,cap,cur,A,bK E C,r⟩
theorem aZ.drop {h:Array Obj} {a:Option aB} {xs:List ab} (C:aZ h a xs) {cap k size:Nat} (I:xs.length≤cap*size):aZ h (bT a cap k size) (xs.drop<|k*size):=by
 unfold bT;by_cases A:cap=k
 · rw [if_pos A,List.drop_eq_nil_of_le (by rw [← A]; exact I)]; exact aZ.nil _ _
 · rw [if_neg A];by_cases E:xs= []
   · subst E; rw [List.drop_nil]; exact aZ.nil _ _
   · have ha:=C.ok E;rw [ha];simp only [cM,cE];refine ⟨fun _=>rfl,fun j u hu=> ?_⟩;rw [List.getElem?_drop] at hu;have :=C.aK _ _ hu;show Hb.aK h (bk a) (fo a+k*size+j)=_;rw [eo]; exact this
section
variable {P:aj} {N:Fm} {σ:Nat→ab} {w:ae} {dst:Option Nat} {ty:ai} {pos :String} {af:Array bD} {g:Option (Nat×Bool)} {x y z:ax} {K:(Nat→ab)→ae→Prop}
end
end Go.Hb
namespace Go.Hb
section
variable {P:aj} {md:jU} {ops:Array an} {Q:aE→Act→ae→Prop} {S:ae→Prop} {r:Nat}
def ic (P:aj) (md:jU) (ops:Array an) (Q:aE→Act→ae→Prop) (S:ae→Prop) (r:Nat):Nat→Array Bool→Act→ae→Prop
 | 0,listed,a,w=>cT md ops listed= []∧Q .normal a w
 | fuel+1,listed,a,w=>
   (cT md ops listed= []→Q .normal a w)∧
   ∀ i∈cT md ops listed,wpOp P ops Q i (fun A w'=>((listed.setIfInBounds i true).getD r false =false→S w')∧ic P md ops Q S r fuel (listed.setIfInBounds i true) A w') a w
theorem vg:∀ (fuel:Nat) (listed:Array Bool) (a:Act) (w:ae),ic P md ops Q S r fuel listed a w→wpAny P md ops Q fuel listed a w
 | 0,_,_,_,h=>h
 | fuel+1,_,_,_,h=>⟨h.1,fun i hi=>wpOp_mono (fun A w' C=>vg fuel _ A w' C.2)<|h.2 i hi⟩
theorem Ci {i:Nat} {I:an} {v:ab} (hi:ops[i]? =some I) (ak:∀ (j:Nat) (o:an) cs b,ops[j]? =some o→o.op≠.select cs b)
 (ap:∀ c a w,Q (.panic c) (a.put I.dst v) w→Q (.panic c) a w) (aA:∀ o,ops[r]? =some o→∃ x∈o.after,cm md x=true∧x.on=i) (au:i≠r):
 ∀ (fuel:Nat) (listed:Array Bool) (a:Act) (w:ae),
   (∀ j C,ops[j]? =some C→j≠i→listed.getD j true =false→(∀ x∈C.after,cm md x=true→x.on≠i)→I.apart ops C=true)→
   i∈cT md ops listed→YieldsIf P ops S I v a→S w→listed.getD r false =false→
   ic P md ops Q S r fuel (listed.setIfInBounds i true) (a.put I.dst v) w→ic P md ops Q S r (fuel+1) listed a w:=by
 intro fuel
 induction fuel with
 | zero=>
   intro listed a w _ hr U J _ H;refine ⟨fun h=>(by rw [h] at hr; cases hr),fun j M=> ?_⟩;by_cases A:j=i
   · subst A; exact U.wpOp hi J ⟨fun _=>J,H⟩
   · have :=ready_mono M A;rw [H.1] at this;cases this
 | succ fuel ih=>
   intro listed a w aa hr U J ah H;refine ⟨fun h=>(by rw [h] at hr; cases hr),fun j M=> ?_⟩;by_cases A:j=i
   · subst A; exact U.wpOp hi J ⟨fun _=>J,H⟩
   · have E:=H.2 j<|ready_mono M A;obtain ⟨ag,C,O,aq⟩:=mem_ready.1 M;have aj:∀ x∈C.after,cm md x=true→x.on≠i:=fun x Z hb heq=>by
      have E:=aq x Z hb;have h0:=(mem_ready.1 hr).1;rw [heq] at E;rcases e7 i listed.size with V | V
      · simp [V] at h0 E; rw [h0] at E; cases E
      · simp [og V] at E
     have ad:j≠r:=by
      rintro rfl;obtain ⟨x,Z,hb,az⟩:=aA C O;exact aj x Z hb az
     have ax:(listed.setIfInBounds j true).getD r false =false :=by rw [getD_set_ne false ad]; exact ah
     have ai:((listed.setIfInBounds i true).setIfInBounds j true).getD r false =false :=by rw [getD_set_ne false ad,getD_set_ne false au]; exact ah
     have ao:=wpOp_putIf O (aa j C O A ag aj) (fun cs b=>ak i I cs b hi) (fun cs b=>ak j C cs b O) ap U E;have ar:∀ k ok,ops[k]? =some ok→k≠i→(listed.setIfInBounds j true).getD k true =false→
      (∀ x∈ok.after,cm md x=true→x.on≠i)→I.apart ops ok=true :=fun k ok av aw al ay=>by
      refine aa k ok av aw ?_ ay;by_cases ac:j=k
      · subst ac; exact ag
      · rw [getD_set_ne true ac] at al; exact al
     refine wpOp_mono (fun am w' L=>⟨fun _=>L.2.1 ai,ih (listed.setIfInBounds j true) am w' ar (ready_mono hr<|Ne.symm A) L.1 (L.2.1 ai) ax ?_⟩) ao;rw [q4 _ _ A];exact L.2.2
end
section
variable {P:aj} {N:Fm} {ops:Array an} {Q:aE→(Nat→ab)→ae→Prop} {σ:Nat→ab} {w:ae} {S:ae→Prop} {r fuel:Nat} {listed:Array Bool}
 {d':Option Nat} {d:Nat} {op:Op} {ty:ai} {pos :String} {af:Array bD} {v:ab}
def bq (P:aj) (N:Fm) (ops:Array an) (Q:aE→(Nat→ab)→ae→Prop) (S:ae→Prop) (r fuel:Nat) (listed:Array Bool) (σ:Nat→ab) (w:ae):Prop :=
 ic P .any ops (lift N Q) S r fuel listed (act N σ) w
theorem pV {id:Nat} {l:List an} (S:ae→Prop) (r:Nat) (hr:gY N.r l=true) (hm:P.follows .mixedOrders=true) (A:S w.drew) (h:bq P N l.toArray Q S r l.length (mi l.length false) σ w.drew):aJ P N (.region id l.toArray true) Q σ w:=by
 exact rE hr hm<|vg _ _ _ _<|by rw [c7]; exact h
def kl (F:List Nat) (ops:Array an) (listed:Array Bool) (r i:Nat):Bool:=
 da F ops listed i && !(listed.getD r false) && i !=r && (match ops[r]? with | some o=>o.after.toList.any (fun x=>cm .any x && x.on==i) | none=>false)
theorem lq (i:Nat) (hi:ops[i]? =some ⟨some d,op,ty,pos,af,none⟩) (C:kl N.F ops listed r i=true)
 (U:∀ w,S w→(execOp (ev N σ) ⟨some d,op,ty,pos,af,none⟩).run P w= .ok (.value v) w) (A:S w)
 (k:bq P N ops Q S r fuel (listed.setIfInBounds i true) (aG σ d v) w):bq P N ops Q S r (fuel+1) listed σ w:=by
 simp only [kl,da,aD,gz,bne_iff_ne,ne_eq] at C;obtain ⟨⟨⟨⟨⟨⟨J,L⟩,hf3⟩,hfF⟩,hf4⟩,hf5⟩,hf6⟩:=C;rw [hi] at hfF;refine Ci hi (q8 J) (fun c a w=>jt hfF c a w) (fun o M=> ?_) hf5 fuel listed _ w (q7 hi L) (by simpa using hf3) (.inl ⟨fw _ rfl _,fun w A=> ?_⟩) A hf4 ?_ (v:=v)
 · rw [M] at hf6;simp only [wj,aD,beq_iff_eq] at hf6;obtain ⟨x,O,E,I⟩:=hf6;exact ⟨x,om.1 O,E,I⟩
 · rw [cD]; exact U w A
 · rw [dv]; exact k
theorem tv (i:Nat) (hi:ops[i]? =some ⟨d',op,ty,pos,af,none⟩) (hr:kz ops listed i=true)
 (h:aT P N ⟨d',op,ty,pos,af,none⟩ σ w (fun σ w=>((listed.setIfInBounds i true).getD r false =false→S w)∧bq P N ops Q S r fuel (listed.setIfInBounds i true) σ w)):bq P N ops Q S r (fuel+1) listed σ w:=by
 have C:cT .any ops listed= [i]:=by simpa [kz] using hr
 refine ⟨fun h0=>absurd (C ▸ h0) (by simp),fun k A=> ?_⟩;rw [C] at A;obtain rfl :k=i:=by simpa using A
 unfold wpOp;simp only [hi];rw [if_pos (fw _ rfl _)];exact .inl<|oc h fun _ _ A=>A
theorem tB (i:Nat) (hi:ops[i]? =some ⟨d',op,ty,pos,af,none⟩) (hr:kz ops listed i=true)
 (h:aT P N ⟨d',op,ty,pos,af,none⟩ σ w (fun σ w=>S w∧bq P N ops Q S r fuel (listed.setIfInBounds i true) σ w)):bq P N ops Q S r (fuel+1) listed σ w:=by grind [tv,vk]
theorem np (i:Nat) (hi:ops[i]? =some ⟨d',op,ty,pos,af,none⟩) (hr:kz ops listed i=true) (C:(listed.setIfInBounds i true).getD r false =true)
 (h:aT P N ⟨d',op,ty,pos,af,none⟩ σ w (fun σ w=>bq P N ops Q S r fuel (listed.setIfInBounds i true) σ w)):bq P N ops Q S r (fuel+1) listed σ w:=
 tv i hi hr (vk h fun _ _ A=>⟨fun h0=>absurd (h0.symm.trans C) cz,A⟩)
theorem nr (hr:(cT .any ops listed).isEmpty=true) (h:Q .normal σ w):bq P N ops Q S r fuel listed σ w:=by
 have A:cT .any ops listed= []:=by simpa using hr
 cases fuel with
 | zero=>exact ⟨A,σ,rfl,h⟩
 | succ fuel=>exact ⟨fun _=>⟨σ,rfl,h⟩,by rw [A]; simp⟩
attribute [irreducible] bq
end
end Go.Hb
namespace Go.Hb
section
variable {P:aj} {md:jU} {ops:Array an} {Q:aE→Act→ae→Prop} {S:ae→Prop} {r:Nat}
inductive jb (md:jU) (ops:Array an) (i:Nat):Nat→Prop
 | one {r o e} :ops[r]? =some o→e∈o.after→cm md e=true→e.on=i→jb md ops i r
 | more {r o e} :ops[r]? =some o→e∈o.after→cm md e=true→jb md ops i e.on→jb md ops i r
def ja (md:jU) (ops:Array an) (listed:Array Bool):Prop := ∀ (j:Nat) (o:an),ops[j]? =some o→listed.getD j false =true→∀ e∈o.after,cm md e=true→listed.getD e.on false =true
theorem sV {listed:Array Bool} {j k:Nat} (h:listed.getD k false =true):(listed.setIfInBounds j true).getD k false =true :=by
 by_cases e:j=k
 · subst e;by_cases A:j < listed.size
   · simp [A]
   · simp [A] at h
 · rw [getD_set_ne false e]; exact h
theorem ja.set {listed:Array Bool} {j:Nat} (h:ja md ops listed) (J:j∈cT md ops listed):ja md ops (listed.setIfInBounds j true):=by
 intro k o A E e he hb;obtain ⟨_,M,L,I⟩:=mem_ready.1 J;by_cases C:j=k
 · subst C;rw [L] at A; cases A;exact sV<|I e he hb
 · rw [getD_set_ne false C] at E;exact sV<|h k o A E e he hb
theorem jb.listed {listed:Array Bool} {i r:Nat} (L:jb md ops i r) (J:ja md ops listed) (ha:∀ o,ops[r]? =some o→∀ e∈o.after,cm md e=true→listed.getD e.on false =true):listed.getD i false =true :=by
 induction L with
 | one A C E I=>rw [← I]; exact ha _ A _ C E
 | more A C E _ ih=>exact ih fun o M e he hb=>J _ o M (ha _ A _ C E) e he hb
theorem Ch {i:Nat} {C:an} {v:ab} (hi:ops[i]? =some C) (am:∀ (j:Nat) (o:an) cs b,ops[j]? =some o→o.op≠.select cs b)
 (ar:∀ c a w,Q (.panic c) (a.put C.dst v) w→Q (.panic c) a w) (au:jb md ops i r) (aw:i≠r):
 ∀ (fuel:Nat) (listed:Array Bool) (a:Act) (w:ae),ja md ops listed→
   (∀ j E,ops[j]? =some E→j≠i→listed.getD j true =false→(∀ x∈E.after,cm md x=true→x.on≠i)→C.apart ops E=true)→
   i∈cT md ops listed→YieldsIf P ops S C v a→S w→listed.getD r false =false→
   ic P md ops Q S r fuel (listed.setIfInBounds i true) (a.put C.dst v) w→ic P md ops Q S r (fuel+1) listed a w:=by
 intro fuel
 induction fuel with
 | zero=>
   intro listed a w _ _ hr U I _ H;refine ⟨fun h=>(by rw [h] at hr; cases hr),fun j J=> ?_⟩;by_cases A:j=i
   · subst A; exact U.wpOp hi I ⟨fun _=>I,H⟩
   · have :=ready_mono J A;rw [H.1] at this;cases this
 | succ fuel ih=>
   intro listed a w aa ac hr U I aj H;refine ⟨fun h=>(by rw [h] at hr; cases hr),fun j J=> ?_⟩;by_cases A:j=i
   · subst A; exact U.wpOp hi I ⟨fun _=>I,H⟩
   · have L:=H.2 j<|ready_mono J A;obtain ⟨ai,E,O,Z⟩:=mem_ready.1 J;have ad:listed.getD i false =false :=by
      have h0:=(mem_ready.1 hr).1;rcases e7 i listed.size with V | V
      · simpa [V] using h0
      · simp [V] at h0
     have aB:∀ x∈E.after,cm md x=true→x.on≠i:=fun x aC hb heq=>by
      have L:=Z x aC hb;rw [heq,ad] at L; cases L
     have ah:j≠r:=by
      rintro rfl;have :=au.listed aa fun o al=>by rw [O] at al; cases al; exact Z
      rw [ad] at this; cases this
     have az:(listed.setIfInBounds j true).getD r false =false :=by rw [getD_set_ne false ah]; exact aj
     have ak:((listed.setIfInBounds i true).setIfInBounds j true).getD r false =false :=by rw [getD_set_ne false ah,getD_set_ne false aw]; exact aj
     have aq:=wpOp_putIf O (ac j E O A ai aB) (fun cs b=>am i C cs b hi) (fun cs b=>am j E cs b O) ar U L;have av:∀ k ok,ops[k]? =some ok→k≠i→(listed.setIfInBounds j true).getD k true =false→
      (∀ x∈ok.after,cm md x=true→x.on≠i)→C.apart ops ok=true :=fun k ok ax ay ao aA=>by
      refine ac k ok ax ay ?_ aA;by_cases ag:j=k
      · subst ag; exact ai
      · rw [getD_set_ne true ag] at ao; exact ao
     refine wpOp_mono (fun ap w' M=>⟨fun _=>M.2.1 ak,ih (listed.setIfInBounds j true) ap w' (aa.set J) av (ready_mono hr<|Ne.symm A) M.1 (M.2.1 ak) az ?_⟩) aq;rw [q4 _ _ A];exact M.2.2
theorem Cj {i:Nat} {C:an} {v:ab} (hi:ops[i]? =some C) (ai:∀ (j:Nat) (o:an) cs b,ops[j]? =some o→o.op≠.select cs b)
 (am:∀ c a w,Q (.panic c) (a.put C.dst v) w→Q (.panic c) a w) (V:i≠r):
 ∀ (fuel:Nat) (listed:Array Bool) (a:Act) (w:ae),
   (∀ j E,ops[j]? =some E→j≠i→listed.getD j true =false→(∀ x∈E.after,cm md x=true→x.on≠i)→C.apart ops E=true)→
   i∈cT md ops listed→YieldsIf P ops (fun _=>True) C v a→(listed.getD r false =false→S w)→
   ic P md ops Q S r fuel (listed.setIfInBounds i true) (a.put C.dst v) w→ic P md ops Q S r (fuel+1) listed a w:=by
 intro fuel
 induction fuel with
 | zero=>
   intro listed a w _ hr M U H;refine ⟨fun h=>(by rw [h] at hr; cases hr),fun j L=> ?_⟩;by_cases A:j=i
   · subst A; exact M.wpOp hi trivial ⟨fun h=>U (by rw [getD_set_ne false V] at h; exact h),H⟩
   · have :=ready_mono L A;rw [H.1] at this;cases this
 | succ fuel ih=>
   intro listed a w ac hr M U H;refine ⟨fun h=>(by rw [h] at hr; cases hr),fun j L=> ?_⟩;by_cases A:j=i
   · subst A; exact M.wpOp hi trivial ⟨fun h=>U (by rw [getD_set_ne false V] at h; exact h),H⟩
   · have I:=H.2 j<|ready_mono L A;obtain ⟨ah,E,Z,ao⟩:=mem_ready.1 L;have aq:listed.getD i false =false :=by
      have h0:=(mem_ready.1 hr).1;rcases e7 i listed.size with O | O
      · simpa [O] using h0
      · simp [O] at h0
     have aw:∀ x∈E.after,cm md x=true→x.on≠i:=fun x ax hb heq=>by
      have I:=ao x ax hb;rw [heq,aq] at I; cases I
     have al:=wpOp_putIf Z (ac j E Z A ah aw) (fun cs b=>ai i C cs b hi) (fun cs b=>ai j E cs b Z) am M I;have ap:∀ k ok,ops[k]? =some ok→k≠i→(listed.setIfInBounds j true).getD k true =false→
      (∀ x∈ok.after,cm md x=true→x.on≠i)→C.apart ops ok=true :=fun k ok ar au aj av=>by
      refine ac k ok ar au ?_ av;by_cases ag:j=k
      · subst ag; exact ah
      · rw [getD_set_ne true ag] at aj; exact aj
     have aa:(listed.setIfInBounds i true).setIfInBounds j true =(listed.setIfInBounds j true).setIfInBounds i true :=q4 _ _ fun e=>A e.symm;have ad:(listed.setIfInBounds j true).getD r false =false→((listed.setIfInBounds i true).setIfInBounds j true).getD r false =false :=fun h=>by rw [aa,getD_set_ne false V]; exact h
     refine wpOp_mono (fun ak w' J=>⟨fun h=>J.2.1 (ad h),ih (listed.setIfInBounds j true) ak w' ap (ready_mono hr<|Ne.symm A) J.1 (fun h=>J.2.1<|ad h) ?_⟩) al;rw [← aa];exact J.2.2
end
section
variable {P:aj} {N:Fm} {ops:Array an} {Q:aE→(Nat→ab)→ae→Prop} {σ:Nat→ab} {w:ae} {S:ae→Prop} {r fuel:Nat} {listed:Array Bool}
 {d:Nat} {op:Op} {ty:ai} {pos :String} {af:Array bD} {v:ab}
def mS (ops:Array an) (i:Nat):Nat→Nat→Bool
 | 0,_=>false
 | f+1,r=>match ops[r]? with | some o=>o.after.toList.any (fun e=>cm .any e && (e.on==i || mS ops i f e.on)) | none=>false
theorem yM {i:Nat} :∀ (f r:Nat),mS ops i f r=true→jb .any ops i r:=by
 intro f
 induction f with
 | zero=>intro r h; cases h
 | succ f ih=>
   intro r h;rw [mS] at h;split at h
   · rename_i o A;simp only [wj,aD,jM,beq_iff_eq] at h;obtain ⟨e,he,hb,h⟩:=h;rcases h with h | h
     · exact .one A (om.1 he) hb h
     · exact .more A (om.1 he) hb<|ih _ h
   · cases h
def o9 (ops:Array an) (listed:Array Bool):Bool:=(j0 ops.size).all fun j=> !listed.getD j false || match ops[j]? with | some o=>o.after.toList.all (fun e=> !cm .any e || listed.getD e.on false) | none=>true
theorem yp (h:o9 ops listed=true):ja .any ops listed:=by grind [o9,ja]
def pB (F:List Nat) (ops:Array an) (listed:Array Bool) (r i:Nat):Bool:=da F ops listed i && !(listed.getD r false) && i !=r && o9 ops listed && mS ops i ops.size r
def jn (F:List Nat) (ops:Array an) (listed:Array Bool) (r i:Nat):Bool:=da F ops listed i && i !=r
theorem zZ (i:Nat) (hi:ops[i]? =some ⟨some d,op,ty,pos,af,none⟩) (C:pB N.F ops listed r i=true)
 (J:∀ w,S w→(execOp (ev N σ) ⟨some d,op,ty,pos,af,none⟩).run P w= .ok (.value v) w) (A:S w)
 (k:bq P N ops Q S r fuel (listed.setIfInBounds i true) (aG σ d v) w):bq P N ops Q S r (fuel+1) listed σ w:=by
 simp only [pB,da,aD,gz,bne_iff_ne,ne_eq] at C;obtain ⟨⟨⟨⟨⟨⟨⟨E,I⟩,hf3⟩,hfF⟩,hf4⟩,hf5⟩,hf6⟩,hf7⟩:=C;rw [hi] at hfF;unfold bq at*;refine Ch hi (q8 E) (fun c a w=>jt hfF c a w) (yM _ _ hf7) hf5 fuel listed _ w (yp hf6) (q7 hi I) (by simpa using hf3) (.inl ⟨fw _ rfl _,fun w A=> ?_⟩) A hf4 ?_ (v:=v)
 · rw [cD]; exact J w A
 · rw [dv]; exact k
theorem ns (i:Nat) (hi:ops[i]? =some ⟨some d,op,ty,pos,af,none⟩) (A:jn N.F ops listed r i=true)
 (J:∀ w,(execOp (ev N σ) ⟨some d,op,ty,pos,af,none⟩).run P w= .ok (.value v) w) (C:listed.getD r false =false→S w)
 (k:bq P N ops Q S r fuel (listed.setIfInBounds i true) (aG σ d v) w):bq P N ops Q S r (fuel+1) listed σ w:=by
 simp only [jn,da,aD,bne_iff_ne,ne_eq] at A;obtain ⟨⟨⟨⟨E,I⟩,hf3⟩,hfF⟩,hf5⟩:=A;rw [hi] at hfF;unfold bq at*;refine Cj hi (q8 E) (fun c a w=>jt hfF c a w) hf5 fuel listed _ w (q7 hi I) (by simpa using hf3) (.inl ⟨fw _ rfl _,fun w _=> ?_⟩) C ?_ (v:=v)
 · rw [cD]; exact J w
 · rw [dv]; exact k
end
end Go.Hb
namespace Go.Hb
def u6:Nat→Nat→List UInt8
 | 0,n=> [dF n]
 | f+1,n=>if n < 128 then [dF n] else dF (n % 128 +128)::u6 f (n / 128)
def BX (n:Nat):List UInt8:=u6 n n
def frame:List (List UInt8)→List UInt8
 | []=> []
 | r::l=>BX r.length++(r++frame l)
theorem qK {α:Type} (l:List α) (i:Nat) (d:α) (h:i < l.length):l.take (i+1)=l.take i++ [l.getD i d]:=by simp_all
end Go.Hb
namespace Go.Hb
def U8 (l:List UInt8):List ab:=l.map fun b=>Value.int .u8 b.toNat
theorem oS (l:List UInt8):(U8 l).length=l.length:=by simp [U8]
theorem rB (a b:List UInt8):U8 (a++b)=U8 a++U8 b:=by simp [U8]
def iy (P:aj) (t e u:ai):Bool:=
 eG P t e 1 1 && (match P.underlying e with | some (.int .u8)=>true | _=>false) && (match P.underlying u with | some .string=>true | _=>false) &&
  (match P.info? e with | some i=>(match i.zero with | some (.int .u8 0)=>true | _=>false) | none=>false)
theorem rO {P:aj} {t e u:ai} (h:iy P t e u=true):
 eG P t e 1 1=true∧P.underlying e=some (.int .u8)∧P.underlying u=some .string∧∃ i,P.info? e=some i∧i.zero=some (.int .u8 0):=by grind [iy,eG]
section
variable {P:aj} {N:Fm} {σ:Nat→ab} {w:ae} {dst:Option Nat} {ty:ai} {pos :String} {af:Array bD} {g:Option (Nat×Bool)} {x y z:ax} {K:(Nat→ab)→ae→Prop}
theorem foldl_push (l:List UInt8) (r:ByteArray):(l.map fun b=>(b.toNat:Int)).foldl (fun r n=>r.push<|dF n.toNat) r=⟨r.data++l.toArray⟩:=by
 induction l generalizing r with
 | nil=>simp
 | cons b l ih=>
   simp only [cx,oE];rw [ih];apply ByteArray.ext;simp [ByteArray.push]
theorem pf {t e u n c:Nat} {a:Option aB} {l:List UInt8} (h:iy P t e u=true) (V:ev N σ x= .slice a n c) (A:aZ w.heap a (U8 l)) (C:l.length=n):
 (execOp (ev N σ) ⟨dst,.convert t u x,ty,pos,af,g⟩).run P w= .ok (.value<|str l) w:=by
 obtain ⟨E,I,J,_⟩:=rO h;obtain ⟨hu,_⟩:=kL E;have L:(vB<|.slice a n c).run P w= .ok (str l) w:=by
  by_cases he:l= []
  · subst he;cases a with
    | none=>simp [vB,str]; rfl
    | some a=>
      subst C;have :=run_bytesToString (P:=P) w a 0 c []<|by simp [loadCells,loadCellsFrom]
      exact this.trans U
  · have ha:=A.ok<|by simpa [U8] using he
    have O:(loadCells ⟨bk a,fo a,none⟩ n).run P w= .ok ((l.map fun b=>(b.toNat:Int)).map<|Value.int .u8).toArray w:=by
     subst C;have :=run_loadCells_list (P:=P) w ⟨bk a,fo a,none⟩ (U8 l) fun j v M=>by
      rw [cE,et];exact A.aK j v M
     rw [oS] at this;rw [this];simp [U8]
    rw [ha,run_bytesToString w _ n c _ O,foldl_push];simp [str,ByteArray.empty,ByteArray.emptyWithCapacity];rfl
 simp [execOp,V,run_convert_bytes_string w t u e a n c hu I J,L]
theorem xB {t e u B n:Nat} {v:ab} {xs:List ab} {l:List UInt8} (h:iy P t e u=true) (E:w.ownsRow B e 1 v n xs) (U:ev N σ x=v) (ah:B≤w.heap.size) (am:ev N σ y=str l)
 (hb:n+l.length≤140737488355328)
 (k:∀ C w',w'.ownsRow B e 1 C (n+l.length) (xs++U8 l)→Md (fun k=>v.ownBlock=some k) w w'→(C= .slice none 0 0↔v= .slice none 0 0∧l= [])→(∀ k,C.ownBlock=some k→v.ownBlock=some k∨w.heap.size≤k)→K (bR σ dst C) w'):
 aT P N ⟨dst,.call ⟨.builtin .append,#[x,y],#[t,u]⟩,ty,pos,af,g⟩ σ w K:=by
 obtain ⟨aa,ao,J,i,hi,V⟩:=rO h;obtain ⟨hu,j,zv,aj,_,M,O,_,_⟩:=kL aa;obtain rfl :j=i:=di<|aj.symm.trans hi;obtain ⟨C,w',hr,ad,L,ae⟩:=vP (P:=P) w B t u ty e j hu J hi V M O v n xs E ⟨⟨l⟩⟩ (by show n+l.length≤maxLen; unfold maxLen; omega) hb ah;refine eH (w':=w') (v:=C) ?_ (k C w' ad ⟨L.os,L.output,L.size,fun k A ak=>L.block k A fun e=>ak e.symm⟩ ?_ ?_)
 · have an:ev N σ y= .string ⟨⟨l⟩⟩:=am;simp [execOp,resolve,invoke,builtin,U,an,hr]
 · rw [ae];show (_∧l.length=0)↔_;simp
 · intro k A;rcases E.2 with ⟨rfl,rfl⟩ | ⟨I,cap,cur,rfl,aq,ai,av,ar,au,aw⟩
   · have U:xs= []:=im<|by simpa using E.1
     subst U;obtain ⟨v2,ax,Z,ac,_,_⟩:=vP (P:=P) w w.heap.size t u ty e j hu J hi V M O _ 0 [] (lf w w.heap.size e 1) ⟨⟨l⟩⟩ (by show 0 +l.length≤maxLen; unfold maxLen; omega) (by show 0 +l.length≤_; omega)<|aI _;rw [hr] at Z;cases Z;rcases ac.2 with ⟨h,_⟩ | ⟨g2,_,_,h,ap,_⟩
     · rw [h] at A; simp [cJ] at A
     · rw [h] at A; simp only [cJ,aQ] at A; exact .inr ag
   · by_cases al:n+l.length≤cap
     · rw [Lib.run_append_room_string (P:=P) w t u ty e j hu J hi M I n cap cur ai ⟨⟨l⟩⟩ al (by show n+l.length≤_; omega)] at hr;cases hr;exact .inl A
     · have holds:∀ j u,xs[j]? =some u→w.cell? ((⟨I,0,none⟩:aB).add j)=some u:=E.cells (g:=I) rfl;rw [Lib.run_append_grow_string (P:=P) w t u ty e j _ hu J hi V ⟨I,0,none⟩ n cap xs (by rw [M]; exact E.1) holds ⟨⟨l⟩⟩ (by show cap < n+l.length; omega) (by show ((n+l.length:Nat):Int)≤_; omega) (growslice_fits (by show cap < n+l.length; omega)<|by rw [O]; show (n+l.length)*1≤_; omega)] at hr;cases hr;simp only [cJ,aQ] at A;exact .inr ag
theorem qR {at_:Array ai} {v:ab} {a:Option aB} {n c:Nat} (A:ev N σ x= .slice a n c) (h:a=none∨c≠0):
 (execOp (ev N σ) ⟨dst,.call ⟨.builtin .unsafeSliceData,#[x],at_⟩,ty,pos,af,g⟩).run P w= .ok (.value<|.pointer a) w:=by
 have _:=v;have :(Builtin.unsafeSliceData_ at_ ty #[.slice a n c]).run P w= .ok (.pointer a) w:=by
  cases a with
  | none=>exact Lib.run_unsafeSliceData_nil w at_ ty n c
  | some a=>exact Lib.run_unsafeSliceData_row w at_ ty a n c<|h.resolve_left<|by simp
 simp [execOp,resolve,invoke,builtin,A,this]
def ptrTo (P:aj) (C e:ai):Bool:=match P.underlying C with | some (.pointer A)=>A==e && P.cellsOf e==1 | _=>false
theorem B8 {I it e B n c:Nat} {a:Option aB} {l:List UInt8} {xs:List ab} (hp:ptrTo P I e=true) (M:ev N σ x= .pointer a) (O:ev N σ y= .int .i64 n) (E:w.ownsRow B e 1 (.slice a n c) n xs)
 (ak:xs=U8 l) (am:n≤9223372036854775807)
 (k:∀ w',Md (fun k=>(dD a n c).ownBlock=some k) w w'→w'.heap.size=w.heap.size→K (bR σ dst<|str l) w'):
 aT P N ⟨dst,.call ⟨.builtin .unsafeString,#[x,y],#[I,it]⟩,ty,pos,af,g⟩ σ w K:=by
 subst ak;have A:l.length=n:=by have :=E.1; simpa [U8] using this
 unfold ptrTo at hp;split at hp
 case h_2=>cases hp
 rename_i J hu;simp only [aD,beq_iff_eq] at hp;obtain ⟨rfl,V⟩:=hp;by_cases he:l= []
 · subst he;obtain rfl :n=0:=A.symm;refine eH (w':=w) (v:=str []) ?_<|k w (Md.refl _ _) U;simp [execOp,resolve,invoke,builtin,M,O,Lib.run_unsafeString_none];rfl
 · rcases E.2 with ⟨h,h0⟩ | ⟨C,cap,cur,h,_,aa,hle,_,aj,an⟩
   · subst h0; simp only [List.length_eq_zero_iff] at A; exact absurd A he
   · simp only [jW,true_and] at h;obtain ⟨rfl,rfl⟩:=h;have ai:w.shape? C=some (J,cur.size):=by simp [q9,aa]
     have hr:=Lib.run_unsafeString_row (P:=P) w I it ty J hu V C cur.size ai l he (by rw [A,aj]; omega) ag (fun j u hu=>by
      obtain ⟨ad,al,L,Z,_,ac,_⟩:=lV E;simp only [jW,true_and] at L;obtain ⟨rfl,rfl⟩:=L;rw [cE,et];exact Z.aK j _ (by simp [U8,hu]))
     refine eH (w':=w.freeze ⟨C,0,none⟩ l.length) (v:=str l) ?_ (k _ ⟨?_,?_,?_,?_⟩ ?_)
     · simp [execOp,resolve,invoke,builtin,M,O,← A,hr,str]
     · unfold il; split <;> rfl
     · unfold il; split <;> rfl
     · unfold il; split <;> simp
     · intro k ac ae;have ah:k≠C:=fun e=>ae<|by simp [cJ,e]
       unfold il;split
       · rfl
       · simp only [mh]; rw [if_neg (fun e=>ah e.symm)]
     · unfold il; split <;> simp
def jG (P:aj) (C up e n:Nat):Bool:=
 (match P.underlying C with | some (.pointer A)=>A==e | _=>false) && (match P.underlying up with | some .unsafePointer=>true | _=>false) && P.cellsOf e==n && aq 0 n && (match P.info? e with | some i=>i.size==n | _=>false)
theorem va {P:aj} {E up e n:Nat} (h:jG P E up e n=true):P.underlying E=some (.pointer e)∧P.underlying up=some .unsafePointer∧P.cellsOf e=n∧0 < n∧∃ i,P.info? e=some i∧i.size=n:=by
 simp only [jG,aD] at h;obtain ⟨⟨⟨⟨A,C⟩,h3⟩,h4⟩,h5⟩:=h;refine ⟨?_,?_,by simpa using h3,iY (iv 0) (aP h4),?_⟩
 · split at A
   · rename_i h; simp only [beq_iff_eq] at A; rw [h,A]
   · cases A
 · split at C
   · rename_i h; exact h
   · cases C
 · split at h5
   · rename_i i hi; exact ⟨i,hi,by simpa using h5⟩
   · cases h5
theorem uV {A up e n b:Nat} {L:List ab} (h:jG P A up e n=true) (U:ev N σ x= .pointer (some ⟨b,0,none⟩)) (hb:w.heap[b]? =some (.cells L.toArray e (0,0))) (I:L.length=n):
 (execOp (ev N σ) ⟨dst,.convert A up x,ty,pos,af,g⟩).run P w= .ok (.value<|.pointer<|some ⟨b,0,none⟩) w:=by
 obtain ⟨C,E,V,Z,i,hi,M⟩:=va h;have O:w.shape? b=some (e,L.length):=by simp [q9,hb]
 have J:¬n=0:=ag;simp [execOp,U,convert,aC C,aC E,vD,vC,viewAt,O,cellsIn,I,sizeOf,bU hi,M,J]
theorem sQ {E up e n b:Nat} {L:List ab} (h:jG P E up e n=true) (ac:ev N σ x= .pointer (some ⟨b,0,none⟩)) (hb:w.heap[b]? =some (.cells L.toArray e (0,0))) (U:L.length=n):
 (execOp (ev N σ) ⟨dst,.convert up E x,ty,pos,af,g⟩).run P w= .ok (.value<|.pointer<|some ⟨b,0,none⟩) w:=by
 obtain ⟨I,J,M,O,i,hi,Z⟩:=va h;have aa:w.shape? b=some (e,L.length):=by simp [q9,hb]
 have C:¬n=0:=ag;have V:liesAt P P.depth e (L.length / P.cellsOf e) 0 e 1=true :=by
  have A:P.depth=(2 *(P.types.size+Made.depth)+1)+1:=rfl;rw [A];simp only [liesAt,jM];left;rw [A];simp [rowAt,M,C,U,sameLayout,Nat.div_self O]
 simp [execOp,ac,convert,aC I,aC J,vD,vC,viewAt,aa,variablesAt,sizeOf,bU hi,Z,C,V]
theorem Ah {t J e:ai} {a:aB} (hu:P.underlying t=some (.pointer e)) (C:(P.info? e).isSome=true) (E:ev N σ x= .pointer (some a)) (I:ev N σ y= .pointer (some a)):
 (execOp (ev N σ) ⟨dst,.binOp .neq t x y J,ty,pos,af,g⟩).run P w= .ok (.value<|.bool false) w:=by
 obtain ⟨i,hi⟩:=xe.1 C;have he:∀ d,(eI (d+1) t (.pointer<|some a)<|.pointer<|some a).run P w= .ok true w:=by
  intro d;simp [eI,aC hu,sizeOf,bU hi,sameAddr]
 have h:(binOp .neq t (.pointer<|some a)<|.pointer<|some a).run P w= .ok (.bool false) w:=by
  have :=he 9999;simp only [binOp];have A:(jS t (.pointer<|some a)<|.pointer<|some a).run P w= .ok true w:=this;simp [A]
 simp [execOp,E,I,eqGuard,h]
theorem yr {f:ej} {args:Array ax} {A:Array ai} {v:ab} (E:∀ v w,(callFunc f #[v]).run P w= .ok (.value v) w) (C:args.toList.map (ev N σ)= [v]):
 (execOp (ev N σ) ⟨dst,.call ⟨.value (.func f),args,A⟩,ty,pos,af,g⟩).run P w= .ok (.value v) w:=by
 have :args.map (ev N σ)= #[v]:=by rw [← Array.toList_inj,gy,C]
 simp [execOp,resolve,ev,kW,invoke,this,E]
structure Bd (T e:ai) (w:ae) (b:Nat) (buf:ab) (l:List UInt8):Prop where
 ak:∃ pa,w.heap[b]? =some (.cells [oB pa,buf].toArray T (0,0))∧(pa=none∨pa=some ⟨b,0,none⟩)
 own:w.ownsRow (b+1) e 1 buf l.length (U8 l)
 nil:buf= .slice none 0 0↔l= []
def BF (b:Nat) (A:ab) (k:Nat):Prop :=k=b∨A.ownBlock=some k
end
theorem Bd.lt {T e b:Nat} {w:ae} {A:ab} {l:List UInt8} (h:Bd T e w b A l):b < w.heap.size:=let ⟨_,h,_⟩:=h.ak; (bu.1 h).1
theorem Bd.sO {T e b:Nat} {w:ae} {C:ab} {l:List UInt8} (h:Bd T e w b C l) {k:Nat} (A:BF b C k):b≤k∧k < w.heap.size:=by
 rcases A with rfl | A
 · exact ⟨aI _,h.lt⟩
 · have :=h.own.lt k A; omega
theorem Bd.md {T e b:Nat} {F:Nat→Prop} {w w':ae} {A:ab} {l:List UInt8} (h:Bd T e w b A l) (hm:Md F w w') (C:∀ k,BF b A k→¬F k):Bd T e w' b A l:=by
 obtain ⟨⟨L,E,I⟩,h3,h4⟩:=h;exact ⟨⟨L,hm.ak E (C b<|.inl U),I⟩,ed h3 hm (fun k J=>C k<|.inr J),h4⟩
end Go.Hb
namespace Go.Hb
def jE (P:aj) (t:ai):Option (List (Nat×Nat)×List ab):=
 match P.info? t,P.underlying t with
 | some it,some (.struct fields)=>
   match it.zero,fields.toList.mapM (fun f=>(P.info? f.type).map fun i=>(f.offset,i.size)) with
   | some z,some pl=>some (pl,z.cells.toList)
   | _,_=>none
 | _,_=>none
def lW (pl:List (Nat×Nat)):List ab→List (Nat×ab)→Option (List ab)
 | A,[]=>some A
 | A,(i,v)::r=>match pl[i]? with
   | some (off,s)=>if (s==1 && v.oneCell' && aq off A.length)=true then lW pl (A.set off v) r else none
   | none=>none
theorem AJ {pl:List (Nat×Nat)} {A L:List ab} {ps:List (Nat×ab)} (h:lW pl A ps=some L):fN (pl.toArray[·]?) A.toArray ps=some L.toArray:=by
 induction ps generalizing A with
 | nil=>simp only [lW,aQ] at h; subst h; rfl
 | cons p ps ih=>
   obtain ⟨i,v⟩:=p;simp only [lW] at h;split at h
   · rename_i off s J;split at h
     · rename_i C;simp only [aD,beq_iff_eq] at C;obtain ⟨⟨rfl,E⟩,ho⟩:=C;have O:off < A.length:=aP ho;have M:v.cells= #[v]:=ky E;have I:pl.toArray[i]? =some (off,1):=by simpa using J
       simp only [fN,I,M];rw [if_neg (by simp; omega),← ih h];simp
     · cases h
   · cases h
section
variable {P:aj} {N:Fm} {σ:Nat→ab} {w:ae} {dst:Option Nat} {ty:ai} {pos :String} {af:Array bD} {g:Option (Nat×Bool)} {x y z:ax} {K:(Nat→ab)→ae→Prop}
theorem rL {t:ai} {parts:Array (Nat×ax)} {pl:List (Nat×Nat)} {A L:List ab} {ps:List (Nat×ab)} (h:jE P t=some (pl,A)) (hp:parts.toList.map (fun p=>(p.1,ev N σ p.2))=ps) (C:lW pl A ps=some L):
 (execOp (ev N σ) ⟨dst,.build t parts,ty,pos,af,g⟩).run P w= .ok (.value<|.agg L.toArray) w:=by
 unfold jE at h;split at h
 · rename_i it fields hi hu;split at h
   · rename_i z I E hm;simp only [aQ,oM] at h;obtain ⟨rfl,rfl⟩:=h;have hb:P.built t (parts.map fun p=>(p.1,ev N σ p.2)).toList=some L.toArray:=by
      have :=AJ C;simp only [vt] at this;simp only [Program.built,hi,hu,E,hm,gy,hp]; exact this
     simp [execOp,run_build w t _ _ hb]
   · cases h
 · cases h
end
end Go.Hb
namespace Go.Hb
section
variable {P:aj} {N:Fm} {σ:Nat→ab} {w:ae} {dst:Option Nat} {ty:ai} {pos :String} {af:Array bD} {g:Option (Nat×Bool)} {x y z:ax} {K:(Nat→ab)→ae→Prop}
end
end Go.Hb
namespace Go.Hb
section
variable {P:aj} {N:Fm} {σ:Nat→ab} {w:ae} {dst:Option Nat} {ty:ai} {pos :String} {af:Array bD} {g:Option (Nat×Bool)} {x y z:ax}
theorem yo {t n len cap i:Nat} {a:Option aB} {k I:aH} (he:cC P t=some n) (A:ev N σ x= .slice a len cap) (C:ev N σ y= .int k (i:Nat)) (E:ev N σ z= .int I (i:Nat)) (h:i≤cap):
 (execOp (ev N σ) ⟨dst,.slice t x none (some y) (some z),ty,pos,af,g⟩).run P w= .ok (.value<|.slice a i i) w:=by
 have h0:(0:Int)≤(i:Int):=ag;unfold cC at he;cases hd:P.underlying t with
 | none=>rw [hd] at he; cases he
 | some d=>
   rw [hd] at he;cases d <;> first | (cases he; done) | skip
   rename_i e;cases hi':P.info? e with
   | none=>simp [hi'] at he
   | some j=>
     have ha:(if i=0 then a else a.map (·.add 0))=a:=by
      split
      · rfl
      · cases a <;> simp [oq]
     simp only [execOp,jQ,mq,A,C,E,cM,Option.map_none,gD,jR,asIntOf];simp [aC hd,bU hi',sizeOf,h0,ha];intro J; omega
end
end Go.Hb
namespace Go.Hb
def fW (h:Array Obj) (b:Nat) (kvs:List (ab×ab)):Prop := ∃ es clock,h[b]? =some (.map es clock)∧es.toList.map (fun e=>(e.key,e.val))=kvs
theorem fW.md {F:Nat→Prop} {w w':ae} {b:Nat} {kvs:List (ab×ab)} (h:fW w.heap b kvs) (hm:Md F w w') (A:¬F b):fW w'.heap b kvs:=
 let ⟨es,c,h1,h2⟩:=h; ⟨es,c,hm.ak h1 A,h2⟩
theorem fW.lt {h:Array Obj} {b:Nat} {kvs:List (ab×ab)} (hm:fW h b kvs):b < h.size:=by grind [fW]
structure j4 (P:aj) (k:ai) (au:ab→Prop):Prop where
 check:∀ em w v,au v→(gC em 10000 k v).run P w= .ok () w
 find:∀ w x es,au x→(∀ e∈es,au e.key)→
  ((jO k x es).run P w= .ok none w∧∀ e∈es,e.key≠x)∨∃ j e,(jO k x es).run P w= .ok (some (j,e.val)) w∧es[j]? =some e∧e.key=x
theorem yc {P:aj} {k:ai} {em:Bool} {n:Nat} {a:Bool} (A:P.underlying k=some .bool) (w:ae):(gC em (n+1) k<|.bool a).run P w= .ok () w:=by
 simp only [gC,ek,aC A,dV,fP]
theorem rS {P:aj} {k:ai} {em:Bool} {n:Nat} {a:List UInt8} (A:P.underlying k=some .string) (w:ae):(gC em (n+1) k<|str a).run P w= .ok () w:=by
 simp only [str,gC,ek,aC A,dV,fP]
def pM (v:ab):Prop := ∃ (f:Bool) (s:List UInt8),v= .agg #[.bool f,str s]
def je (P:aj) (k:ai):Bool:=
 match P.underlying k with
 | some (.struct A)=>match A.toList with
   | [f1,f2]=>f1.name != "_" && f2.name != "_" && f1.offset==0 && f2.offset==1 && !P.stoodInHeld k &&
     (match P.underlying f1.type with | some .bool=>true | _=>false) && (match P.underlying f2.type with | some .string=>true | _=>false)
   | _=>false
 | _=>false
theorem nM {P:aj} {t:ai} {cs:Array ab} {o:Nat} {v:ab} {d:TypeDesc} (C:P.underlying t=some d) (A:(match d with | .bool | .string=>true | _=>false)=true) (E:cs[o]? =some v) (w:ae):(part t cs o).run P w= .ok v w:=by
 cases d <;> first | (cases A; done) | simp [part,isAgg,aC C,E]
theorem oY {P:aj} {k:ai} (h:je P k=true):∃ A f1 f2,P.underlying k=some (.struct A)∧A.toList= [f1,f2]∧f1.name≠ "_" ∧f2.name≠ "_" ∧f1.offset=0∧f2.offset=1∧P.stoodInHeld k=false∧P.underlying f1.type=some .bool∧P.underlying f2.type=some .string:=by grind [je]
theorem yT {P:aj} {k:ai} (h:je P k=true) {f g:Bool} {s t:List UInt8} (w:ae):(jS k (.agg #[.bool f,str s])<|.agg #[.bool g,str t]).run P w= .ok (decide (f=g∧s=t)) w:=by
 obtain ⟨M,f1,f2,hu,ab,O,U,V,Z,aa,A,C⟩:=oY h;have E:P.fieldsOf k=M:=by simp [Program.fieldsOf,hu]
 have J:∀ (x:Bool) (y:List UInt8) (w:ae),(part f1.type #[.bool x,str y] f1.offset).run P w= .ok (.bool x) w:=fun x y w=>nM A rfl (by rw [V]; rfl) w;have L:∀ (x:Bool) (y:List UInt8) (w:ae),(part f2.type #[.bool x,str y] f2.offset).run P w= .ok (str y) w:=fun x y w=>nM C rfl (by rw [Z]; rfl) w;unfold jS;show (eI (9998 +1 +1) k _ _).run P w=_;rw [run_equalIn_struct w (9998 +1) k _ _ (by rw [E]; exact hu) aa,E,ab];simp only [Op.eqFields,ek,mz,J,L,dV,run_equalIn_bool' w 9998 f1.type f g A,O,U,ne_eq,not_false_eq_true,if_true];by_cases I:f=g
 · subst I;have :(eI (9998 +1) f2.type (str s)<|str t).run P w= .ok (decide (s=t)) w:=by
    rw [str,str,run_equalIn_string w 9998 f2.type _ _ C,vz,vz];congr 1;by_cases bh:s=t
    · subst bh; simp
    · simp [bh]
   simp only [beq_self_eq_true,Bool.not_true,ml,if_false,this,dV,true_and];by_cases bh:s=t <;> simp [bh]
 · simp [I]
theorem yd {P:aj} {k:ai} {em:Bool} {n:Nat} (h:je P k=true) {f:Bool} {s:List UInt8} (w:ae):(gC em (n+1 +1) k<|.agg #[.bool f,str s]).run P w= .ok () w:=by
 obtain ⟨V,f1,f2,hu,U,J,L,M,O,Z,A,C⟩:=oY h;have E:∀ (w:ae),(part f1.type #[.bool f,str s] f1.offset).run P w= .ok (.bool f) w:=fun w=>nM A rfl (by rw [M]; rfl) w;have I:∀ (w:ae),(part f2.type #[.bool f,str s] f2.offset).run P w= .ok (str s) w:=fun w=>nM C rfl (by rw [O]; rfl) w;rw [gC];simp only [ek,aC hu,dV];rw [← Array.forIn_toList,U];simp only [List.forIn_cons,List.forIn_nil,ek,E,I,J,L,ne_eq,not_false_eq_true,if_true,dV,yc A,rS C,fP]
theorem sJ {P:aj} {k:ai} (h:je P k=true) {f:Bool} {s:List UInt8} (w:ae):∀ (es:List MapEntry) (i:Nat),(∀ e∈es,pM e.key)→
 ((jN k (.agg #[.bool f,str s]) es i).run P w= .ok none w∧∀ e∈es,e.key≠.agg #[.bool f,str s])∨∃ j e,(jN k (.agg #[.bool f,str s]) es i).run P w= .ok (some (i+j,e.val)) w∧es[j]? =some e∧e.key= .agg #[.bool f,str s]
 | [],i,_=> .inl ⟨by simp [jN],fun _ h=>by simp at h⟩
 | e::es,i,hk=>by
   obtain ⟨g,t,ha⟩:=hk e<|by simp
   have he:=yT h (f:=f) (g:=g) (s:=s) (t:=t) w;rw [← ha] at he;by_cases A:f=g∧s=t
   · obtain ⟨rfl,rfl⟩:=A;refine .inr ⟨0,e,?_,U,ha⟩;simp [jN,he]
   · have O:e.key≠.agg #[.bool f,str s]:=by
      rw [ha]; intro J; simp [str] at J; exact A ⟨J.1.symm,J.2.symm⟩
     rcases sJ (f:=f) (s:=s) h w es (i+1) (fun e he=>hk e<|by simp [he]) with ⟨E,I⟩ | ⟨j,C,E,I,M⟩
     · refine .inl ⟨by simp [jN,he,A,E],fun C L=> ?_⟩;rcases cU.1 L with rfl | L
       · exact O
       · exact I C L
     · refine .inr ⟨j+1,C,?_,I,M⟩;simp only [jN,ek,he,A,dV,decide_false,mz,ml,if_false,E]; rw [show i+1 +j=i+(j+1) from by omega]
theorem zI {P:aj} {k:ai} (h:je P k=true):j4 P k pM where
 check em w v hv:=by obtain ⟨f,s,rfl⟩:=hv; exact yd (n:=9998) h w
 find w x es hx hes:=by
  obtain ⟨f,s,rfl⟩:=hx;obtain ⟨L,f1,f2,hu,_⟩:=oY h;have J:es≠[]→(jO k (.agg #[.bool f,str s]) es).run P w=(jN k (.agg #[.bool f,str s]) es).run P w:=by
   intro A;cases es with
   | nil=>exact absurd rfl A
   | cons e es=>simp [jO,aC hu,jP,ox]
  by_cases A:es= []
  · subst A; exact .inl ⟨by simp [jO,aC hu,jP],fun _ h=>by simp at h⟩
  · rw [J A];rcases sJ h w es 0 hes with C | ⟨j,e,C,E,I⟩
    · exact .inl C
    · exact .inr ⟨j,e,by rw [C,b9],E,I⟩
def zeroV (P:aj) (e:ai):Option ab:=(P.info? e).bind (·.zero)
theorem qY {P:aj} {e:ai} {z:ab} (h:zeroV P e=some z) (w:ae):(zeroValue e).run P w= .ok z w:=by
 unfold zeroV at h;simp only [xc] at h;obtain ⟨i,hi,A⟩:=h;simp [zeroValue,bU hi,A]
section
variable {P:aj} {N:Fm} {σ:Nat→ab} {w:ae} {dst:Option Nat} {ty:ai} {pos :String} {af:Array bD} {g:Option (Nat×Bool)} {x y z:ax} {K:(Nat→ab)→ae→Prop}
variable {t k e:ai} {au:ab→Prop} {b:Nat} {kvs:List (ab×ab)} {kx v:ab}
theorem mZ {es:Array MapEntry} (h:es.toList.map (fun e=>(e.key,e.val))=kvs) (A:∀ p∈kvs,au p.1):∀ e∈es.toList,au e.key:=by grind [e,he,jY]
theorem run_getObj_map {es:Array MapEntry} {c:Nat} (hr:w.heap[b]? =some (.map es c)):(getObj b).run P w= .ok (.map es c) w:=by
 simp [getObj,fO,hr]
theorem An {kvs:List (ab×ab)} (hn:(kvs.map bC).Nodup) {kx v E:ab} (C:(kx,v)∈kvs) (A:(kx,E)∈kvs):v=E:=by
 induction kvs with
 | nil=>simp at C
 | cons p kvs ih=>
   simp only [cx,jZ] at hn;rcases cU.1 C with C | C
   · rcases cU.1 A with A | A
     · rw [← C] at A; cases A; rfl
     · rw [← C] at hn; exact absurd (jY (f:=bC) A) hn.1
   · rcases cU.1 A with A | A
     · rw [← A] at hn; exact absurd (jY (f:=bC) C) hn.1
     · exact ih hn.2 C A
theorem tD {ok:Bool} (aa:P.underlying t=some (.map k e)) (E:j4 P k au) (hm:fW w.heap b kvs) (Z:∀ p∈kvs,au p.1) (ac:ev N σ x= .map (some b)) (ad:ev N σ y=kx) (hi:au kx) (hn:(kvs.map bC).Nodup) (C:(kx,v)∈kvs):
 (execOp (ev N σ) ⟨dst,.lookup t x y ok,ty,pos,af,g⟩).run P w= .ok (.value (if ok then .tuple #[v,.bool true] else v)) w:=by
 obtain ⟨es,c,hr,he⟩:=hm;rcases E.find w kx es.toList hi (mZ he Z) with ⟨_,A⟩ | ⟨j,I,L,A,M⟩
 · rw [← he] at C;obtain ⟨J,V,O⟩:=dM.1 C;cases O;exact absurd U<|A J V
 · have ab:(kx,I.val)∈kvs:=by rw [← he,← M]; exact jY (f:=fun e:MapEntry=>(e.key,e.val))<|gI A
   have :=An hn C ab;subst this;cases ok <;> simp [execOp,vK,aC aa,ac,ad,run_getObj_map hr,E.check _ w kx hi,L]
theorem tE {ok:Bool} {zv:ab} (M:P.underlying t=some (.map k e)) (V:zeroV P e=some zv) (A:j4 P k au) (hm:fW w.heap b kvs) (L:∀ p∈kvs,au p.1) (O:ev N σ x= .map (some b)) (U:ev N σ y=kx) (hi:au kx) (hn:∀ v,(kx,v)∉kvs):
 (execOp (ev N σ) ⟨dst,.lookup t x y ok,ty,pos,af,g⟩).run P w= .ok (.value (if ok then .tuple #[zv,.bool false] else zv)) w:=by
 obtain ⟨es,c,hr,he⟩:=hm;rcases A.find w kx es.toList hi (mZ he L) with ⟨C,_⟩ | ⟨j,E,C,I,J⟩
 · cases ok <;> simp [execOp,vK,aC M,O,U,run_getObj_map hr,A.check _ w kx hi,C,qY V]
 · exact absurd (by rw [← he,← J]; exact jY (f:=fun e:MapEntry=>(e.key,e.val))<|gI I)<|hn E.val
end
end Go.Hb
namespace Go.Hb
end Go.Hb
namespace Go.Hb
inductive TD | no | int (k:aH) | str | bool | ptr | cj (e n:Nat) | st (offs:List Nat)
def gW {α:Type} :List α→Nat→α→α
 | [],_,d=>d
 | a::_,0,_=>a
 | _::l,n+1,d=>gW l n d
def kO (T:List (List TD)) (t:Nat):TD:=gW (gW T (t / 16) []) (t % 16) .no
def cy:aH→Nat
 | .i8=>0 | .i16=>1 | .i32=>2 | .i64=>3 | .u8=>4 | .u16=>5 | .u32=>6 | .u64=>7
theorem jo {a b:aH} (h:av (cy a) (cy b)=true):a=b:=by
 cases a <;> cases b <;> first | rfl | (cases h)
def nG (P:aj) (t:Nat):Nat→List Nat→Bool
 | _,[]=>true
 | f,n::l=>(match kj P t f with | some m=>av m n | none=>false) && nG P t (f+1) l
def qM (P:aj) (t:Nat):TD→Bool
 | .no=>true
 | .int k=>match P.underlying t with | some (.int C)=>av (cy k) (cy C) | _=>false
 | .str=>match P.underlying t with | some .string=>true | _=>false
 | .bool=>match P.underlying t with | some .bool=>true | _=>false
 | .ptr=>match P.underlying t with | some (.pointer _)=>true | _=>false
 | .cj e n=>match P.underlying t,cC P t with | some (.slice A),some n'=>av e A && av n n' | _,_=>false
 | .st E=>nG P t 0 E
def nQ (P:aj):Nat→List TD→Bool
 | _,[]=>true
 | t,d::l=>qM P t d && nQ P (t+1) l
def fu (P:aj):Nat→List (List TD)→Bool
 | _,[]=>true
 | t,r::l=>nQ P t r && fu P (t+16) l
theorem uw {P:aj} :∀ {l:List TD} {b j:Nat},nQ P b l=true→qM P (b+j) (gW l j .no)=true
 | [],b,j,_=>rfl
 | d::l,b,0,h=>(kU.1 h).1
 | d::l,b,j+1,h=>by
   have :=uw (j:=j) (kU.1 h).2;rw [show b+(j+1)=b+1 +j from by omega]; exact this
theorem uU {P:aj} :∀ {T:List (List TD)} {b i:Nat},fu P b T=true→nQ P (b+16 *i) (gW T i [])=true
 | [],b,i,_=>rfl
 | r::T,b,0,h=>(kU.1 h).1
 | r::T,b,i+1,h=>by
   have :=uU (i:=i) (kU.1 h).2;rw [show b+16 *(i+1)=b+16 +16 *i from by omega]; exact this
theorem qL {P:aj} {T:List (List TD)} (h:fu P 0 T=true) (t:Nat):qM P t (kO T t)=true :=by
 have :=uw (j:=t % 16)<|uU (i:=t / 16) h;rw [show 0 +16 *(t / 16)+t % 16=t from by omega] at this;exact this
theorem tY {P:aj} {t:Nat} :∀ {l:List Nat} {b f n:Nat},nG P t b l=true→l[f]? =some n→kj P t (b+f)=some n
 | [],b,f,n,_,h=>by simp at h
 | m::l,b,0,n,h,hn=>by
   have A:=(kU.1 h).1;obtain rfl :m=n:=by simpa using hn
   split at A
   · rename_i C hm; rw [Nat.add_zero,hm,aW A]
   · cases A
 | m::l,b,f+1,n,h,hn=>by
   have :=tY (f:=f) (kU.1 h).2<|by simpa using hn
   rw [show b+(f+1)=b+1 +f from by omega]; exact this
section
variable {P:aj} {T:List (List TD)} (hT:fu P 0 T=true) {t:Nat}
include hT
theorem yG (h:kO T t= .str):P.underlying t=some .string:=by
 have :=qL hT t;rw [h] at this;change (match P.underlying t with | some .string=>true | _=>false)=true at this;split at this
 · assumption
 · cases this
theorem yE {e n:Nat} (h:kO T t= .cj e n):P.underlying t=some (.slice e)∧cC P t=some n:=by
 have :=qL hT t;rw [h] at this;change (match P.underlying t,cC P t with | some (.slice A),some n'=>av e A && av n n' | _,_=>false)=true at this;split at this
 · rename_i C E;simp only [aD] at this;rw [C,E,aW this.1,aW this.2]; exact ⟨rfl,rfl⟩
 · cases this
theorem yF {l:List Nat} {f n:Nat} (h:kO T t= .st l) (hn:l[f]? =some n):kj P t f=some n:=by
 have :=qL hT t;rw [h] at this;have :=tY (show nG P t 0 l=true from this) hn;rwa [b9] at this
end
def A2 (k:aH) (n:Int):Prop :=match k with
 | .i64=> -9223372036854775808≤n∧n≤9223372036854775807
 | .u8=>0≤n∧n≤255
 | .i32=> -2147483648≤n∧n≤2147483647
 | .u32=>0≤n∧n≤4294967295
 | .u64=>0≤n∧n≤18446744073709551615
 | _=>False
theorem uv {k:aH} {n:Int} (h:A2 k n):k.wrap n=n:=by
 cases k <;> first | exact n7 h | exact vn h | exact qU h | exact vl h | exact vm h | exact h.elim
inductive j8 | no | v (x:ab) | vc (x:ab) (c:Prop)
def nN (k:aH) (n:Int):j8:=match k with
 | .i64=> .vc (.int .i64 n)<|-9223372036854775808≤n∧n≤9223372036854775807
 | .u8=> .vc (.int .u8 n)<|0≤n∧n≤255
 | .i32=> .vc (.int .i32 n)<|-2147483648≤n∧n≤2147483647
 | .u32=> .vc (.int .u32 n)<|0≤n∧n≤4294967295
 | .u64=> .vc (.int .u64 n)<|0≤n∧n≤18446744073709551615
 | _=> .no
def pJ (op:BinOp) (k:aH) (a b:Int):j8:=match op with
 | .lss=> .v<|.bool<|decide (a < b)
 | .leq=> .v<|.bool<|decide (a≤b)
 | .gtr=> .v<|.bool<|decide (b < a)
 | .geq=> .v<|.bool<|decide (b≤a)
 | .eql=> .v<|.bool<|decide (a=b)
 | .neq=> .v<|.bool<|decide (a≠b)
 | .add=>nN k<|a+b
 | .sub=>nN k<|a - b
 | _=> .no
def uN (op:BinOp) (l m:List UInt8):j8:=match op with
 | .eql=> .v<|.bool<|decide (l=m)
 | .neq=> .v<|.bool<|decide (l≠m)
 | .add=> .vc (str<|l++m)<|l.length+m.length≤9223372036854775807
 | _=> .no
def gh (v:ab):j8:=match v with
 | .int k n=> .v<|.int k n
 | .bool b=> .v<|.bool b
 | .string ⟨⟨l⟩⟩=> .v<|str l
 | .pointer a=> .v<|.pointer a
 | .slice a n c=> .v<|.slice a n c
 | .map r=> .v<|.map r
 | .func f a b=> .v<|.func f a b
 | .nilFunc=> .v .nilFunc
 | .iface t v=> .v<|.iface t v
 | .nilIface=> .v .nilIface
 | .agg c=> .v<|.agg c
 | .tuple c=> .v<|.tuple c
 | _=> .no
theorem ze {v x:ab} (h:gh v= .v x):v=x:=by
 unfold gh at h;split at h <;> cases h <;> rfl
theorem zf {v x:ab} {c:Prop} (h:gh v= .vc x c):False:=by
 unfold gh at h;split at h <;> cases h
def kA (T:List (List TD)) (N:Fm) (σ:Nat→ab) (o:Op):j8:=match o with
 | .move x=>gh<|ev N σ x
 | .assign x=>gh<|ev N σ x
 | .pick c x y=>match ev N σ c with
   | .bool true =>gh<|ev N σ x
   | .bool false =>gh<|ev N σ y
   | _=> .no
 | .nilCheck x=>match ev N σ x with
   | .pointer (some a)=> .v<|.pointer<|some a
   | _=> .no
 | .extract x i=>match ev N σ x with
   | .tuple ⟨A⟩=>match A[i]? with
     | some v=> .v v
     | none=> .no
   | _=> .no
 | .fieldAddr s x f=>match ev N σ x,kO T s with
   | .pointer (some ⟨b,off,none⟩),.st l=>match l[f]? with
     | some n=> .v<|.pointer<|some ⟨b,off+n,none⟩
     | none=> .no
   | _,_=> .no
 | .binOp op t x y _=>match ev N σ x,ev N σ y with
   | .int k a,.int k' b=>cond (av (cy k)<|cy k') (pJ op k a b) .no
   | .string ⟨⟨l⟩⟩,.string ⟨⟨m⟩⟩=>uN op l m
   | _,_=> .no
 | .unOp .not _ x=>match ev N σ x with
   | .bool b=> .v<|.bool<|!b
   | _=> .no
 | .call ⟨.builtin .len,⟨[x]⟩,⟨[t]⟩⟩=>match ev N σ x,kO T t with
   | .string ⟨⟨l⟩⟩,.str=> .v<|.int .i64 l.length
   | .slice a n c,.cj _ _=> .v<|.int .i64 n
   | _,_=> .no
 | _=> .no
def qe (P:aj) (N:Fm) (σ:Nat→ab) (o:an) (w:ae):j8→Prop
 | .no=>True
 | .v x=>(execOp (ev N σ) o).run P w= .ok (.value x) w
 | .vc x c=>c→(execOp (ev N σ) o).run P w= .ok (.value x) w
theorem m9 {P:aj} {N:Fm} {σ:Nat→ab} {o:an} {w:ae} {v:ab} (h:(execOp (ev N σ) o).run P w= .ok (.value v) w):qe P N σ o w (gh v):=by
 cases hf:gh v with
 | no=>trivial
 | v x=>rw [← ze hf]; exact h
 | vc x c=>exact (zf hf).elim
theorem nJ {P:aj} {T:List (List TD)} (hT:fu P 0 T=true) {N:Fm} {σ:Nat→ab} (d:Option Nat) (o:Op) (ty:ai) (pos :String) (af:Array bD) (g:Option (Nat×Bool)) (w:ae):qe P N σ ⟨d,o,ty,pos,af,g⟩ w (kA T N σ o):=by
 unfold kA;split
 · exact m9 mv
 · exact m9 aF
 · split
   · exact m9<|qk<|by assumption
   · exact m9<|uj<|by assumption
   · trivial
 · split
   · exact nc<|by assumption
   · trivial
 · split
   · split
     · exact xt (by assumption)<|by simpa using by assumption
     · trivial
   · trivial
 · split
   · split
     · exact fa (yF hT (by assumption)<|by assumption)<|by assumption
     · trivial
   · trivial
 · split
   · rename_i k a E b A C;cases hk:av (cy k) (cy E)
     · trivial
     · obtain rfl :=jo hk;show qe _ _ _ _ _ (pJ _ _ _ _);unfold pJ;split
       · exact lt A C
       · exact le A C
       · exact gt A C
       · exact ge A C
       · exact su A C
       · exact tU A C
       · unfold nN; split <;> first | trivial | exact fun h=>ad A C<|uv h
       · unfold nN; split <;> first | trivial | exact fun h=>sb A C<|uv h
       · trivial
   · rename_i l m A C;unfold uN;split
     · exact sA A C
     · exact tV A C
     · exact fun h=>cc A C h
     · trivial
   · trivial
 · split
   · exact no<|by assumption
   · trivial
 · split
   · exact tI (yG hT<|by assumption) U<|by assumption
   · exact pS (yE hT<|by assumption).1 U<|by assumption
   · trivial
 · trivial
inductive Pt | c (c:bd) | l (ops:Array an) (l:List an) | x (e:aE)
inductive Kn | sq (y:bd) | bk (id:Nat)
def cS (P:aj) (N:Fm):List Kn→(aE→(Nat→ab)→ae→Prop)→aE→(Nat→ab)→ae→Prop
 | [],Q=>Q
 | .sq y::st,Q=>eU (fun σ w=>aJ P N y (cS P N st Q) σ w)<|cS P N st Q
 | .bk id::st,Q=>gR id<|cS P N st Q
@[reducible] def At (P:aj) (N:Fm) (Q:aE→(Nat→ab)→ae→Prop) (w:ae) (p:Pt) (st:List Kn) (σ:Nat→ab):Prop :=match p with
 | .c c=>aJ P N c (cS P N st Q) σ w
 | .l ops l=>bf P N ops (cS P N st Q) l σ w
 | .x e=>cS P N st Q e σ w
inductive Out | no | at (p:Pt) (st:List Kn) (σ:Nat→ab) (c:Option Prop)
def andG (c:Prop):Option Prop→Option Prop
 | none=>some c
 | some d=>some<|c∧d
def optG:Option Prop→Prop
 | none=>True
 | some c=>c
theorem mN {c:Prop} {d:Option Prop} (h:optG (andG c d)):c∧optG d:=by
 cases d
 · exact ⟨h,trivial⟩
 · exact h
inductive xm | no | go (p:Pt) (st:List Kn) (σ:Nat→ab) (c:Option Prop)
def stepG (T:List (List TD)) (N:Fm) (p:Pt) (st:List Kn) (σ:Nat→ab) (c:Option Prop):xm:=match p with
 | .x .normal=>match st with
   | .sq y::st=> .go (.c y) st σ c
   | .bk _::st=> .go (.x .normal) st σ c
   | []=> .no
 | .x .ret=>match st with
   | _::st=> .go (.x .ret) st σ c
   | []=> .no
 | .x (.exit i)=>match st with
   | .sq _::st=> .go (.x<|.exit i) st σ c
   | .bk j::st=>cond (av i j) (.go (.x .normal) st σ c)<|.go (.x<|.exit i) st σ c
   | []=> .no
 | .x _=> .no
 | .c (.seq x y)=> .go (.c x) (.sq y::st) σ c
 | .c (.block id x)=> .go (.c x) (.bk id::st) σ c
 | .c .skip => .go (.x .normal) st σ c
 | .c .ret=> .go (.x .ret) st σ c
 | .c (.exit i)=> .go (.x<|.exit i) st σ c
 | .c (.region id ⟨l⟩ false)=>cond (gY N.r l) (.go (.l ⟨l⟩ l) st σ c) .no
 | .c (.cond x a b)=>match ev N σ x with
   | .bool true => .go (.c a) st σ c
   | .bool false => .go (.c b) st σ c
   | _=> .no
 | .c _=> .no
 | .l ops []=> .go (.x .normal) st σ c
 | .l ops (⟨some d,o,ty,pos,af,none⟩::r)=>match kA T N σ o with
   | .v x=> .go (.l ops r) st (aG σ d x) c
   | .vc x c'=> .go (.l ops r) st (aG σ d x)<|andG c' c
   | .no=> .no
 | .l ops (⟨some d,o,ty,pos,af,some (j,want)⟩::r)=>match cG ops j with
   | some t=>cond (aq t N.n) (match σ t with
     | .bool b=>cond (b==want) (match kA T N σ o with
       | .v x=> .go (.l ops r) st (aG σ d x) c
       | .vc x c'=> .go (.l ops r) st (aG σ d x)<|andG c' c
       | .no=> .no) (.go (.l ops r) st (aG σ d undef) c)
     | .tuple ⟨[]⟩=> .go (.l ops r) st (aG σ d undef) c
     | _=> .no) .no
   | none=> .no
 | .l ops _=> .no
def ef (T:List (List TD)) (N:Fm):Nat→Pt→List Kn→(Nat→ab)→Option Prop→Out
 | 0,p,st,σ,c=> .at p st σ c
 | n+1,p,st,σ,c=>match stepG T N p st σ c with
   | .go p st σ c=>ef T N n p st σ c
   | .no=> .no
section
variable {P:aj} {T:List (List TD)} {N:Fm} {Q:aE→(Nat→ab)→ae→Prop} {w:ae} {σ σ':Nat→ab} {p p':Pt} {st st':List Kn} {c c':Option Prop} {n:Nat}
theorem BD (hT:fu P 0 T=true) (h:stepG T N p st σ c= .go p' st' σ' c') (A:optG c') (C:At P N Q w p' st' σ'):optG c∧At P N Q w p st σ:=by
 unfold stepG at h;split at h
 · split at h
   · cases h; exact ⟨A,tn C⟩
   · cases h; exact ⟨A,bn C⟩
   · cases h
 · split at h
   · rename_i k _;cases h; cases k
     · exact ⟨A,tr C⟩
     · exact ⟨A,br C⟩
   · cases h
 · split at h
   · cases h; exact ⟨A,te _ C⟩
   · rename_i i _ j _;cases hij:av i j
     · rw [hij] at h; cases h;exact ⟨A,xM (fun e=>by rw [e] at hij; simp at hij) C⟩
     · rw [hij] at h; cases h;obtain rfl :=aW hij;exact ⟨A,be C⟩
   · cases h
 · cases h
 · cases h; exact ⟨A,sq fun K V=>vi (fun e σ w U=>by cases e <;> first | exact V _ _ U | exact U) C⟩
 · cases h; exact ⟨A,ak C⟩
 · cases h; exact ⟨A,Bl C⟩
 · cases h; exact ⟨A,rt C⟩
 · cases h; exact ⟨A,ext C⟩
 · rename_i id l;cases hr:gY N.r l
   · rw [hr] at h; cases h
   · rw [hr] at h; cases h;exact ⟨A,rg hr C⟩
 · split at h
   · cases h; exact ⟨A,ct (by assumption) C⟩
   · cases h; exact ⟨A,cf (by assumption) C⟩
   · cases h
 · cases h
 · cases h; exact ⟨A,nl C⟩
 · rename_i ops d o ty pos af r;have E:=nJ (P:=P) hT (N:=N) (σ:=σ) (some d) o ty pos af none w;split at h
   · rename_i x I;rw [I] at E; cases h;exact ⟨A,Hb.p E C⟩
   · rename_i x q I;rw [I] at E; cases h;obtain ⟨M,O⟩:=mN A;exact ⟨O,Hb.p (E M) C⟩
   · cases h
 · rename_i ops d o ty pos af j want r;have E:=nJ (P:=P) hT (N:=N) (σ:=σ) (some d) o ty pos af (some (j,want)) w;split at h
   · rename_i t L;cases hb:aq t N.n
     · rw [hb] at h; cases h
     · rw [hb] at h;simp only [cond_true] at h;split at h
       · rename_i b J;cases hw:(b==want)
         · rw [hw] at h; cases h;exact ⟨A,sk L hb J hw C⟩
         · rw [hw] at h;simp only [cond_true] at h;obtain rfl :b=want:=by simpa using hw
           split at h
           · rename_i x I;rw [I] at E; cases h;exact ⟨A,pg L hb J E C⟩
           · rename_i x q I;rw [I] at E; cases h;obtain ⟨M,O⟩:=mN A;exact ⟨O,pg L hb J (E M) C⟩
           · cases h
       · rename_i J;cases h;exact ⟨A,uJ L hb J C⟩
       · cases h
   · cases h
 · cases h
theorem eS (hT:fu P 0 T=true):∀ (n:Nat) (p:Pt) (st:List Kn) (σ:Nat→ab) (c:Option Prop),ef T N n p st σ c= .at p' st' σ' c'→optG c'→At P N Q w p' st' σ'→optG c∧At P N Q w p st σ
 | 0,p,st,σ,c,h,hc,hk=>by cases h; exact ⟨hc,hk⟩
 | n+1,p,st,σ,c,h,hc,hk=>by
   simp only [ef] at h;split at h
   · rename_i E;obtain ⟨A,C⟩:=eS hT n _ _ _ _ h hc hk;exact BD hT E A C
   · cases h
end
inductive xi | no | at (fuel:Nat) (listed:Array Bool) (σ:Nat→ab) (c:Option Prop)
inductive xl | no | go (σ:Nat→ab) (c:Option Prop)
def uP (T:List (List TD)) (N:Fm) (g:Bool) (ops:Array an) (i:Nat) (σ:Nat→ab) (c:Option Prop):xl:=match ops[i]? with
 | some ⟨some d,o,_,_,_,none⟩=>match kA T N σ o with
   | .v x=> .go (aG σ d x) c
   | .vc x c'=> .go (aG σ d x)<|andG c' c
   | .no=> .no
 | some ⟨some d,o,_,_,_,some (j,want)⟩=>cond g (match cG ops j with
   | some t=>cond (aq t N.n) (match σ t with
     | .bool b=>cond (b==want) (match kA T N σ o with
       | .v x=> .go (aG σ d x) c
       | .vc x c'=> .go (aG σ d x)<|andG c' c
       | .no=> .no) (.go (aG σ d undef) c)
     | .tuple ⟨[]⟩=> .go (aG σ d undef) c
     | _=> .no) .no
   | none=> .no) .no
 | _=> .no
def ib (T:List (List TD)) (N:Fm) (g:Bool) (ops:Array an):List Nat→Nat→Array Bool→(Nat→ab)→Option Prop→xi
 | [],fuel,listed,σ,c=> .at fuel listed σ c
 | _::_,0,_,_,_=> .no
 | i::is,fuel+1,listed,σ,c=>match uP T N g ops i σ c with
   | .go σ c=>ib T N g ops is fuel (listed.setIfInBounds i true) σ c
   | .no=> .no
def gN (fr:Array Bool→Nat→Bool):List Nat→Array Bool→Bool
 | [],_=>true
 | i::is,listed=>fr listed i && gN fr is (listed.setIfInBounds i true)
section
variable {P:aj} {T:List (List TD)} {N:Fm} {g:Bool} {ops:Array an} {fr:Array Bool→Nat→Bool} {fuel':Nat} {listed':Array Bool} {σ':Nat→ab} {c':Option Prop} {w:ae}
theorem nS (hT:fu P 0 T=true) (W:Nat→Array Bool→(Nat→ab)→Prop)
 (H1:∀ {i d o ty pos af v fuel listed σ},ops[i]? =some ⟨some d,o,ty,pos,af,none⟩→fr listed i=true→(∀ w,(execOp (ev N σ) ⟨some d,o,ty,pos,af,none⟩).run P w= .ok (.value v) w)→W fuel (listed.setIfInBounds i true) (aG σ d v)→W (fuel+1) listed σ)
 (O:g=true→∀ {i d o ty pos af v fuel listed σ j want t},ops[i]? =some ⟨some d,o,ty,pos,af,some (j,want)⟩→fr listed i=true→cG ops j=some t→aq t N.n=true→σ t= .bool want→(∀ w,(execOp (ev N σ) ⟨some d,o,ty,pos,af,some (j,want)⟩).run P w= .ok (.value v) w)→W fuel (listed.setIfInBounds i true) (aG σ d v)→W (fuel+1) listed σ)
 (Z:g=true→∀ {i d o ty pos af fuel listed σ j want t b},ops[i]? =some ⟨some d,o,ty,pos,af,some (j,want)⟩→fr listed i=true→cG ops j=some t→aq t N.n=true→σ t= .bool b→(b==want)=false→W fuel (listed.setIfInBounds i true) (aG σ d undef)→W (fuel+1) listed σ)
 (aa:g=true→∀ {i d o ty pos af fuel listed σ j want t},ops[i]? =some ⟨some d,o,ty,pos,af,some (j,want)⟩→fr listed i=true→cG ops j=some t→aq t N.n=true→σ t=undef→W fuel (listed.setIfInBounds i true) (aG σ d undef)→W (fuel+1) listed σ):
 ∀ (is:List Nat) (fuel:Nat) (listed:Array Bool) (σ:Nat→ab) (c:Option Prop),ib T N g ops is fuel listed σ c= .at fuel' listed' σ' c'→gN fr is listed=true→optG c'→W fuel' listed' σ'→optG c∧W fuel listed σ
 | [],fuel,listed,σ,c,h,_,C,E=>by cases h; exact ⟨C,E⟩
 | i::is,0,listed,σ,c,h,_,C,E=>by cases h
 | i::is,fuel+1,listed,σ,c,h,hf,C,E=>by
   simp only [gN,aD] at hf;simp only [ib] at h;split at h
   · rename_i ad ac A;obtain ⟨C,E⟩:=nS hT W H1 O Z aa is fuel _ _ _ h hf.2 C E;unfold uP at A;split at A
     · rename_i d o ty pos af hi;have I:=fun w=>nJ hT (N:=N) (σ:=σ) (some d) o ty pos af none w;split at A
       · rename_i x J;rw [J] at I; cases A;exact ⟨C,H1 hi hf.1 I E⟩
       · rename_i x q J;rw [J] at I; cases A;obtain ⟨U,V⟩:=mN C;exact ⟨V,H1 hi hf.1 (fun w=>I w U) E⟩
       · cases A
     · rename_i d o ty pos af j want hi;have I:=fun w=>nJ hT (N:=N) (σ:=σ) (some d) o ty pos af (some (j,want)) w;cases hg:g
       · rw [hg] at A; cases A
       · rw [hg] at A;simp only [cond_true] at A;split at A
         · rename_i t M;cases hb:aq t N.n
           · rw [hb] at A; cases A
           · rw [hb] at A;simp only [cond_true] at A;split at A
             · rename_i b L;cases hw:(b==want)
               · rw [hw] at A; cases A;exact ⟨C,Z hg hi hf.1 M hb L hw E⟩
               · rw [hw] at A;simp only [cond_true] at A;obtain rfl :b=want:=by simpa using hw
                 split at A
                 · rename_i x J;rw [J] at I; cases A;exact ⟨C,O hg hi hf.1 M hb L I E⟩
                 · rename_i x q J;rw [J] at I; cases A;obtain ⟨U,V⟩:=mN C;exact ⟨V,O hg hi hf.1 M hb L (fun w=>I w U) E⟩
                 · cases A
             · rename_i L;cases A;exact ⟨C,aa hg hi hf.1 M hb L E⟩
             · cases A
         · cases A
     · cases A
   · cases h
variable {Q:aE→(Nat→ab)→ae→Prop} {S:ae→Prop} {r fuel:Nat} {listed:Array Bool} {σ:Nat→ab}
theorem zl (hT:fu P 0 T=true) (is:List Nat) (h:ib T N true ops is fuel listed σ none= .at fuel' listed' σ' c') (J:S w) (k:bY P N ops Q S fuel' listed' σ' w) (M:optG c') (A:gN (da N.F ops) is listed=true):bY P N ops Q S fuel listed σ w:=
 (nS hT (fun fuel listed σ=>bY P N ops Q S fuel listed σ w) (fun hi A L k=>hp _ hi A (fun w _=>L w) J k) (fun _=>fun hi A C E I L k=>sZ _ hi A C E I (fun w _=>L w) J k) (fun _=>fun hi A C E I hb k=>ta _ hi A C E I hb J k) (fun _=>fun hi A C E I k=>zr _ hi A C E I J k) is fuel listed σ none h A M k).2
theorem zn (hT:fu P 0 T=true) (is:List Nat) (h:ib T N false ops is fuel listed σ none= .at fuel' listed' σ' c') (C:S w) (k:bq P N ops Q S r fuel' listed' σ' w) (E:optG c') (A:gN (fun l i=>kl N.F ops l r i) is listed=true):bq P N ops Q S r fuel listed σ w:=
 (nS (g:=false) hT (fun fuel listed σ=>bq P N ops Q S r fuel listed σ w) (fun hi A I k=>lq _ hi A (fun w _=>I w) C k) (fun h=>cz h) (fun h=>cz h) (fun h=>cz h) is fuel listed σ none h A E k).2
theorem zm (hT:fu P 0 T=true) (is:List Nat) (h:ib T N false ops is fuel listed σ none= .at fuel' listed' σ' c') (C:S w) (k:bq P N ops Q S r fuel' listed' σ' w) (E:optG c') (A:gN (fun l i=>jn N.F ops l r i) is listed=true):bq P N ops Q S r fuel listed σ w:=
 (nS (g:=false) hT (fun fuel listed σ=>bq P N ops Q S r fuel listed σ w) (fun hi A I k=>ns _ hi A I (fun _=>C) k) (fun h=>cz h) (fun h=>cz h) (fun h=>cz h) is fuel listed σ none h A E k).2
end
def o3 (P:aj) (f:ej):Bool:=match P.funcs[f]? with
 | some fn=> !(fn.name== "runtime.NumGoroutine") && !fn.body.isNone
 | none=>false
theorem x6 {P:aj} {f:ej} (h:o3 P f=true):fT P f:=by
 unfold o3 at h;split at h
 · simp only [aD,gz] at h;exact o4 (by assumption) h.1 h.2
 · cases h
section
variable {P:aj} {N:Fm} {σ:Nat→ab} {w:ae} {dst:Option Nat} {ty:ai} {pos :String} {af:Array bD} {g:Option (Nat×Bool)} {x y z:ax} {K:(Nat→ab)→ae→Prop}
theorem aR {f:ej} {args:Array ax} {A:Array ai} {L:List ab} {R:ab→ae→Prop} (hr:aO P f L.toArray w R) (C:args.toList.map (ev N σ)=L)
 (k:∀ v w',R v w'→K (bR σ dst v) w') (E:o3 P f=true :=by kernel_rfl):aT P N ⟨dst,.call ⟨.value (.func f),args,A⟩,ty,pos,af,g⟩ σ w K:=cl (x6 E) hr C k
theorem bj {t b off :Nat} {v:ab} (C:ev N σ x= .pointer (some ⟨b,off,none⟩)) (A:aK w.heap b off =some v) (hu:cP P t=some none:=by kernel_rfl):
 (execOp (ev N σ) ⟨dst,.load t x,ty,pos,af,g⟩).run P w= .ok (.value v) w:=ld hu C A
theorem gL (n:Nat) {t E:ai} {a b:Int} (A:ev N σ x= .int .i64 a:=by exact U) (C:ev N σ y= .int .i64 b:=by exact U) (h:a+b=(n:Int)∧n≤9223372036854775807:=by omega):
 (execOp (ev N σ) ⟨dst,.binOp .add t x y E,ty,pos,af,g⟩).run P w= .ok (.value<|.int .i64 (n:Int)) w:=rD (n:Int) A C<|ve h.1 h.2
theorem Bc (n:Nat) {t E:ai} {a b:Int} (A:ev N σ x= .int .i64 a:=by exact U) (C:ev N σ y= .int .i64 b:=by exact U) (h:a - b=(n:Int)∧n≤9223372036854775807:=by omega):
 (execOp (ev N σ) ⟨dst,.binOp .sub t x y E,ty,pos,af,g⟩).run P w= .ok (.value<|.int .i64 (n:Int)) w:=uB (n:Int) A C<|ve h.1 h.2
variable {ops:Array an} {Q:aE→(Nat→ab)→ae→Prop} {S:ae→Prop} {r fuel d t b off :Nat} {listed:Array Bool} {v:ab} {W:ae} {l:List an} {id:Nat}
theorem kF (i:Nat) (h:(ops[i]?,ev N σ x)=(some ⟨some d,.load t x,ty,pos,af,none⟩,.pointer (some ⟨b,off,none⟩))) (A:Wk W w) (C:aK W.heap b off =some v) (k:bq P N ops Q (fun w'=>Wk W w') r fuel (listed.setIfInBounds i true) (aG σ d v) w)
 (E:kl N.F ops listed r i=true :=by kernel_rfl) (hu:cP P t=some none:=by kernel_rfl):bq P N ops Q (fun w'=>Wk W w') r (fuel+1) listed σ w:=lq i (congrArg bC h) E (fun _ hw=>ld hu (congrArg j1 h)<|hw.aK C) A k
theorem tK (r:Nat) (h:Wk w w.drew→bq P N l.toArray Q (fun w'=>Wk w w') r l.length (mi l.length false) σ w.drew) (hr:gY N.r l=true :=by exact U) (hm:P.follows .mixedOrders=true :=by kernel_rfl):aJ P N (.region id l.toArray true) Q σ w:=pV _ r hr hm (Md.refl _ _).drew<|h (Md.refl _ _).drew
end
end Go.Hb
end
section
namespace Go.Hb
open Go.ChangeShapes Go.WideShapes Go.ChangeAt
theorem Wk.frame {w w':ae} (h:Wk w w') (may:MemPlace→Prop):w.keptBut w' may:=by
 refine ⟨h.os,h.output,fun i hi=> ?_⟩;rw [h.bW i hi id];split <;> simp_all
theorem Wk.same {w w':ae} (h:Wk w w') {p:MemPlace} (hp:p.block < w.heap.size):w.sameAt w' p:=by
 cases p with
 | cell b o=>exact World.cell?_of_block (w:=w)<|h.bW b hp id
 | map b=>exact h.bW b hp id
section
variable {H:Type} {enc:ai×ab→H} {P:aj} {W W':ae}
theorem uX (L:laidOutB P=true) (J:Wk W W'):∀ (C:List ai) (I:List ab) (E:List (DataW H)) (ps:List MemPlace),C.all (fun t=>P.readableRec t && decide (t < P.types.size))=true→(∀ x∈ps,x.block < W.heap.size)→
 vE enc P W 0 (fun _=>true) true C I E ps→vE enc P W' 0 (fun b=>decide (b < W.heap.size)) true C I E ps
 | [],[],[],_,_,_,h=>h
 | t::C,v::I,d::E,_,hp,hlt,⟨p,q,h1,h2,he⟩=>by
   subst he;rw [wh,aD,aD] at hp;exact ⟨p,q,WideElems.Trod_stays L hp.1.1 (of_decide_eq_true hp.1.2) h1 (fun x A=>J.same<|hlt x<|ri _ A) (fun x A=>decide_eq_true<|hlt x<|ri _ A),
    uX L J C I E q hp.2 (fun x A=>hlt x<|wE _ A) h2,rfl⟩
 | [],_::_,_,_,_,_,h=>h.elim
 | [],[],_::_,_,_,_,h=>h.elim
 | _::_,[],_,_,_,_,h=>h.elim
 | _::_,_::_,[],_,_,_,h=>h.elim
theorem AX {f:ej} {fn:Func} {s:ChangeSpec} {args:Array ab} {A gs:List (DataW H)} {before:List MemPlace} {O:ai} (I:DataW.Whole enc P fn.params.toList s.vars false W args.toList A gs before) (M:s.vars= [])
 (C:s.fn H (A++gs)= {results:= [.lit (.bool true)],args:=A}) (hr:fn.resultTypes= #[O]) (hb:P.underlying O=some .bool) (V:laidOutB P=true) (hp:fn.params.toList.all (fun t=>P.readableRec t && decide (t < P.types.size))=true)
 (h:aO P f args W (fun v w'=>v= .bool true∧Wk W w')):Calls P f args W fun e W'=> ∃ v,e= .returned v∧s.post enc P fn false true false false W args v W':=by
 refine ik h fun e W' ⟨v,he,aa,L⟩=>⟨v,he,?_⟩
 subst aa;have J:=I;obtain ⟨p,q,U,E,rfl,_,_⟩:=I;rw [M] at E;obtain ⟨rfl,rfl⟩:=trodVars_none E;have Z:∀ x∈p,x.block < W.heap.size:=fun x ac=>J.lt x<|by simpa using ac
 refine ⟨_,_,_,[],p,[],J,?_,?_,?_,L.frame _,fun h=>by cases h⟩
 · rw [C,hr];exact trodAll_cons_mk (shut_bool hb _) trodAll_mk0
 · rw [C];exact uX V L _ _ _ _ hp Z U
 · rw [C,M]; rfl
theorem rR {w:ae} {a:aB} {v:ab} (h:w.cell? a=some v):a=⟨a.block,a.off,none⟩∧aK w.heap a.block a.off=some v:=by
 obtain ⟨b,o,C⟩:=a;unfold vV at h;simp only at h;split at h
 · rename_i c t z hb;split at h
   · cases h
   · rename_i A;cases C with
     | none=>exact ⟨rfl,by rw [dQ hb]; exact h⟩
     | some x=>simp at A
 · cases h
theorem ya {w:ae} {a:aB} {xs:List ab} (h:∀ j u,xs[j]? =some u→w.cell? (a.add j)=some u):aZ w.heap (some a) xs:=by
 cases xs with
 | nil=>exact aZ.nil _ _
 | cons x xs=>
   have h0:=(rR<|h 0 x rfl).1;have ha:a=⟨a.block,a.off,none⟩:=h0;refine ⟨fun _=>congrArg some ha,fun j u hu=> ?_⟩;have A:=h j u hu;rw [ha,cE,et] at A;exact A
end
end Go.Hb
namespace Go.Hb
open Go.Proofs.YtbogmhohloohhaaGreatDoor
theorem xU {H:Type} {l:List (DataW H)} (A:Rows.uptoSmall H l=true):Rows.uptoBulkAll l≤1048576:=of_decide_eq_true A
end Go.Hb
namespace Go.Hb
open Go.Proofs.YtbogmhohloohhaaGreatDoor Go.ChangeShapes Go.WideShapes Go.ChangeAt
structure iw (P:aj) (t:ai) (m:Nat) {X:Type} (R:ae→List ab→X→Prop) (B:X→Nat):Prop where
 cells:P.cellsOf t=m
 op:∀ {H:Type} (enc:ai×ab→H) (W:ae) (fuel:Nat) (cs:List ab) (d:DataW H) (p:List MemPlace),mm enc P W 0 (fun _=>true) true fuel t cs=some (d,p)→cs.length=m∧∃ x,R W cs x∧B x≤Rows.uptoBulk d
section
variable {P:aj} {t t0 t1 e:ai} {m m0 m1:Nat} {X X0 X1:Type} {R:ae→List ab→X→Prop} {B:X→Nat} {R0:ae→List ab→X0→Prop} {B0:X0→Nat} {R1:ae→List ab→X1→Prop} {B1:X1→Nat}
theorem Az {k:aH} (C:P.underlying t=some (.int k)) (A:P.cellsOf t=1):iw P t 1 (fun _ cs (x:Int)=>cs= [.int k x]∧(Lit.int k x).wf=true) (fun _=>1) where
 cells:=A
 op enc W fuel cs d p h:=by
  obtain ⟨n,rfl,E,hw⟩:=DataW.trod_int C h;cases E;exact ⟨U,n,⟨U,hw⟩,by simp [Rows.uptoBulk]⟩
theorem ui (C:P.underlying t=some .string) (A:P.cellsOf t=1):iw P t 1 (fun _ cs (x:List UInt8)=>cs= [str x]) (fun x=>x.length+1) where
 cells:=A
 op enc W fuel cs d p h:=by
  obtain ⟨s,rfl,E,hw⟩:=DataW.trod_string C h;cases E;exact ⟨U,s.data.toList,U,by simp [Rows.uptoBulk]⟩
def RS (m:Nat) (R:ae→List ab→X→Prop) (W:ae) (cs:List ab) (xs:List X):Prop :=
 ∃ (a:Option aB) (c:Nat) (L:List (List ab)),cs= [.slice a xs.length c]∧L.length=xs.length∧aZ W.heap a L.flatten∧xs.length≤c∧∀ (i:Nat) l x,L[i]? =some l→xs[i]? =some x→l.length=m∧R W l x
theorem sN {L:List (List ab)} {m:Nat} (h:∀ l∈L,l.length=m):L.flatten.length=L.length*m:=by
 induction L with
 | nil=>simp
 | cons a L ih=>
   rw [lg,cn,ih (fun l A=>h l<|by simp [A]),h a (by simp),cr,rq]; omega
theorem sM {L:List (List ab)} {m:Nat} (h:∀ l∈L,l.length=m) {i c:Nat} {l:List ab} (A:L[i]? =some l) (C:c < m):L.flatten[i*m+c]? =l[c]? :=by
 induction L generalizing i with
 | nil=>simp at A
 | cons a L ih=>
   have ha:=h a<|by simp
   cases i with
   | zero=>
     simp only [fB,aQ] at A;subst A;rw [lg,mI,b9,List.getElem?_append_left ag]
   | succ i=>
     simp only [eY] at A;rw [lg,List.getElem?_append_right (by rw [ha,rq]; omega),ha,show (i+1)*m+c - m=i*m+c from by rw [rq]; omega];exact ih (fun l A=>h l<|by simp [A]) A
theorem zc {L:List (List ab)} {m:Nat} (hm:0 < m) (h:∀ l∈L,l.length=m) {j:Nat} {u:ab} (hu:L.flatten[j]? =some u):∃ l,L[j / m]? =some l∧l[j % m]? =some u:=by
 have C:=(bZ.1 hu).1;rw [sN h] at C;have A:j / m < L.length:=(Nat.div_lt_iff_lt_mul hm).2 C;refine ⟨L[j / m],cK A,?_⟩;have :=sM h (cK A)<|Nat.mod_lt j hm;rw [wY,wU] at this;rw [← this]; exact hu
theorem rM {H:Type} {f:X→Nat} :∀ (xs:List X) (A:List (DataW H)),xs.length=A.length→(∀ (i:Nat) x d,xs[i]? =some x→A[i]? =some d→f x≤Rows.uptoBulk d)→(xs.map f).sum≤Rows.uptoBulkAll A
 | [],_,_,_=>by simp
 | x::xs,[],h,_=>by simp at h
 | x::xs,d::A,h,hf=>by
   have E:=hf 0 x d rfl rfl;have I:=rM xs A (by simpa using h) fun i y e C he=>hf (i+1) y e (by simpa using C)<|by simpa using he
   simp only [cx,List.sum_cons,Rows.uptoBulkAll]; omega
theorem uh (he:iw P e m R B) (az:P.underlying t=some (.slice e)) (ax:P.cellsOf t=1) (hm:0 < m):iw P t 1 (RS m R) (fun xs=>(xs.map B).sum+1) where
 cells:=ax
 op enc W fuel cs d p h:=by
  rcases DataW.trod_slice az h with ⟨rfl,E⟩ | ⟨a,len,cap,elems,rest,n,_,rfl,E,_,J,_,aC,ak,_,_⟩
  · cases E;exact ⟨U,[],⟨none,0,[],U,U,aZ.nil _ _,aI _,fun i l x J=>by simp at J⟩,by simp [Rows.uptoBulk]⟩
  · cases E;rw [he.cells] at ak;have hex:∀ i,i < len→∃ (l:List ab) (x:X) (y:DataW _×List MemPlace),elems[i]? =some y∧W.cells? 0 (a.add<|i*m) m=some l∧l.length=m∧R W l x∧B x≤Rows.uptoBulk y.1:=by
     intro i hi;have I:=ak i hi;rw [cK ag,xc] at I;obtain ⟨l,A,C⟩:=I;obtain ⟨ac,x,aj,ad⟩:=he.op enc W n l elems[i].1 elems[i].2 C;exact ⟨l,x,elems[i],cK ag,A,ac,aj,ad⟩
    let M:Nat→List ab:=fun i=>if hi:i < len then (hex i hi).choose else []
    let Z:(i:Nat)→i < len→X:=fun i hi=>(hex i hi).choose_spec.choose
    have O:∀ i (hi:i < len),∃ (y:DataW _×List MemPlace),elems[i]? =some y∧W.cells? 0 (a.add<|i*m) m=some (M i)∧(M i).length=m∧R W (M i) (Z i hi)∧B (Z i hi)≤Rows.uptoBulk y.1:=fun i hi=>by
     have :=(hex i hi).choose_spec.choose_spec;simp only [M,dif_pos hi];exact this
    let xs:List X:=(j0 len).attach.map fun q=>Z q.1<|List.mem_range.1 q.2
    have ah:xs.length=len:=by simp [xs]
    have an:∀ (i:Nat) x,xs[i]? =some x→∃ hi:i < len,x=Z i hi:=fun i x E=>by
     simp only [xs,eZ,eJ] at E;obtain ⟨q,V,rfl⟩:=E;have I:=bZ.1 V;obtain ⟨hi,A⟩:=I;simp only [List.length_attach,wB] at hi;have C:q.1=i:=by rw [← A]; simp
     subst C;exact ⟨hi,U⟩
    let L:List (List ab):=(j0 len).map M
    have au:L.length=len:=by simp [L]
    have ae:∀ (i:Nat) l,L[i]? =some l→i < len∧l=M i:=fun i l J=>by
     simp only [L,eZ,eJ] at J;obtain ⟨q,V,rfl⟩:=J;have hi:=(bZ.1 V).1;rw [wB] at hi;rw [List.getElem?_range hi] at V;cases V;exact ⟨hi,U⟩
    have av:∀ l∈L,l.length=m:=fun l J=>by
     obtain ⟨i,hi⟩:=oH.1 J;obtain ⟨I,rfl⟩:=ae i l hi;obtain ⟨_,_,_,A,_⟩:=O i I;exact A
    refine ⟨U,xs,⟨some a,cap,L,by rw [ah],by rw [au,ah],ya fun j u hu=> ?_,ag,fun i l x J E=> ?_⟩,?_⟩
    · obtain ⟨l,I,A⟩:=zc hm av hu;obtain ⟨C,rfl⟩:=ae _ l I;obtain ⟨y,_,ac,aj,_⟩:=O _ C;obtain ⟨_,_,ad⟩:=vW ac;have ap:=ad (j % m)<|Nat.mod_lt j hm;have ha:(a.add<|j / m*m).add (j % m)=a.add j:=by
       have aw:∀ (a:aB) (x y:Nat),a.spot=none→(a.add x).add y=a.add (x+y):=by
        intro a x y am;obtain ⟨b,o,s⟩:=a;simp only at am; subst am;rw [cE,cE,cE,eo]
       have ay:a.spot=none:=by
        have h0:=O 0<|wV (Nat.zero_le _) C;obtain ⟨_,_,aq,_⟩:=h0;obtain ⟨_,_,ar⟩:=vW aq;have aa:=ar 0 hm;obtain ⟨aD,_,_,aA,_⟩:=O 0<|wV (Nat.zero_le _) C;rw [cK ag] at aa;simp only [mI] at aa;have ai:=(rR aa).1;have ao:(a.add 0).add 0=a:=rfl;rw [ao] at ai;rw [ai]
       rw [aw a _ _ ay,wY,wU]
      rw [← ha,ap]; exact A
    · obtain ⟨hi,rfl⟩:=an i x E;obtain ⟨_,rfl⟩:=ae i l J;obtain ⟨_,_,_,A,C,_⟩:=O i hi;exact ⟨A,C⟩
    · have I:(xs.map B).sum≤Rows.uptoBulkAll (elems.map (·.1)):=rM xs _ (by rw [ah,List.length_map]; omega) fun i x d E al=>by
       obtain ⟨hi,rfl⟩:=an i x E;obtain ⟨y,A,_,_,_,C⟩:=O i hi;rw [eZ,A] at al;cases al;exact C
      simp only [Rows.uptoBulk]; omega
theorem BS {H:Type} {enc:ai×ab→H} {W:ae} {f0 f1 f2:Field} {fuel:Nat} {cs:List ab} {x:DataW H×List MemPlace} (L:P.underlying t=some (.struct #[f0,f1,f2])) (h:mm enc P W 0 (fun _=>true) true fuel t cs=some x):
 ∃ A C E n,x=(.agg [A.1,C.1,E.1],A.2++(C.2++E.2))∧cs.length=P.cellsOf t∧mm enc P W 0 (fun _=>true) true n f0.type ((cs.drop f0.offset).take<|P.cellsOf f0.type)=some A∧mm enc P W 0 (fun _=>true) true n f1.type ((cs.drop f1.offset).take<|P.cellsOf f1.type)=some C∧
   mm enc P W 0 (fun _=>true) true n f2.type ((cs.drop f2.offset).take<|P.cellsOf f2.type)=some E:=by
 obtain ⟨xs,n,_,rfl,J,hlen,I⟩:=DataW.trod_struct L h
 match xs,hlen with
 | [A,C,E],_=>exact ⟨A,C,E,n,by simp,J,by simpa using I 0 f0 rfl,by simpa using I 1 f1 rfl,by simpa using I 2 f2 rfl⟩
theorem AA {t2:ai} {I:Type} {L:ae→List ab→I→Prop} {J:I→Nat} (h0:iw P t0 1 R0 B0) (M:iw P t1 1 R1 B1) (O:iw P t2 1 L J) {f0 f1 f2:Field}
 (ag:P.underlying t=some (.struct #[f0,f1,f2])) (aa:f0.type=t0) (ac:f1.type=t1) (ad:f2.type=t2) (am:f0.offset=0) (an:f1.offset=1) (ao:f2.offset=2) (V:P.cellsOf t=3):
 iw P t 3 (fun W cs (x:X0×X1×I)=> ∃ A C E,cs= [A,C,E]∧R0 W [A] x.1∧R1 W [C] x.2.1∧L W [E] x.2.2) (fun x=>B0 x.1+B1 x.2.1+J x.2.2+1) where
 cells:=V
 op enc W fuel cs d p h:=by
  obtain ⟨aw,ax,ay,n,ah,Z,g0,g1,g2⟩:=BS ag h;cases ah;rw [V] at Z
  match cs,Z with
  | [A,C,E],_=>
    rw [aa,am,h0.cells] at g0;rw [ac,an,M.cells] at g1;rw [ad,ao,O.cells] at g2;obtain ⟨_,ap,aj,ar⟩:=h0.op enc W n _ _ _ g0;obtain ⟨_,aq,ak,au⟩:=M.op enc W n _ _ _ g1;obtain ⟨_,x2,al,av⟩:=O.op enc W n _ _ _ g2;refine ⟨U,(ap,aq,x2),⟨A,C,E,U,aj,ak,al⟩,?_⟩;simp only [Rows.uptoBulk,Rows.uptoBulkAll]; omega
end
theorem BL {W:ae} {v:ab} {ws:(List<|List UInt8)} (h:RS 1 (fun _ cs (x:List UInt8)=>cs= [str x]) W [v] ws):∃ a c,v= .slice a ws.length c∧dH W.heap a ws∧ws.length≤c:=by
 obtain ⟨a,c,L,I,O,J,M,A⟩:=h;simp only [List.cons.injEq,and_true] at I;refine ⟨a,c,I,?_,M⟩;have e:L.flatten=ws.map str:=by
  have key:∀ (L:List (List ab)) (ws:(List<|List UInt8)),L.length=ws.length→(∀ (i:Nat) l x,L[i]? =some l→ws[i]? =some x→l= [str x])→L.flatten=ws.map str:=by
   intro L
   induction L with
   | nil=>intro ws h _; rw [im h.symm]; rfl
   | cons a L ih=>
     intro ws h A;cases ws with
     | nil=>simp at h
     | cons w ws=>
       rw [lg,cx,A 0 a w rfl rfl,ih ws (by simpa using h) (fun i l x C E=>A (i+1) l x (by simpa using C)<|by simpa using E)]; rfl
  exact key L ws O fun i l x C E=>(A i l x C E).2
 unfold dH;rw [← e]; exact J
end Go.Hb
end
section
namespace Go.Hb
open Go.Proofs
def dS:List (List TD):= [
 [.no,.no,.no,.no,.no,.no,.no,.st [0,1,2,3],.st [0,1,2,3],.str,.str,.str,.no,.st [0,1],.st [0,1],.no],
 [.no,.no,.st [0],.st [0],.no,.no,.cj 33 3,.no,.no,.no,.no,.no,.no,.no,.no,.cj 9 1],
 [.st [0,1,2],.st [0,1,2],.no,.no,.no,.no,.no,.no,.no,.no,.no,.st [0,1,2],.st [0,1,2],.no,.no,.no],
 [.no,.no,.st [0,1,2,3,4],.st [0,1,2,3,4],.cj 131 2,.cj 151 2,.no,.st [0,1,2,3],.st [0,1,2,3],.no,.no,.st [0,7],.st [0,7],.no,.cj 1 1,.st [0,1,2]],
 [.st [0,1,2],.no,.no,.cj 5 1,.st [0,1],.st [0,1],.no,.no,.no,.no,.no,.no,.no,.no,.no,.cj 83 2],
 [.no,.no,.st [0,1],.st [0,1],.no,.no,.no,.no,.no,.no,.no,.st [0,1,2],.no,.no,.st [0],.st [0]],
 [.no,.no,.no,.no,.no,.cj 171 1,.cj 169 5,.cj 175 7,.st [0,1,2,3,8,9,10,11,12],.st [0,1,2,3,8,9,10,11,12],.no,.no,.no,.cj 237 2,.st [0,1,2,15],.st [0,1,2,15]],
 [.no,.no,.no,.st [0,1,6],.st [0,1,6],.no,.no,.no,.no,.no,.no,.no,.no,.st [0,1],.st [0,1],.no],
 [.no,.no,.st [0,1],.st [0,1],.no,.no,.no,.no,.no,.no,.no,.no,.no,.no,.no,.no],
 [.no,.no,.no,.no,.no,.cj 200 2,.st [0,1],.st [0,1],.no,.no,.no,.no,.no,.no,.no,.no],
 [.no,.st [0,1,2,3,4],.st [0,1,2,3,4],.no,.st [0,13],.st [0,13],.no,.no,.st [0,1,2,3,4],.st [0,1,2,3,4],.no,.cj 99 1,.no,.no,.st [0,1,2,3,4,5,6],.st [0,1,2,3,4,5,6]],
 [.no,.st [0,1,2,3,4,5],.st [0,1,2,3,4,5],.st [0],.st [0],.no,.cj 3 1,.st [0,1],.st [0,1],.cj 184 2,.no,.no,.no,.no,.no,.no],
 [.no,.no,.no,.no,.no,.no,.no,.st [0,1],.st [0,1],.no,.no,.no,.no,.no,.no,.no],
 [.no,.no,.no,.no,.no,.no,.no,.no,.no,.no,.no,.no,.st [0,1,2,3,4,5,6],.st [0,1,2,3,4,5,6],.no,.no],
 [.no,.no,.no,.st [0,1],.st [0,1],.no,.no,.no,.no,.no,.st [0,1],.st [0,1],.st [0,1],.st [0,1],.no,.no],
 [.no,.no,.no,.no,.no,.no,.no,.no,.no,.no,.no,.no,.no,.no,.no,.no],
 [.no,.no,.no,.no,.no,.no,.no,.no,.no,.no,.st [0,1,2],.st [0,1,2],.no,.no,.no,.no],
 [.no,.no,.no,.st [0,1,2],.st [0,1,2],.no,.no,.no,.no,.no,.no,.no,.no,.no,.no,.no],
 [.no,.no,.no,.no,.cj 99 1,.no,.no,.no,.st [0,1,2,3,4,5],.st [0,1,2,3,4,5],.no,.no,.no,.st [0,1,2,3,4],.st [0,1,2,3,4],.no],
 [.no,.no,.no,.no,.no,.no,.no,.no,.no,.no,.no,.no,.no,.no,.no,.no],
 [.cj 318 1,.no,.st [0,1,2,3,4,5,6],.st [0,1,2,3,4,5,6],.no,.st [0],.st [0],.no,.no,.no,.no,.no,.no,.cj 26 1,.no,.no],
 [.no,.no,.no,.no,.no,.no,.no,.no,.no,.no,.no,.no,.no,.no,.no,.no],
 [.no,.no,.no,.no,.no,.no,.no,.no,.no,.no,.no,.no,.no,.no,.no,.no],
 [.no,.no,.st [0,1,2,3,4,5,6],.st [0,1,2,3,4,5,6],.no,.cj 377 2,.st [0,1,2],.st [0,1,2],.st [0,1],.st [0,1],.st [0,1],.st [0,1],.no,.no,.no,.no],
 [.no,.no,.no,.no,.no,.no,.no,.no,.cj 417 4,.st [0],.st [0],.no,.no,.no,.no,.no],
 [.no,.no,.no,.no,.st [0,1,2,3,4],.st [0,1,2,3,4],.no,.no,.st [0,1],.st [0,1],.no,.cj 180 1,.no,.no,.no,.no],
 [.no,.no,.no,.no,.no,.no,.no,.no,.no,.no,.no,.no,.no,.no,.no,.no],
 [.st [0],.st [0],.no,.no,.no,.no,.no,.no,.no,.no,.no,.no,.no,.no,.no,.no],
 [.no,.no,.no,.no,.no,.no,.no,.no,.no,.no,.no,.no,.cj 433 1,.cj 465 2,.st [0,1,2],.st [0,1,2]],
 [.st [0,1],.st [0,1],.no,.no,.no,.no,.no,.no,.no,.no,.no,.no,.no,.no,.no,.st [0,1]],
 [.st [0,1],.no,.no,.st [0,1,2,3],.st [0,1,2,3],.no,.no,.no,.no,.no,.no,.no,.no,.st [0,1,2,3,4,5,6,7,8,9,10],.st [0,1,2,3,4,5,6,7,8,9,10],.no],
 [.no,.st [0,1],.st [0,1],.st [0],.st [0],.no,.no,.st [0,1,2,3,4],.st [0,1,2,3,4],.cj 508 4,.no,.st [0,1,2,3],.st [0,1,2,3],.no,.no]]
theorem eh:fu ao 0 dS=true :=ah
section
variable {N:Fm} {Q:aE→(Nat→ab)→ae→Prop} {w:ae} {σ σ':Nat→ab} {p':Pt} {st st':List Kn} {c':Option Prop}
theorem iE {x:bd} {A:bd} (n:Nat) (h:ef dS N n (.c x) [] σ none= .at (.c A) st' σ' c') (k:aJ ao N A (cS ao N st' Q) σ' w) (C:optG c':=by first | exact trivial | (simp only [optG,andG]; omega)):aJ ao N x Q σ w:=(eS eh n _ _ _ _ h C k).2
theorem bc {x:bd} {C:Array an} {A:List an} (n:Nat) (h:ef dS N n (.c x) [] σ none= .at (.l C A) st' σ' c') (k:bf ao N C (cS ao N st' Q) A σ' w) (E:optG c':=by first | exact trivial | (simp only [optG,andG]; omega)):aJ ao N x Q σ w:=(eS eh n _ _ _ _ h E k).2
theorem sW {x:bd} {A:aE} (n:Nat) (h:ef dS N n (.c x) [] σ none= .at (.x A) [] σ' c') (k:Q A σ' w) (C:optG c':=by first | exact trivial | (simp only [optG,andG]; omega)):aJ ao N x Q σ w:=(eS eh n _ _ _ _ h C k).2
theorem eD {x:bd} {A:bd} (n:Nat) (h:ef dS N n (.c x) st σ none= .at (.c A) st' σ' c') (k:aJ ao N A (cS ao N st' Q) σ' w) (C:optG c':=by first | exact trivial | (simp only [optG,andG]; omega)):aJ ao N x (cS ao N st Q) σ w:=(eS eh n _ _ _ _ h C k).2
theorem bE {x:bd} {C:Array an} {A:List an} (n:Nat) (h:ef dS N n (.c x) st σ none= .at (.l C A) st' σ' c') (k:bf ao N C (cS ao N st' Q) A σ' w) (E:optG c':=by first | exact trivial | (simp only [optG,andG]; omega)):aJ ao N x (cS ao N st Q) σ w:=(eS eh n _ _ _ _ h E k).2
theorem bO {x:bd} {A:aE} (n:Nat) (h:ef dS N n (.c x) st σ none= .at (.x A) [] σ' c') (k:Q A σ' w) (C:optG c':=by first | exact trivial | (simp only [optG,andG]; omega)):aJ ao N x (cS ao N st Q) σ w:=(eS eh n _ _ _ _ h C k).2
theorem aY {ops:Array an} {l:List an} {A:bd} (n:Nat) (h:ef dS N n (.l ops l) st σ none= .at (.c A) st' σ' c') (k:aJ ao N A (cS ao N st' Q) σ' w) (C:optG c':=by first | exact trivial | (simp only [optG,andG]; omega)):bf ao N ops (cS ao N st Q) l σ w:=(eS eh n _ _ _ _ h C k).2
theorem az {ops:Array an} {l:List an} {C:Array an} {A:List an} (n:Nat) (h:ef dS N n (.l ops l) st σ none= .at (.l C A) st' σ' c') (k:bf ao N C (cS ao N st' Q) A σ' w) (E:optG c':=by first | exact trivial | (simp only [optG,andG]; omega)):bf ao N ops (cS ao N st Q) l σ w:=(eS eh n _ _ _ _ h E k).2
theorem bg {ops:Array an} {l:List an} {A:aE} (n:Nat) (h:ef dS N n (.l ops l) st σ none= .at (.x A) [] σ' c') (k:Q A σ' w) (C:optG c':=by first | exact trivial | (simp only [optG,andG]; omega)):bf ao N ops (cS ao N st Q) l σ w:=(eS eh n _ _ _ _ h C k).2
theorem pG {e:aE} {A:bd} (n:Nat) (h:ef dS N n (.x e) st σ none= .at (.c A) st' σ' c') (k:aJ ao N A (cS ao N st' Q) σ' w) (C:optG c':=by first | exact trivial | (simp only [optG,andG]; omega)):cS ao N st Q e σ w:=(eS eh n _ _ _ _ h C k).2
theorem lF {e:aE} {C:Array an} {A:List an} (n:Nat) (h:ef dS N n (.x e) st σ none= .at (.l C A) st' σ' c') (k:bf ao N C (cS ao N st' Q) A σ' w) (E:optG c':=by first | exact trivial | (simp only [optG,andG]; omega)):cS ao N st Q e σ w:=(eS eh n _ _ _ _ h E k).2
theorem gi {e:aE} {A:aE} (n:Nat) (h:ef dS N n (.x e) st σ none= .at (.x A) [] σ' c') (k:Q A σ' w) (C:optG c':=by first | exact trivial | (simp only [optG,andG]; omega)):cS ao N st Q e σ w:=(eS eh n _ _ _ _ h C k).2
variable {ops:Array an} {S:ae→Prop} {r fuel fuel':Nat} {listed listed':Array Bool}
theorem pF (is:List Nat) (h:ib dS N true ops is fuel listed σ none= .at fuel' listed' σ' c') (A:S w) (k:bY ao N ops Q S fuel' listed' σ' w) (C:optG c':=by first | exact trivial | (simp only [optG,andG]; omega)) (E:gN (da N.F ops) is listed=true :=by kernel_rfl):bY ao N ops Q S fuel listed σ w:=zl eh is h A k C E
theorem lE (is:List Nat) (h:ib dS N false ops is fuel listed σ none= .at fuel' listed' σ' c') (A:S w) (k:bq ao N ops Q S r fuel' listed' σ' w) (C:optG c':=by first | exact trivial | (simp only [optG,andG]; omega)) (E:gN (fun l i=>kl N.F ops l r i) is listed=true :=by kernel_rfl):bq ao N ops Q S r fuel listed σ w:=zn eh is h A k C E
theorem na (is:List Nat) (h:ib dS N false ops is fuel listed σ none= .at fuel' listed' σ' c') (A:S w) (k:bq ao N ops Q S r fuel' listed' σ' w) (C:optG c':=by first | exact trivial | (simp only [optG,andG]; omega)) (E:gN (fun l i=>jn N.F ops l r i) is listed=true :=by kernel_rfl):bq ao N ops Q S r fuel listed σ w:=zm eh is h A k C E
end
end Go.Hb
end
namespace Go.Hb
def gS (c:UInt8) (l:List UInt8):Int:=if l.idxOf c < l.length then (l.idxOf c:Int) else -1
def gd (b:UInt8):Bool:=decide (33≤b.toNat∧b.toNat≠127)
def oZ (w:List UInt8):Bool:=w.all gd
def fv (w:List UInt8):Bool:=decide (1≤w.length∧w.length≤64∧oZ w=true)
theorem pE {α:Type} {l:List α} {i:Nat} {d:α} (h:i < l.length):l.getD i d∈l:=by
 rw [iU,cK h]; exact List.getElem_mem h
theorem Ac {α:Type} {l:List α} {x:α} (d:α) (h:x∈l):∃ i,i < l.length∧l.getD i d=x:=by
 obtain ⟨i,hi,rfl⟩:=List.mem_iff_getElem.1 h;exact ⟨i,hi,by rw [iU,cK hi]; rfl⟩
theorem xz {α:Type} {f:α→Bool} {l:List α} {i:Nat} (d:α) (h:i < l.length) (A:f (l.getD i d)=false):l.all f=false :=by
 rw [List.all_eq_false]; exact ⟨_,pE h,by rw [A]; exact cz⟩
theorem xA {α:Type} {f:α→Bool} {l:List α} (d:α) (h:∀ i,i < l.length→f (l.getD i d)=true):l.all f=true :=by
 rw [wi]; intro x A; obtain ⟨i,hi,rfl⟩:=Ac d A; exact h i hi
theorem xX {w:List UInt8} {i:Nat} (h:i < w.length) (A:gd (w.getD i 0)=false):oZ w=false :=xz 0 h A
theorem xY {w:List UInt8} (h:∀ i,i < w.length→gd (w.getD i 0)=true):oZ w=true :=xA 0 h
def ki (b:UInt8):Bool:=decide (b.toNat=92∨b.toNat=47∨b.toNat=35)
def dC (w:List UInt8):List UInt8:=w.flatMap fun b=>if ki b=true then [92,b] else [b]
theorem vo {w:List UInt8} {i:Nat} (h:i < w.length):dC (w.take<|i+1)=dC (w.take i)++(if ki (w.getD i 0)=true then [92,w.getD i 0] else [w.getD i 0]):=by
 rw [qK w i 0 h]; simp [dC]
theorem od (w:List UInt8):(dC w).length≤2 *w.length:=by
 induction w with
 | nil=>simp [dC]
 | cons b w ih=>
   have h:dC (b::w)=(if ki b=true then [92,b] else [b])++dC w:=rfl;rw [h,cn,cr];split <;> simp only [cr,List.length_nil] <;> omega
theorem Bd.new {T e b:Nat} {w:ae} (h:w.heap[b]? =some (.cells [oB none,.slice none 0 0].toArray T (0,0))):Bd T e w b (.slice none 0 0) []:=
 ⟨⟨none,h,.inl rfl⟩,lf _ _ _ _,by simp⟩
theorem Bd.step {T e b:Nat} {w0 w w':ae} {A:ab} {l:List UInt8} (h:Bd T e w b A l) (C:Wk w0 w) (E:Md (BF b A) w w') (hb:w0.heap.size≤b):Wk w0 w':=
 Md.trans' C E fun k J I=>by have :=h.sO I; omega
theorem Bd.uQ {T e b:Nat} {w0 w w':ae} {A:ab} {l:List UInt8} (h:Bd T e w b A l) (C:Wk w0 w) (E:Md (fun k=>A.ownBlock=some k) w w') (hb:w0.heap.size≤b):Wk w0 w':=
 Md.trans' C E fun k J I=>by have :=h.sO (.inr I); omega
end Go.Hb
section
namespace Go.Hb
def j9 (P:aj) (t:ai):Option (Nat×Nat):=
 match P.underlying t with
 | some (.array n e)=>(P.info? e).map fun i=>(n,i.size)
 | _=>none
section
variable {P:aj} {N:Fm} {σ:Nat→ab} {w:ae} {dst:Option Nat} {ty:ai} {pos :String} {af:Array bD} {g:Option (Nat×Bool)} {x y:ax}
theorem zt {t n A b off :Nat} {k:aH} {i:Int} (he:j9 P t=some (n,A)) (C:ev N σ x= .pointer (some ⟨b,off,none⟩)) (E:ev N σ y= .int k i) (h0:0≤i∧i < n):
 (execOp (ev N σ) ⟨dst,.indexAddr t x y,ty,pos,af,g⟩).run P w= .ok (.value<|.pointer<|some ⟨b,off+i.toNat*A,none⟩) w:=by
 unfold j9 at he;cases hd:P.underlying t with
 | none=>rw [hd] at he; cases he
 | some d=>
   rw [hd] at he;cases d <;> first | (cases he; done) | skip
   rename_i m e;cases hi:P.info? e with
   | none=>simp [hi] at he
   | some j=>
     simp only [hi,cM,aQ,oM] at he;obtain ⟨rfl,rfl⟩:=he;simp [execOp,vI,kY,C,E,asIntOf,aC hd,h0.1,h0.2,sizeOf,bU hi,cE]
end
end Go.Hb
end
section
set_option linter.unusedSimpArgs false
namespace Go.Hb
open Classical
structure fV (P:aj) (k:ai) (au:ab→Prop):Prop where
 key:j4 P k au
 stays:∀ w v,au v→(mo v v).run P w= .ok v w
def bP (v:ab):Prop := ∃ s:List UInt8,v=str s
def tf (q:aH) (v:ab):Prop := ∃ a:Int,v= .int q a
theorem sK {d:TypeDesc} {au:ab→Prop} (O:∀ x y,au x→au y→∃ A,ox d x y=some A∧(A=true↔x=y)) {x:ab} (U:au x):∀ (es:List MapEntry) (i:Nat),(∀ e∈es,au e.key)→
 (jP d x es i=some none∧∀ e∈es,e.key≠x)∨∃ j e,jP d x es i=some (some (i+j,e.val))∧es[j]? =some e∧e.key=x
 | [],i,_=> .inl ⟨rfl,fun _ h=>by simp at h⟩
 | e::es,i,h=>by
   obtain ⟨A,E,M⟩:=O x e.key U<|h e<|by simp
   cases A with
   | true =>exact .inr ⟨0,e,by simp [jP,E],rfl,(M.1 rfl).symm⟩
   | false =>
     have aa:e.key≠x:=fun Z=>by cases M.2 Z.symm
     rcases sK O U es (i+1) (fun e he=>h e<|by simp [he]) with ⟨I,J⟩ | ⟨j,C,I,J,V⟩
     · refine .inl ⟨by simp [jP,E,I],fun C L=> ?_⟩;rcases cU.1 L with rfl | L
       · exact aa
       · exact J C L
     · refine .inr ⟨j+1,C,?_,J,V⟩;simp only [jP,E,I]; rw [show i+1 +j=i+(j+1) from by omega]
theorem tk {P:aj} {k:ai} {d:TypeDesc} {au:ab→Prop} (I:P.underlying k=some d) (M:∀ x y,au x→au y→∃ E,ox d x y=some E∧(E=true↔x=y)) (L:∀ em w v,au v→(gC em 10000 k v).run P w= .ok () w):j4 P k au where
 check:=L
 find w x es hx hes:=by
  rcases sK M hx es 0 hes with ⟨A,C⟩ | ⟨j,e,A,C,J⟩
  · exact .inl ⟨by simp [jO,aC I,A],C⟩
  · exact .inr ⟨j,e,by simp [jO,aC I,A],C,J⟩
theorem rJ (a b:ByteArray):(a==b)=decide (a=b):=by
 rw [iQ,decide_eq_true_iff];show ((a.data==b.data)=true)↔_;rw [beq_iff_eq];exact ⟨fun h=>by cases a; cases b; cases h; rfl,fun h=>by rw [h]⟩
theorem pO {P:aj} {k:ai} (A:P.underlying k=some .string):fV P k bP where
 key:=tk A (by
  rintro _ _ ⟨a,rfl⟩ ⟨b,rfl⟩;refine ⟨_,U,?_⟩;rw [rJ,decide_eq_true_iff];constructor
  · intro h; unfold str; rw [h]
  · intro h; unfold str at h; cases h; rfl) (by rintro em w _ ⟨a,rfl⟩; exact rS (n:=9999) A w)
 stays w v hv:=by obtain ⟨a,rfl⟩:=hv; simp [mo,vL,str,rJ]
theorem ye {P:aj} {k:ai} {q r:aH} {em:Bool} {n:Nat} {a:Int} (A:P.underlying k=some (.int q)) (w:ae):(gC em (n+1) k<|.int r a).run P w= .ok () w:=by
 simp only [gC,ek,aC A,dV,fP]
theorem tj {P:aj} {k:ai} {q r:aH} (A:P.underlying k=some (.int q)):fV P k (tf r) where
 key:=tk A (by
  rintro _ _ ⟨a,rfl⟩ ⟨b,rfl⟩;refine ⟨decide (a=b),by simp [ox]; rfl,?_⟩;rw [decide_eq_true_iff];exact ⟨fun h=>by rw [h],fun h=>by cases h; rfl⟩) (by rintro em w _ ⟨a,rfl⟩; exact ye (n:=9999) A w)
 stays w v hv:=by obtain ⟨a,rfl⟩:=hv; simp [mo,vL]
def er (h:Array Obj) (b:Nat) (au:ab→Prop) (f:ab→Option ab):Prop :=
 ∃ kvs,fW h b kvs∧(∀ p∈kvs,au p.1)∧(kvs.map bC).Nodup∧∀ k v,f k=some v↔(k,v)∈kvs
theorem er.md {F:Nat→Prop} {w w':ae} {b:Nat} {au:ab→Prop} {f:ab→Option ab} (h:er w.heap b au f) (hm:Md F w w') (A:¬F b):er w'.heap b au f:=
 let ⟨kvs,h1,h2⟩:=h; ⟨kvs,h1.md hm A,h2⟩
theorem er.lt {h:Array Obj} {b:Nat} {au:ab→Prop} {f:ab→Option ab} (hm:er h b au f):b < h.size:=let ⟨_,h1,_⟩:=hm; h1.lt
theorem er.isMap {h:Array Obj} {b:Nat} {au:ab→Prop} {f:ab→Option ab} (hm:er h b au f):∃ es c,h[b]? =some (.map es c):=let ⟨_,⟨es,c,h1,_⟩,_⟩:=hm; ⟨es,c,h1⟩
theorem er.dm {h:Array Obj} {b:Nat} {au:ab→Prop} {f:ab→Option ab} (hm:er h b au f) {cur:Array ab} {e:ai} {z:Nat×Nat} :h[b]?≠some (.cells cur e z):=by
 obtain ⟨es,c,A⟩:=hm.isMap; rw [A]; intro h; cases h
noncomputable def ee (f:ab→Option ab) (k v:ab):ab→Option ab:=fun q=>if q=k then some v else f q
section
variable {P:aj} {N:Fm} {σ:Nat→ab} {w:ae} {dst:Option Nat} {ty:ai} {pos :String} {af:Array bD} {g:Option (Nat×Bool)} {x y z:ax} {K:(Nat→ab)→ae→Prop}
variable {t k e:ai} {au:ab→Prop} {b:Nat} {f:ab→Option ab} {kx v zv:ab}
theorem tF {ok:Bool} (L:P.underlying t=some (.map k e)) (V:zeroV P e=some zv) (C:fV P k au) (hm:er w.heap b au f) (M:ev N σ x= .map (some b)) (O:ev N σ y=kx) (hi:au kx):
 (execOp (ev N σ) ⟨dst,.lookup t x y ok,ty,pos,af,g⟩).run P w= .ok (.value (if ok then .tuple #[(f kx).getD zv,.bool (f kx).isSome] else (f kx).getD zv)) w:=by
 obtain ⟨kvs,E,I,U,J⟩:=hm;cases hf:f kx with
 | none=>exact tE L V C.key E I M O hi fun v A=>by rw [← J] at A; rw [hf] at A; cases A
 | some v=>exact tD L C.key E I M O hi U<|(J kx v).1 hf
theorem nq (C:P.underlying t=some (.map k e)) (L:zeroV P e=some zv) (A:fV P k au) (hm:er w.heap b au f) (I:ev N σ x= .map (some b)) (J:ev N σ y=kx) (hi:au kx) (E:(f kx).getD zv=v):
 (execOp (ev N σ) ⟨dst,.lookup t x y false,ty,pos,af,g⟩).run P w= .ok (.value v) w:=by
 rw [tF C L A hm I J hi,E]; rfl
theorem zX {ob:Bool} (E:P.underlying t=some (.map k e)) (M:zeroV P e=some zv) (A:fV P k au) (hm:er w.heap b au f) (J:ev N σ x= .map (some b)) (L:ev N σ y=kx) (hi:au kx) (I:(f kx).getD zv=v) (C:(f kx).isSome=ob):
 (execOp (ev N σ) ⟨dst,.lookup t x y true,ty,pos,af,g⟩).run P w= .ok (.value<|.tuple #[v,.bool ob]) w:=by
 rw [tF E M A hm J L hi,I,C]; rfl
end
end Go.Hb
end
section
namespace Go.Hb
open Go.ChangeMaps
open Classical
structure ep (es:List MapEntry) (c:Nat):Prop where
 lt:∀ e∈es,e.born < c
 nd:(es.map (·.born)).Nodup
structure dX (es:List MapEntry) (au:ab→Prop) (f:ab→Option ab):Prop where
 ks:∀ e∈es,au e.key
 nd:(es.map (·.key)).Nodup
 iff :∀ k v,f k=some v↔∃ e∈es,e.key=k∧e.val=v
def aU (h:Array Obj) (b:Nat) (au:ab→Prop) (f:ab→Option ab):Prop := ∃ es c,h[b]? =some (.map es c)∧ep es.toList c∧dX es.toList au f
theorem aU.jv {h:Array Obj} {b:Nat} {au:ab→Prop} {f:ab→Option ab} (hm:aU h b au f):er h b au f:=by
 obtain ⟨es,c,A,_,C⟩:=hm;refine ⟨_,⟨es,c,A,U⟩,fun p hp=> ?_,?_,fun k v=> ?_⟩
 · obtain ⟨e,he,rfl⟩:=dM.1 hp; exact C.ks e he
 · rw [oG]; exact C.nd
 · rw [C.iff,dM];exact ⟨fun ⟨e,he,A,E⟩=>⟨e,he,by rw [A,E]⟩,fun ⟨e,he,A⟩=>⟨e,he,congrArg bC A,congrArg j1 A⟩⟩
theorem aU.md {F:Nat→Prop} {w w':ae} {b:Nat} {au:ab→Prop} {f:ab→Option ab} (h:aU w.heap b au f) (hm:Md F w w') (E:¬F b):aU w'.heap b au f:=by
 obtain ⟨es,c,A,C⟩:=h;exact ⟨es,c,by rw [hm.bW b (bu.1 A).1 E]; exact A,C⟩
theorem aU.wk {w w':ae} {b:Nat} {au:ab→Prop} {f:ab→Option ab} (h:aU w.heap b au f) (hm:Wk w w'):aU w'.heap b au f:=h.md hm id
theorem aU.lt {h:Array Obj} {b:Nat} {au:ab→Prop} {f:ab→Option ab} (hm:aU h b au f):b < h.size:=hm.jv.lt
theorem aU.nil {h:Array Obj} {b:Nat} {au:ab→Prop} {c:Nat} (hm:h[b]? =some (.map #[] c)):aU h b au fun _=>none:=
 ⟨#[],c,hm,⟨fun _ h=>by simp at h,by simp⟩,fun _ h=>by simp at h,by simp,fun k v=>by simp⟩
theorem aU.dm {h:Array Obj} {b:Nat} {au:ab→Prop} {f:ab→Option ab} (hm:aU h b au f) {cur:Array ab} {e:ai} {z:Nat×Nat} :h[b]?≠some (.cells cur e z):=hm.jv.dm
theorem dX.push {es:List MapEntry} {au:ab→Prop} {f:ab→Option ab} {kx v:ab} {c:Nat} (h:dX es au f) (hi:au kx) (I:∀ e∈es,e.key≠kx):dX (es++ [{key:=kx,val:=v,born:=c}]) au (ee f kx v) where
 ks e he:=by
  rcases dL.1 he with he | he
  · exact h.ks e he
  · rw [iq.1 he]; exact hi
 nd:=by
  rw [mD,wL];refine ⟨h.nd,by simp,fun a ha b hb J=> ?_⟩;obtain ⟨e,he,rfl⟩:=dM.1 ha;simp at hb;exact I e he<|by rw [J,hb]
 iff k u:=by
  unfold ee;by_cases E:k=kx
  · subst E;rw [if_pos rfl];constructor
    · intro A; cases A; exact ⟨_,wE _ (iq.2 rfl),rfl,rfl⟩
    · rintro ⟨e,he,A,C⟩;rcases dL.1 he with he | he
      · exact absurd A<|I e he
      · rw [iq.1 he] at C; rw [← C]
  · rw [if_neg E,h.iff];constructor
    · rintro ⟨e,he,A⟩; exact ⟨e,ri _ he,A⟩
    · rintro ⟨e,he,A,C⟩;rcases dL.1 he with he | he
      · exact ⟨e,he,A,C⟩
      · rw [iq.1 he] at A; exact absurd A.symm E
theorem ep.push {es:List MapEntry} {kx v:ab} {c:Nat} (h:ep es c):ep (es++ [{key:=kx,val:=v,born:=c}]) (c+1) where
 lt e he:=by
  rcases dL.1 he with he | he
  · have :=h.lt e he; omega
  · rw [iq.1 he]; exact iv _
 nd:=by
  rw [mD,wL];refine ⟨h.nd,by simp,fun a ha b hb A=> ?_⟩;obtain ⟨e,he,rfl⟩:=dM.1 ha;simp at hb;have :=h.lt e he; omega
theorem nA {α:Type} (l:List α) (g:α→α) (i j:Nat):(l.modify i g)[j]? =if i=j then (l[j]?).map g else l[j]? :=by grind
theorem kp {α:Type} {l:List α} {g:α→α} {i:Nat} {e:α} (hi:l[i]? =some e) (x:α):x∈l.modify i g↔x=g e∨∃ j,j≠i∧l[j]? =some x:=by
 rw [oH];constructor
 · rintro ⟨j,A⟩;rw [nA] at A;by_cases h:i=j
   · subst h; rw [if_pos rfl,hi] at A; exact .inl (di A).symm
   · rw [if_neg h] at A;exact .inr ⟨j,fun e=>h e.symm,A⟩
 · rintro (rfl | ⟨j,A,h⟩)
   · exact ⟨i,by rw [nA,if_pos U,hi]; rfl⟩
   · exact ⟨j,by rw [nA,if_neg (fun e=>A e.symm),h]⟩
theorem tT {α β:Type} {l:List α} (g:α→α) (p:α→β) (hp:∀ x,p (g x)=p x) (i:Nat):(l.modify i g).map p=l.map p:=by
 apply List.ext_getElem?;intro j;rw [eZ,eZ,nA];cases l[j]? with
 | none=>by_cases h:i=j <;> simp [h]
 | some x=>by_cases h:i=j <;> simp [h,hp]
theorem dX.Bi {es:List MapEntry} {au:ab→Prop} {f:ab→Option ab} {v:ab} {i:Nat} {e:MapEntry} (h:dX es au f) (hi:es[i]? =some e):dX (es.modify i fun e=> {e with val:=v}) au (ee f e.key v) where
 ks x E:=by
  rcases (kp hi x).1 E with rfl | ⟨j,_,A⟩
  · exact h.ks e<|gI hi
  · exact h.ks x<|gI A
 nd:=by rw [tT (fun e:MapEntry=> {e with val:=v}) (·.key) (fun _=>rfl)]; exact h.nd
 iff k u:=by
  have U:∀ {j:Nat} {x:MapEntry},es[j]? =some x→x.key=e.key→j=i:=fun {j x} A I=>by
   have O:=(bZ.1 A).1;exact (re (by simpa using O) h.nd).1<|by rw [eZ,eZ,A,hi,cM,cM,I]
  unfold ee;by_cases I:k=e.key
  · subst I;rw [if_pos rfl];constructor
    · intro C; cases C; exact ⟨_,(kp hi _).2 (.inl rfl),rfl,rfl⟩
    · rintro ⟨x,E,C,J⟩;rcases (kp hi x).1 E with rfl | ⟨j,A,M⟩
      · rw [← J]
      · exact absurd (U M C) A
  · rw [if_neg I,h.iff];constructor
    · rintro ⟨x,E,C,J⟩;obtain ⟨j,A⟩:=rf E;have L:j≠i:=fun L=>by subst L; rw [hi] at A; cases A; exact I C.symm
      exact ⟨x,(kp hi x).2 (.inr ⟨j,L,A⟩),C,J⟩
    · rintro ⟨x,E,C,J⟩;rcases (kp hi x).1 E with rfl | ⟨j,_,M⟩
      · exact absurd C.symm I
      · exact ⟨x,gI M,C,J⟩
section
variable {P:aj} {N:Fm} {σ:Nat→ab} {w:ae} {dst:Option Nat} {ty:ai} {pos :String} {af:Array bD} {g:Option (Nat×Bool)} {x y z:ax} {K:(Nat→ab)→ae→Prop}
variable {t k e:ai} {au:ab→Prop} {b:Nat} {f:ab→Option ab} {kx v zv:ab}
end
def dG (h:Array Obj) (r b:Nat) (left :List (ab×ab)):Prop :=
 ∃ (es:Array MapEntry) (c:Nat) (seen:Array Nat) (A:Nat),h[r]? =some (.mapIter (some b) c seen A)∧c≤A∧h[b]? =some (.map es c)∧ep es.toList c∧(leftOf es seen).toList.map (fun e=>(e.key,e.val))=left
def dY (h:Array Obj) (r b:Nat) (left :List (ab×ab)) (A:ab×ab):Prop :=
 ∃ (es:Array MapEntry) (c:Nat) (seen:Array Nat) (e:MapEntry),h[r]? =some (.mapIter (some b) c (seen.push e.born) c)∧h[b]? =some (.map es c)∧ep es.toList c∧(leftOf es<|seen.push e.born).toList.map (fun e=>(e.key,e.val))=left∧e∈es.toList∧(e.key,e.val)=A
theorem dY.kq {h:Array Obj} {r b:Nat} {left :List (ab×ab)} {A:ab×ab} (hm:dY h r b left A):dG h r b left :=by grind [dY,dG]
theorem dG.md {F:Nat→Prop} {w w':ae} {r b:Nat} {left :List (ab×ab)} (h:dG w.heap r b left) (hm:Md F w w') (hr:¬F r) (hb:¬F b):dG w'.heap r b left :=by
 obtain ⟨es,c,seen,E,A,I,C,J⟩:=h;exact ⟨es,c,seen,E,by rw [hm.bW r (bu.1 A).1 hr]; exact A,I,by rw [hm.bW b (bu.1 C).1 hb]; exact C,J⟩
theorem dY.md {F:Nat→Prop} {w w':ae} {r b:Nat} {left :List (ab×ab)} {E:ab×ab} (h:dY w.heap r b left E) (hm:Md F w w') (hr:¬F r) (hb:¬F b):dY w'.heap r b left E:=by
 obtain ⟨es,c,seen,e,A,C,I⟩:=h;exact ⟨es,c,seen,e,by rw [hm.bW r (bu.1 A).1 hr]; exact A,by rw [hm.bW b (bu.1 C).1 hb]; exact C,I⟩
section
variable {P:aj} {N:Fm} {σ:Nat→ab} {w:ae} {dst:Option Nat} {ty:ai} {pos :String} {af:Array bD} {g:Option (Nat×Bool)} {x y z:ax} {K:(Nat→ab)→ae→Prop}
variable {t k e:ai} {au:ab→Prop} {b:Nat} {f:ab→Option ab} {kx v zv:ab}
theorem nP (M:P.underlying t=some (.map k e)) (hm:aU w.heap b au f) (O:ev N σ x= .map (some b))
 (U:∀ r w' left,r=w.heap.size→Nw w w'→dG w'.heap r b left→(∀ p∈left,au p.1)→(left.map bC).Nodup→(∀ k v,f k=some v↔(k,v)∈left)→K (bR σ dst<|.pointer<|some ⟨r,0,none⟩) w'):
 aT P N ⟨dst,.range t x,ty,pos,af,g⟩ σ w K:=by
 obtain ⟨es,c,hr,J,E⟩:=hm;have L:=(bu.1 hr).1;refine iN (v:=fun r=> .pointer<|some ⟨r,0,none⟩) (ob:= .mapIter (some b) c #[] c) ?_ (fun r w' A C I=>U r w' (es.toList.map fun e=>(e.key,e.val)) A C ⟨es,c,#[],c,I,aI _,by rw [C.md.bW b L id]; exact hr,J,by unfold leftOf; simp only [kT]; rw [wv.2 (fun x _=>by simp)]⟩ ?_ ?_ ?_)
 · simp [execOp,O,Instr.range,aC M,run_getObj_map hr]
 · intro p hp; obtain ⟨e,he,rfl⟩:=dM.1 hp; exact E.ks e he
 · rw [oG]; exact E.nd
 · intro k v;rw [E.iff,dM];exact ⟨fun ⟨e,he,A,C⟩=>⟨e,he,by rw [A,C]⟩,fun ⟨e,he,A⟩=>⟨e,he,congrArg bC A,congrArg j1 A⟩⟩
theorem zT {es:Array MapEntry} {seen:Array Nat} {e:MapEntry} (hn:(es.toList.map (·.born)).Nodup) (he:e∈(leftOf es seen).toList):(leftOf es seen).toList.Perm (e::(leftOf es<|seen.push e.born).toList):=by
 have C:(leftOf es<|seen.push e.born).toList=(leftOf es seen).toList.filter fun x=>x.born !=e.born:=by
  unfold leftOf;simp only [kT,List.filter_filter];congr 1;funext x;have I:(seen.push e.born).contains x.born=(seen.contains x.born || x.born==e.born):=by
   rw [iQ]; simp [Array.mem_push]
  rw [I,Bool.not_or,Bool.and_comm]; rfl
 have A:((leftOf es seen).toList.map (·.born)).Nodup:=by
  unfold leftOf;rw [kT];exact (List.filter_sublist.map _).nodup hn
 rw [C];generalize (leftOf es seen).toList=l at he A;clear C
 induction l with
 | nil=>cases he
 | cons a l ih=>
   rw [cx,jZ] at A;by_cases ha:a=e
   · subst ha;have E:(a::l).filter (fun x=>x.born !=a.born)=l:=by
      rw [mB,if_neg (by simp)];exact wv.2 fun x L=>by
       have :x.born≠a.born:=fun h=>A.1<|h ▸ jY L;simpa using this
     rw [E]
   · have iF:e∈l:=by
      rcases cU.1 he with h | h
      · exact absurd h.symm ha
      · exact h
     have J:a.born≠e.born:=fun h=>A.1<|h ▸ jY iF;rw [mB,if_pos (by simpa using J)];exact ((ih iF A.2).cons a).trans<|List.Perm.swap e a _
theorem Aq {r:Nat} {left :List (ab×ab)} (hm:dG w.heap r b left) (M:ev N σ x= .pointer (some ⟨r,0,none⟩))
 (h0:left = []→K (bR σ dst<|.tuple #[.bool false]) w)
 (Z:∀ A left' w',left.Perm (A::left')→Md (fun j=>j=r) w w'→dY w'.heap r b left' A→K (bR σ dst<|.tuple #[.bool true,A.1,A.2]) w'):
 aT P N ⟨dst,.next x false,ty,pos,af,g⟩ σ w K:=by
 obtain ⟨es,c,seen,V,hr,ac,hb,C,rfl⟩:=hm;rcases run_next_at (P:=P) w ty r b c V seen es c hr hb C.lt ac with ⟨aa,I⟩ | ⟨e,he,O,J,I⟩
 · refine eH (v:= .tuple #[.bool false]) ?_<|h0<|by rw [Array.eq_empty_of_size_eq_zero aa]; rfl
   simp [execOp,M,I]
 · have E:O.heap=w.heap:=by rcases J with rfl | rfl <;> rfl
   have L:Md (fun j=>j=r) w (setBlock O r<|.mapIter (some b) c (seen.push e.born) c):=by
    refine ⟨?_,?_,?_,fun j _ ad=> ?_⟩
    · rcases J with rfl | rfl <;> rfl
    · rcases J with rfl | rfl <;> rfl
    · simp [setBlock,E]
    · simp only [setBlock,E]; rw [ig (fun e=>ad e.symm)]
   have ae:r≠b:=fun h=>by subst h; rw [hr] at hb; cases hb
   refine eH (v:= .tuple #[.bool true,e.key,e.val]) ?_ (Z (e.key,e.val) _ _ (by have :=(zT C.nd he).map (fun e=>(e.key,e.val)); exact this) L ⟨es,c,seen,e,?_,?_,C,U,?_,U⟩)
   · simp [execOp,M,I]
   · simp only [setBlock,E]; rw [iO (bu.1 hr).1]
   · rw [L.bW b (bu.1 hb).1 (fun h=>ae h.symm)]; exact hb
   · unfold leftOf at he;rw [kT] at he;exact (List.mem_filter.1 he).1
def tX (b:Bool) (A:ab×ab):ab:=match b with | true => .tuple #[.bool true,A.1,A.2] | false => .tuple #[.bool false]
theorem nF {A:Bool} {E:ab×ab} (C:ev N σ x=tX A E):(execOp (ev N σ) ⟨dst,.extract x 0,ty,pos,af,g⟩).run P w= .ok (.value<|.bool A) w:=by
 cases A
 · exact xt C U
 · exact xt C U
theorem nE {r:Nat} {left :List (ab×ab)} (hm:dG w.heap r b left) (M:ev N σ x= .pointer (some ⟨r,0,none⟩))
 (h:∀ C A left' w',(C=false→left = []∧w'=w)→(C=true→left.Perm (A::left')∧Md (fun j=>j=r) w w'∧dY w'.heap r b left' A)→K (bR σ dst<|tX C A) w'):
 aT P N ⟨dst,.next x false,ty,pos,af,g⟩ σ w K:=
 Aq hm M (fun L=>h false (.nilFunc,.nilFunc) [] w (fun _=>⟨L,rfl⟩) fun h=>by cases h) (fun A left' w' E I J=>h true A left' w' (fun h=>by cases h) fun _=>⟨E,I,J⟩)
theorem mX {r:Nat} {left :List (ab×ab)} {A:ab×ab} (hm:dY w.heap r b left A) (L:ev N σ x= .pointer (some ⟨r,0,none⟩)):
 (execOp (ev N σ) ⟨dst,.entry x,ty,pos,af,g⟩).run P w= .ok (.value<|.tuple #[A.1,A.2]) w:=by
 obtain ⟨es,c,seen,e,C,E,I,_,J,rfl⟩:=hm;have :=run_entry_at (P:=P) w r b c seen es c e C E J I.nd;simp [execOp,L,this]
end
end Go.Hb
end
section
namespace Go.Hb
open Go.ChangeMaps
open Classical
noncomputable def gP (f:ab→Option ab) (k:ab):ab→Option ab:=fun q=>if q=k then none else f q
theorem yN {f:ab→Option ab} {k:ab} (h:f k=none):gP f k=f:=by
 funext q; unfold gP;by_cases A:q=k
 · subst A; rw [if_pos rfl,h]
 · rw [if_neg A]
def dO (f:ab→Option ab) (n:Nat):Prop := ∃ l:List ab,l.Nodup∧l.length=n∧∀ k,(∃ v,f k=some v)↔k∈l
theorem dO.uniq {f:ab→Option ab} {n m:Nat} (h:dO f n) (A:dO f m):n=m:=by
 obtain ⟨l,C,rfl,E⟩:=h;obtain ⟨I,g1,rfl,g3⟩:=A;exact ((List.perm_ext_iff_of_nodup C g1).2 fun k=>by rw [← E,← g3]).length_eq
theorem dO.new {f:ab→Option ab} {n:Nat} {k v:ab} (h:dO f n) (I:f k=none):dO (ee f k v) (n+1):=by
 obtain ⟨l,E,rfl,C⟩:=h;have hn:k∉l:=fun hm=>by obtain ⟨u,hu⟩:=(C k).2 hm; rw [I] at hu; cases hu
 refine ⟨k::l,jZ.2 ⟨hn,E⟩,U,fun q=> ?_⟩;unfold ee;by_cases A:q=k
 · subst A; simp
 · rw [if_neg A,C,cU]; simp [A]
theorem dO.cH {f:ab→Option ab} {n:Nat} {k v u:ab} (h:dO f n) (I:f k=some u):dO (ee f k v) n:=by
 obtain ⟨l,E,rfl,A⟩:=h;refine ⟨l,E,U,fun q=> ?_⟩;unfold ee;by_cases C:q=k
 · subst C; rw [if_pos rfl]; exact ⟨fun _=>(A q).1 ⟨u,I⟩,fun _=>⟨v,rfl⟩⟩
 · rw [if_neg C,A]
theorem aU.fY {h:Array Obj} {b:Nat} {au:ab→Prop} {f:ab→Option ab} (hm:aU h b au f):∃ es c,h[b]? =some (.map es c)∧dO f es.size:=by
 obtain ⟨es,c,E,_,A⟩:=hm;refine ⟨es,c,E,es.toList.map (·.key),A.nd,by simp,fun k=> ?_⟩;rw [dM];exact ⟨fun ⟨v,I⟩=>let ⟨e,he,C,_⟩:=(A.iff k v).1 I; ⟨e,he,C⟩,fun ⟨e,he,C⟩=>⟨e.val,(A.iff k _).2 ⟨e,he,C,U⟩⟩⟩
theorem dX.del {es:List MapEntry} {au:ab→Prop} {f:ab→Option ab} {i:Nat} {e:MapEntry} (h:dX es au f) (hi:es[i]? =some e):dX (es.eraseIdx i) au (gP f e.key) where
 ks x E:=h.ks x<|rj E
 nd:=wg (rb _<|wq _ _) h.nd
 iff k u:=by
  have U:∀ {j:Nat} {x:MapEntry},es[j]? =some x→x.key=e.key→j=i:=fun {j x} C I=>by
   have O:=(bZ.1 C).1;exact (re (by simpa using O) h.nd).1<|by rw [eZ,eZ,C,hi,cM,cM,I]
  unfold gP;by_cases I:k=e.key
  · subst I;rw [if_pos rfl];constructor
    · intro A; cases A
    · rintro ⟨x,E,A,J⟩;obtain ⟨j,C,M⟩:=wF.1 E;exact absurd (U M A) C
  · rw [if_neg I,h.iff];constructor
    · rintro ⟨x,E,A,J⟩;obtain ⟨j,C⟩:=rf E;have L:j≠i:=fun L=>by subst L; rw [hi] at C; cases C; exact I A.symm
      exact ⟨x,wF.2 ⟨j,L,C⟩,A,J⟩
    · rintro ⟨x,E,A,J⟩;exact ⟨x,rj E,A,J⟩
theorem ep.del {es:List MapEntry} {c:Nat} (h:ep es c) (i:Nat):ep (es.eraseIdx i) c:=
 ⟨fun e he=>h.lt e (rj he),wg (rb _<|wq _ _) h.nd⟩
theorem sI {α:Type} {p:α→Bool} :∀ {l:List α} {i:Nat} {x:α},l[i]? =some x→p x=false→(l.eraseIdx i).filter p=l.filter p
 | a::l,0,x,h,hp=>by
   simp only [fB,aQ] at h;subst h;simp [hp]
 | a::l,i+1,x,h,hp=>by
   simp only [eY] at h;simp only [List.eraseIdx_cons_succ,mB,sI h hp]
section
variable {P:aj} {N:Fm} {σ:Nat→ab} {w:ae} {dst:Option Nat} {ty:ai} {pos :String} {af:Array bD} {g:Option (Nat×Bool)} {x y z:ax} {K:(Nat→ab)→ae→Prop}
variable {t k e:ai} {au:ab→Prop} {b:Nat} {f:ab→Option ab} {kx v zv:ab}
theorem B6 (aa:P.underlying t=some (.map k e)) (A:fV P k au) (hm:aU w.heap b au f) (hi:au kx):
 ∃ w',(kX t (.map<|some b) kx v).run P w= .ok () w'∧Md (fun j=>j=b) w w'∧aU w'.heap b au (ee f kx v):=by
 obtain ⟨es,c,hr,C,L⟩:=hm;have hb:=(bu.1 hr).1;rcases A.key.find w kx es.toList hi L.ks with ⟨I,ad⟩ | ⟨j,V,I,E,J⟩
 · refine ⟨{w with heap:=w.heap.setIfInBounds b<|.map (es.push {key:=kx,val:=v,born:=c})<|c+1},by simp [kX,aC aa,run_getObj_map hr,A.key.check _ w kx hi,I,setObj,fO,hr],⟨U,U,by simp,fun i _ O=>by simp only; rw [ig (fun e=>O e.symm)]⟩,es.push {key:=kx,val:=v,born:=c},c+1,by simp only; rw [iO hb],?_,?_⟩
   · rw [oo]; exact C.push
   · rw [oo]; exact L.push hi ad
 · have Z:es[j]? =some V:=by simpa using E
   have ag:(es.modify j fun e=> {e with key:=kx,val:=v})=es.modify j fun e=> {e with val:=v} :=by
    apply oe;intro i;rw [mh,mh];by_cases M:j=i
    · subst M; rw [if_pos rfl,if_pos rfl,Z,← J]; rfl
    · rw [if_neg M,if_neg M]
   refine ⟨{w with heap:=w.heap.setIfInBounds b<|.map (es.modify j fun e=> {e with key:=kx,val:=v}) c},?_,⟨U,U,by simp,fun i _ O=>by simp only; rw [ig (fun e=>O e.symm)]⟩,es.modify j fun e=> {e with val:=v},c,by simp only; rw [iO hb,ag],⟨fun x ab=> ?_,?_⟩,?_⟩
   · have ae:=A.stays w kx hi;simp [kX,aC aa,run_getObj_map hr,A.key.check _ w kx hi,I,Z,J,ae,setObj,fO,hr]
   · rw [mj] at ab;rcases (kp E x).1 ab with rfl | ⟨i,_,ac⟩
     · exact C.lt V<|gI E
     · exact C.lt x<|gI ac
   · rw [mj,tT (fun e:MapEntry=> {e with val:=v}) (·.born) (fun _=>rfl)]; exact C.nd
   · rw [mj,← J]; exact L.Bi E
theorem qO (L:P.underlying t=some (.map k e)) (A:fV P k au) (hm:aU w.heap b au f) (M:ev N σ x= .map (some b)) (O:ev N σ y=kx) (V:ev N σ z=v) (hi:au kx)
 (Z:∀ w',Md (fun j=>j=b) w w'→aU w'.heap b au (ee f kx v)→K σ w'):aT P N ⟨none,.mapUpdate t x y z,ty,pos,af,g⟩ σ w K:=by
 obtain ⟨w',C,E,I⟩:=B6 (v:=v) L A hm hi;have J:(execOp (ev N σ) ⟨none,.mapUpdate t x y z,ty,pos,af,g⟩).run P w= .ok .skip w':=by
  simp [execOp,M,O,V,C]
 unfold aT iR;rw [cD,J];exact ⟨σ,U,Z w' E I⟩
theorem yL {kt:ai} (ak:P.underlying t=some (.map k e)) (I:fV P k au) (hm:aU w.heap b au f) (hi:au kx) (ax:ev N σ x= .map (some b)) (ay:ev N σ y=kx):
 ∃ w',(execOp (ev N σ) ⟨dst,.call ⟨.builtin .delete,#[x,y],#[t,kt]⟩,ty,pos,af,g⟩).run P w= .ok (.value undef) w'∧Md (fun j=>j=b) w w'∧aU w'.heap b au (gP f kx)∧
   ∀ r left E,E.1=kx→dY w.heap r b left E→dG w'.heap r b left :=by
 have ah:∀ {w':ae},(kV #[t,kt] ty #[.map (some b),kx]).run P w= .ok undef w'→(execOp (ev N σ) ⟨dst,.call ⟨.builtin .delete,#[x,y],#[t,kt]⟩,ty,pos,af,g⟩).run P w= .ok (.value undef) w':=by
  intro w' h;simp [execOp,resolve,invoke,builtin,ax,ay,h]
 obtain ⟨es,c,hr,L,A⟩:=hm;have hb:=(bu.1 hr).1;rcases I.key.find w kx es.toList hi A.ks with ⟨J,av⟩ | ⟨j,am,J,Z,ac⟩
 · have O:f kx=none:=by
    cases O:f kx with
    | none=>rfl
    | some u=>obtain ⟨an,ap,ao,_⟩:=(A.iff kx u).1 O; exact absurd ao<|av an ap
   have aj:w.heap.setIfInBounds b (.map es c)=w.heap:=by
    apply oe;intro i;rw [kR];by_cases ad:b=i
    · subst ad; rw [if_pos rfl,if_pos hb,hr]
    · rw [if_neg ad]
   refine ⟨{w with heap:=w.heap.setIfInBounds b<|.map es c},ah ?_,⟨U,U,by simp,fun i _ aa=>by simp only; rw [ig (fun e=>aa e.symm)]⟩,?_,fun r left E ag M=> ?_⟩
   · simp [kV,aC ak,run_getObj_map hr,I.key.check _ w _ hi,J,setObj,fO,hr];rfl
   · simp only [aj]; rw [yN O]; exact ⟨es,c,hr,L,A⟩
   · simp only [aj]; exact M.kq
 · have aF:=(bZ.1 Z).1;have C:(es.eraseIdxIfInBounds j).toList=es.toList.eraseIdx j:=by simp
   refine ⟨{w with heap:=w.heap.setIfInBounds b<|.map (es.eraseIdxIfInBounds j) c},ah ?_,⟨U,U,by simp,fun i _ aa=>by simp only; rw [ig (fun e=>aa e.symm)]⟩,⟨es.eraseIdxIfInBounds j,c,by simp only; rw [iO hb],by rw [C]; exact L.del j,by rw [C,← ac]; exact A.del Z⟩,fun r left E ag M=> ?_⟩
   · simp [kV,aC ak,run_getObj_map hr,I.key.check _ w _ hi,J,setObj,fO,hr];rfl
   · obtain ⟨aE,aD,seen,ab,m1,al,aG,az,aA,aB⟩:=M;rw [hr] at al; cases al;have aw:r≠b:=fun h=>by subst h; rw [m1] at hr; cases hr
     have iF:ab.key=am.key:=by rw [ac,← ag,← aB]
     obtain ⟨i,V⟩:=rf aA;have aq:i=j:=by
      have ar:=(bZ.1 V).1;exact (re (by simpa using ar) A.nd).1<|by rw [eZ,eZ,V,Z,cM,cM,iF]
     subst aq;refine ⟨es.eraseIdxIfInBounds i,c,seen.push ab.born,c,?_,aI _,?_,by rw [C]; exact L.del i,?_⟩
     · simp only; rw [ig (fun e=>aw e.symm)]; exact m1
     · simp only; rw [iO hb]
     · rw [← az];unfold leftOf;rw [kT,kT,C,sI V (by simp)]
theorem sc {kt:ai} (M:P.underlying t=some (.map k e)) (C:fV P k au) (hm:aU w.heap b au f) (O:ev N σ x= .map (some b)) (U:ev N σ y=kx) (hi:au kx)
 (V:∀ w',Md (fun j=>j=b) w w'→aU w'.heap b au (gP f kx)→(∀ r left A,A.1=kx→dY w.heap r b left A→dG w'.heap r b left)→K (bR σ dst undef) w'):aT P N ⟨dst,.call ⟨.builtin .delete,#[x,y],#[t,kt]⟩,ty,pos,af,g⟩ σ w K:=by
 obtain ⟨w',E,I,J,L⟩:=yL (dst:=dst) (ty:=ty) (pos :=pos) (af:=af) (g:=g) (kt:=kt) M C hm hi O U;exact eH E<|V w' I J L
theorem tG {at_:Array ai} {n:Nat} (C:P.underlying t=some (.map k e)) (ha:at_= #[t]) (E:ev N σ x= .map (some b)) (hm:aU w.heap b au f) (hn:dO f n):
 (execOp (ev N σ) ⟨dst,.call ⟨.builtin .len,#[x],at_⟩,ty,pos,af,g⟩).run P w= .ok (.value<|.int .i64 n) w:=by
 obtain ⟨es,c,hr,A⟩:=hm.fY;have :=tH (dst:=dst) (ty:=ty) (pos :=pos) (af:=af) (g:=g) C ha E hr;rw [hn.uniq A]; exact this
end
end Go.Hb
end
